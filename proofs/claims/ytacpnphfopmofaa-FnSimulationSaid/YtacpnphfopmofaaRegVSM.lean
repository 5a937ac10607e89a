/- Rows of transcripts; a transcript is put into its place (printed by gen_sim3.py). -/
import Derived.Test.YtacpnphfopmofaaSim1SM
import Derived.Test.YtacpnphfopmofaaPow2SM
import Derived.Deep.Cut
import Derived.Test.YtacpnphfopmofaaBmSM
import Derived.Test.YtacpnphfopmofaaPow1SM
import Derived.Test.YtacpnphfopmofaaDrG1SM
import Derived.Deep.RegionLaw
namespace Go.Proofs.Ytacpnphfopmofaa
open Go.RowKit
set_option linter.unusedSimpArgs false
set_option linter.unusedVariables false

def trV (t : TrD) : List Value := [.int .i64 t.c, .int .i64 t.e, .int .i64 t.z]
def OwnT (w : World) (B : Nat) (v : Value) (l : List TrD) : Prop := w.ownsRow B 40 3 v l.length (l.map trV).flatten
theorem trV_len (l : List TrD) : ∀ c ∈ l.map trV, c.length = 3 := by
  intro c hc
  obtain ⟨t, _, rfl⟩ := List.mem_map.1 hc
  rfl
theorem OwnT.nil (w : World) (B : Nat) : OwnT w B (.slice none 0 0) [] := by simpa [OwnT] using World.ownsRow_nil w B 40 3
theorem OwnT.below {w w' : World} {B : Nat} {v : Value} {l : List TrD} (h : OwnT w B v l) (hb : Below w.heap.size w w') : OwnT w' B v l := ownsRow_frame h fun g hg => hb.block g (h.lt g hg).2
theorem OwnT.mono {w : World} {B B' : Nat} {v : Value} {l : List TrD} (h : OwnT w B v l) (hB : B' ≤ B) : OwnT w B' v l := ownsRow_mono h hB
theorem OwnT.get {w : World} {B k : Nat} {v : Value} {l : List TrD} (h : OwnT w B v l) (hk : k < l.length) :
    ∃ b c, v = .slice (some ⟨b, 0, none⟩) l.length c ∧ B ≤ b ∧ b < w.heap.size ∧ w.cell? ⟨b, k * 3, none⟩ = some (.int .i64 l[k].c) ∧ w.cell? ⟨b, k * 3 + 1, none⟩ = some (.int .i64 l[k].e) ∧ w.cell? ⟨b, k * 3 + 2, none⟩ = some (.int .i64 l[k].z) ∧ (∀ j, w.frozen? ⟨b, j, none⟩ = false) := by
  have hO := h
  rcases hO.2 with ⟨rfl, h0⟩ | ⟨b, c, cur, rfl, hb, hg, _⟩
  · omega
  · have hle : (k + 1) * 3 ≤ l.length * 3 := Nat.mul_le_mul_right _ hk
    have cellAt : ∀ j, j < 3 → w.cell? ⟨b, k * 3 + j, none⟩ = (trV l[k])[j]? := fun j hj => by
      have h1 := World.ownsRow.cellAt h (k * 3 + j) (by omega)
      rw [h1, flat_get (trV_len l) hj, List.getElem?_map, List.getElem?_eq_getElem hk]
      rfl
    exact ⟨b, c, rfl, hb, (h.lt b rfl).2, cellAt 0 (by decide), cellAt 1 (by decide), cellAt 2 (by decide), fun j => World.ownsRow.frozenAt h j⟩
theorem OwnT.shape {w : World} {B : Nat} {v : Value} {l : List TrD} (h : OwnT w B v l) : ∃ a c, v = .slice a l.length c := by
  rcases h.2 with ⟨rfl, h0⟩ | ⟨b, c, cur, rfl, _⟩
  · exact ⟨none, 0, by rw [h0]⟩
  · exact ⟨_, _, rfl⟩
theorem OwnT.set {w : World} {B b c n k : Nat} {l : List TrD} (h : OwnT w B (.slice (some ⟨b, 0, none⟩) n c) l) (hn : l.length = n) (hk : k < l.length) (t : TrD) :
    OwnT (((w.setCell ⟨b, k * 3, none⟩ (.int .i64 t.c)).setCell ⟨b, k * 3 + 1, none⟩ (.int .i64 t.e)).setCell ⟨b, k * 3 + 2, none⟩ (.int .i64 t.z)) B (.slice (some ⟨b, 0, none⟩) n c) (l.set k t) := by
  subst hn
  have h1 := (h.stored (k * 3) (.int .i64 t.c)).1
  have h2 := (h1.stored (k * 3 + 1) (.int .i64 t.e)).1
  have h3 := (h2.stored (k * 3 + 2) (.int .i64 t.z)).1
  unfold OwnT
  rw [List.length_set]
  have e : ((l.set k t).map trV).flatten = ((((l.map trV).flatten.set (k * 3) (.int .i64 t.c)).set (k * 3 + 1) (.int .i64 t.e)).set (k * 3 + 2) (.int .i64 t.z)) := by
    have hk' : k < (l.map trV).length := by simpa using hk
    have s0 := flat_set (x := .int .i64 t.c) (trV_len l) hk' (k := 0) (by decide)
    rw [Nat.add_zero] at s0
    have len1 : ∀ (x : List Value), x.length = 3 → ∀ c ∈ (l.map trV).set k x, c.length = 3 := fun x hx c hc => by
      rcases List.mem_or_eq_of_mem_set hc with h | h
      · exact trV_len l c h
      · rw [h]; exact hx
    have hg : (l.map trV)[k] = trV l[k] := by simp
    rw [s0, flat_set (x := .int .i64 t.e) (len1 _ (by rw [hg]; rfl)) (by simpa using hk) (by decide), flat_set (x := .int .i64 t.z) (fun c hc => by
      rw [List.set_set] at hc
      exact len1 _ (by simp [hg, trV]) c hc) (by simpa using hk) (by decide)]
    congr 1
    simp only [List.set_set, List.getElem_set_self, hg]
    rw [List.map_set]
    rfl
  rw [e]
  exact h3
theorem infoTr : ∃ i, Try.prog.info? 40 = some i ∧ i.zero = some (.agg #[.int .i64 0, .int .i64 0, .int .i64 0]) ∧ i.size = 3 ∧ i.bytes ≤ 1000 := by
  have h : (Try.prog.info? 40).map (fun i => (i.zero, i.size, decide (i.bytes ≤ 1000))) = some (some (.agg #[.int .i64 0, .int .i64 0, .int .i64 0]), 3, true) := by kernel_rfl
  obtain ⟨i, hi, hz⟩ := Option.map_eq_some_iff.1 h
  simp only [Prod.mk.injEq] at hz
  exact ⟨i, hi, hz.1, hz.2.1, of_decide_eq_true hz.2.2⟩
theorem run_append_T {w : World} {B b : Nat} {v : Value} {l : List TrD} {t : TrD} (hown : OwnT w B v l) (hx : BoxN w b 40 [.int .i64 t.c, .int .i64 t.e, .int .i64 t.z]) (hlen : l.length ≤ 1000000) (hB : B ≤ w.heap.size) (c : Nat) (ty : TypeId) :
    ∃ v' w', (Builtin.append_ #[27, 27] ty #[v, .slice (some ⟨b, 0, none⟩) 1 c]).run Try.prog w = .ok v' w' ∧ OwnT w' B v' (l ++ [t]) ∧ w.grownBy w' v.ownBlock ∧ (v'.ownBlock = v.ownBlock ∨ v'.ownBlock = some w.heap.size) := by
  obtain ⟨i, hi, hz, hsz, hby⟩ := infoTr
  have hnews : ∀ j u, (trV t)[j]? = some u → w.cell? ((⟨b, 0, none⟩ : Addr).add j) = some u := fun j u hu => by
    rw [Addr.add_lit, Nat.zero_add]
    have hj : j < 3 := by have := (List.getElem?_eq_some_iff.1 hu).1; simpa [trV] using this
    rcases (by omega : j = 0 ∨ j = 1 ∨ j = 2) with rfl | rfl | rfl <;> (simp [trV] at hu; subst hu; exact hx.cell rfl)
  have hone : ∀ u ∈ trV t, u.oneCell' = true := fun u hu => by
    simp only [trV, List.mem_cons, List.not_mem_nil, or_false] at hu
    rcases hu with rfl | rfl | rfl <;> rfl
  have hbb : (l.length + 1) * i.bytes ≤ 1000000000 * 1000 := Nat.mul_le_mul (by omega) hby
  obtain ⟨v', w', hr, h1, h2, _⟩ := run_append_own (P := Try.prog) w B 27 ty 40 i _ 3 i.bytes Try.underlying27 hi hz hsz rfl rfl (by decide) v l.length (l.map trV).flatten hown ⟨b, 0, none⟩ 1 c (trV t) rfl hnews hone (by unfold maxLen; omega) (by omega) hB
  have h3 : OwnT w' B v' (l ++ [t]) := by simpa [OwnT, List.flatten_append] using h1
  refine ⟨v', w', hr, h3, h2, ?_⟩
  have hfl := flat_len (trV_len l)
  rw [List.length_map] at hfl
  rcases hown.2 with ⟨rfl, hl0⟩ | ⟨g, cap, cur, rfl, hbg, hg, hnc, hcm, hcs, htake⟩
  · have q := run_append_nil (P := Try.prog) w 27 ty 40 i _ Try.underlying27 hi hz ⟨b, 0, none⟩ 1 c (trV t) (by simp [hsz, trV]) hnews (by omega) (by omega) (by omega)
    rw [q] at hr
    injection hr with e1 e2
    subst e1
    exact .inr rfl
  · by_cases hroom : l.length + 1 ≤ cap
    · have q := run_append_room (P := Try.prog) w 27 ty 40 i Try.underlying27 hi g l.length cap cur hg ⟨b, 0, none⟩ 1 c (trV t) (by simp [hsz, trV]) hnews hone hroom (by rw [hsz, hcs]; show l.length * 3 + 3 ≤ cap * 3; omega)
      rw [q] at hr
      injection hr with e1 e2
      subst e1
      exact .inl rfl
    · have holds : ∀ j u, ((l.map trV).flatten)[j]? = some u → w.cell? ((⟨g, 0, none⟩ : Addr).add j) = some u := hown.cells (g := g) rfl
      have q := run_append_grow (P := Try.prog) w 27 ty 40 i _ Try.underlying27 hi hz ⟨g, 0, none⟩ l.length cap (l.map trV).flatten (by rw [hfl, hsz]) holds ⟨b, 0, none⟩ 1 c (trV t) (by simp [hsz, trV]) hnews (by omega) (by omega) (growslice_fits (by omega) (by omega))
      rw [q] at hr
      injection hr with e1 e2
      subst e1
      exact .inr rfl
theorem wpList_append_T {ops : Array Oper} {rest : List Oper} {o : Oper} {ac : Act} {w : World} {Q : Exit → Act → World → Prop} (hgd : o.guard = none) (s y : Operand)
    (ho : o.op = .call { callee := .builtin .append, args := #[s, y], argTypes := #[27, 27] })
    (B : Nat) (v : Value) (l : List TrD) (t : TrD) (b c N : Nat) (hs : ac.eval s = v) (hy : ac.eval y = .slice (some ⟨b, 0, none⟩) 1 c) (hown : OwnT w B v l) (hB : B ≤ w.heap.size)
    (hx : BoxN w b 40 [.int .i64 t.c, .int .i64 t.e, .int .i64 t.z]) (hlen : l.length ≤ 1000000) (hN : l.length + 1 = N)
    (hK : ∀ a' c' w', OwnT w' B (.slice a' N c') (l ++ [t]) → w.grownBy w' v.ownBlock → ((Value.slice a' N c').ownBlock = v.ownBlock ∨ (Value.slice a' N c').ownBlock = some w.heap.size) → wpList Try.prog ops Q rest (ac.put o.dst (.slice a' N c')) w') : wpList Try.prog ops Q (o :: rest) ac w := by
  obtain ⟨v', w', hr, h3, h2, h4⟩ := run_append_T hown hx hlen hB c o.type
  obtain ⟨a', c', e⟩ := h3.shape
  rw [show (l ++ [t]).length = N by simp; exact hN] at e
  subst e
  refine wpList_plain hgd fun K hK' => ?_
  unfold Oper.wp execOp
  simp only [ho, resolve, invoke, builtin, Sem.run_bind, Sem.run_pure, Result.andThen_ok, List.map_toArray, List.map_cons, List.map_nil, hs, hy, hr]
  exact hK' _ _ (hK a' c' w' h3 h2 h4)
theorem BoxN.grown {w w' : World} {b : Nat} {ty : TypeId} {cs : List Value} {row : Option Nat} (h : BoxN w b ty cs) (hg : w.grownBy w' row) (hne : row ≠ some b) : BoxN w' b ty cs := by
  unfold BoxN at *
  rw [hg.block b (Array.getElem?_eq_some_iff.1 h).1 (fun e => hne e.symm)]
  exact h
theorem ins_step {l : List TrD} {x : TrD} {j : Nat} (hj : j < l.length) : (l.take (j + 1) ++ x :: l.drop (j + 1)).set (j + 1) l[j] = l.take j ++ l[j] :: l.drop j := by
  have h1 : (l.take (j + 1)).length = j + 1 := by rw [List.length_take]; omega
  rw [List.set_append_right _ _ (by omega), h1, Nat.sub_self, List.set_cons_zero, List.take_succ_eq_append_getElem hj, List.append_assoc]
  congr 1
  rw [List.singleton_append, List.getElem_cons_drop]
theorem ins_put {l : List TrD} {x t : TrD} {k : Nat} (hk : k ≤ l.length) : (l.take k ++ x :: l.drop k).set k t = l.take k ++ t :: l.drop k := by
  have h1 : (l.take k).length = k := by rw [List.length_take]; omega
  rw [List.set_append_right _ _ (by omega), h1, Nat.sub_self, List.set_cons_zero]
theorem ins_len (l : List TrD) (x : TrD) {k : Nat} (hk : k ≤ l.length) : (l.take k ++ x :: l.drop k).length = l.length + 1 := by simp; omega
theorem ins_at {l : List TrD} {x : TrD} {j : Nat} (hj : j < l.length) (h : j < (l.take (j + 1) ++ x :: l.drop (j + 1)).length) : (l.take (j + 1) ++ x :: l.drop (j + 1))[j] = l[j] := by
  rw [List.getElem_append_left (by rw [List.length_take]; omega), List.getElem_take]
def InsAt (l : List TrD) (t : TrD) (k : Nat) : Prop := k = 0 ∨ ∃ h : k - 1 < l.length, trLt t l[k - 1] = false
set_option maxHeartbeats 1000000 in
theorem spec_xBefore (a b : TrD) (w : World) :
    Calls Try.prog 142 #[.agg #[.int .i64 a.c, .int .i64 a.e, .int .i64 a.z], .agg #[.int .i64 b.c, .int .i64 b.e, .int .i64 b.z]] w fun e w' => e = .returned (.bool (trLt a b)) ∧ Below w.heap.size w w' := by
  obtain ⟨SB, hSB⟩ : ∃ z, z = w.heap.size + 1 := ⟨_, rfl⟩
  obtain ⟨W, hW⟩ : ∃ W, W = (w.alloc (.cells #[.int .i64 a.c, .int .i64 a.e, .int .i64 a.z] 40)).alloc (.cells #[.int .i64 b.c, .int .i64 b.e, .int .i64 b.z] 40) := ⟨_, rfl⟩
  have HB : Hid (Below w.heap.size w W) := by unfold Hid; rw [hW]; (repeat (first | exact Below.refl _ _ | assumption | refine Below.drew ?_ | refine Below.alloc ?_ (by first | (simp; done) | (simp; omega)) _ | refine Below.setCell ?_ (by first | (simp; done) | (simp; omega)) _))
  have HA : Hid (BoxN W w.heap.size 40 [.int .i64 a.c, .int .i64 a.e, .int .i64 a.z]) := by unfold Hid; rw [hW]; exact (BoxN.new w [.int .i64 a.c, .int .i64 a.e, .int .i64 a.z] _).alloc _
  have HBB : Hid (BoxN W SB 40 [.int .i64 b.c, .int .i64 b.e, .int .i64 b.z]) := by
    unfold Hid; rw [hW, hSB]
    have h9 := BoxN.new (w.alloc (.cells #[.int .i64 a.c, .int .i64 a.e, .int .i64 a.z] 40)) [.int .i64 b.c, .int .i64 b.e, .int .i64 b.z] 40
    rw [show (w.alloc (.cells #[.int .i64 a.c, .int .i64 a.e, .int .i64 a.z] 40)).heap.size = w.heap.size + 1 by simp] at h9
    exact h9
  have HR : Hid (trLt a b = if a.c = b.c then (if a.e = b.e then decide (a.z < b.z) else decide (a.e < b.e)) else decide (a.c < b.c)) := by
    unfold Hid
    rw [Bool.eq_iff_iff, trLt_iff]
    split
    · split
      · rw [decide_eq_true_iff]; omega
      · rw [decide_eq_true_iff]; omega
    · rw [decide_eq_true_iff]; omega
  rw [HR.out]
  by_cases h1 : a.c = b.c
  · rw [if_pos h1]
    have t1 : (a.c != b.c) = false := by rw [bne_eq_false_iff_eq]; exact h1
    have t1' : (a.c == b.c) = true := by rw [beq_iff_eq]; exact h1
    by_cases h2 : a.e = b.e
    · rw [if_pos h2]
      have t2 : (a.e != b.e) = false := by rw [bne_eq_false_iff_eq]; exact h2
      have t2' : (a.e == b.e) = true := by rw [beq_iff_eq]; exact h2
      clear h1 h2 HR
      go_enter Try.func142, Try.ntmps142
      go_wp2_with fail
      rw [← hW]
      (try rw [← hSB])
      clear hW hSB
      have x0 := HA.out.cell (i := 0) rfl
      have y0 := HBB.out.cell (i := 0) rfl
      have x1 := HA.out.cell (i := 1) rfl
      have y1 := HBB.out.cell (i := 1) rfl
      have x2 := HA.out.cell (i := 2) rfl
      have y2 := HBB.out.cell (i := 2) rfl
      try (go_wp2_with fail)
      go_ret
      exact ⟨rfl, HB.out⟩
    · rw [if_neg h2]
      have t2 : (a.e != b.e) = true := by rw [bne_iff_ne]; exact h2
      have t2' : (a.e == b.e) = false := by rw [beq_eq_false_iff_ne]; exact h2
      clear h1 HR
      go_enter Try.func142, Try.ntmps142
      go_wp2_with fail
      rw [← hW]
      (try rw [← hSB])
      clear hW hSB
      have x0 := HA.out.cell (i := 0) rfl
      have y0 := HBB.out.cell (i := 0) rfl
      have x1 := HA.out.cell (i := 1) rfl
      have y1 := HBB.out.cell (i := 1) rfl
      have x2 := HA.out.cell (i := 2) rfl
      have y2 := HBB.out.cell (i := 2) rfl
      try (go_wp2_with fail)
      go_ret
      exact ⟨rfl, HB.out⟩
  · rw [if_neg h1]
    have t1 : (a.c != b.c) = true := by rw [bne_iff_ne]; exact h1
    have t1' : (a.c == b.c) = false := by rw [beq_eq_false_iff_ne]; exact h1
    go_enter Try.func142, Try.ntmps142
    go_wp2_with fail
    rw [← hW]
    (try rw [← hSB])
    clear hW hSB
    have x0 := HA.out.cell (i := 0) rfl
    have y0 := HBB.out.cell (i := 0) rfl
    have x1 := HA.out.cell (i := 1) rfl
    have y1 := HBB.out.cell (i := 1) rfl
    have x2 := HA.out.cell (i := 2) rfl
    have y2 := HBB.out.cell (i := 2) rfl
    try (go_wp2_with fail)
    go_ret
    exact ⟨rfl, HB.out⟩
set_option maxRecDepth 100000 in
set_option maxHeartbeats 4000000 in
theorem spec_xPut (v : Value) (l : List TrD) (t : TrD) (B : Nat) (w : World) (hl : OwnT w B v l) (hB : B ≤ w.heap.size) (h7 : l.length ≤ 1000) :
    Calls Try.prog 56 #[v, .agg #[.int .i64 t.c, .int .i64 t.e, .int .i64 t.z]] w fun e w' => (∃ v' k, e = .returned v' ∧ OwnT w' B v' (l.take k ++ t :: l.drop k) ∧ (∀ y ∈ l.drop k, trLt t y = true) ∧ InsAt l t k) ∧ Below B w w' := by
  obtain ⟨a, c, rfl⟩ := hl.shape
  obtain ⟨n, hn⟩ : ∃ z, l.length = z := ⟨_, rfl⟩
  rw [hn] at hl h7 ⊢
  have HN := Lib.hid hn
  have HL := Lib.hid hl
  clear hl hn
  obtain ⟨TB, hTB⟩ : ∃ z, z = w.heap.size := ⟨_, rfl⟩
  obtain ⟨W, hW⟩ : ∃ W, W = w.alloc (.cells #[.int .i64 t.c, .int .i64 t.e, .int .i64 t.z] 40) := ⟨_, rfl⟩
  have hbW : Below w.heap.size w W := by rw [hW]; exact (Below.refl _ _).alloc (Nat.le_refl _) _
  have HTW : Hid (w.heap.size ≤ TB) := Nat.le_of_eq hTB.symm
  have HT : Hid (BoxN W TB 40 [.int .i64 t.c, .int .i64 t.e, .int .i64 t.z]) := by unfold Hid; rw [hW, hTB]; exact BoxN.new w [.int .i64 t.c, .int .i64 t.e, .int .i64 t.z] _
  have HLW := Lib.hid (HL.out.below hbW)
  have HBW : Hid (Below B w W) := hbW.mono hB
  have hsW := hbW.size
  have hTBW : TB < W.heap.size := HT.out.lt
  have hBT : B ≤ TB := by omega
  go_enter Try.func56, Try.ntmps56
  go_upto_region 2 with fail
  rw [← hW, ← hTB]
  clear hW hTB hbW
  have t0 := HT.out.cell (i := 0) rfl
  have t1 := HT.out.cell (i := 1) rfl
  have t2 := HT.out.cell (i := 2) rfl
  have hbN := (Below.refl W.heap.size W).alloc (Nat.le_refl _) (.cells #[.int .i64 t.c, .int .i64 t.e, .int .i64 t.z] 40)
  have HX := Lib.hid (BoxN.new W [.int .i64 t.c, .int .i64 t.e, .int .i64 t.z] 40)
  go_wp2_with (at_builtin; refine wpList_append_T rfl _ _ rfl B (.slice a n c) l t W.heap.size 1 (n + 1) rfl rfl (HLW.out.below hbN) (by simp; omega) HX.out (by rw [HN.out]; omega) (by rw [HN.out]) ?_; intro a1 c1 w1 hT1 hg1 hbl1)
  clear t0 t1 t2
  have hTBn : (Value.slice a n c).ownBlock ≠ some TB := fun e => by have := HL.out.lt TB e; have := HTW.out; omega
  have HT1 : Hid (BoxN w1 TB 40 [.int .i64 t.c, .int .i64 t.e, .int .i64 t.z]) := (HT.out.below hbN).grown hg1 hTBn
  have hb1 : Below B (W.alloc (.cells #[.int .i64 t.c, .int .i64 t.e, .int .i64 t.z] 40)) w1 := (Below.refl B _).grown hg1 (by simp; omega) (fun k hk => (HL.out.lt k hk).1)
  have HB1 : Hid (Below B w w1) := (HBW.out.trans ((Below.refl B W).alloc (by omega) _)).trans hb1
  obtain ⟨lb, _, e, hlb, hlb2, _⟩ := hT1.get (k := 0) (by simp)
  rw [show (l ++ [t]).length = n + 1 by rw [List.length_append, HN.out]; rfl] at e
  cases e
  have hlTB : lb ≠ TB := fun e => by
    rcases hbl1 with h | h
    · exact hTBn (by rw [← h, ← e]; rfl)
    · have h2 : some lb = some (W.alloc (.cells #[.int .i64 t.c, .int .i64 t.e, .int .i64 t.z] 40)).heap.size := h.trans (by simp)
      have h3 := Option.some.inj h2
      simp at h3
      omega
  have HO1 := Lib.hid hT1
  have HAP : Hid (l ++ [t] = l.take n ++ t :: l.drop n) := by unfold Hid; rw [← HN.out]; simp
  rw [HAP.out] at HO1
  clear hT1 hg1 hbl1 hb1 hbN
  go_wp2_with fail
  go_loopg [5] (n + 1) (fun gk kv wr => ∃ (k : Nat) (x : TrD), k + 1 = gk ∧ k ≤ n ∧ kv = .int .i64 (k : Int) ∧ Hid (OwnT wr B (.slice (some ⟨lb, 0, none⟩) (n + 1) c1) (l.take k ++ x :: l.drop k)) ∧ Hid (∀ y ∈ l.drop k, trLt t y = true) ∧ Hid (BoxN wr TB 40 [.int .i64 t.c, .int .i64 t.e, .int .i64 t.z]) ∧ Hid (Below B w wr) ∧ lb < wr.heap.size)
  case atStart => exact ⟨n, t, rfl, Nat.le_refl _, rfl, HO1, fun y hy => by rw [← HN.out] at hy; simp at hy, HT1, HB1, hlb2⟩
  case round =>
    clear HO1 HT1 HB1
    obtain ⟨k, x, rfl, hkn, rfl, HO, HD, HTr, HBr, hlr⟩ := hrel
    have t0 := HTr.out.cell (i := 0) rfl
    have t1 := HTr.out.cell (i := 1) rfl
    have t2 := HTr.out.cell (i := 2) rfl
    have HLEN : Hid ((l.take k ++ x :: l.drop k).length = n + 1) := by unfold Hid; rw [ins_len l x (by rw [HN.out]; exact hkn), HN.out]
    cases k with
    | zero =>
      have bz : decide ((0 : Int) < 0) = false := by decide
      go_upto_region 3 with fail
      refine wp_region_noPanic ?_
      refine wp_region_P (fun w' => w'.cell? ⟨TB, 0, none⟩ = some (.int .i64 t.c) ∧ w'.cell? ⟨TB, 1, none⟩ = some (.int .i64 t.e) ∧ w'.cell? ⟨TB, 2, none⟩ = some (.int .i64 t.z)) 13 [(0, []), (1, [0]), (2, [0]), (3, [0]), (4, [1]), (5, [2]), (6, [0, 3]), (7, [2, 0, 4]), (8, [0, 5]), (9, [5, 0, 6]), (10, [7, 0])] [] (by kernel_rfl) (by kernel_rfl) (by kernel_rfl) rfl (fun _ _ _ _ h => h) (fun w' h => ⟨box_at t0 h, box_at t1 h, box_at t2 h⟩) ?_
      simp only [pickP, pickN, List.getElem?_cons_zero, List.getElem?_cons_succ]
      iterate 3 (refine' chainP_read _ rfl rfl (fun w' hS' => ?_) ?_; rotate_left; · (simp only [lookP, allP, Act.put, List.getElem?_cons_zero, List.getElem?_cons_succ, List.setIfInBounds_toArray, List.set_cons_zero, List.set_cons_succ]; (try dsimp only at hS'); go_simp; (try with_reducible rfl)))
      -- 3: load 40 t3
      refine chainP_skip (d := (some 15)) rfl (fun w' hS' => ?_) ?_
      · simp only [lookP, allP, Act.put, List.getElem?_cons_zero, List.getElem?_cons_succ, List.setIfInBounds_toArray, List.set_cons_zero, List.set_cons_succ]
        kernel_rfl
      -- 4: move t0
      refine chainP_skip (d := (some 16)) rfl (fun w' hS' => ?_) ?_
      · simp only [lookP, allP, Act.put, List.getElem?_cons_zero, List.getElem?_cons_succ, List.setIfInBounds_toArray, List.set_cons_zero, List.set_cons_succ]
        kernel_rfl
      -- 5: move t5
      refine chainP_skip (d := (some 17)) rfl (fun w' hS' => ?_) ?_
      · simp only [lookP, allP, Act.put, List.getElem?_cons_zero, List.getElem?_cons_succ, List.setIfInBounds_toArray, List.set_cons_zero, List.set_cons_succ]
        kernel_rfl
      -- 6: binOp Binsub 3 t17 (const (int i64 1)) 3
      refine chainP_skip (d := (some 18)) rfl (fun w' hS' => ?_) ?_
      · simp only [lookP, allP, Act.put, List.getElem?_cons_zero, List.getElem?_cons_succ, List.setIfInBounds_toArray, List.set_cons_zero, List.set_cons_succ]
        kernel_rfl
      -- 7: indexAddr 27 t16 t18
      refine chainP_skip (d := (some 19)) rfl (fun w' hS' => ?_) ?_
      · simp only [lookP, allP, Act.put, List.getElem?_cons_zero, List.getElem?_cons_succ, List.setIfInBounds_toArray, List.set_cons_zero, List.set_cons_succ]
        kernel_rfl
      -- 8: load 40 t19
      refine chainP_skip (d := (some 20)) rfl (fun w' hS' => ?_) ?_
      · simp only [lookP, allP, Act.put, List.getElem?_cons_zero, List.getElem?_cons_succ, List.setIfInBounds_toArray, List.set_cons_zero, List.set_cons_succ]
        kernel_rfl
      -- 9: call { callee := value (func 142), args := #[t15, t20], argTypes := #[40, 40] }
      refine chainP_skip (d := (some 21)) rfl (fun w' hS' => ?_) ?_
      · simp only [lookP, allP, Act.put, List.getElem?_cons_zero, List.getElem?_cons_succ, List.setIfInBounds_toArray, List.set_cons_zero, List.set_cons_succ]
        kernel_rfl
      -- 10: pick t14 t21 (const (bool false))
      refine' chainP_read (d := (some 22)) _ rfl rfl (fun w' hS' => ?_) ?_; rotate_left
      · simp only [lookP, allP, Act.put, List.getElem?_cons_zero, List.getElem?_cons_succ, List.setIfInBounds_toArray, List.set_cons_zero, List.set_cons_succ]
        (try dsimp only at hS')
        go_simp
        (try with_reducible rfl)
      refine chainP_nil (fun u1 hS' => ?_)
      simp only [allP, Act.put, List.setIfInBounds_toArray, List.set_cons_zero, List.set_cons_succ]
      have hb2 := hS'.1
      clear hS' t0 t1 t2
      have hs2 := hb2.size
      have HO2 := Lib.hid (HO.out.below hb2)
      have HT2 := Lib.hid (HTr.out.below hb2)
      have HB2 := Lib.hid (HBr.out.trans (hb2.mono (by have := HBr.out.size; omega)))
      have t0 := HT2.out.cell (i := 0) rfl
      have t1 := HT2.out.cell (i := 1) rfl
      have t2 := HT2.out.cell (i := 2) rfl
      obtain ⟨_, _, e, _, _, l0, l1, l2, fl⟩ := HO2.out.get (k := 0) (by rw [HLEN.out]; omega)
      rw [HLEN.out] at e
      cases e
      have HO3 := Lib.hid (HO2.out.set HLEN.out (k := 0) (by rw [HLEN.out]; omega) t)
      rw [ins_put (by rw [HN.out]; omega)] at HO3
      go_wp2_with fail
      refine NoPanic.normal ?_
      (try (go_wp2_with fail))
      go_ret
      exact ⟨⟨_, 0, rfl, by simpa using HO3.out, HD.out, .inl rfl⟩, ((HB2.out.setCell (p := ⟨lb, 0 * 3, none⟩) hlb _).setCell (p := ⟨lb, 0 * 3 + 1, none⟩) hlb _).setCell (p := ⟨lb, 0 * 3 + 2, none⟩) hlb _⟩
    | succ j =>
      have hjn : j < n := by omega
      have HJ : Hid (j < l.length) := by unfold Hid; rw [HN.out]; exact hjn
      obtain ⟨_, _, e, _, _, l0, l1, l2, _⟩ := HO.out.get (k := j) (by rw [HLEN.out]; omega)
      rw [HLEN.out] at e
      cases e
      rw [ins_at HJ.out] at l0 l1 l2
      have HY : Hid (∀ q, trLt t (l[j]'HJ.out) = q → q = true → ∀ y ∈ l.drop j, trLt t y = true) := fun q hq hq2 y hy => by
        rw [← List.getElem_cons_drop HJ.out] at hy
        rcases List.mem_cons.1 hy with rfl | hy
        · rw [hq, hq2]
        · exact HD.out y hy
      have HST : Hid (∀ x : TrD, (l.take (j + 1) ++ x :: l.drop (j + 1)).set (j + 1) (l[j]'HJ.out) = l.take j ++ (l[j]'HJ.out) :: l.drop j) := fun x => ins_step HJ.out
      have HEX : Hid (trLt t (l[j]'HJ.out) = false → InsAt l t (j + 1)) := fun h => .inr ⟨HJ.out, h⟩
      obtain ⟨y, hy⟩ : ∃ y, l[j]'HJ.out = y := ⟨_, rfl⟩
      have HJY := Lib.hid hy
      rw [hy] at l0 l1 l2 HY HST HEX
      clear hy
      obtain ⟨q, hq⟩ : ∃ q, trLt t y = q := ⟨_, rfl⟩
      have HQQ := Lib.hid hq
      clear hq
      have ek : ((j + 1 : Nat) : Int) = (j : Int) + 1 := by omega
      have bp : (0 : Int) < (j : Int) + 1 := by omega
      have bp2 : decide ((0 : Int) < (j : Int) + 1) = true := decide_eq_true bp
      have hw1 : IntKind.i64.wrap ((j : Int) + 1 - 1) = (j : Int) := by rw [show (j : Int) + 1 - 1 = j by omega]; exact IntWalk.i64_in _ (by omega)
      have hw2 : IntKind.i64.wrap (j : Int) = (j : Int) := IntWalk.i64_in _ (by omega)
      have bj0 : (0 : Int) ≤ (j : Int) := by omega
      have bj1 : (j : Int) < (n : Int) + 1 := by omega
      have bj2 : (j : Int) + 1 < (n : Int) + 1 := by omega
      have bj3 : (0 : Int) ≤ (j : Int) + 1 := by omega
      rw [ek]
      cases q with
      | false =>
        go_upto_region 3 with fail
        refine wp_region_noPanic ?_
        refine wp_region_P (fun w' => w'.cell? ⟨TB, 0, none⟩ = some (.int .i64 t.c) ∧ w'.cell? ⟨TB, 1, none⟩ = some (.int .i64 t.e) ∧ w'.cell? ⟨TB, 2, none⟩ = some (.int .i64 t.z) ∧ w'.cell? ⟨lb, j * 3, none⟩ = some (.int .i64 y.c) ∧ w'.cell? ⟨lb, j * 3 + 1, none⟩ = some (.int .i64 y.e) ∧ w'.cell? ⟨lb, j * 3 + 2, none⟩ = some (.int .i64 y.z)) 13 [(0, []), (1, [0]), (2, [0]), (3, [0]), (4, [1]), (5, [2]), (6, [0, 3]), (7, [2, 0, 4]), (8, [0, 5]), (9, [5, 0, 6]), (10, [7, 0])] [] (by kernel_rfl) (by kernel_rfl) (by kernel_rfl) rfl (fun _ _ _ _ h => h) (fun w' h => ⟨box_at t0 h, box_at t1 h, box_at t2 h, box_at l0 h, box_at l1 h, box_at l2 h⟩) ?_
        simp only [pickP, pickN, List.getElem?_cons_zero, List.getElem?_cons_succ]
        iterate 3 (refine' chainP_read _ rfl rfl (fun w' hS' => ?_) ?_; rotate_left; · (simp only [lookP, allP, Act.put, List.getElem?_cons_zero, List.getElem?_cons_succ, List.setIfInBounds_toArray, List.set_cons_zero, List.set_cons_succ]; (try dsimp only at hS'); go_simp; (try with_reducible rfl)))
        -- 3: load 40 t3
        refine' chainP_readG (d := (some 15)) _ rfl (fun w' hS' => ?_) ?_; rotate_left
        · simp only [lookP, allP, Act.put, List.getElem?_cons_zero, List.getElem?_cons_succ, List.setIfInBounds_toArray, List.set_cons_zero, List.set_cons_succ]
          refine ⟨by kernel_rfl, ?_⟩
          (try dsimp only at hS')
          go_simp
          (try with_reducible rfl)
        -- 4: move t0
        refine' chainP_readG (d := (some 16)) _ rfl (fun w' hS' => ?_) ?_; rotate_left
        · simp only [lookP, allP, Act.put, List.getElem?_cons_zero, List.getElem?_cons_succ, List.setIfInBounds_toArray, List.set_cons_zero, List.set_cons_succ]
          refine ⟨by kernel_rfl, ?_⟩
          (try dsimp only at hS')
          go_simp
          (try with_reducible rfl)
        -- 5: move t5
        refine' chainP_readG (d := (some 17)) _ rfl (fun w' hS' => ?_) ?_; rotate_left
        · simp only [lookP, allP, Act.put, List.getElem?_cons_zero, List.getElem?_cons_succ, List.setIfInBounds_toArray, List.set_cons_zero, List.set_cons_succ]
          refine ⟨by kernel_rfl, ?_⟩
          (try dsimp only at hS')
          go_simp
          (try with_reducible rfl)
        -- 6: binOp Binsub 3 t17 (const (int i64 1)) 3
        refine' chainP_readG (d := (some 18)) _ rfl (fun w' hS' => ?_) ?_; rotate_left
        · simp only [lookP, allP, Act.put, List.getElem?_cons_zero, List.getElem?_cons_succ, List.setIfInBounds_toArray, List.set_cons_zero, List.set_cons_succ]
          refine ⟨by kernel_rfl, ?_⟩
          (try dsimp only at hS')
          go_simp
          (try with_reducible rfl)
        -- 7: indexAddr 27 t16 t18
        refine' chainP_readG (d := (some 19)) _ rfl (fun w' hS' => ?_) ?_; rotate_left
        · simp only [lookP, allP, Act.put, List.getElem?_cons_zero, List.getElem?_cons_succ, List.setIfInBounds_toArray, List.set_cons_zero, List.set_cons_succ]
          refine ⟨by kernel_rfl, ?_⟩
          (try dsimp only at hS')
          go_simp
          (try with_reducible rfl)
        -- 8: load 40 t19
        refine' chainP_readG (d := (some 20)) _ rfl (fun w' hS' => ?_) ?_; rotate_left
        · simp only [lookP, allP, Act.put, List.getElem?_cons_zero, List.getElem?_cons_succ, List.setIfInBounds_toArray, List.set_cons_zero, List.set_cons_succ]
          refine ⟨by kernel_rfl, ?_⟩
          (try dsimp only at hS')
          go_simp
          (try with_reducible rfl)
        -- 9: call { callee := value (func 142), args := #[t15, t20], argTypes := #[40, 40] }
        refine chainP_callG (d := (some 21)) (.bool false) rfl (fun w' hS' => ?_) ?_
        · simp only [lookP, allP, Act.put, List.getElem?_cons_zero, List.getElem?_cons_succ, List.setIfInBounds_toArray, List.set_cons_zero, List.set_cons_succ]
          refine ⟨by kernel_rfl, ?_⟩
          intro K hK
          go_simp
          go_at_call 142
          refine (spec_xBefore t y _).mono ?_
          rintro e u ⟨rfl, hq⟩
          rw [HQQ.out]
          exact hK.out _ hq
        -- 10: pick t14 t21 (const (bool false))
        refine' chainP_read (d := (some 22)) _ rfl rfl (fun w' hS' => ?_) ?_; rotate_left
        · simp only [lookP, allP, Act.put, List.getElem?_cons_zero, List.getElem?_cons_succ, List.setIfInBounds_toArray, List.set_cons_zero, List.set_cons_succ]
          (try dsimp only at hS')
          go_simp
          (try with_reducible rfl)
        refine chainP_nil (fun u1 hS' => ?_)
        simp only [allP, Act.put, List.setIfInBounds_toArray, List.set_cons_zero, List.set_cons_succ]
        have hb2 := hS'.1
        clear hS' t0 t1 t2 l0 l1 l2
        have hs2 := hb2.size
        have HO2 := Lib.hid (HO.out.below hb2)
        have HT2 := Lib.hid (HTr.out.below hb2)
        have HB2 := Lib.hid (HBr.out.trans (hb2.mono (by have := HBr.out.size; omega)))
        have t0 := HT2.out.cell (i := 0) rfl
        have t1 := HT2.out.cell (i := 1) rfl
        have t2 := HT2.out.cell (i := 2) rfl
        obtain ⟨_, _, e, _, _, l0, l1, l2, fl⟩ := HO2.out.get (k := j + 1) (by rw [HLEN.out]; omega)
        rw [HLEN.out] at e
        cases e
        have HO3 := Lib.hid (HO2.out.set HLEN.out (k := j + 1) (by rw [HLEN.out]; omega) t)
        rw [ins_put (by rw [HN.out]; omega)] at HO3
        go_wp2_with fail
        refine NoPanic.normal ?_
        (try (go_wp2_with fail))
        go_ret
        exact ⟨⟨_, j + 1, rfl, HO3.out, HD.out, HEX.out HQQ.out⟩, ((HB2.out.setCell (p := ⟨lb, (j + 1) * 3, none⟩) hlb _).setCell (p := ⟨lb, (j + 1) * 3 + 1, none⟩) hlb _).setCell (p := ⟨lb, (j + 1) * 3 + 2, none⟩) hlb _⟩
      | true =>
        go_upto_region 3 with fail
        refine wp_region_noPanic ?_
        refine wp_region_P (fun w' => w'.cell? ⟨TB, 0, none⟩ = some (.int .i64 t.c) ∧ w'.cell? ⟨TB, 1, none⟩ = some (.int .i64 t.e) ∧ w'.cell? ⟨TB, 2, none⟩ = some (.int .i64 t.z) ∧ w'.cell? ⟨lb, j * 3, none⟩ = some (.int .i64 y.c) ∧ w'.cell? ⟨lb, j * 3 + 1, none⟩ = some (.int .i64 y.e) ∧ w'.cell? ⟨lb, j * 3 + 2, none⟩ = some (.int .i64 y.z)) 13 [(0, []), (1, [0]), (2, [0]), (3, [0]), (4, [1]), (5, [2]), (6, [0, 3]), (7, [2, 0, 4]), (8, [0, 5]), (9, [5, 0, 6]), (10, [7, 0])] [] (by kernel_rfl) (by kernel_rfl) (by kernel_rfl) rfl (fun _ _ _ _ h => h) (fun w' h => ⟨box_at t0 h, box_at t1 h, box_at t2 h, box_at l0 h, box_at l1 h, box_at l2 h⟩) ?_
        simp only [pickP, pickN, List.getElem?_cons_zero, List.getElem?_cons_succ]
        iterate 3 (refine' chainP_read _ rfl rfl (fun w' hS' => ?_) ?_; rotate_left; · (simp only [lookP, allP, Act.put, List.getElem?_cons_zero, List.getElem?_cons_succ, List.setIfInBounds_toArray, List.set_cons_zero, List.set_cons_succ]; (try dsimp only at hS'); go_simp; (try with_reducible rfl)))
        -- 3: load 40 t3
        refine' chainP_readG (d := (some 15)) _ rfl (fun w' hS' => ?_) ?_; rotate_left
        · simp only [lookP, allP, Act.put, List.getElem?_cons_zero, List.getElem?_cons_succ, List.setIfInBounds_toArray, List.set_cons_zero, List.set_cons_succ]
          refine ⟨by kernel_rfl, ?_⟩
          (try dsimp only at hS')
          go_simp
          (try with_reducible rfl)
        -- 4: move t0
        refine' chainP_readG (d := (some 16)) _ rfl (fun w' hS' => ?_) ?_; rotate_left
        · simp only [lookP, allP, Act.put, List.getElem?_cons_zero, List.getElem?_cons_succ, List.setIfInBounds_toArray, List.set_cons_zero, List.set_cons_succ]
          refine ⟨by kernel_rfl, ?_⟩
          (try dsimp only at hS')
          go_simp
          (try with_reducible rfl)
        -- 5: move t5
        refine' chainP_readG (d := (some 17)) _ rfl (fun w' hS' => ?_) ?_; rotate_left
        · simp only [lookP, allP, Act.put, List.getElem?_cons_zero, List.getElem?_cons_succ, List.setIfInBounds_toArray, List.set_cons_zero, List.set_cons_succ]
          refine ⟨by kernel_rfl, ?_⟩
          (try dsimp only at hS')
          go_simp
          (try with_reducible rfl)
        -- 6: binOp Binsub 3 t17 (const (int i64 1)) 3
        refine' chainP_readG (d := (some 18)) _ rfl (fun w' hS' => ?_) ?_; rotate_left
        · simp only [lookP, allP, Act.put, List.getElem?_cons_zero, List.getElem?_cons_succ, List.setIfInBounds_toArray, List.set_cons_zero, List.set_cons_succ]
          refine ⟨by kernel_rfl, ?_⟩
          (try dsimp only at hS')
          go_simp
          (try with_reducible rfl)
        -- 7: indexAddr 27 t16 t18
        refine' chainP_readG (d := (some 19)) _ rfl (fun w' hS' => ?_) ?_; rotate_left
        · simp only [lookP, allP, Act.put, List.getElem?_cons_zero, List.getElem?_cons_succ, List.setIfInBounds_toArray, List.set_cons_zero, List.set_cons_succ]
          refine ⟨by kernel_rfl, ?_⟩
          (try dsimp only at hS')
          go_simp
          (try with_reducible rfl)
        -- 8: load 40 t19
        refine' chainP_readG (d := (some 20)) _ rfl (fun w' hS' => ?_) ?_; rotate_left
        · simp only [lookP, allP, Act.put, List.getElem?_cons_zero, List.getElem?_cons_succ, List.setIfInBounds_toArray, List.set_cons_zero, List.set_cons_succ]
          refine ⟨by kernel_rfl, ?_⟩
          (try dsimp only at hS')
          go_simp
          (try with_reducible rfl)
        -- 9: call { callee := value (func 142), args := #[t15, t20], argTypes := #[40, 40] }
        refine chainP_callG (d := (some 21)) (.bool true) rfl (fun w' hS' => ?_) ?_
        · simp only [lookP, allP, Act.put, List.getElem?_cons_zero, List.getElem?_cons_succ, List.setIfInBounds_toArray, List.set_cons_zero, List.set_cons_succ]
          refine ⟨by kernel_rfl, ?_⟩
          intro K hK
          go_simp
          go_at_call 142
          refine (spec_xBefore t y _).mono ?_
          rintro e u ⟨rfl, hq⟩
          rw [HQQ.out]
          exact hK.out _ hq
        -- 10: pick t14 t21 (const (bool false))
        refine' chainP_read (d := (some 22)) _ rfl rfl (fun w' hS' => ?_) ?_; rotate_left
        · simp only [lookP, allP, Act.put, List.getElem?_cons_zero, List.getElem?_cons_succ, List.setIfInBounds_toArray, List.set_cons_zero, List.set_cons_succ]
          (try dsimp only at hS')
          go_simp
          (try with_reducible rfl)
        refine chainP_nil (fun u1 hS' => ?_)
        simp only [allP, Act.put, List.setIfInBounds_toArray, List.set_cons_zero, List.set_cons_succ]
        have hb2 := hS'.1
        clear hS' t0 t1 t2 l0 l1 l2
        have hs2 := hb2.size
        have HO2 := Lib.hid (HO.out.below hb2)
        have HT2 := Lib.hid (HTr.out.below hb2)
        have HB2 := Lib.hid (HBr.out.trans (hb2.mono (by have := HBr.out.size; omega)))
        obtain ⟨_, _, e, _, _, l0, l1, l2, fl⟩ := HO2.out.get (k := j) (by rw [HLEN.out]; omega)
        rw [HLEN.out] at e
        cases e
        rw [ins_at HJ.out, HJY.out] at l0 l1 l2
        obtain ⟨_, _, e, _, _, m0, m1, m2, _⟩ := HO2.out.get (k := j + 1) (by rw [HLEN.out]; omega)
        rw [HLEN.out] at e
        cases e
        have HO3 := Lib.hid (HO2.out.set HLEN.out (k := j + 1) (by rw [HLEN.out]; omega) y)
        go_wp2_with fail
        refine NoPanic.normal ?_
        (try (go_wp2_with fail))
        go_roundg (j + 1)
        case measure => omega
        case rel => exact ⟨j, y, rfl, by omega, by go_num, by rw [HST.out] at HO3; exact HO3, HY.out _ HQQ.out rfl, ((HT2.out.other (by omega) _ _).other (by omega) _ _).other (by omega) _ _, ((HB2.out.setCell (p := ⟨lb, (j + 1) * 3, none⟩) hlb _).setCell (p := ⟨lb, (j + 1) * 3 + 1, none⟩) hlb _).setCell (p := ⟨lb, (j + 1) * 3 + 2, none⟩) hlb _, by simp; omega⟩
end Go.Proofs.Ytacpnphfopmofaa
namespace Go.Proofs.Ytacpnphfopmofaa
open Go.RowKit

/-- a function value that decides p on structs of a row, in every world that has grown from w -/
structure DecidesS {δ : Type} (R : RowK δ) (w : World) (g : FuncId) (caps : Array Value) (p : δ → Bool) : Prop where
  enters : ∀ args wr, (callFunc g args).run Try.prog wr = .ok (.enter g args) wr
  runs : ∀ v d wr, (kS R).rd wr v d → Below w.heap.size w wr → Calls Try.prog g (#[v] ++ caps) wr fun e w' => e = .returned (.bool (p d)) ∧ Below wr.heap.size wr w'
theorem DecidesS.below {δ : Type} {R : RowK δ} {w w' : World} {g : FuncId} {caps : Array Value} {p : δ → Bool} (h : DecidesS R w g caps p) (hb : Below w.heap.size w w') : DecidesS R w' g caps p :=
  ⟨h.enters, fun v d wr hx hr => h.runs v d wr hx (hb.trans (hr.mono hb.size))⟩
end Go.Proofs.Ytacpnphfopmofaa
namespace Go.Proofs.Ytacpnphfopmofaa
open Go.RowKit
set_option linter.unusedSimpArgs false
set_option linter.unusedVariables false

theorem AllSmall.append {a b : List Int} (h : AllSmall a) (h2 : AllSmall b) : AllSmall (a ++ b) := fun x hx => by
  rcases List.mem_append.1 hx with h1 | h1
  · exact h x h1
  · exact h2 x h1
end Go.Proofs.Ytacpnphfopmofaa
namespace Go.Proofs.Ytacpnphfopmofaa
open Go.RowKit
set_option linter.unusedSimpArgs false
set_option linter.unusedVariables false

/-- the label of a signature -/
def sgLabel (s : ByteArray) (d : Int) : ByteArray := s ++ dText d
attribute [irreducible] sgLabel
def sHead : ByteArray := ⟨#[104, 101, 97, 100]⟩
def sHeadSp : ByteArray := ⟨#[104, 101, 97, 100, 32]⟩
def hdD (a s r : Int) : Int := hashOf (lab sHead ++ [a, s, r])
def hdLabel (a s r : Int) : ByteArray := sgLabel sHeadSp (hdD a s r)
attribute [irreducible] hdLabel
end Go.Proofs.Ytacpnphfopmofaa
namespace Go.Proofs.Ytacpnphfopmofaa
open Go.RowKit
set_option linter.unusedSimpArgs false
set_option linter.unusedVariables false

/-- a proof in memory -/
def PfR (w : World) (v : Value) (d : ProofD) : Prop := ∃ a b c, v = .agg #[a, b, c] ∧ Ints w a d.c ∧ Ints w b d.h ∧ Ints w c d.r
theorem PfR.below {w w' : World} {v : Value} {d : ProofD} (h : PfR w v d) (hb : Below w.heap.size w w') : PfR w' v d := by
  obtain ⟨a, b, c, e, h1, h2, h3⟩ := h; exact ⟨a, b, c, e, h1.below hb, h2.below hb, h3.below hb⟩
theorem PfR.mk {w : World} {a b c : Value} {d : ProofD} (h1 : Ints w a d.c) (h2 : Ints w b d.h) (h3 : Ints w c d.r) : PfR w (.agg #[a, b, c]) d := ⟨a, b, c, rfl, h1, h2, h3⟩
/-- a proof in new memory and a Bool are returned -/
def RetP (e : Ending) (w : World) (B : Nat) (b : Bool) (d : ProofD) : Prop := ∃ x y z, e = .returned (.tuple #[.agg #[x, y, z], .bool b]) ∧ OwnI w B x d.c ∧ OwnI w B y d.h ∧ OwnI w B z d.r
theorem RetP.mk {w : World} {B : Nat} {x y z : Value} {b : Bool} {d : ProofD} (h1 : OwnI w B x d.c) (h2 : OwnI w B y d.h) (h3 : OwnI w B z d.r) : RetP (.returned (.tuple #[.agg #[x, y, z], .bool b])) w B b d := ⟨x, y, z, rfl, h1, h2, h3⟩
end Go.Proofs.Ytacpnphfopmofaa
namespace Go.Proofs.Ytacpnphfopmofaa
open Go.RowKit
set_option linter.unusedSimpArgs false
set_option linter.unusedVariables false

theorem RdL.below {δ : Type} {K : Kind δ} {w w' : World} {v : Value} {ds : List δ} (h : RdL K w v ds) (hb : Below w.heap.size w w') : RdL K w' v ds := (kList 42 K).rd_below h hb
/-- a list in new memory and a Bool are returned -/
def RetI (e : Ending) (w : World) (B : Nat) (b : Bool) (l : List Int) : Prop := ∃ x, e = .returned (.tuple #[x, .bool b]) ∧ OwnI w B x l
theorem RetI.mk {w : World} {B : Nat} {x : Value} {b : Bool} {l : List Int} (h : OwnI w B x l) : RetI (.returned (.tuple #[x, .bool b])) w B b l := ⟨x, rfl, h⟩
end Go.Proofs.Ytacpnphfopmofaa
namespace Go.Proofs.Ytacpnphfopmofaa
open Go.RowKit
set_option linter.unusedSimpArgs false
set_option linter.unusedVariables false

def lateR (P : Program) (o : Oper) (s : SpecP) (w : World) (a : Act) : Prop := o.guard = none ∧ ∃ v, (∀ w', (execOp a.eval o).run P w' = .ok (.value v) w') ∧ s.holds v w
def obR (P : Program) (ops : Array Oper) (Q : Exit → Act → World → Prop) (G : World → World → Prop) (S1 : World → Prop) (b : Bool) (o : Oper) (s : SpecP) (w : World) (a : Act) : Prop := if b = true then lateR P o s w a else stepQ P ops Q G S1 o s w a
def chainR (P : Program) (ops : Array Oper) (Q : Exit → Act → World → Prop) (G : World → World → Prop) (S : Nat → World → Prop) (M : Nat) (K : Act → World → Prop) (a0 : Act) : List (Option Tmp × SpecP) → List (Oper × List Nat × Bool) → Prop
  | env, [] => ∀ w, S M w → allP w (fun a => K a w) env a0
  | env, (o, deps, b) :: r => ∃ s : SpecP, MonoQ G s ∧ (∀ m w, m < M → S m w → allP w (obR P ops Q G (S (m + 1)) b o s w) (lookP env deps) a0) ∧ chainR P ops Q G S M K a0 ((o.dst, s) :: env) r
section
variable {P : Program} {ops : Array Oper} {Q : Exit → Act → World → Prop} {G : World → World → Prop} {S : Nat → World → Prop} {M : Nat} {K : Act → World → Prop} {a0 : Act}
end
/-! ### worlds that only grow -/
section
variable {P : Program} {ops : Array Oper} {Q : Exit → Act → World → Prop} {W : World} {C : World → Prop} {M : Nat} {K : Act → World → Prop} {a0 : Act}
end
attribute [irreducible] chainR
end Go.Proofs.Ytacpnphfopmofaa
namespace Go.Proofs.Ytacpnphfopmofaa
open Go.RowKit
set_option linter.unusedSimpArgs false
set_option linter.unusedVariables false

/-- a tree of orders: a read; an operation that is one of those that can be next, with what follows it, and the others that can be next -/
inductive RegV where
  | done
  | nil
  | rd (i : Nat) (r : RegV)
  | alt (i : Nat) (s m : RegV)
inductive RegW where
  | done
  | nil
  | rd (o : Oper) (r : RegW)
  | alt (o : Oper) (s m : RegW)
def altsV : RegV → List Nat
  | .alt i _ m => i :: altsV m
  | _ => []
def inV : RegV → Nat → Bool
  | .done, _ => false
  | .nil, _ => false
  | .rd i r, k => i == k || inV r k
  | .alt i s m, k => i == k || (inV s k || inV m k)
def rdsV : RegV → List Nat
  | .done => []
  | .nil => []
  | .rd i r => i :: rdsV r
  | .alt _ s m => rdsV s ++ rdsV m
def lexV (ops : Array Oper) (tl : List Nat) : Bool → Nat → RegV → Array Bool → Bool
  | b, n, .done, listed => !b && (n == 0 && seqI ops tl listed)
  | b, _, .nil, _ => b
  | b, n, .rd i r, listed => !b && (n != 0 && ((Region.ready .any ops listed).contains i && (Region.free .any ops listed i && lexV ops tl false (n - 1) r (listed.setIfInBounds i true))))
  | b, n, .alt i s m, listed => (b || decide (Region.ready .any ops listed = i :: altsV m)) && (n != 0 && (lexV ops tl false (n - 1) s (listed.setIfInBounds i true) && lexV ops tl true n m listed))
def takeV (ops : Array Oper) (F n : Nat) (t : RegV) (tl : List Nat) : Bool :=
  Region.noSelect ops && ((tl.all fun k => !inV t k) && (((List.range ops.size).all fun k => inV t k || (rdsV t).all fun i => regNeeds ops F k i) && lexV ops tl false n t (Array.replicate ops.size false)))
def pickV (l : List Oper) : RegV → RegW
  | .done => .done
  | .nil => .nil
  | .rd i r => match l[i]? with
    | some o => .rd o (pickV l r)
    | none => pickV l r
  | .alt i s m => match l[i]? with
    | some o => .alt o (pickV l s) (pickV l m)
    | none => pickV l m
section
variable {P : Program} {ops : Array Oper} {Q : Exit → Act → World → Prop} {S : World → Prop}
def wpV (P : Program) (ops : Array Oper) (Q : Exit → Act → World → Prop) (S : World → Prop) (K : Act → World → Prop) : RegW → Act → World → Prop
  | .done, a, w => K a w
  | .nil, _, _ => True
  | .rd o r, a, w => if Region.wanted o (yielded ops a.tmps) then ∃ v, (∀ w', S w' → (execOp a.eval o).run P w' = .ok (.value v) w') ∧ wpV P ops Q S K r (a.put o.dst v) w else wpV P ops Q S K r (a.put o.dst undef) w
  | .alt o s m, a, w => wpO P ops Q o (fun a' w' => S w' ∧ wpV P ops Q S K s a' w') a w ∧ wpV P ops Q S K m a w
theorem wpV_done {K : Act → World → Prop} {a : Act} {w : World} (h : K a w) : wpV P ops Q S K .done a w := h
theorem wpV_read {K : Act → World → Prop} {o : Oper} {r : RegW} {a : Act} {w : World} (v : Value) (hw : Region.wanted o (yielded ops a.tmps) = true)
    (hy : ∀ w', S w' → (execOp a.eval o).run P w' = .ok (.value v) w') (h : wpV P ops Q S K r (a.put o.dst v) w) : wpV P ops Q S K (.rd o r) a w := by
  unfold wpV; rw [if_pos hw]; exact ⟨v, hy, h⟩
theorem wpV_do {K : Act → World → Prop} {o : Oper} {s : RegW} {a : Act} {w : World} (hw : Region.wanted o (yielded ops a.tmps) = true)
    (h : ∀ K' : Act → World → Prop, Shut (∀ a w, S w → (S w → wpV P ops Q S K s a w) → K' a w) → o.wp P a w K' Q) : wpV P ops Q S K (.alt o s .nil) a w := ⟨wpO_do hw h, trivial⟩
theorem wpAnyT_of_V {l : List Oper} (hl : ops = l.toArray) {F : Nat} {Hd : Nat → Bool} {K : Act → World → Prop} {tl : List Nat} (hsel : Region.noSelect ops = true) (hT : ∀ t ∈ tl, Hd t = false)
    (hQ : ∀ c a d v w, Q (.panic c) (a.put d v) w → Q (.panic c) a w) :
    ∀ (t : RegV), (∀ k, inV t k = true → Hd k = true) → (∀ i ∈ rdsV t, ∀ u, u < ops.size → Hd u = false → regNeeds ops F u i = true) →
      (∀ (n : Nat) (listed : Array Bool) (a : Act) (w : World), InvT ops Hd listed → lexV ops tl false n t listed = true → S w → wpV P ops Q S K (pickV l t) a w →
        wpAnyT P ops Q S Hd (fun listed' a' w' => seqI ops tl listed' = true ∧ K a' w') n listed a w) ∧
      (∀ (n : Nat) (listed : Array Bool) (a : Act) (w : World), InvT ops Hd listed → lexV ops tl true n t listed = true → wpV P ops Q S K (pickV l t) a w →
        ∀ j ∈ altsV t, j ∈ Region.ready .any ops listed → Hd j = true ∧ n ≠ 0 ∧ wpOp P ops Q j (fun a' w' => S w' ∧ wpAnyT P ops Q S Hd (fun listed' a' w' => seqI ops tl listed' = true ∧ K a' w') (n - 1) (listed.setIfInBounds j true) a' w') a w)
  | .done, _, _ => ⟨fun n listed a w _ hB _ h => by
      simp only [lexV, Bool.not_false, Bool.true_and, Bool.and_eq_true, beq_iff_eq] at hB
      obtain ⟨rfl, hB⟩ := hB
      exact ⟨hB, h⟩, fun n listed a w _ hB => by simp [lexV] at hB⟩
  | .nil, _, _ => ⟨fun n listed a w _ hB => by simp [lexV] at hB, fun n listed a w _ _ _ j hj => by simp [altsV] at hj⟩
  | .rd i r, h1, h2 => by
    have ih := wpAnyT_of_V (F := F) (K := K) hl hsel hT hQ r (fun k hk => h1 k (by simp [inV, hk])) (fun i' hi' => h2 i' (by simp [rdsV, hi']))
    refine ⟨fun n listed a w inv hB hS h => ?_, fun n listed a w _ hB => by simp [lexV] at hB⟩
    simp only [lexV, Bool.not_false, Bool.true_and, Bool.and_eq_true, bne_iff_ne] at hB
    obtain ⟨hn, hr, hf, hB'⟩ := hB
    have hr' : i ∈ Region.ready .any ops listed := by simpa using hr
    obtain ⟨oi, hli, hoi⟩ := ready_get hl hr'
    obtain ⟨n', rfl⟩ : ∃ n', n = n' + 1 := ⟨n - 1, by omega⟩
    rw [Nat.add_sub_cancel] at hB'
    unfold pickV at h
    rw [hli] at h
    have h1' : Hd i = true := h1 i (by simp [inV])
    have h2' : ∀ u, u < ops.size → Hd u = false → regNeeds ops F u i = true := h2 i (by simp [rdsV])
    unfold wpV at h
    by_cases hw : Region.wanted oi (yielded ops a.tmps) = true
    · rw [if_pos hw] at h
      obtain ⟨v, hy, hK⟩ := h
      exact wpAnyT_first hoi (Region.noSelect_spec hsel) (fun c a w => hQ c a _ _ w) h2' h1' (fun listed' a' w' hL => seqI_ready hT hL.1) n' listed a w inv (Region.free_spec hoi hf) hr' (.inl ⟨hw, hy⟩) hS
        (ih.1 n' _ _ w (inv.set hr') hB' hS hK)
    · rw [if_neg hw] at h
      exact wpAnyT_first hoi (Region.noSelect_spec hsel) (fun c a w => hQ c a _ _ w) h2' h1' (fun listed' a' w' hL => seqI_ready hT hL.1) n' listed a w inv (Region.free_spec hoi hf) hr' (.inr ⟨by simpa using hw, rfl⟩) hS
        (ih.1 n' _ _ w (inv.set hr') hB' hS h)
  | .alt i s m, h1, h2 => by
    have ihs := wpAnyT_of_V (F := F) (K := K) hl hsel hT hQ s (fun k hk => h1 k (by simp [inV, hk])) (fun i' hi' => h2 i' (by simp [rdsV, hi']))
    have ihm := wpAnyT_of_V (F := F) (K := K) hl hsel hT hQ m (fun k hk => h1 k (by simp [inV, hk])) (fun i' hi' => h2 i' (by simp [rdsV, hi']))
    have key : ∀ (n : Nat) (listed : Array Bool) (a : Act) (w : World), InvT ops Hd listed → n ≠ 0 → lexV ops tl false (n - 1) s (listed.setIfInBounds i true) = true → lexV ops tl true n m listed = true → wpV P ops Q S K (pickV l (.alt i s m)) a w →
        ∀ j ∈ i :: altsV m, j ∈ Region.ready .any ops listed → Hd j = true ∧ n ≠ 0 ∧ wpOp P ops Q j (fun a' w' => S w' ∧ wpAnyT P ops Q S Hd (fun listed' a' w' => seqI ops tl listed' = true ∧ K a' w') (n - 1) (listed.setIfInBounds j true) a' w') a w := by
      intro n listed a w inv hn hBs hBm h j hj hr
      by_cases hji : j = i
      · subst hji
        obtain ⟨oi, hli, hoi⟩ := ready_get hl hr
        unfold pickV at h
        rw [hli] at h
        unfold wpV at h
        exact ⟨h1 j (by simp [inV]), hn, wpOp_mono (fun a' w' hh => ⟨hh.1, ihs.1 (n - 1) _ a' w' (inv.set hr) hBs hh.1 hh.2⟩) (wpOp_of_O hl hli h.1)⟩
      · have hj' : j ∈ altsV m := by
          rcases List.mem_cons.1 hj with h | h
          · exact absurd h hji
          · exact h
        have hm : wpV P ops Q S K (pickV l m) a w := by
          unfold pickV at h
          split at h
          · unfold wpV at h; exact h.2
          · exact h
        exact ihm.2 n listed a w inv hBm hm j hj' hr
    refine ⟨fun n listed a w inv hB hS h => ?_, fun n listed a w inv hB h j hj hr => ?_⟩
    · simp only [lexV, Bool.false_or, Bool.and_eq_true, decide_eq_true_eq, bne_iff_ne] at hB
      obtain ⟨hf, hn, hBs, hBm⟩ := hB
      obtain ⟨n', rfl⟩ : ∃ n', n = n' + 1 := ⟨n - 1, by omega⟩
      refine ⟨fun h0 => (by rw [h0] at hf; cases hf), fun j hj => ?_⟩
      have hk := key (n' + 1) listed a w inv hn hBs hBm h j (by rw [← hf]; exact hj) hj
      exact ⟨hk.1, hk.2.2⟩
    · simp only [lexV, Bool.true_or, Bool.true_and, Bool.and_eq_true, bne_iff_ne] at hB
      obtain ⟨hn, hBs, hBm⟩ := hB
      exact key n listed a w inv hn hBs hBm h j hj hr
/-- the tree's walk serves all orders -/
theorem wp_region_V {id : Nat} {a : Act} {w : World} {l : List Oper} (S : World → Prop) (F n : Nat) (t : RegV) (tl : List Nat) (hm : P.follows .mixedOrders = true) (hB : takeV l.toArray F n t tl = true) (hsz : l.length = n + tl.length)
    (hQ : ∀ c a d v w, Q (.panic c) (a.put d v) w → Q (.panic c) a w) (hS : S w.drew)
    (h : wpV P l.toArray Q S (fun a' w' => wpList P l.toArray Q (pickN l tl) a' w') (pickV l t) a w.drew) : (Code.region id l.toArray true).wp P Q a w := by
  simp only [takeV, Bool.and_eq_true] at hB
  obtain ⟨hsel, hT, hN, hlex⟩ := hB
  have hT' : ∀ k ∈ tl, inV t k = false := fun k hk => by have := List.all_eq_true.1 hT k hk; simpa using this
  have inv0 : InvT l.toArray (inV t) (Array.replicate l.toArray.size false) := ⟨by simp, fun j oj _ hl => by
    exfalso
    rcases Nat.lt_or_ge j l.toArray.size with h | h
    · simp at hl
      have : j < l.length := by simpa using h
      simp [this] at hl
    · have h' : ¬ j < l.length := by simpa using h
      simp [h'] at hl⟩
  have hh : ∀ i ∈ rdsV t, ∀ u, u < l.toArray.size → inV t u = false → regNeeds l.toArray F u i = true := fun i hi u hu hf => by
    have h1 := List.all_eq_true.1 hN u (List.mem_range.2 hu)
    rw [hf, Bool.false_or] at h1
    exact List.all_eq_true.1 h1 i hi
  refine wp_region_any hm ?_
  have H := (wpAnyT_of_V (P := P) (Q := Q) (S := S) (l := l) rfl hsel hT' hQ t (fun k hk => hk) hh).1 n _ a w.drew inv0 hlex hS h
  have H2 := wpAny_of_T (g := tl.length) (fun listed' a' w' hL => wpAny_of_seqI (P := P) (Q := Q) (l := l) rfl tl listed' a' w' hL.1 hL.2) n _ a w.drew H
  have e : l.toArray.size = n + tl.length := by simpa using hsz
  rw [e]
  rw [e] at H2
  exact H2
end
attribute [irreducible] wpV
end Go.Proofs.Ytacpnphfopmofaa
