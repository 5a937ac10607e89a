/- Ciphertexts: re-encryption of lists: walks (printed by gen_cip7.py). -/
import Derived.Test.YtboahnklilmdpaaCip6
namespace Go.Proofs.Ytboahnklilmdpaa
open Go.RowKit
set_option linter.unusedSimpArgs false
set_option linter.unusedVariables false

theorem wpList_append_FrX {δ : Type} {e : TypeId} {R : RowK δ} {w0 w : World} {B : Nat} {v : Value} {ds es : List δ} {P : Program} (ts : TypeId) (i : TypeInfo) (z : Value) (ht : P.underlying ts = some (.slice e)) (hi' : P.info? e = some i) (hz : i.zero = some z) (hsz : i.size = R.width) (hby : i.bytes ≤ 1000) (hzs : z.cells.size = R.width) (hpos : 0 < R.width)
    {ops : Array Oper} {rest : List Oper} {o : Oper} {ac : Act} {Q : Exit → Act → World → Prop} (hgd : o.guard = none) (s y : Operand)
    (ho : o.op = .call { callee := .builtin .append, args := #[s, y], argTypes := #[ts, ts] })
    (hown : FrR e R w0 w B v ds) {u : Value} (hs : ac.eval s = v) (hy : ac.eval y = u) (hrd : RdR R w0 u es) (hbw : Below w0.heap.size w0 w) (hB : B ≤ w.heap.size) (hlen : ds.length + es.length ≤ 1000000000)
    (hK : ∀ v' w', FrR e R w0 w' B v' (ds ++ es) → Below B w w' → wpList P ops Q rest (ac.put o.dst v') w') : wpList P ops Q (o :: rest) ac w := by
  obtain ⟨a, n, c, rfl⟩ := hrd.shape
  cases a with
  | none =>
    have hn := hrd.len
    have h0 : n = 0 := by
      rcases Nat.eq_zero_or_pos n with h | h
      · exact h
      · obtain ⟨b, o, hc, _⟩ := hrd.at_ h
        cases hc
    have hc : c = 0 := by
      obtain ⟨a, n', c', e, _, _, _, h⟩ := hrd
      rcases h with ⟨_, _, h⟩ | ⟨ad, h, _⟩ | ⟨b, o, h, _⟩
      · cases e; exact h
      · cases e; cases h
      · cases e; cases h
    subst h0; subst hc
    have : es = [] := List.eq_nil_of_length_eq_zero hn
    subst this
    obtain ⟨css, hl, hO, hel⟩ := hown
    have hr := run_append_owned_none (P := P) (w := w) B ts o.type e i R.width ht hi' v ds.length css.flatten hO
    refine wpList_plain hgd fun K hK' => ?_
    unfold Oper.wp execOp
    simp only [ho, resolve, invoke, builtin, Sem.run_bind, Sem.run_pure, Result.andThen_ok, List.map_toArray, List.map_cons, List.map_nil, hs, hy, hr]
    exact hK' _ _ (hK v w (by rw [List.append_nil]; exact ⟨css, hl, hO, hel⟩) (Below.refl _ _))
  | some ad =>
    obtain ⟨css, h1, h2, h3⟩ := rows_of_RdR hrd
    exact wpList_append_Fr ts i z ht hi' hz hsz hby hzs hpos hgd s y ho hown ad n c css hs hy h1 hrd.len (fun j u hu => (hbw.cell (p := ad.add j) (World.block_lt_of_cell? w0 _ (h2 j u hu))).trans (h2 j u hu)) h3 hB hlen hK
theorem infoC : ∃ i, Try.prog.info? 58 = some i ∧ i.zero = some (.agg #[.int .i64 0, .int .i64 0]) ∧ i.size = 2 ∧ i.bytes ≤ 1000 := by
  have h : (Try.prog.info? 58).map (fun i => (i.zero, i.size, decide (i.bytes ≤ 1000))) = some (some (.agg #[.int .i64 0, .int .i64 0]), 2, true) := by kernel_rfl
  obtain ⟨i, hi, hz⟩ := Option.map_eq_some_iff.1 h
  simp only [Prod.mk.injEq] at hz
  exact ⟨i, hi, hz.1, hz.2.1, of_decide_eq_true hz.2.2⟩
/-- a row of ciphertexts of the call's own -/
def OwnC (w : World) (B : Nat) (v : Value) (l : List CipherD) : Prop := FrR 58 rCipher w w B v l
theorem rdC_any {w1 w2 : World} {vs : List Value} {d : CipherD} (h : rCipher.rd w1 vs d) : rCipher.rd w2 vs d := by
  obtain ⟨e, j1, j2⟩ := (rdCipher (w := w1) (v := .agg vs.toArray) (d := d)).1 ⟨vs, rfl, h⟩
  obtain rfl : vs = [.int .i64 d.a, .int .i64 d.b] := by have h := Value.agg.inj e; simpa using congrArg Array.toList h
  exact rowC ⟨j1, j2⟩
theorem FrR.anyC {w1 w2 w : World} {B : Nat} {v : Value} {l : List CipherD} (h : FrR 58 rCipher w1 w B v l) : FrR 58 rCipher w2 w B v l := by
  obtain ⟨css, h1, h2, h3⟩ := h
  exact ⟨css, h1, h2, fun i k1 k2 => rdC_any (h3 i k1 k2)⟩
theorem OwnC.nil (w : World) (B : Nat) : OwnC w B (.slice none 0 0) [] := FrR.nil _ _ _ _ _
theorem OwnC.lit0 (w : World) {B : Nat} (hB : B ≤ w.heap.size) : OwnC (w.alloc (.cells #[] 58)) B (.slice (some ⟨w.heap.size, 0, none⟩) 0 0) [] := (FrR.lit0 _ rCipher w w B hB).anyC
theorem OwnC.below {w w' : World} {B : Nat} {v : Value} {l : List CipherD} (h : OwnC w B v l) (hb : Below w.heap.size w w') : OwnC w' B v l := (FrR.below h hb).anyC
theorem OwnC.rd {w : World} {B : Nat} {v : Value} {l : List CipherD} (h : OwnC w B v l) : RdR rCipher w v l := FrR.rd h (Below.refl _ _)
theorem OwnC.shape {w : World} {B : Nat} {v : Value} {l : List CipherD} (h : OwnC w B v l) : ∃ a n c, v = .slice a n c := h.rd.shape
theorem wpList_append_C {w : World} {B : Nat} {v u : Value} {l es : List CipherD} {ops : Array Oper} {rest : List Oper} {o : Oper} {ac : Act} {Q : Exit → Act → World → Prop} (hgd : o.guard = none) (s y : Operand)
    (ho : o.op = .call { callee := .builtin .append, args := #[s, y], argTypes := #[52, 52] })
    (hown : OwnC w B v l) (hs : ac.eval s = v) (hy : ac.eval y = u) (hrd : RdR rCipher w u es) (hB : B ≤ w.heap.size) (hlen : l.length + es.length ≤ 1000000000)
    (hK : ∀ v' w', OwnC w' B v' (l ++ es) → Below B w w' → wpList Try.prog ops Q rest (ac.put o.dst v') w') : wpList Try.prog ops Q (o :: rest) ac w := by
  obtain ⟨i, h1, h2, h3, h4⟩ := infoC
  exact wpList_append_FrX (e := 58) (R := rCipher) (es := es) 52 i _ Try.underlying52 h1 h2 h3 h4 rfl (by decide) hgd s y ho hown hs hy hrd (Below.refl _ _) hB hlen (fun v' w' h hb => hK v' w' h.anyC hb)
def reL (gr : GroupD) (key : Int) (l : List CipherD) (rs : List Int) : List CipherD := (l.zip rs).map fun x => reC gr key x.1 x.2
theorem reL_succ {gr : GroupD} {key : Int} {l : List CipherD} {rs : List Int} {k : Nat} (h : k < l.length) (h2 : k < rs.length) : (reL gr key l rs).take (k + 1) = (reL gr key l rs).take k ++ [reC gr key l[k] (nth rs k)] := by
  unfold reL
  have hz : k < ((l.zip rs).map fun x => reC gr key x.1 x.2).length := by rw [List.length_map, List.length_zip]; omega
  rw [List.take_succ_eq_append_getElem hz, List.getElem_map, List.getElem_zip]
  rw [show nth rs k = rs[k] by simp [nth, h2]]
theorem reL_length {gr : GroupD} {key : Int} {l : List CipherD} {rs : List Int} (h : rs.length = l.length) : (reL gr key l rs).length = l.length := by
  unfold reL; rw [List.length_map, List.length_zip, h, Nat.min_self]
noncomputable def raB (gr : GroupD) (key : Int) (l : List CipherD) (rs : List Int) : Bool := (goodG gr && elB gr key) && ((cisB gr l && (decide (rs.length = l.length) && rs.all (expB gr))))
noncomputable def raR (gr : GroupD) (key : Int) (l : List CipherD) (rs : List Int) : List CipherD := if raB gr key l rs = true then reL gr key l rs else []
set_option maxRecDepth 100000 in
set_option maxHeartbeats 2000000 in
theorem impl_ReencryptAll (gr : GroupD) (key : Int) (v : Value) (l : List CipherD) (v2 : Value) (rs : List Int) (w : World) (hkey : I64 key) (h : RdR rCipher w v l) (h2 : Ints w v2 rs) :
    Calls Try.prog 28 #[.agg #[.int .i64 gr.p, .int .i64 gr.q, .int .i64 gr.g], .int .i64 key, v, v2] w fun e w' => ∃ v', e = .returned (.tuple #[v', .bool (raB gr key l rs)]) ∧ RdR rCipher w' v' (raR gr key l rs) ∧ Below w.heap.size w w' := by
  have HRR : Hid (raR gr key l rs = if raB gr key l rs = true then reL gr key l rs else []) := rfl
  rw [HRR.out]
  clear HRR
  obtain ⟨va, vn, vc, rfl⟩ := h.shape
  have Ev := Lib.hid h.len
  have Kv := Lib.hid h.capMax
  have Hv := Lib.hid h
  clear h
  obtain ⟨v2a, v2n, v2c, rfl⟩ := h2.shape
  have Ev2 := Lib.hid h2.len
  have Kv2 := Lib.hid h2.capMax
  have Hv2 := Lib.hid h2
  clear h2
  cases hc1 : goodG gr with
  | false =>
    have HVB : Hid (raB gr key l rs = false) := by unfold Hid; simp [raB, hc1]
    rw [HVB.out]
    have Hhc1 := Lib.hid hc1
    clear hc1
    obtain ⟨W, hW⟩ : ∃ W, W = w.alloc (.cells #[.int .i64 gr.p, .int .i64 gr.q, .int .i64 gr.g] 39) := ⟨_, rfl⟩
    have HB : Hid (Below w.heap.size w W) := by unfold Hid; rw [hW]; (repeat (first | exact Below.refl _ _ | assumption | refine Below.drew ?_ | refine Below.alloc ?_ (by first | (simp; done) | (simp; omega)) _ | refine Below.setCell ?_ (by first | (simp; done) | (simp; omega)) _))
    have c0_0 : W.cell? ⟨w.heap.size, 0, none⟩ = some (.int .i64 gr.p) := by rw [hW]; simp [go_sem]
    have c0_1 : W.cell? ⟨w.heap.size, 1, none⟩ = some (.int .i64 gr.q) := by rw [hW]; simp [go_sem]
    have c0_2 : W.cell? ⟨w.heap.size, 2, none⟩ = some (.int .i64 gr.g) := by rw [hW]; simp [go_sem]
    have HSW : Hid (W.heap.size = w.heap.size + 1) := by unfold Hid; rw [hW]; simp
    go_enter Try.func28, Try.ntmps28
    go_wp2_with fail
    rw [← hW]
    clear hW
    have hc : Below W.heap.size W W := Below.refl _ _
    go_wp2_with fail
    refine (impl_IsValidGroup gr _).mono ?_
    rintro e u1 ⟨rfl, hq1⟩
    replace hc := Below.next hc hq1
    replace c0_0 := box_at c0_0 hq1
    replace c0_1 := box_at c0_1 hq1
    replace c0_2 := box_at c0_2 hq1
    clear hq1
    rw [Hhc1.out]
    go_wp2_with fail
    go_ret2
    exact ⟨.slice none 0 0, rfl, RdR.nil _ _, HB.out.trans (hc.mono HB.out.size)⟩
  | true =>
    have HG := Lib.hid (goodG_ok hc1)
    cases hc2 : elB gr key with
    | false =>
      have HVB : Hid (raB gr key l rs = false) := by unfold Hid; simp [raB, hc1, hc2]
      rw [HVB.out]
      have Hhc1 := Lib.hid hc1
      clear hc1
      have Hhc2 := Lib.hid hc2
      clear hc2
      obtain ⟨W, hW⟩ : ∃ W, W = w.alloc (.cells #[.int .i64 gr.p, .int .i64 gr.q, .int .i64 gr.g] 39) := ⟨_, rfl⟩
      have HB : Hid (Below w.heap.size w W) := by unfold Hid; rw [hW]; (repeat (first | exact Below.refl _ _ | assumption | refine Below.drew ?_ | refine Below.alloc ?_ (by first | (simp; done) | (simp; omega)) _ | refine Below.setCell ?_ (by first | (simp; done) | (simp; omega)) _))
      have c0_0 : W.cell? ⟨w.heap.size, 0, none⟩ = some (.int .i64 gr.p) := by rw [hW]; simp [go_sem]
      have c0_1 : W.cell? ⟨w.heap.size, 1, none⟩ = some (.int .i64 gr.q) := by rw [hW]; simp [go_sem]
      have c0_2 : W.cell? ⟨w.heap.size, 2, none⟩ = some (.int .i64 gr.g) := by rw [hW]; simp [go_sem]
      have HSW : Hid (W.heap.size = w.heap.size + 1) := by unfold Hid; rw [hW]; simp
      go_enter Try.func28, Try.ntmps28
      go_wp2_with fail
      rw [← hW]
      clear hW
      have hc : Below W.heap.size W W := Below.refl _ _
      go_wp2_with fail
      refine (impl_IsValidGroup gr _).mono ?_
      rintro e u1 ⟨rfl, hq1⟩
      replace hc := Below.next hc hq1
      replace c0_0 := box_at c0_0 hq1
      replace c0_1 := box_at c0_1 hq1
      replace c0_2 := box_at c0_2 hq1
      clear hq1
      rw [Hhc1.out]
      go_wp2_with fail
      refine (impl_has gr key _ HG.out).mono ?_
      rintro e u2 ⟨rfl, hq2⟩
      replace hc := Below.next hc hq2
      replace c0_0 := box_at c0_0 hq2
      replace c0_1 := box_at c0_1 hq2
      replace c0_2 := box_at c0_2 hq2
      clear hq2
      rw [Hhc2.out]
      go_wp2_with fail
      go_ret2
      exact ⟨.slice none 0 0, rfl, RdR.nil _ _, HB.out.trans (hc.mono HB.out.size)⟩
    | true =>
      have Hk := Lib.hid hc2
      cases hc3 : cisB gr l with
      | false =>
        have HVB : Hid (raB gr key l rs = false) := by unfold Hid; simp [raB, hc1, hc2, hc3]
        rw [HVB.out]
        have Hhc1 := Lib.hid hc1
        clear hc1
        have Hhc2 := Lib.hid hc2
        clear hc2
        have Hhc3 := Lib.hid hc3
        clear hc3
        obtain ⟨W, hW⟩ : ∃ W, W = w.alloc (.cells #[.int .i64 gr.p, .int .i64 gr.q, .int .i64 gr.g] 39) := ⟨_, rfl⟩
        have HB : Hid (Below w.heap.size w W) := by unfold Hid; rw [hW]; (repeat (first | exact Below.refl _ _ | assumption | refine Below.drew ?_ | refine Below.alloc ?_ (by first | (simp; done) | (simp; omega)) _ | refine Below.setCell ?_ (by first | (simp; done) | (simp; omega)) _))
        have c0_0 : W.cell? ⟨w.heap.size, 0, none⟩ = some (.int .i64 gr.p) := by rw [hW]; simp [go_sem]
        have c0_1 : W.cell? ⟨w.heap.size, 1, none⟩ = some (.int .i64 gr.q) := by rw [hW]; simp [go_sem]
        have c0_2 : W.cell? ⟨w.heap.size, 2, none⟩ = some (.int .i64 gr.g) := by rw [hW]; simp [go_sem]
        have HSW : Hid (W.heap.size = w.heap.size + 1) := by unfold Hid; rw [hW]; simp
        go_enter Try.func28, Try.ntmps28
        go_wp2_with fail
        rw [← hW]
        clear hW
        have hc : Below W.heap.size W W := Below.refl _ _
        go_wp2_with fail
        refine (impl_IsValidGroup gr _).mono ?_
        rintro e u1 ⟨rfl, hq1⟩
        replace hc := Below.next hc hq1
        replace c0_0 := box_at c0_0 hq1
        replace c0_1 := box_at c0_1 hq1
        replace c0_2 := box_at c0_2 hq1
        clear hq1
        rw [Hhc1.out]
        go_wp2_with fail
        refine (impl_has gr key _ HG.out).mono ?_
        rintro e u2 ⟨rfl, hq2⟩
        replace hc := Below.next hc hq2
        replace c0_0 := box_at c0_0 hq2
        replace c0_1 := box_at c0_1 hq2
        replace c0_2 := box_at c0_2 hq2
        clear hq2
        rw [Hhc2.out]
        go_wp2_with fail
        refine (impl_hasCiphers gr _ l _ HG.out (Hv.out.below (HB.out.trans (hc.mono HB.out.size)))).mono ?_
        rintro e u3 ⟨rfl, hq3⟩
        replace hc := Below.next hc hq3
        replace c0_0 := box_at c0_0 hq3
        replace c0_1 := box_at c0_1 hq3
        replace c0_2 := box_at c0_2 hq3
        clear hq3
        rw [Hhc3.out]
        go_wp2_with fail
        go_ret2
        exact ⟨.slice none 0 0, rfl, RdR.nil _ _, HB.out.trans (hc.mono HB.out.size)⟩
      | true =>
        have Hl := Lib.hid hc3
        cases hc4 : ((v2n : Int) != (vn : Int)) with
        | false =>
          have HLN : Hid (decide (rs.length = l.length) = true) := by have e1 := Ev2.out; have e2 := Ev.out; have q : (v2n : Int) = vn := (by simpa using hc4); exact decide_eq_true (by omega)
          have HLE : Hid (rs.length = l.length) := by unfold Hid; exact of_decide_eq_true HLN.out
          cases hc5 : rs.all (expB gr) with
          | false =>
            have HVB : Hid (raB gr key l rs = false) := by unfold Hid; simp [raB, hc1, hc2, hc3, hc4, hc5, HLN.out]
            rw [HVB.out]
            have Hhc1 := Lib.hid hc1
            clear hc1
            have Hhc2 := Lib.hid hc2
            clear hc2
            have Hhc3 := Lib.hid hc3
            clear hc3
            have Hhc5 := Lib.hid hc5
            clear hc5
            obtain ⟨W, hW⟩ : ∃ W, W = w.alloc (.cells #[.int .i64 gr.p, .int .i64 gr.q, .int .i64 gr.g] 39) := ⟨_, rfl⟩
            have HB : Hid (Below w.heap.size w W) := by unfold Hid; rw [hW]; (repeat (first | exact Below.refl _ _ | assumption | refine Below.drew ?_ | refine Below.alloc ?_ (by first | (simp; done) | (simp; omega)) _ | refine Below.setCell ?_ (by first | (simp; done) | (simp; omega)) _))
            have c0_0 : W.cell? ⟨w.heap.size, 0, none⟩ = some (.int .i64 gr.p) := by rw [hW]; simp [go_sem]
            have c0_1 : W.cell? ⟨w.heap.size, 1, none⟩ = some (.int .i64 gr.q) := by rw [hW]; simp [go_sem]
            have c0_2 : W.cell? ⟨w.heap.size, 2, none⟩ = some (.int .i64 gr.g) := by rw [hW]; simp [go_sem]
            have HSW : Hid (W.heap.size = w.heap.size + 1) := by unfold Hid; rw [hW]; simp
            go_enter Try.func28, Try.ntmps28
            go_wp2_with fail
            rw [← hW]
            clear hW
            have hc : Below W.heap.size W W := Below.refl _ _
            go_wp2_with fail
            refine (impl_IsValidGroup gr _).mono ?_
            rintro e u1 ⟨rfl, hq1⟩
            replace hc := Below.next hc hq1
            replace c0_0 := box_at c0_0 hq1
            replace c0_1 := box_at c0_1 hq1
            replace c0_2 := box_at c0_2 hq1
            clear hq1
            rw [Hhc1.out]
            go_wp2_with fail
            refine (impl_has gr key _ HG.out).mono ?_
            rintro e u2 ⟨rfl, hq2⟩
            replace hc := Below.next hc hq2
            replace c0_0 := box_at c0_0 hq2
            replace c0_1 := box_at c0_1 hq2
            replace c0_2 := box_at c0_2 hq2
            clear hq2
            rw [Hhc2.out]
            go_wp2_with fail
            refine (impl_hasCiphers gr _ l _ HG.out (Hv.out.below (HB.out.trans (hc.mono HB.out.size)))).mono ?_
            rintro e u3 ⟨rfl, hq3⟩
            replace hc := Below.next hc hq3
            replace c0_0 := box_at c0_0 hq3
            replace c0_1 := box_at c0_1 hq3
            replace c0_2 := box_at c0_2 hq3
            clear hq3
            rw [Hhc3.out]
            go_wp2_with fail
            refine (impl_areExps gr _ rs _ HG.out (Hv2.out.below (HB.out.trans (hc.mono HB.out.size)))).mono ?_
            rintro e u4 ⟨rfl, hq4⟩
            replace hc := Below.next hc hq4
            replace c0_0 := box_at c0_0 hq4
            replace c0_1 := box_at c0_1 hq4
            replace c0_2 := box_at c0_2 hq4
            clear hq4
            rw [Hhc5.out]
            go_wp2_with fail
            go_ret2
            exact ⟨.slice none 0 0, rfl, RdR.nil _ _, HB.out.trans (hc.mono HB.out.size)⟩
          | true =>
            have HVB : Hid (raB gr key l rs = true) := by unfold Hid; simp [raB, hc1, hc2, hc3, hc4, hc5, HLN.out]
            rw [HVB.out]
            have Hhc1 := Lib.hid hc1
            clear hc1
            have Hhc2 := Lib.hid hc2
            clear hc2
            have Hhc3 := Lib.hid hc3
            clear hc3
            have Hhc5 := Lib.hid hc5
            clear hc5
            obtain ⟨W, hW⟩ : ∃ W, W = w.alloc (.cells #[.int .i64 gr.p, .int .i64 gr.q, .int .i64 gr.g] 39) := ⟨_, rfl⟩
            have HB : Hid (Below w.heap.size w W) := by unfold Hid; rw [hW]; (repeat (first | exact Below.refl _ _ | assumption | refine Below.drew ?_ | refine Below.alloc ?_ (by first | (simp; done) | (simp; omega)) _ | refine Below.setCell ?_ (by first | (simp; done) | (simp; omega)) _))
            have c0_0 : W.cell? ⟨w.heap.size, 0, none⟩ = some (.int .i64 gr.p) := by rw [hW]; simp [go_sem]
            have c0_1 : W.cell? ⟨w.heap.size, 1, none⟩ = some (.int .i64 gr.q) := by rw [hW]; simp [go_sem]
            have c0_2 : W.cell? ⟨w.heap.size, 2, none⟩ = some (.int .i64 gr.g) := by rw [hW]; simp [go_sem]
            have HSW : Hid (W.heap.size = w.heap.size + 1) := by unfold Hid; rw [hW]; simp
            go_enter Try.func28, Try.ntmps28
            go_wp2_with fail
            rw [← hW]
            clear hW
            have hc : Below W.heap.size W W := Below.refl _ _
            go_wp2_with fail
            refine (impl_IsValidGroup gr _).mono ?_
            rintro e u1 ⟨rfl, hq1⟩
            replace hc := Below.next hc hq1
            replace c0_0 := box_at c0_0 hq1
            replace c0_1 := box_at c0_1 hq1
            replace c0_2 := box_at c0_2 hq1
            clear hq1
            rw [Hhc1.out]
            go_wp2_with fail
            refine (impl_has gr key _ HG.out).mono ?_
            rintro e u2 ⟨rfl, hq2⟩
            replace hc := Below.next hc hq2
            replace c0_0 := box_at c0_0 hq2
            replace c0_1 := box_at c0_1 hq2
            replace c0_2 := box_at c0_2 hq2
            clear hq2
            rw [Hhc2.out]
            go_wp2_with fail
            refine (impl_hasCiphers gr _ l _ HG.out (Hv.out.below (HB.out.trans (hc.mono HB.out.size)))).mono ?_
            rintro e u3 ⟨rfl, hq3⟩
            replace hc := Below.next hc hq3
            replace c0_0 := box_at c0_0 hq3
            replace c0_1 := box_at c0_1 hq3
            replace c0_2 := box_at c0_2 hq3
            clear hq3
            rw [Hhc3.out]
            go_wp2_with fail
            refine (impl_areExps gr _ rs _ HG.out (Hv2.out.below (HB.out.trans (hc.mono HB.out.size)))).mono ?_
            rintro e u4 ⟨rfl, hq4⟩
            replace hc := Below.next hc hq4
            replace c0_0 := box_at c0_0 hq4
            replace c0_1 := box_at c0_1 hq4
            replace c0_2 := box_at c0_2 hq4
            clear hq4
            rw [Hhc5.out]
            go_wp2_with fail
            have HC := Lib.hid hc
            have C0 := Lib.hid c0_0
            have C1 := Lib.hid c0_1
            have C2 := Lib.hid c0_2
            clear hc c0_0 c0_1 c0_2
            have HU := Lib.hid (OwnC.lit0 _ (Nat.le_refl _) : OwnC _ u4.heap.size (.slice (some ⟨u4.heap.size, 0, none⟩) 0 0) ((reL gr key l rs).take 0))
            have HUB := Lib.hid ((Below.refl u4.heap.size u4).alloc (Nat.le_refl _) (.cells #[] 58) : Below u4.heap.size u4 _)
            go_loopg [10, 44] vn (fun gh ov iv wr => ∃ k : Nat, k + gh = vn ∧ iv = .int .i64 k ∧ OwnC wr u4.heap.size ov ((reL gr key l rs).take k) ∧ Below u4.heap.size u4 wr)
            case atStart => exact ⟨0, by omega, rfl, HU.out, HUB.out⟩
            case round =>
              obtain ⟨k, hkg, rfl, hown, hbu⟩ := hrel
              clear HU HUB
              obtain ⟨oa, on, oc, rfl⟩ := hown.shape
              have HOW := Lib.hid hown
              clear hown
              have HBU := Lib.hid hbu
              clear hbu
              have HBW := Lib.hid (HB.out.trans ((Below.next HC.out HBU.out).mono HB.out.size))
              by_cases hlt : k < vn
              · have HK : Hid (k < l.length) := by unfold Hid; have := Ev.out; omega
                have HK2 : Hid (k < rs.length) := by unfold Hid; rw [HLE.out]; exact HK.out
                have HS := Lib.hid (reL_succ (gr := gr) (key := key) HK.out HK2.out)
                have HLEN : Hid (((reL gr key l rs).take k).length ≤ 100000000) := by have h := Hl.out; unfold cisB at h; rw [Bool.and_eq_true, decide_eq_true_iff] at h; have h1 := h.1; have h2 := List.length_take_le k (reL gr key l rs); have h3 := HK.out; unfold Hid; omega
                have HSX : Hid (SmallC (l[k]'HK.out)) := cisB_small HG.out Hl.out _ (List.getElem_mem _)
                have HCX : Hid (ciB gr (l[k]'HK.out) = true) := by have h := Hl.out; unfold cisB at h; rw [Bool.and_eq_true] at h; exact List.all_eq_true.1 h.2 _ (List.getElem_mem _)
                have HEX := Lib.hid (Hv2.out.all.at_ k)
                have hb := HBW.out
                obtain ⟨b_x, o_x, rfl, hcx⟩ := Hv.out.at_ (by omega)
                obtain ⟨us, hcell, hrd⟩ := hcx k HK.out
                clear hcx
                generalize l[k]'HK.out = x at hrd HS HSX HCX
                obtain ⟨ers, jx_0, jx_1⟩ := rdCipher.1 ⟨us, rfl, hrd⟩
                obtain rfl : us = [.int .i64 x.a, .int .i64 x.b] := by have h := Value.agg.inj ers; simpa using congrArg Array.toList h
                clear ers hrd
                have y_x_0 : wr.cell? ⟨b_x, o_x + k * 2, none⟩ = some (.int .i64 x.a) := box_at (hcell 0 (by decide)) hb
                have y_x_1 : wr.cell? ⟨b_x, o_x + k * 2 + 1, none⟩ = some (.int .i64 x.b) := box_at (hcell 1 (by decide)) hb
                clear hcell
                have HR_x := Lib.hid ((kS rCipher).rd_below (rdCipher.2 ⟨rfl, jx_0, jx_1⟩ : (kS rCipher).rd w (.agg #[.int .i64 x.a, .int .i64 x.b]) x) hb)
                have J_x_0 := Lib.hid jx_0
                have J_x_1 := Lib.hid jx_1
                clear jx_0 jx_1
                obtain ⟨bk2, oo2, rfl, hcx2⟩ := (Hv2.out.below hb).at_ (by have := Ev2.out; have := HK2.out; omega)
                have hy2 := hcx2 k (by have := Ev2.out; have := HK2.out; omega)
                clear hcx2
                generalize nth rs k = y at hy2 HS HEX
                have b0 : (0 : Int) ≤ (k : Int) := by omega
                have b1 : (k : Int) < (v2n : Int) := by have := Ev2.out; have := HK2.out; omega
                have hwk : IntKind.i64.wrap ((k : Int) + 1) = (k : Int) + 1 := IntWalk.i64_in _ (by have := Kv.out.1; have := Kv.out.2; unfold maxLen at this; omega)
                clear hb
                obtain ⟨V, hV⟩ : ∃ V, V = wr.alloc (.cells #[.int .i64 x.a, .int .i64 x.b] 58) := ⟨_, rfl⟩
                have hc : Below wr.heap.size wr V := by rw [hV]; exact (Below.refl _ _).alloc (Nat.le_refl _) _
                have hcV : Below u4.heap.size u4 V := Below.next HBU.out hc
                have c0_0 := box_at C0.out hcV
                have c0_1 := box_at C1.out hcV
                have c0_2 := box_at C2.out hcV
                clear hcV
                have c2_0 : V.cell? ⟨wr.heap.size, 0, none⟩ = some (.int .i64 x.a) := by rw [hV]; simp [go_sem]
                have c2_1 : V.cell? ⟨wr.heap.size, 1, none⟩ = some (.int .i64 x.b) := by rw [hV]; simp [go_sem]
                have c3_0 := box_at hy2 hc
                go_wp2_with fail
                rw [← hV]
                clear hV
                try (go_wp2_with fail)
                refine wp_region_noPanic ?_
                refine wp_region_P (fun w' => w'.cell? ⟨w.heap.size, 0, none⟩ = some (.int .i64 gr.p) ∧ w'.cell? ⟨w.heap.size, 1, none⟩ = some (.int .i64 gr.q) ∧ w'.cell? ⟨w.heap.size, 2, none⟩ = some (.int .i64 gr.g) ∧ w'.cell? ⟨wr.heap.size, 0, none⟩ = some (.int .i64 x.a) ∧ w'.cell? ⟨wr.heap.size, 1, none⟩ = some (.int .i64 x.b) ∧ w'.cell? ⟨bk2, oo2 + k, none⟩ = some (.int .i64 y)) 14 [(0, []), (1, []), (2, []), (3, []), (4, []), (5, []), (6, [1, 0]), (7, [0]), (8, [6, 5, 4, 0]), (9, [0])] [10, 11] (by kernel_rfl) (by kernel_rfl) (by kernel_rfl) rfl (fun _ _ _ _ h => h) (fun w' h => ⟨box_at c0_0 h, box_at c0_1 h, box_at c0_2 h, box_at c2_0 h, box_at c2_1 h, box_at c3_0 h⟩) ?_
                simp only [pickP, pickN, List.getElem?_cons_zero, List.getElem?_cons_succ]
                -- 0: move t10
                refine' chainP_read (d := (some 49)) _ rfl rfl (fun w' hS' => ?_) ?_; rotate_left
                · simp only [lookP, allP, Act.put, List.getElem?_cons_zero, List.getElem?_cons_succ, List.setIfInBounds_toArray, List.set_cons_zero, List.set_cons_succ]
                  (try dsimp only at hS')
                  go_simp
                  (try with_reducible rfl)
                -- 1: load 39 t4
                refine' chainP_read (d := (some 50)) _ rfl rfl (fun w' hS' => ?_) ?_; rotate_left
                · simp only [lookP, allP, Act.put, List.getElem?_cons_zero, List.getElem?_cons_succ, List.setIfInBounds_toArray, List.set_cons_zero, List.set_cons_succ]
                  (try dsimp only at hS')
                  go_simp
                  (try with_reducible rfl)
                -- 2: move t1
                refine' chainP_read (d := (some 51)) _ rfl rfl (fun w' hS' => ?_) ?_; rotate_left
                · simp only [lookP, allP, Act.put, List.getElem?_cons_zero, List.getElem?_cons_succ, List.setIfInBounds_toArray, List.set_cons_zero, List.set_cons_succ]
                  (try dsimp only at hS')
                  go_simp
                  (try with_reducible rfl)
                -- 3: load 58 t12
                refine' chainP_read (d := (some 52)) _ rfl rfl (fun w' hS' => ?_) ?_; rotate_left
                · simp only [lookP, allP, Act.put, List.getElem?_cons_zero, List.getElem?_cons_succ, List.setIfInBounds_toArray, List.set_cons_zero, List.set_cons_succ]
                  (try dsimp only at hS')
                  go_simp
                  (try with_reducible rfl)
                -- 4: move t3
                refine' chainP_read (d := (some 53)) _ rfl rfl (fun w' hS' => ?_) ?_; rotate_left
                · simp only [lookP, allP, Act.put, List.getElem?_cons_zero, List.getElem?_cons_succ, List.setIfInBounds_toArray, List.set_cons_zero, List.set_cons_succ]
                  (try dsimp only at hS')
                  go_simp
                  (try with_reducible rfl)
                -- 5: move t11
                refine' chainP_read (d := (some 54)) _ rfl rfl (fun w' hS' => ?_) ?_; rotate_left
                · simp only [lookP, allP, Act.put, List.getElem?_cons_zero, List.getElem?_cons_succ, List.setIfInBounds_toArray, List.set_cons_zero, List.set_cons_succ]
                  (try dsimp only at hS')
                  go_simp
                  (try with_reducible rfl)
                -- 6: indexAddr 24 t53 t54
                refine' chainP_read (d := (some 55)) _ rfl rfl (fun w' hS' => ?_) ?_; rotate_left
                · simp only [lookP, allP, Act.put, List.getElem?_cons_zero, List.getElem?_cons_succ, List.setIfInBounds_toArray, List.set_cons_zero, List.set_cons_succ]
                  (try dsimp only at hS')
                  go_simp
                  (try with_reducible rfl)
                -- 7: load 3 t55
                refine' chainP_read (d := (some 56)) _ rfl rfl (fun w' hS' => ?_) ?_; rotate_left
                · simp only [lookP, allP, Act.put, List.getElem?_cons_zero, List.getElem?_cons_succ, List.setIfInBounds_toArray, List.set_cons_zero, List.set_cons_succ]
                  (try dsimp only at hS')
                  go_simp
                  (try with_reducible rfl)
                -- 8: call { callee := value (func 141), args := #[t50, t51, t52, t56], argTypes := #[39, 3, 58, 3] }
                refine chainP_call (d := (some 57)) (.agg #[.int .i64 ((reC gr key x y).a), .int .i64 ((reC gr key x y).b)]) rfl rfl (fun w' hS' => ?_) ?_
                · simp only [lookP, allP, Act.put, List.getElem?_cons_zero, List.getElem?_cons_succ, List.setIfInBounds_toArray, List.set_cons_zero, List.set_cons_succ]
                  intro K hK
                  go_simp
                  go_at_call 141
                  refine (impl_reencrypt gr key x y _ HG.out (elB_small HG.out Hk.out) HSX.out HEX.out).mono ?_
                  rintro e u ⟨rfl, hq⟩
                  exact hK.out _ hq
                -- 9: buildSlice 52 1 #[(0, t57)]
                refine chainP_do (d := (some 58)) (fun v w => RdR rCipher w v [(reC gr key x y)]) (fun v w w' hb h => RdR.below h hb) rfl rfl (fun w' hS' => ?_) ?_
                · simp only [lookP, allP, Act.put, List.getElem?_cons_zero, List.getElem?_cons_succ, List.setIfInBounds_toArray, List.set_cons_zero, List.set_cons_succ]
                  intro K hK
                  go_simp
                  refine hK.out _ _ ((Below.refl _ _).alloc (Nat.le_refl _) _) ?_
                  exact RdC.lit w' (l := [(reC gr key x y)]) (AllCI.cons (SmallC.ci (reC_small HG.out _ _ _)) AllCI.nil) rfl 1 rfl (by unfold maxLen; omega)
                refine chainP_nil (fun u1 hS' => ?_)
                simp only [allP, Act.put, List.setIfInBounds_toArray, List.set_cons_zero, List.set_cons_succ]
                intro x9 hx9
                have hq1 := hS'.1
                clear hS'
                replace hc := Below.next hc hq1
                replace c0_0 := box_at c0_0 hq1
                replace c0_1 := box_at c0_1 hq1
                replace c0_2 := box_at c0_2 hq1
                replace c2_0 := box_at c2_0 hq1
                replace c2_1 := box_at c2_1 hq1
                replace c3_0 := box_at c3_0 hq1
                clear hq1
                clear c0_0 c0_1 c0_2 c2_0 c2_1 c3_0
                have HOU := Lib.hid (HOW.out.below hc)
                have HX9 := Lib.hid hx9
                obtain ⟨xa, xn, xc, rfl⟩ := hx9.shape
                clear hx9
                have HWU := Lib.hid (Below.next HBU.out hc)
                have HCC := Lib.hid hc
                clear hc
                go_wp2_with (at_builtin; refine wpList_append_C rfl _ _ rfl HOU.out rfl rfl HX9.out HWU.out.size (by have := HLEN.out; simp only [List.length_cons, List.length_nil]; omega) ?_; intro v2' w2 hown2 hgr2)
                have HO2 := Lib.hid hown2
                have HG2 := Lib.hid hgr2
                clear hown2 hgr2
                go_wp2_with fail
                refine NoPanic.normal ?_
                go_wp2_with fail
                go_roundg (vn - (k + 1))
                case measure => omega
                case rel => exact ⟨k + 1, by omega, by go_num, by rw [HS.out]; exact HO2.out, HWU.out.trans HG2.out⟩
              · obtain rfl : vn = k := by omega
                have HFL : Hid ((reL gr key l rs).take vn = reL gr key l rs) := by unfold Hid; rw [List.take_of_length_le (by rw [reL_length HLE.out, Ev.out]; exact Nat.le_refl _)]
                go_wp2_with fail
                go_ret2
                exact ⟨_, rfl, by rw [← HFL.out]; exact HOW.out.rd, HBW.out⟩
        | true =>
          have HLN : Hid (decide (rs.length = l.length) = false) := by have e1 := Ev2.out; have e2 := Ev.out; have q : (v2n : Int) ≠ vn := (by simpa using hc4); exact decide_eq_false (by omega)
          have HVB : Hid (raB gr key l rs = false) := by unfold Hid; simp [raB, hc1, hc2, hc3, hc4, HLN.out]
          rw [HVB.out]
          have Hhc1 := Lib.hid hc1
          clear hc1
          have Hhc2 := Lib.hid hc2
          clear hc2
          have Hhc3 := Lib.hid hc3
          clear hc3
          obtain ⟨W, hW⟩ : ∃ W, W = w.alloc (.cells #[.int .i64 gr.p, .int .i64 gr.q, .int .i64 gr.g] 39) := ⟨_, rfl⟩
          have HB : Hid (Below w.heap.size w W) := by unfold Hid; rw [hW]; (repeat (first | exact Below.refl _ _ | assumption | refine Below.drew ?_ | refine Below.alloc ?_ (by first | (simp; done) | (simp; omega)) _ | refine Below.setCell ?_ (by first | (simp; done) | (simp; omega)) _))
          have c0_0 : W.cell? ⟨w.heap.size, 0, none⟩ = some (.int .i64 gr.p) := by rw [hW]; simp [go_sem]
          have c0_1 : W.cell? ⟨w.heap.size, 1, none⟩ = some (.int .i64 gr.q) := by rw [hW]; simp [go_sem]
          have c0_2 : W.cell? ⟨w.heap.size, 2, none⟩ = some (.int .i64 gr.g) := by rw [hW]; simp [go_sem]
          have HSW : Hid (W.heap.size = w.heap.size + 1) := by unfold Hid; rw [hW]; simp
          go_enter Try.func28, Try.ntmps28
          go_wp2_with fail
          rw [← hW]
          clear hW
          have hc : Below W.heap.size W W := Below.refl _ _
          go_wp2_with fail
          refine (impl_IsValidGroup gr _).mono ?_
          rintro e u1 ⟨rfl, hq1⟩
          replace hc := Below.next hc hq1
          replace c0_0 := box_at c0_0 hq1
          replace c0_1 := box_at c0_1 hq1
          replace c0_2 := box_at c0_2 hq1
          clear hq1
          rw [Hhc1.out]
          go_wp2_with fail
          refine (impl_has gr key _ HG.out).mono ?_
          rintro e u2 ⟨rfl, hq2⟩
          replace hc := Below.next hc hq2
          replace c0_0 := box_at c0_0 hq2
          replace c0_1 := box_at c0_1 hq2
          replace c0_2 := box_at c0_2 hq2
          clear hq2
          rw [Hhc2.out]
          go_wp2_with fail
          refine (impl_hasCiphers gr _ l _ HG.out (Hv.out.below (HB.out.trans (hc.mono HB.out.size)))).mono ?_
          rintro e u3 ⟨rfl, hq3⟩
          replace hc := Below.next hc hq3
          replace c0_0 := box_at c0_0 hq3
          replace c0_1 := box_at c0_1 hq3
          replace c0_2 := box_at c0_2 hq3
          clear hq3
          rw [Hhc3.out]
          go_wp2_with fail
          go_ret2
          exact ⟨.slice none 0 0, rfl, RdR.nil _ _, HB.out.trans (hc.mono HB.out.size)⟩
set_option maxRecDepth 100000 in
set_option maxHeartbeats 2000000 in
theorem spec_ReencryptAll (gr : GroupD) (key : Int) (v : Value) (l : List CipherD) (v2 : Value) (rs : List Int) (w : World) (hkey : I64 key) (h : RdR rCipher w v l) (h2 : Ints w v2 rs) :
    Calls Try.prog 29 #[.agg #[.int .i64 gr.p, .int .i64 gr.q, .int .i64 gr.g], .int .i64 key, v, v2] w fun e w' => ∃ v', e = .returned (.tuple #[v', .bool (raB gr key l rs)]) ∧ RdR rCipher w' v' (raR gr key l rs) ∧ Below w.heap.size w w' := by
  have HRR : Hid (raR gr key l rs = if raB gr key l rs = true then reL gr key l rs else []) := rfl
  rw [HRR.out]
  clear HRR
  obtain ⟨va, vn, vc, rfl⟩ := h.shape
  have Ev := Lib.hid h.len
  have Kv := Lib.hid h.capMax
  have Hv := Lib.hid h
  clear h
  obtain ⟨v2a, v2n, v2c, rfl⟩ := h2.shape
  have Ev2 := Lib.hid h2.len
  have Kv2 := Lib.hid h2.capMax
  have Hv2 := Lib.hid h2
  clear h2
  cases hc1 : goodG gr && elB gr key with
  | false =>
    have HVB : Hid (raB gr key l rs = false) := by unfold Hid; simp [raB, hc1]
    rw [HVB.out]
    have Hhc1 := Lib.hid hc1
    clear hc1
    obtain ⟨W, hW⟩ : ∃ W, W = w.alloc (.cells #[.int .i64 gr.p, .int .i64 gr.q, .int .i64 gr.g] 39) := ⟨_, rfl⟩
    have HB : Hid (Below w.heap.size w W) := by unfold Hid; rw [hW]; (repeat (first | exact Below.refl _ _ | assumption | refine Below.drew ?_ | refine Below.alloc ?_ (by first | (simp; done) | (simp; omega)) _ | refine Below.setCell ?_ (by first | (simp; done) | (simp; omega)) _))
    have c0_0 : W.cell? ⟨w.heap.size, 0, none⟩ = some (.int .i64 gr.p) := by rw [hW]; simp [go_sem]
    have c0_1 : W.cell? ⟨w.heap.size, 1, none⟩ = some (.int .i64 gr.q) := by rw [hW]; simp [go_sem]
    have c0_2 : W.cell? ⟨w.heap.size, 2, none⟩ = some (.int .i64 gr.g) := by rw [hW]; simp [go_sem]
    have HSW : Hid (W.heap.size = w.heap.size + 1) := by unfold Hid; rw [hW]; simp
    go_enter Try.func29, Try.ntmps29
    go_wp2_with fail
    rw [← hW]
    clear hW
    have hc : Below W.heap.size W W := Below.refl _ _
    go_wp2_with fail
    refine (spec_eKey gr key _ hkey).mono ?_
    rintro e u1 ⟨rfl, hq1⟩
    replace hc := Below.next hc hq1
    replace c0_0 := box_at c0_0 hq1
    replace c0_1 := box_at c0_1 hq1
    replace c0_2 := box_at c0_2 hq1
    clear hq1
    rw [Hhc1.out]
    go_wp2_with fail
    go_ret2
    exact ⟨.slice none 0 0, rfl, RdR.nil _ _, HB.out.trans (hc.mono HB.out.size)⟩
  | true =>
    have HGK := hc1
    rw [Bool.and_eq_true] at HGK
    have HG := Lib.hid (goodG_ok HGK.1)
    have Hk := Lib.hid HGK.2
    clear HGK
    cases hc2 : cisB gr l with
    | false =>
      have HVB : Hid (raB gr key l rs = false) := by unfold Hid; simp [raB, hc1, hc2]
      rw [HVB.out]
      have Hhc1 := Lib.hid hc1
      clear hc1
      have Hhc2 := Lib.hid hc2
      clear hc2
      obtain ⟨W, hW⟩ : ∃ W, W = w.alloc (.cells #[.int .i64 gr.p, .int .i64 gr.q, .int .i64 gr.g] 39) := ⟨_, rfl⟩
      have HB : Hid (Below w.heap.size w W) := by unfold Hid; rw [hW]; (repeat (first | exact Below.refl _ _ | assumption | refine Below.drew ?_ | refine Below.alloc ?_ (by first | (simp; done) | (simp; omega)) _ | refine Below.setCell ?_ (by first | (simp; done) | (simp; omega)) _))
      have c0_0 : W.cell? ⟨w.heap.size, 0, none⟩ = some (.int .i64 gr.p) := by rw [hW]; simp [go_sem]
      have c0_1 : W.cell? ⟨w.heap.size, 1, none⟩ = some (.int .i64 gr.q) := by rw [hW]; simp [go_sem]
      have c0_2 : W.cell? ⟨w.heap.size, 2, none⟩ = some (.int .i64 gr.g) := by rw [hW]; simp [go_sem]
      have HSW : Hid (W.heap.size = w.heap.size + 1) := by unfold Hid; rw [hW]; simp
      go_enter Try.func29, Try.ntmps29
      go_wp2_with fail
      rw [← hW]
      clear hW
      have hc : Below W.heap.size W W := Below.refl _ _
      go_wp2_with fail
      refine (spec_eKey gr key _ hkey).mono ?_
      rintro e u1 ⟨rfl, hq1⟩
      replace hc := Below.next hc hq1
      replace c0_0 := box_at c0_0 hq1
      replace c0_1 := box_at c0_1 hq1
      replace c0_2 := box_at c0_2 hq1
      clear hq1
      rw [Hhc1.out]
      go_wp2_with fail
      refine (spec_eGoodC gr _ l _ HG.out (Hv.out.below (HB.out.trans (hc.mono HB.out.size)))).mono ?_
      rintro e u2 ⟨rfl, hq2⟩
      replace hc := Below.next hc hq2
      replace c0_0 := box_at c0_0 hq2
      replace c0_1 := box_at c0_1 hq2
      replace c0_2 := box_at c0_2 hq2
      clear hq2
      rw [Hhc2.out]
      go_wp2_with fail
      go_ret2
      exact ⟨.slice none 0 0, rfl, RdR.nil _ _, HB.out.trans (hc.mono HB.out.size)⟩
    | true =>
      have Hl := Lib.hid hc2
      cases hc3 : ((v2n : Int) != (vn : Int)) with
      | false =>
        have HLN : Hid (decide (rs.length = l.length) = true) := by have e1 := Ev2.out; have e2 := Ev.out; have q : (v2n : Int) = vn := (by simpa using hc3); exact decide_eq_true (by omega)
        have HLE : Hid (rs.length = l.length) := by unfold Hid; exact of_decide_eq_true HLN.out
        cases hc4 : rs.all (expB gr) with
        | false =>
          have HVB : Hid (raB gr key l rs = false) := by unfold Hid; simp [raB, hc1, hc2, hc3, hc4, HLN.out]
          rw [HVB.out]
          have Hhc1 := Lib.hid hc1
          clear hc1
          have Hhc2 := Lib.hid hc2
          clear hc2
          have Hhc4 := Lib.hid hc4
          clear hc4
          obtain ⟨W, hW⟩ : ∃ W, W = w.alloc (.cells #[.int .i64 gr.p, .int .i64 gr.q, .int .i64 gr.g] 39) := ⟨_, rfl⟩
          have HB : Hid (Below w.heap.size w W) := by unfold Hid; rw [hW]; (repeat (first | exact Below.refl _ _ | assumption | refine Below.drew ?_ | refine Below.alloc ?_ (by first | (simp; done) | (simp; omega)) _ | refine Below.setCell ?_ (by first | (simp; done) | (simp; omega)) _))
          have c0_0 : W.cell? ⟨w.heap.size, 0, none⟩ = some (.int .i64 gr.p) := by rw [hW]; simp [go_sem]
          have c0_1 : W.cell? ⟨w.heap.size, 1, none⟩ = some (.int .i64 gr.q) := by rw [hW]; simp [go_sem]
          have c0_2 : W.cell? ⟨w.heap.size, 2, none⟩ = some (.int .i64 gr.g) := by rw [hW]; simp [go_sem]
          have HSW : Hid (W.heap.size = w.heap.size + 1) := by unfold Hid; rw [hW]; simp
          go_enter Try.func29, Try.ntmps29
          go_wp2_with fail
          rw [← hW]
          clear hW
          have hc : Below W.heap.size W W := Below.refl _ _
          go_wp2_with fail
          refine (spec_eKey gr key _ hkey).mono ?_
          rintro e u1 ⟨rfl, hq1⟩
          replace hc := Below.next hc hq1
          replace c0_0 := box_at c0_0 hq1
          replace c0_1 := box_at c0_1 hq1
          replace c0_2 := box_at c0_2 hq1
          clear hq1
          rw [Hhc1.out]
          go_wp2_with fail
          refine (spec_eGoodC gr _ l _ HG.out (Hv.out.below (HB.out.trans (hc.mono HB.out.size)))).mono ?_
          rintro e u2 ⟨rfl, hq2⟩
          replace hc := Below.next hc hq2
          replace c0_0 := box_at c0_0 hq2
          replace c0_1 := box_at c0_1 hq2
          replace c0_2 := box_at c0_2 hq2
          clear hq2
          rw [Hhc2.out]
          go_wp2_with fail
          refine (spec_gExps gr _ rs _ HG.out (Hv2.out.below (HB.out.trans (hc.mono HB.out.size)))).mono ?_
          rintro e u3 ⟨rfl, hq3⟩
          replace hc := Below.next hc hq3
          replace c0_0 := box_at c0_0 hq3
          replace c0_1 := box_at c0_1 hq3
          replace c0_2 := box_at c0_2 hq3
          clear hq3
          rw [Hhc4.out]
          go_wp2_with fail
          go_ret2
          exact ⟨.slice none 0 0, rfl, RdR.nil _ _, HB.out.trans (hc.mono HB.out.size)⟩
        | true =>
          have HVB : Hid (raB gr key l rs = true) := by unfold Hid; simp [raB, hc1, hc2, hc3, hc4, HLN.out]
          rw [HVB.out]
          have Hhc1 := Lib.hid hc1
          clear hc1
          have Hhc2 := Lib.hid hc2
          clear hc2
          have Hhc4 := Lib.hid hc4
          clear hc4
          obtain ⟨W, hW⟩ : ∃ W, W = w.alloc (.cells #[.int .i64 gr.p, .int .i64 gr.q, .int .i64 gr.g] 39) := ⟨_, rfl⟩
          have HB : Hid (Below w.heap.size w W) := by unfold Hid; rw [hW]; (repeat (first | exact Below.refl _ _ | assumption | refine Below.drew ?_ | refine Below.alloc ?_ (by first | (simp; done) | (simp; omega)) _ | refine Below.setCell ?_ (by first | (simp; done) | (simp; omega)) _))
          have c0_0 : W.cell? ⟨w.heap.size, 0, none⟩ = some (.int .i64 gr.p) := by rw [hW]; simp [go_sem]
          have c0_1 : W.cell? ⟨w.heap.size, 1, none⟩ = some (.int .i64 gr.q) := by rw [hW]; simp [go_sem]
          have c0_2 : W.cell? ⟨w.heap.size, 2, none⟩ = some (.int .i64 gr.g) := by rw [hW]; simp [go_sem]
          have HSW : Hid (W.heap.size = w.heap.size + 1) := by unfold Hid; rw [hW]; simp
          go_enter Try.func29, Try.ntmps29
          go_wp2_with fail
          rw [← hW]
          clear hW
          have hc : Below W.heap.size W W := Below.refl _ _
          go_wp2_with fail
          refine (spec_eKey gr key _ hkey).mono ?_
          rintro e u1 ⟨rfl, hq1⟩
          replace hc := Below.next hc hq1
          replace c0_0 := box_at c0_0 hq1
          replace c0_1 := box_at c0_1 hq1
          replace c0_2 := box_at c0_2 hq1
          clear hq1
          rw [Hhc1.out]
          go_wp2_with fail
          refine (spec_eGoodC gr _ l _ HG.out (Hv.out.below (HB.out.trans (hc.mono HB.out.size)))).mono ?_
          rintro e u2 ⟨rfl, hq2⟩
          replace hc := Below.next hc hq2
          replace c0_0 := box_at c0_0 hq2
          replace c0_1 := box_at c0_1 hq2
          replace c0_2 := box_at c0_2 hq2
          clear hq2
          rw [Hhc2.out]
          go_wp2_with fail
          refine (spec_gExps gr _ rs _ HG.out (Hv2.out.below (HB.out.trans (hc.mono HB.out.size)))).mono ?_
          rintro e u3 ⟨rfl, hq3⟩
          replace hc := Below.next hc hq3
          replace c0_0 := box_at c0_0 hq3
          replace c0_1 := box_at c0_1 hq3
          replace c0_2 := box_at c0_2 hq3
          clear hq3
          rw [Hhc4.out]
          go_wp2_with fail
          have HC := Lib.hid hc
          have C0 := Lib.hid c0_0
          have C1 := Lib.hid c0_1
          have C2 := Lib.hid c0_2
          clear hc c0_0 c0_1 c0_2
          have HU := Lib.hid (OwnC.nil u3 _ : OwnC _ u3.heap.size (.slice none 0 0) ((reL gr key l rs).take 0))
          have HUB := Lib.hid (Below.refl _ _ : Below u3.heap.size u3 _)
          go_loopg [10, 38] vn (fun gh ov iv wr => ∃ k : Nat, k + gh = vn ∧ iv = .int .i64 k ∧ OwnC wr u3.heap.size ov ((reL gr key l rs).take k) ∧ Below u3.heap.size u3 wr)
          case atStart => exact ⟨0, by omega, rfl, HU.out, HUB.out⟩
          case round =>
            obtain ⟨k, hkg, rfl, hown, hbu⟩ := hrel
            clear HU HUB
            obtain ⟨oa, on, oc, rfl⟩ := hown.shape
            have HOW := Lib.hid hown
            clear hown
            have HBU := Lib.hid hbu
            clear hbu
            have HBW := Lib.hid (HB.out.trans ((Below.next HC.out HBU.out).mono HB.out.size))
            by_cases hlt : k < vn
            · have HK : Hid (k < l.length) := by unfold Hid; have := Ev.out; omega
              have HK2 : Hid (k < rs.length) := by unfold Hid; rw [HLE.out]; exact HK.out
              have HS := Lib.hid (reL_succ (gr := gr) (key := key) HK.out HK2.out)
              have HLEN : Hid (((reL gr key l rs).take k).length ≤ 100000000) := by have h := Hl.out; unfold cisB at h; rw [Bool.and_eq_true, decide_eq_true_iff] at h; have h1 := h.1; have h2 := List.length_take_le k (reL gr key l rs); have h3 := HK.out; unfold Hid; omega
              have HSX : Hid (SmallC (l[k]'HK.out)) := cisB_small HG.out Hl.out _ (List.getElem_mem _)
              have HCX : Hid (ciB gr (l[k]'HK.out) = true) := by have h := Hl.out; unfold cisB at h; rw [Bool.and_eq_true] at h; exact List.all_eq_true.1 h.2 _ (List.getElem_mem _)
              have HEX := Lib.hid (Hv2.out.all.at_ k)
              have hb := HBW.out
              obtain ⟨b_x, o_x, rfl, hcx⟩ := Hv.out.at_ (by omega)
              obtain ⟨us, hcell, hrd⟩ := hcx k HK.out
              clear hcx
              generalize l[k]'HK.out = x at hrd HS HSX HCX
              obtain ⟨ers, jx_0, jx_1⟩ := rdCipher.1 ⟨us, rfl, hrd⟩
              obtain rfl : us = [.int .i64 x.a, .int .i64 x.b] := by have h := Value.agg.inj ers; simpa using congrArg Array.toList h
              clear ers hrd
              have y_x_0 : wr.cell? ⟨b_x, o_x + k * 2, none⟩ = some (.int .i64 x.a) := box_at (hcell 0 (by decide)) hb
              have y_x_1 : wr.cell? ⟨b_x, o_x + k * 2 + 1, none⟩ = some (.int .i64 x.b) := box_at (hcell 1 (by decide)) hb
              clear hcell
              have HR_x := Lib.hid ((kS rCipher).rd_below (rdCipher.2 ⟨rfl, jx_0, jx_1⟩ : (kS rCipher).rd w (.agg #[.int .i64 x.a, .int .i64 x.b]) x) hb)
              have J_x_0 := Lib.hid jx_0
              have J_x_1 := Lib.hid jx_1
              clear jx_0 jx_1
              obtain ⟨bk2, oo2, rfl, hcx2⟩ := (Hv2.out.below hb).at_ (by have := Ev2.out; have := HK2.out; omega)
              have hy2 := hcx2 k (by have := Ev2.out; have := HK2.out; omega)
              clear hcx2
              generalize nth rs k = y at hy2 HS HEX
              have b0 : (0 : Int) ≤ (k : Int) := by omega
              have b1 : (k : Int) < (v2n : Int) := by have := Ev2.out; have := HK2.out; omega
              have hwk : IntKind.i64.wrap ((k : Int) + 1) = (k : Int) + 1 := IntWalk.i64_in _ (by have := Kv.out.1; have := Kv.out.2; unfold maxLen at this; omega)
              clear hb
              obtain ⟨V, hV⟩ : ∃ V, V = wr.alloc (.cells #[.int .i64 x.a, .int .i64 x.b] 58) := ⟨_, rfl⟩
              have hc : Below wr.heap.size wr V := by rw [hV]; exact (Below.refl _ _).alloc (Nat.le_refl _) _
              have hcV : Below u3.heap.size u3 V := Below.next HBU.out hc
              have c0_0 := box_at C0.out hcV
              have c0_1 := box_at C1.out hcV
              have c0_2 := box_at C2.out hcV
              clear hcV
              have c2_0 : V.cell? ⟨wr.heap.size, 0, none⟩ = some (.int .i64 x.a) := by rw [hV]; simp [go_sem]
              have c2_1 : V.cell? ⟨wr.heap.size, 1, none⟩ = some (.int .i64 x.b) := by rw [hV]; simp [go_sem]
              have c3_0 := box_at hy2 hc
              go_wp2_with fail
              rw [← hV]
              clear hV
              try (go_wp2_with fail)
              refine wp_region_noPanic ?_
              refine wp_region_P (fun w' => w'.cell? ⟨w.heap.size, 0, none⟩ = some (.int .i64 gr.p) ∧ w'.cell? ⟨w.heap.size, 1, none⟩ = some (.int .i64 gr.q) ∧ w'.cell? ⟨w.heap.size, 2, none⟩ = some (.int .i64 gr.g) ∧ w'.cell? ⟨wr.heap.size, 0, none⟩ = some (.int .i64 x.a) ∧ w'.cell? ⟨wr.heap.size, 1, none⟩ = some (.int .i64 x.b) ∧ w'.cell? ⟨bk2, oo2 + k, none⟩ = some (.int .i64 y)) 14 [(0, []), (1, []), (2, []), (3, []), (4, []), (5, []), (6, [1, 0]), (7, [0]), (8, [6, 5, 4, 0]), (9, [0])] [10, 11] (by kernel_rfl) (by kernel_rfl) (by kernel_rfl) rfl (fun _ _ _ _ h => h) (fun w' h => ⟨box_at c0_0 h, box_at c0_1 h, box_at c0_2 h, box_at c2_0 h, box_at c2_1 h, box_at c3_0 h⟩) ?_
              simp only [pickP, pickN, List.getElem?_cons_zero, List.getElem?_cons_succ]
              -- 0: move t10
              refine' chainP_read (d := (some 43)) _ rfl rfl (fun w' hS' => ?_) ?_; rotate_left
              · simp only [lookP, allP, Act.put, List.getElem?_cons_zero, List.getElem?_cons_succ, List.setIfInBounds_toArray, List.set_cons_zero, List.set_cons_succ]
                (try dsimp only at hS')
                go_simp
                (try with_reducible rfl)
              -- 1: load 39 t4
              refine' chainP_read (d := (some 44)) _ rfl rfl (fun w' hS' => ?_) ?_; rotate_left
              · simp only [lookP, allP, Act.put, List.getElem?_cons_zero, List.getElem?_cons_succ, List.setIfInBounds_toArray, List.set_cons_zero, List.set_cons_succ]
                (try dsimp only at hS')
                go_simp
                (try with_reducible rfl)
              -- 2: move t1
              refine' chainP_read (d := (some 45)) _ rfl rfl (fun w' hS' => ?_) ?_; rotate_left
              · simp only [lookP, allP, Act.put, List.getElem?_cons_zero, List.getElem?_cons_succ, List.setIfInBounds_toArray, List.set_cons_zero, List.set_cons_succ]
                (try dsimp only at hS')
                go_simp
                (try with_reducible rfl)
              -- 3: load 58 t12
              refine' chainP_read (d := (some 46)) _ rfl rfl (fun w' hS' => ?_) ?_; rotate_left
              · simp only [lookP, allP, Act.put, List.getElem?_cons_zero, List.getElem?_cons_succ, List.setIfInBounds_toArray, List.set_cons_zero, List.set_cons_succ]
                (try dsimp only at hS')
                go_simp
                (try with_reducible rfl)
              -- 4: move t3
              refine' chainP_read (d := (some 47)) _ rfl rfl (fun w' hS' => ?_) ?_; rotate_left
              · simp only [lookP, allP, Act.put, List.getElem?_cons_zero, List.getElem?_cons_succ, List.setIfInBounds_toArray, List.set_cons_zero, List.set_cons_succ]
                (try dsimp only at hS')
                go_simp
                (try with_reducible rfl)
              -- 5: move t11
              refine' chainP_read (d := (some 48)) _ rfl rfl (fun w' hS' => ?_) ?_; rotate_left
              · simp only [lookP, allP, Act.put, List.getElem?_cons_zero, List.getElem?_cons_succ, List.setIfInBounds_toArray, List.set_cons_zero, List.set_cons_succ]
                (try dsimp only at hS')
                go_simp
                (try with_reducible rfl)
              -- 6: indexAddr 24 t47 t48
              refine' chainP_read (d := (some 49)) _ rfl rfl (fun w' hS' => ?_) ?_; rotate_left
              · simp only [lookP, allP, Act.put, List.getElem?_cons_zero, List.getElem?_cons_succ, List.setIfInBounds_toArray, List.set_cons_zero, List.set_cons_succ]
                (try dsimp only at hS')
                go_simp
                (try with_reducible rfl)
              -- 7: load 3 t49
              refine' chainP_read (d := (some 50)) _ rfl rfl (fun w' hS' => ?_) ?_; rotate_left
              · simp only [lookP, allP, Act.put, List.getElem?_cons_zero, List.getElem?_cons_succ, List.setIfInBounds_toArray, List.set_cons_zero, List.set_cons_succ]
                (try dsimp only at hS')
                go_simp
                (try with_reducible rfl)
              -- 8: call { callee := value (func 145), args := #[t44, t45, t46, t50], argTypes := #[39, 3, 58, 3] }
              refine chainP_call (d := (some 51)) (.agg #[.int .i64 ((reC gr key x y).a), .int .i64 ((reC gr key x y).b)]) rfl rfl (fun w' hS' => ?_) ?_
              · simp only [lookP, allP, Act.put, List.getElem?_cons_zero, List.getElem?_cons_succ, List.setIfInBounds_toArray, List.set_cons_zero, List.set_cons_succ]
                intro K hK
                go_simp
                go_at_call 145
                refine (spec_eRe gr key x y _ HG.out (elB_small HG.out Hk.out) HCX.out HEX.out).mono ?_
                rintro e u ⟨rfl, hq⟩
                exact hK.out _ hq
              -- 9: buildSlice 52 1 #[(0, t51)]
              refine chainP_do (d := (some 52)) (fun v w => RdR rCipher w v [(reC gr key x y)]) (fun v w w' hb h => RdR.below h hb) rfl rfl (fun w' hS' => ?_) ?_
              · simp only [lookP, allP, Act.put, List.getElem?_cons_zero, List.getElem?_cons_succ, List.setIfInBounds_toArray, List.set_cons_zero, List.set_cons_succ]
                intro K hK
                go_simp
                refine hK.out _ _ ((Below.refl _ _).alloc (Nat.le_refl _) _) ?_
                exact RdC.lit w' (l := [(reC gr key x y)]) (AllCI.cons (SmallC.ci (reC_small HG.out _ _ _)) AllCI.nil) rfl 1 rfl (by unfold maxLen; omega)
              refine chainP_nil (fun u1 hS' => ?_)
              simp only [allP, Act.put, List.setIfInBounds_toArray, List.set_cons_zero, List.set_cons_succ]
              intro x9 hx9
              have hq1 := hS'.1
              clear hS'
              replace hc := Below.next hc hq1
              replace c0_0 := box_at c0_0 hq1
              replace c0_1 := box_at c0_1 hq1
              replace c0_2 := box_at c0_2 hq1
              replace c2_0 := box_at c2_0 hq1
              replace c2_1 := box_at c2_1 hq1
              replace c3_0 := box_at c3_0 hq1
              clear hq1
              clear c0_0 c0_1 c0_2 c2_0 c2_1 c3_0
              have HOU := Lib.hid (HOW.out.below hc)
              have HX9 := Lib.hid hx9
              obtain ⟨xa, xn, xc, rfl⟩ := hx9.shape
              clear hx9
              have HWU := Lib.hid (Below.next HBU.out hc)
              have HCC := Lib.hid hc
              clear hc
              go_wp2_with (at_builtin; refine wpList_append_C rfl _ _ rfl HOU.out rfl rfl HX9.out HWU.out.size (by have := HLEN.out; simp only [List.length_cons, List.length_nil]; omega) ?_; intro v2' w2 hown2 hgr2)
              have HO2 := Lib.hid hown2
              have HG2 := Lib.hid hgr2
              clear hown2 hgr2
              go_wp2_with fail
              refine NoPanic.normal ?_
              go_wp2_with fail
              go_roundg (vn - (k + 1))
              case measure => omega
              case rel => exact ⟨k + 1, by omega, by go_num, by rw [HS.out]; exact HO2.out, HWU.out.trans HG2.out⟩
            · obtain rfl : vn = k := by omega
              have HFL : Hid ((reL gr key l rs).take vn = reL gr key l rs) := by unfold Hid; rw [List.take_of_length_le (by rw [reL_length HLE.out, Ev.out]; exact Nat.le_refl _)]
              go_wp2_with fail
              go_ret2
              exact ⟨_, rfl, by rw [← HFL.out]; exact HOW.out.rd, HBW.out⟩
      | true =>
        have HLN : Hid (decide (rs.length = l.length) = false) := by have e1 := Ev2.out; have e2 := Ev.out; have q : (v2n : Int) ≠ vn := (by simpa using hc3); exact decide_eq_false (by omega)
        have HVB : Hid (raB gr key l rs = false) := by unfold Hid; simp [raB, hc1, hc2, hc3, HLN.out]
        rw [HVB.out]
        have Hhc1 := Lib.hid hc1
        clear hc1
        have Hhc2 := Lib.hid hc2
        clear hc2
        obtain ⟨W, hW⟩ : ∃ W, W = w.alloc (.cells #[.int .i64 gr.p, .int .i64 gr.q, .int .i64 gr.g] 39) := ⟨_, rfl⟩
        have HB : Hid (Below w.heap.size w W) := by unfold Hid; rw [hW]; (repeat (first | exact Below.refl _ _ | assumption | refine Below.drew ?_ | refine Below.alloc ?_ (by first | (simp; done) | (simp; omega)) _ | refine Below.setCell ?_ (by first | (simp; done) | (simp; omega)) _))
        have c0_0 : W.cell? ⟨w.heap.size, 0, none⟩ = some (.int .i64 gr.p) := by rw [hW]; simp [go_sem]
        have c0_1 : W.cell? ⟨w.heap.size, 1, none⟩ = some (.int .i64 gr.q) := by rw [hW]; simp [go_sem]
        have c0_2 : W.cell? ⟨w.heap.size, 2, none⟩ = some (.int .i64 gr.g) := by rw [hW]; simp [go_sem]
        have HSW : Hid (W.heap.size = w.heap.size + 1) := by unfold Hid; rw [hW]; simp
        go_enter Try.func29, Try.ntmps29
        go_wp2_with fail
        rw [← hW]
        clear hW
        have hc : Below W.heap.size W W := Below.refl _ _
        go_wp2_with fail
        refine (spec_eKey gr key _ hkey).mono ?_
        rintro e u1 ⟨rfl, hq1⟩
        replace hc := Below.next hc hq1
        replace c0_0 := box_at c0_0 hq1
        replace c0_1 := box_at c0_1 hq1
        replace c0_2 := box_at c0_2 hq1
        clear hq1
        rw [Hhc1.out]
        go_wp2_with fail
        refine (spec_eGoodC gr _ l _ HG.out (Hv.out.below (HB.out.trans (hc.mono HB.out.size)))).mono ?_
        rintro e u2 ⟨rfl, hq2⟩
        replace hc := Below.next hc hq2
        replace c0_0 := box_at c0_0 hq2
        replace c0_1 := box_at c0_1 hq2
        replace c0_2 := box_at c0_2 hq2
        clear hq2
        rw [Hhc2.out]
        go_wp2_with fail
        go_ret2
        exact ⟨.slice none 0 0, rfl, RdR.nil _ _, HB.out.trans (hc.mono HB.out.size)⟩
end Go.Proofs.Ytboahnklilmdpaa
