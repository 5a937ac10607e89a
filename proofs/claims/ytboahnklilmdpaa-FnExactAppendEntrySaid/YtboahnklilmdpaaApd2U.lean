/- Walks: slices.Grow, slices.Concat of slices of entries; append of a row of structs, nil or not. -/
import Derived.Test.YtboahnklilmdpaaFrU
import Derived.Lib.AppendZeros
namespace Go.Proofs.Ytboahnklilmdpaa
open Go.RowKit
set_option linter.unusedSimpArgs false
set_option linter.unusedVariables false

theorem wpList_append_FrD {δ : Type} {e : TypeId} {R : RowK δ} {w0 w : World} {B : Nat} {v : Value} {ds es : List δ} {P : Program} (ts : TypeId) (i : TypeInfo) (z : Value) (ht : P.underlying ts = some (.slice e)) (hi' : P.info? e = some i) (hz : i.zero = some z) (hsz : i.size = R.width) (hby : i.bytes ≤ 1000) (hzs : z.cells.size = R.width) (hpos : 0 < R.width)
    {ops : Array Oper} {rest : List Oper} {o : Oper} {ac : Act} {Q : Exit → Act → World → Prop} (hgd : o.guard = none) (s y : Operand)
    (ho : o.op = .call { callee := .builtin .append, args := #[s, y], argTypes := #[ts, ts] })
    (hown : FrR e R w0 w B v ds) {u : Value} (hs : ac.eval s = v) (hy : ac.eval y = u) (hrd : RdR R w0 u es) (hbw : Below w0.heap.size w0 w) (hB : B ≤ w.heap.size) (hlen : ds.length + es.length ≤ 1000000000)
    (hK : ∀ v' w', FrR e R w0 w' B v' (ds ++ es) → Below B w w' → wpList P ops Q rest (ac.put o.dst v') w') : wpList P ops Q (o :: rest) ac w := by
  obtain ⟨a, n, c, rfl⟩ := hrd.shape
  cases a with
  | none =>
    have hn := hrd.len
    have h0 : n = 0 := by
      rcases Nat.eq_zero_or_pos n with h | h
      · exact h
      · obtain ⟨b, o, hc, _⟩ := hrd.at_ h
        cases hc
    have hc : c = 0 := by
      obtain ⟨a, n', c', e, _, _, _, h⟩ := hrd
      rcases h with ⟨_, _, h⟩ | ⟨ad, h, _⟩ | ⟨b, o, h, _⟩
      · cases e; exact h
      · cases e; cases h
      · cases e; cases h
    subst h0; subst hc
    have : es = [] := List.eq_nil_of_length_eq_zero hn
    subst this
    obtain ⟨css, hl, hO, hel⟩ := hown
    have hr := run_append_owned_none (P := P) (w := w) B ts o.type e i R.width ht hi' v ds.length css.flatten hO
    refine wpList_plain hgd fun K hK' => ?_
    unfold Oper.wp execOp
    simp only [ho, resolve, invoke, builtin, Sem.run_bind, Sem.run_pure, Result.andThen_ok, List.map_toArray, List.map_cons, List.map_nil, hs, hy, hr]
    exact hK' _ _ (hK v w (by rw [List.append_nil]; exact ⟨css, hl, hO, hel⟩) (Below.refl _ _))
  | some ad =>
    obtain ⟨css, h1, h2, h3⟩ := rows_of_RdR hrd
    exact wpList_append_Fr ts i z ht hi' hz hsz hby hzs hpos hgd s y ho hown ad n c css hs hy h1 hrd.len (fun j u hu => (hbw.cell (p := ad.add j) (World.block_lt_of_cell? w0 _ (h2 j u hu))).trans (h2 j u hu)) h3 hB hlen hK
/-- a slice of entries as a row of one cell; the entries are read in a world of before -/
def rLE (w0 : World) : RowK (List EntryD) where
  width := 1
  rd _ vs d := ∃ v, vs = [v] ∧ RdR rEntry w0 v d
  own _ _ _ vs d := ∃ v, vs = [v] ∧ RdR rEntry w0 v d
  rd_len := by rintro w vs d ⟨v, rfl, _⟩; rfl
  rd_one := by
    rintro w vs d ⟨v, rfl, h⟩ x hx
    rw [List.mem_singleton.1 hx]
    obtain ⟨a, n, c, rfl⟩ := h.shape
    rfl
  rd_below h _ := h
  own_rd h := h
  own_frame h _ := h
  own_mono h _ _ := h
set_option maxHeartbeats 1000000 in
theorem slices_GrowE_nil (n : Nat) (w0 w : World) (hn : n ≤ 2000000) :
    Calls Try.prog 304 #[.slice none 0 0, .int .i64 n] w fun e w' => ∃ v', e = .returned v' ∧ FrR 44 rEntry w0 w' w.heap.size v' [] ∧ Below w.heap.size w w' := by
  by_cases h0 : n = 0
  · subst h0
    go_enter Try.func304, Try.ntmps304
    go_wp2_with fail
    go_ret
    exact ⟨_, rfl, FrR.nil _ _ _ _ _, Below.refl _ _⟩
  · obtain ⟨i, hi, hz, hsz, hby⟩ := info_Entry
    have hp : 0 < n := by omega
    have hnb : n * i.bytes ≤ 281474976710656 := by
      have : n * i.bytes ≤ 2000000 * 1000 := Nat.mul_le_mul hn hby
      omega
    have hr := fun ty => Lib.run_append_nil_zeros (P := Try.prog) (ty := ty) w 34 3 44 i (.agg #[.int .i64 0, .int .i64 0, .slice none 0 0, .slice none 0 0, .slice none 0 0, .slice none 0 0]) .i64 .i64 Try.underlying34 Try.underlying3 hi hz n hp (by omega) (by omega) hnb
    have hge := grownCap_ge w n 0 44
    have hle := grownCap_le_maxLen w n 0 44 (by unfold maxLen; omega)
    obtain ⟨cp, hcp⟩ : ∃ cp, grownCap w n 0 44 = cp := ⟨_, rfl⟩
    rw [hcp] at hr hge hle
    clear hcp
    obtain ⟨Z, hZ⟩ : ∃ Z, Z = (Builtin.zeroCells (Value.agg #[.int .i64 0, .int .i64 0, .slice none 0 0, .slice none 0 0, .slice none 0 0, .slice none 0 0]).cells n ++ Builtin.zeroCells (Value.agg #[.int .i64 0, .int .i64 0, .slice none 0 0, .slice none 0 0, .slice none 0 0, .slice none 0 0]).cells (cp - n)) := ⟨_, rfl⟩
    have hO : Hid (FrR 44 rEntry w0 (w.drew.alloc (.cells Z 44)) w.heap.size (.slice (some ⟨w.heap.size, 0, none⟩) 0 cp) []) := by
      suffices h0 : World.ownsRow (w.drew.alloc (.cells Z 44)) w.heap.size 44 6 (.slice (some ⟨w.heap.size, 0, none⟩) 0 cp) 0 [] from ⟨[], rfl, h0, fun i h1 _ => by simp at h1⟩
      refine World.ownsRow_made (w := w.drew) _ cp (Nat.le_refl _) hle ?_
      rw [hZ, Array.size_append, size_zeroCells, size_zeroCells]
      have : (Value.agg #[.int .i64 0, .int .i64 0, .slice none 0 0, .slice none 0 0, .slice none 0 0, .slice none 0 0]).cells.size = 6 := rfl
      rw [this]
      omega
    have HB : Hid (Below w.heap.size w (w.drew.alloc (.cells Z 44))) := by unfold Hid; exact (Below.refl _ _).drew.alloc (Nat.le_refl _) _
    have hcm : cp ≤ 9223372036854775807 := by unfold maxLen at hle; omega
    rw [← hZ] at hr
    clear hi hz hsz hby hle hnb hZ
    go_enter Try.func304, Try.ntmps304
    go_wp2_with (at_builtin; refine Lib.wpList_append_run _ rfl _ _ _ _ rfl _ _ rfl rfl _ _ (hr _) ?_)
    go_ret
    exact ⟨_, rfl, hO.out, HB.out⟩
theorem flatten_take_succE {ls : List (List EntryD)} {k : Nat} (h : k < ls.length) : (ls.take (k + 1)).flatten = (ls.take k).flatten ++ ls[k] := by
  rw [List.take_succ_eq_append_getElem h, List.flatten_append]; simp
theorem flatten_take_leE {ls : List (List EntryD)} {k : Nat} : (ls.take k).flatten.length ≤ ls.flatten.length := by
  have h := congrArg List.length (congrArg List.flatten (List.take_append_drop k ls))
  rw [List.flatten_append, List.length_append] at h
  omega
set_option maxRecDepth 100000 in
set_option maxHeartbeats 4000000 in
theorem slices_ConcatE (v : Value) (ls : List (List EntryD)) (w0 w : World) (hw0 : Below w0.heap.size w0 w) (h : RdR (rLE w0) w v ls) (hl : ls.flatten.length ≤ 2000000) :
    Calls Try.prog 252 #[v] w fun e w' => ∃ v', e = .returned v' ∧ FrR 44 rEntry w0 w' w.heap.size v' ls.flatten ∧ Below w.heap.size w w' := by
  obtain ⟨a, n, c, rfl⟩ := h.shape
  have e := h.len
  have HE := Lib.hid e
  obtain ⟨k1, k2⟩ := h.capMax
  unfold maxLen at k2
  have HT : Hid (ls.flatten.length ≤ 2000000) := hl
  have H := Lib.hid h; clear h e hl
  obtain ⟨ti, hti, htz, hts, htb⟩ := info_Entry
  have HI := Lib.hid (show _ ∧ _ ∧ _ ∧ _ from ⟨hti, htz, hts, htb⟩)
  clear hti htz hts htb
  go_enter Try.func252, Try.ntmps252
  go_wp2_with fail
  go_loopg [3, 11] n (fun g q i wr => ∃ (k z : Nat), k + g = n ∧ i = .int .i64 k ∧ q = .int .i64 z ∧ z ≤ 2000000 ∧ Hid (z = (ls.take k).flatten.length) ∧ w = wr)
  case atStart => exact ⟨0, 0, by omega, rfl, rfl, by omega, by unfold Hid; simp, rfl⟩
  case round =>
    obtain ⟨k, z, hkg, rfl, rfl, hz, hzz, rfl⟩ := hrel
    by_cases hlt : k < n
    · have HK : Hid (k < ls.length) := by unfold Hid; rw [HE.out]; exact hlt
      obtain ⟨b, o, rfl, hcx⟩ := H.out.at_ (by omega)
      obtain ⟨vs, hy, hr⟩ := hcx k HK.out
      obtain ⟨y, rfl, hr⟩ := hr
      replace hy := hy 0 (by show 0 < 1; decide)
      obtain ⟨a2, n2, c2, rfl⟩ := RdR.shape hr
      have hn2 := RdR.len hr
      replace hy : w.cell? ⟨b, o + k, none⟩ = some (.slice a2 n2 c2) := by
        have e1 : o + (k * (rLE w0).width + 0) = o + k := by show o + (k * 1 + 0) = o + k; omega
        rw [← e1]; exact hy
      clear hr hcx
      have hT := congrArg List.length (flatten_take_succE HK.out)
      rw [List.length_append] at hT
      have hT2 := flatten_take_leE (ls := ls) (k := k + 1)
      have hb : z + n2 ≤ 2000000 := by have := HT.out; have := hzz.out; omega
      have HZ : Hid (z + n2 = (ls.take (k + 1)).flatten.length) := by have := hzz.out; unfold Hid; omega
      clear hT hT2 hn2 hzz
      go_wp2_with fail
      go_roundg (n - (k + 1))
      case measure => omega
      case rel => exact ⟨k + 1, z + n2, by omega, by go_num, by go_num, hb, HZ.out, rfl⟩
    · obtain rfl : n = k := by omega
      go_wp2_with fail
      refine (slices_GrowE_nil z w0 _ hz).mono ?_
      rintro e w1 ⟨v1, rfl, hO1, hb1⟩
      have HO1 := Lib.hid hO1; clear hO1
      go_wp2_with fail
      go_loopg [6, 27] n (fun g ov i wr => ∃ k : Nat, k + g = n ∧ i = .int .i64 k ∧ FrR 44 rEntry w0 wr w.heap.size ov ((ls.take k).flatten) ∧ Below w.heap.size w wr)
      case atStart => exact ⟨0, by omega, rfl, HO1.out, hb1⟩
      case round =>
        obtain ⟨k, hkg, rfl, hOwn, hb⟩ := hrel
        have HO := Lib.hid hOwn
        by_cases hlt : k < n
        · have HK : Hid (k < ls.length) := by unfold Hid; rw [HE.out]; exact hlt
          obtain ⟨b, o, rfl, hcx⟩ := H.out.at_ (by omega)
          obtain ⟨vs, hy, hr⟩ := hcx k HK.out
          obtain ⟨y, rfl, hr⟩ := hr
          replace hy := hy 0 (by show 0 < 1; decide)
          obtain ⟨a2, n2, c2, rfl⟩ := RdR.shape hr
          have HRD := Lib.hid hr
          replace hy : w.cell? ⟨b, o + k, none⟩ = some (.slice a2 n2 c2) := by
            have e1 : o + (k * (rLE w0).width + 0) = o + k := by show o + (k * 1 + 0) = o + k; omega
            rw [← e1]; exact hy
          clear hr hcx
          rw [← hb.cell (p := ⟨b, o + k, none⟩) (World.block_lt_of_cell? w _ hy)] at hy
          have HS := Lib.hid (flatten_take_succE HK.out)
          have HL : Hid ((ls.take k).flatten.length + (ls[k]'HK.out).length ≤ 1000000000) := by
            have h1 := congrArg List.length (flatten_take_succE HK.out)
            rw [List.length_append] at h1
            have h2 := flatten_take_leE (ls := ls) (k := k + 1)
            have h3 := HT.out
            unfold Hid; omega
          have hB := hb.size
          have HB := Lib.hid hb; clear hb
          obtain ⟨a3, n3, c3, rfl⟩ := (FrR.rd hOwn (Below.next hw0 HB.out)).shape
          clear hOwn
          go_wp2_with (at_builtin; refine wpList_append_FrD (e := 44) (R := rEntry) (es := ls[k]'HK.out) 34 ti (.agg #[.int .i64 0, .int .i64 0, .slice none 0 0, .slice none 0 0, .slice none 0 0, .slice none 0 0]) Try.underlying34 HI.out.1 HI.out.2.1 HI.out.2.2.1 HI.out.2.2.2 rfl (by decide) rfl _ _ rfl HO.out rfl rfl HRD.out (Below.next hw0 HB.out) hB HL.out ?_; intro v2 w2 hown2 hgr2; rw [← HS.out] at hown2; have HO2 := Lib.hid hown2; clear hown2; have HG2 := Lib.hid hgr2; clear hgr2)
          go_roundg (n - (k + 1))
          case measure => omega
          case rel => exact ⟨k + 1, by omega, by go_num, HO2.out, HB.out.trans HG2.out⟩
        · obtain rfl : n = k := by omega
          have HF : Hid ((ls.take n).flatten = ls.flatten) := by unfold Hid; rw [← HE.out, List.take_length]
          have HB := Lib.hid hb; clear hb
          have HRD := Lib.hid hOwn
          clear hOwn
          go_wp2_with fail
          go_ret
          exact ⟨_, rfl, by rw [← HF.out]; exact HRD.out, HB.out⟩
end Go.Proofs.Ytboahnklilmdpaa
