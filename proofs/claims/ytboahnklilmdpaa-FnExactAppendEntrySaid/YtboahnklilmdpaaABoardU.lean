/- Plain: the size of a board with one more entry. -/
import Derived.Test.YtboahnklilmdpaaApd6U
import Derived.Test.YtboahnklilmdpaaBgU
import Derived.Test.YtboahnklilmdpaaBaU
import Derived.WalkKit
import Derived.ProofKit
import Derived.OpenShut
import Derived.JoinedCond
import Derived.Lib.SmallJoins
import Derived.Deep.Fields
import Derived.Test.YtboahnklilmdpaaBkU
import Derived.Test.YtboahnklilmdpaaKBoardU
namespace Go.Proofs.Ytboahnklilmdpaa
open Go.RowKit

theorem cn_apD (gr : GroupD) (d : BoardD) (e : EntryD) : cnBoard (apD gr d e) ≤ 4 * (szBoard d + szEntry e + 1) := by
  have h := cnBoard_le (apD gr d e)
  suffices hs : szBoard (apD gr d e) ≤ szBoard d + szEntry e + 1 by omega
  unfold apD
  split
  · unfold szBoard szEntryS
    simp only [List.length_append, List.map_append, List.sum_append, List.length_cons, List.length_nil, List.map_cons, List.map_nil, List.sum_cons, List.sum_nil]
    omega
  · unfold szBoard szEntryS
    simp
end Go.Proofs.Ytboahnklilmdpaa
namespace Go.Proofs.Ytboahnklilmdpaa
open Go.RowKit
set_option linter.unusedSimpArgs false
set_option linter.unusedVariables false

set_option maxHeartbeats 1000000 in
theorem laws_toGroup (gr : GroupD) (w : World) :
    Calls Try.prog 18 #[.agg #[.int .i64 gr.p, .int .i64 gr.q, .int .i64 gr.g]] w fun e w' => e = .returned (.agg #[.int .i64 gr.p, .int .i64 gr.q, .int .i64 gr.g]) ∧ Below w.heap.size w w' := by
  obtain ⟨p, q, g⟩ := gr
  go_enter Try.func18, Try.ntmps18
  go_wp2_with fail
  refine bodyPost_ret (v := .agg #[.int .i64 p, .int .i64 q, .int .i64 g]) (by simp [results, Try.results18, go_sem]) rfl ⟨rfl, by (repeat (first | exact Below.refl _ _ | assumption | refine Below.drew ?_ | refine Below.alloc ?_ (by first | (simp; done) | (simp; omega)) _ | refine Below.setCell ?_ (by first | (simp; done) | (simp; omega)) _))⟩
end Go.Proofs.Ytboahnklilmdpaa
/- From a walk of a law to its row: whatever the arguments, the law returns true and nothing that was there has turned. -/







namespace Go.Proofs.Ytboahnklilmdpaa
open Go.ChangeShapes Go.WideShapes Go.ChangeAt Go.RowKit

theorem ownKnob_none : ownKnob Try.prog.godebug = none := by kernel_rfl
theorem laid_out : laidOutB Try.prog = true := by kernel_rfl

section
variable {H : Type} {enc : TypeId × Value → H} {P : Program}

theorem trodAll_below (hl : laidOutB P = true) {W W' : World} (hb : Below W.heap.size W W') :
    ∀ (ts : List TypeId) (vs : List Value) (ds : List (DataW H)) (ps : List MemPlace), (∀ t ∈ ts, P.readableRec t = true ∧ t < P.types.size) →
      DataW.TrodAll enc P W 0 (fun _ => true) true ts vs ds ps → (∀ x ∈ ps, x.block < W.heap.size) →
      ∀ sp : Nat → Bool, (∀ p ∈ ps, sp p.block = true) → DataW.TrodAll enc P W' 0 sp true ts vs ds ps
  | [], vs, ds, ps, _, h, _, sp, _ => by
    obtain ⟨rfl, rfl, rfl⟩ := trodAll_nil h
    exact trodAll_mk0
  | t :: ts, vs, ds, ps, ht, h, hlt, sp, hsp => by
    obtain ⟨v0, vs0, d0, ds0, p0, q0, rfl, rfl, rfl, h0, r0⟩ := trodAll_cons h
    refine trodAll_cons_mk ?_ (trodAll_below hl hb ts vs0 ds0 q0 (fun t' h' => ht t' (by simp [h'])) r0 (fun x hx => hlt x (by simp [hx])) sp (fun x hx => hsp x (by simp [hx])))
    exact WideElems.Trod_stays hl (ht t (by simp)).1 (ht t (by simp)).2 h0 (fun x hx => hb.same (hlt x (by simp [hx]))) (fun x hx => hsp x (by simp [hx]))

theorem post_law {f : Func} {s : ChangeSpec} {tb : TypeId} {W W' : World} {args : Array Value} {ds gs : List (DataW H)} {before : List MemPlace}
    (hl : laidOutB P = true) (hpB : f.params.toList.all (fun t => P.readableRec t && decide (t < P.types.size)) = true) (hrt : f.resultTypes = #[tb]) (htb : P.underlying tb = some .bool)
    (hvars : s.vars = []) (hW : DataW.Whole enc P f.params.toList s.vars false W args.toList ds gs before)
    (hfn : s.fn H ds = { results := [.lit (.bool true)], args := ds }) (hb : Below W.heap.size W W') :
    s.post enc P f false true false false W args (.bool true) W' := by
  have hp : ∀ t ∈ f.params.toList, P.readableRec t = true ∧ t < P.types.size := fun t ht => by simpa using List.all_eq_true.1 hpB t ht
  have hlt : ∀ x ∈ before, x.block < W.heap.size := fun x hx => by simpa using hW.lt x hx
  have hW' := hW
  obtain ⟨p, q, hA0, hV, rfl, hfz, hnd⟩ := hW
  rw [hvars] at hV
  obtain ⟨rfl, rfl⟩ := trodVars_none hV
  have e : s.fn H (ds ++ []) = { results := [.lit (.bool true)], args := ds } := by rw [List.append_nil]; exact hfn
  have hargs := trodAll_below (enc := enc) hl hb f.params.toList args.toList ds p hp hA0 (fun x hx => hlt x (by simp [hx]))
  refine ⟨ds, [], p ++ [], [], p, [], hW', ?_, ?_, ?_, ?_, fun h => by cases h⟩
  · rw [e, hrt]
    exact trodAll_cons_mk (shut_bool htb true) trodAll_mk0
  · rw [e]
    exact hargs _ (fun x hx => by simpa using hlt x (by simp [hx]))
  · rw [e, hvars]
    rfl
  · exact hb.frame _
end


section
variable {H : Type} {enc : TypeId × Value → H} {P : Program} {w : World} {base : Nat} {spare : Nat → Bool} {held : Bool}
open Go.Joins Go.Deep
/-- an integer's cell -/
theorem int_cell {t : TypeId} {k : IntKind} {n : Nat} {v : Value} {y : DataW H × List MemPlace} (ht : P.underlying t = some (.int k)) (h : DataW.trod enc P w base spare held n t [v] = some y) :
    ∃ x : Int, v = .int k x ∧ (Lit.int k x).wf = true := by
  obtain ⟨a, e0, _, wa⟩ := DataW.trod_int ht h
  simp at e0
  exact ⟨a, e0, wa⟩
theorem wf_bd {x : Int} (h : (Lit.int .i64 x).wf = true) : -9223372036854775808 ≤ x ∧ x ≤ 9223372036854775807 := by
  simpa [Lit.wf, IntKind.min, IntKind.max, IntKind.signed, IntKind.bits] using h
end

section
variable {H : Type} {enc : TypeId × Value → H} {w : World} {base : Nat} {spare : Nat → Bool} {held : Bool}
theorem cells_int : Try.prog.cellsOf 3 = 1 := by kernel_rfl
theorem addr_of_cell {w : World} {a : Addr} {v : Value} (h : w.cell? a = some v) : a = ⟨a.block, a.off, none⟩ := by
  obtain ⟨b, o, s⟩ := a
  cases s with
  | none => rfl
  | some x =>
    unfold World.cell? at h
    split at h <;> simp at h
set_option maxRecDepth 100000 in
theorem ints_of_trod {n : Nat} {v : Value} {y : DataW H × List MemPlace} (h : DataW.trod enc Try.prog w base spare held n 24 [v] = some y) : ∃ l, Ints w v l := by
  rcases open_ints Try.underlying24 Try.underlying3 cells_int h with ⟨hcs, _⟩ | ⟨a, len, cap, zs, hcs, _, hl, hm, hz, _, hcell, hwz⟩
  · simp at hcs; subst hcs; exact ⟨[], Ints.nil w⟩
  · simp only [List.cons.injEq, and_true] at hcs; subst hcs
    have hle : len ≤ zs.length := by rw [hz]; split <;> omega
    refine ⟨zs.take len, some a, len, cap, rfl, by simp; omega, hl, hm, fun x hx => wf_bd (hwz x (List.mem_of_mem_take hx)), ?_⟩
    rcases Nat.eq_zero_or_pos len with h0 | h0
    · exact .inr (.inl ⟨a, rfl, h0⟩)
    · have hc0 := hcell 0 (by omega)
      have e : a.add 0 = a := by simp [Addr.add]
      rw [e] at hc0
      have ea := addr_of_cell hc0
      refine .inr (.inr ⟨a.block, a.off, by rw [← ea], fun i hi => ?_⟩)
      have := hcell i (by omega)
      rw [ea, Addr.add_lit] at this
      rw [this]
      have e2 : nth (zs.take len) i = zs.getD i 0 := by
        simp [nth, List.getD, hi]
      rw [e2]
end
end Go.Proofs.Ytboahnklilmdpaa
/- Arguments that are slices of structs. -/


namespace Go.Proofs.Ytboahnklilmdpaa
open Go.ChangeShapes Go.WideShapes Go.ChangeAt Go.RowKit
set_option linter.unusedVariables false

theorem rdR_of {δ : Type} {R : RowK δ} {w : World} {base : Nat} {a : Addr} {len cap : Nat} (hl : len ≤ cap) (hm : cap ≤ maxLen) (h : ∀ i, i < len → ∃ (cs : List Value) (d : δ), w.cells? base (a.add (i * R.width)) R.width = some cs ∧ R.rd w cs d) :
    0 < R.width → ∃ ds, RdR R w (.slice (some a) len cap) ds := by
  intro hpos
  rcases Nat.eq_zero_or_pos len with h0 | h0
  · subst h0
    exact ⟨[], some a, 0, cap, rfl, rfl, hl, hm, .inr (.inl ⟨a, rfl, rfl⟩)⟩
  · have h' : ∀ i : Fin len, ∃ (x : List Value × δ), w.cells? base (a.add (i * R.width)) R.width = some x.1 ∧ R.rd w x.1 x.2 := fun i => by
      obtain ⟨u, d, h1, h2⟩ := h i.1 i.2; exact ⟨(u, d), h1, h2⟩
    let f : Fin len → List Value × δ := fun i => Classical.choose (h' i)
    have hf : ∀ i : Fin len, w.cells? base (a.add (i * R.width)) R.width = some (f i).1 ∧ R.rd w (f i).1 (f i).2 := fun i => Classical.choose_spec (h' i)
    have ea : a = ⟨a.block, a.off, none⟩ := by
      have h1 := (World.cells?_some (hf ⟨0, h0⟩).1).2.2 0 (by omega)
      rw [show ((⟨0, h0⟩ : Fin len) : Nat) = 0 from rfl, Nat.zero_mul] at h1
      have e : (a.add 0).add 0 = a := by simp [Addr.add]
      rw [e, List.getElem?_eq_getElem (by rw [R.rd_len (hf ⟨0, h0⟩).2]; omega)] at h1
      exact addr_of_cell h1
    refine ⟨(List.finRange len).map fun i => (f i).2, some a, len, cap, rfl, by simp, hl, hm, .inr (.inr ⟨a.block, a.off, by rw [← ea], fun i hi => ?_⟩)⟩
    have hi' : i < len := by simpa using hi
    obtain ⟨h1, h2⟩ := hf ⟨i, hi'⟩
    refine ⟨(f ⟨i, hi'⟩).1, fun k hk => ?_, ?_⟩
    · have h3 := (World.cells?_some h1).2.2 k hk
      have e : ∀ (b o x y : Nat), (((⟨b, o, none⟩ : Addr).add x).add y) = ⟨b, o + (x + y), none⟩ := fun b o x y => by rw [Addr.add_lit, Addr.add_lit, Nat.add_assoc]
      rw [← h3, ← e, ← ea]
    · simpa using h2
end Go.Proofs.Ytboahnklilmdpaa
/- Arguments of type laws.Proof (printed by genarg.py). -/


namespace Go.Proofs.Ytboahnklilmdpaa
open Go.ChangeShapes Go.WideShapes Go.ChangeAt Go.RowKit
set_option linter.unusedVariables false
set_option linter.unusedSimpArgs false

section
variable {H : Type} {enc : TypeId × Value → H} {w : World} {base : Nat} {spare : Nat → Bool} {held : Bool}
open Go.Joins Go.Deep
theorem cells_Proof : Try.prog.cellsOf 29 = 3 := by kernel_rfl
theorem cells_Proof_0 : Try.prog.cellsOf 24 = 1 := by kernel_rfl
set_option maxRecDepth 100000 in
theorem opens_Proof {n : Nat} {cs : List Value} {y : DataW H × List MemPlace} (h : DataW.trod enc Try.prog w base spare held n 29 cs = some y) : ∃ d, rProof.rd w cs d := by
  obtain ⟨xs, m, _, _, hl, hlen, hg⟩ := DataW.trod_struct Try.underlying29 h
  rw [cells_Proof] at hl
  match cs, hl, xs, hlen with
  | [c0, c1, c2], _, [y0, y1, y2], _ =>
    have g0 : DataW.trod enc Try.prog w base spare held m 24 [c0] = some y0 := by
      have q := hg 0 _ rfl
      simpa [cells_Proof_0] using q
    obtain ⟨x0, b0⟩ := ints_of_trod g0
    have g1 : DataW.trod enc Try.prog w base spare held m 24 [c1] = some y1 := by
      have q := hg 1 _ rfl
      simpa [cells_Proof_0] using q
    obtain ⟨x1, b1⟩ := ints_of_trod g1
    have g2 : DataW.trod enc Try.prog w base spare held m 24 [c2] = some y2 := by
      have q := hg 2 _ rfl
      simpa [cells_Proof_0] using q
    obtain ⟨x2, b2⟩ := ints_of_trod g2
    exact ⟨⟨x0, x1, x2⟩, ⟨_, _, rfl, b0, ⟨_, _, rfl, b1, ⟨_, _, rfl, b2, rfl⟩⟩⟩⟩
end
end Go.Proofs.Ytboahnklilmdpaa
/- Arguments of type laws.Head (printed by genarg.py). -/



namespace Go.Proofs.Ytboahnklilmdpaa
open Go.ChangeShapes Go.WideShapes Go.ChangeAt Go.RowKit
set_option linter.unusedVariables false
set_option linter.unusedSimpArgs false

section
variable {H : Type} {enc : TypeId × Value → H} {w : World} {base : Nat} {spare : Nat → Bool} {held : Bool}
open Go.Joins Go.Deep
end
end Go.Proofs.Ytboahnklilmdpaa
/- Arguments of type laws.Entry (printed by genarg.py). -/



namespace Go.Proofs.Ytboahnklilmdpaa
open Go.ChangeShapes Go.WideShapes Go.ChangeAt Go.RowKit
set_option linter.unusedVariables false
set_option linter.unusedSimpArgs false

section
variable {H : Type} {enc : TypeId × Value → H} {w : World} {base : Nat} {spare : Nat → Bool} {held : Bool}
open Go.Joins Go.Deep
theorem cells_Entry : Try.prog.cellsOf 31 = 6 := by kernel_rfl
theorem cells_Entry_0 : Try.prog.cellsOf 3 = 1 := by kernel_rfl
theorem cells_Entry_1 : Try.prog.cellsOf 24 = 1 := by kernel_rfl
theorem cells_Entry_2 : Try.prog.cellsOf 29 = 3 := by kernel_rfl
set_option maxRecDepth 100000 in
theorem opens_Entry {n : Nat} {cs : List Value} {y : DataW H × List MemPlace} (h : DataW.trod enc Try.prog w base spare held n 31 cs = some y) : ∃ d, rEntry.rd w cs d := by
  obtain ⟨xs, m, _, _, hl, hlen, hg⟩ := DataW.trod_struct Try.underlying31 h
  rw [cells_Entry] at hl
  match cs, hl, xs, hlen with
  | [c0, c1, c2, c3, c4, c5], _, [y0, y1, y2, y3], _ =>
    have g0 : DataW.trod enc Try.prog w base spare held m 3 [c0] = some y0 := by
      have q := hg 0 _ rfl
      simpa [cells_Entry_0, cells_Entry_1, cells_Entry_2] using q
    obtain ⟨x0, rfl, b0⟩ := int_cell Try.underlying3 g0
    have g1 : DataW.trod enc Try.prog w base spare held m 3 [c1] = some y1 := by
      have q := hg 1 _ rfl
      simpa [cells_Entry_0, cells_Entry_1, cells_Entry_2] using q
    obtain ⟨x1, rfl, b1⟩ := int_cell Try.underlying3 g1
    have g2 : DataW.trod enc Try.prog w base spare held m 24 [c2] = some y2 := by
      have q := hg 2 _ rfl
      simpa [cells_Entry_0, cells_Entry_1, cells_Entry_2] using q
    obtain ⟨x2, b2⟩ := ints_of_trod g2
    have g3 : DataW.trod enc Try.prog w base spare held m 29 [c3, c4, c5] = some y3 := by
      have q := hg 3 _ rfl
      simpa [cells_Entry_0, cells_Entry_1, cells_Entry_2] using q
    obtain ⟨x3, b3⟩ := opens_Proof g3
    exact ⟨⟨x0, x1, x2, x3⟩, ⟨_, rfl, wf_bd b0, ⟨_, rfl, wf_bd b1, ⟨_, _, rfl, b2, b3⟩⟩⟩⟩
set_option maxRecDepth 100000 in
theorem arg_Entry {r : Reach} {b0 : Nat} {v : Value} {d : DataW H} {p : List MemPlace} (hv : Value.okWide Try.prog w r b0 31 v) (h : DataW.Trod enc Try.prog w base spare held 31 v d p) : ∃ d, (kS rEntry).rd w v d := by
  obtain ⟨cs, rfl, hsz⟩ := okWide_struct Try.underlying31 hv
  obtain ⟨fuel, hf⟩ := h
  obtain ⟨d', hd⟩ := opens_Entry (by simpa [Value.cells] using hf)
  exact ⟨d', cs.toList, by simp, hd⟩
set_option maxRecDepth 100000 in
theorem opens_EntryS {n : Nat} {v : Value} {y : DataW H × List MemPlace} (h : DataW.trod enc Try.prog w base spare held n 25 [v] = some y) : ∃ ds, RdR rEntry w v ds := by
  rcases DataW.trod_slice Try.underlying25 h with ⟨hcs, _⟩ | ⟨a, len, cap, elems, rest, m, _, hcs, _, hb, hl, hm, hlen, hel, _, _⟩
  · simp at hcs; subst hcs; exact ⟨[], RdR.nil _ w⟩
  · simp only [List.cons.injEq, and_true] at hcs; subst hcs
    refine rdR_of (R := rEntry) (base := base) hl hm (fun i hi => ?_) (by decide)
    have h1 := hel i hi
    rw [List.getElem?_eq_getElem (by omega), Option.bind_eq_some_iff] at h1
    obtain ⟨cs, h2, h3⟩ := h1
    rw [cells_Entry] at h2
    obtain ⟨d, hd⟩ := opens_Entry h3
    exact ⟨cs, d, h2, hd⟩
end
end Go.Proofs.Ytboahnklilmdpaa
/- Arguments of type laws.Group. -/


namespace Go.Proofs.Ytboahnklilmdpaa
open Go.ChangeShapes Go.WideShapes Go.ChangeAt Go.RowKit
set_option linter.unusedVariables false

section
variable {H : Type} {enc : TypeId × Value → H} {w : World} {base : Nat} {spare : Nat → Bool} {held : Bool}
open Go.Joins Go.Deep
set_option maxRecDepth 100000 in
theorem group_of_arg2 {r : Reach} {b0 : Nat} {v : Value} {d : DataW H} {p : List MemPlace} (hv : Value.okWide Try.prog w r b0 23 v) (h : DataW.Trod enc Try.prog w base spare held 23 v d p) : ∃ gr : GroupD, v = .agg #[.int .i64 gr.p, .int .i64 gr.q, .int .i64 gr.g] ∧ I64 gr.g := by
  obtain ⟨c0, c1, c2, y0, y1, y2, m, rfl, _, _, hy0, hy1, hy2⟩ := open_agg3 Try.underlying23 (by kernel_rfl) (by kernel_rfl) hv h
  obtain ⟨x0, rfl, _⟩ := int_cell Try.underlying3 hy0
  obtain ⟨x1, rfl, _⟩ := int_cell Try.underlying3 hy1
  obtain ⟨x2, rfl, h2⟩ := int_cell Try.underlying3 hy2
  exact ⟨⟨x0, x1, x2⟩, rfl, wf_bd h2⟩
end
end Go.Proofs.Ytboahnklilmdpaa
namespace Go.Proofs.Ytboahnklilmdpaa
open Go.ChangeShapes Go.WideShapes Go.ChangeAt Go.RowKit
set_option linter.unusedVariables false
set_option linter.unusedSimpArgs false

section
variable {H : Type} {enc : TypeId × Value → H} {w : World} {base : Nat} {spare : Nat → Bool} {held : Bool}
open Go.Joins Go.Deep
theorem cells_Board : Try.prog.cellsOf 27 = 2 := by kernel_rfl
theorem cells_Board_0 : Try.prog.cellsOf 24 = 1 := by kernel_rfl
theorem cells_Board_1 : Try.prog.cellsOf 25 = 1 := by kernel_rfl
set_option maxRecDepth 100000 in
theorem opens_Board {n : Nat} {cs : List Value} {y : DataW H × List MemPlace} (h : DataW.trod enc Try.prog w base spare held n 27 cs = some y) : ∃ d, rBoard.rd w cs d := by
  obtain ⟨xs, m, _, _, hl, hlen, hg⟩ := DataW.trod_struct Try.underlying27 h
  rw [cells_Board] at hl
  match cs, hl, xs, hlen with
  | [c0, c1], _, [y0, y1], _ =>
    have g0 : DataW.trod enc Try.prog w base spare held m 24 [c0] = some y0 := by
      have q := hg 0 _ rfl
      simpa [cells_Board_0, cells_Board_1] using q
    obtain ⟨x0, b0⟩ := ints_of_trod g0
    have g1 : DataW.trod enc Try.prog w base spare held m 25 [c1] = some y1 := by
      have q := hg 1 _ rfl
      simpa [cells_Board_0, cells_Board_1] using q
    obtain ⟨x1, b1⟩ := opens_EntryS g1
    exact ⟨⟨x0, x1⟩, ⟨_, _, rfl, b0, ⟨_, _, rfl, b1, rfl⟩⟩⟩
set_option maxRecDepth 100000 in
theorem arg_Board {r : Reach} {b0 : Nat} {v : Value} {d : DataW H} {p : List MemPlace} (hv : Value.okWide Try.prog w r b0 27 v) (h : DataW.Trod enc Try.prog w base spare held 27 v d p) : ∃ d, (kS rBoard).rd w v d := by
  obtain ⟨cs, rfl, hsz⟩ := okWide_struct Try.underlying27 hv
  obtain ⟨fuel, hf⟩ := h
  obtain ⟨d', hd⟩ := opens_Board (by simpa [Value.cells] using hf)
  exact ⟨d', cs.toList, by simp, hd⟩
end
end Go.Proofs.Ytboahnklilmdpaa
