/- Bundle of walks and laws: Law, ArgR, AProof, AHead, AEntry, AGroup. -/
import Derived.Test.YtbcaknmpbkapnaaBa
import Derived.WalkKit
import Derived.ProofKit
import Derived.OpenShut
import Derived.JoinedCond
import Derived.Lib.SmallJoins
import Derived.Deep.Fields
import Derived.Test.YtbcaknmpbkapnaaBk
import Derived.Test.YtbcaknmpbkapnaaBg
/- From a walk of a law to its row: whatever the arguments, the law returns true and nothing that was there has turned. -/







namespace Go.Proofs.Ytbcaknmpbkapnaa
open Go.ChangeShapes Go.WideShapes Go.ChangeAt Go.RowKit

theorem ownKnob_none : ownKnob Try.prog.godebug = none := by kernel_rfl
theorem laid_out : laidOutB Try.prog = true := by kernel_rfl

section
variable {H : Type} {enc : TypeId × Value → H} {P : Program}

theorem trodAll_below (hl : laidOutB P = true) {W W' : World} (hb : Below W.heap.size W W') :
    ∀ (ts : List TypeId) (vs : List Value) (ds : List (DataW H)) (ps : List MemPlace), (∀ t ∈ ts, P.readableRec t = true ∧ t < P.types.size) →
      DataW.TrodAll enc P W 0 (fun _ => true) true ts vs ds ps → (∀ x ∈ ps, x.block < W.heap.size) →
      ∀ sp : Nat → Bool, (∀ p ∈ ps, sp p.block = true) → DataW.TrodAll enc P W' 0 sp true ts vs ds ps
  | [], vs, ds, ps, _, h, _, sp, _ => by
    obtain ⟨rfl, rfl, rfl⟩ := trodAll_nil h
    exact trodAll_mk0
  | t :: ts, vs, ds, ps, ht, h, hlt, sp, hsp => by
    obtain ⟨v0, vs0, d0, ds0, p0, q0, rfl, rfl, rfl, h0, r0⟩ := trodAll_cons h
    refine trodAll_cons_mk ?_ (trodAll_below hl hb ts vs0 ds0 q0 (fun t' h' => ht t' (by simp [h'])) r0 (fun x hx => hlt x (by simp [hx])) sp (fun x hx => hsp x (by simp [hx])))
    exact WideElems.Trod_stays hl (ht t (by simp)).1 (ht t (by simp)).2 h0 (fun x hx => hb.same (hlt x (by simp [hx]))) (fun x hx => hsp x (by simp [hx]))

theorem post_law {f : Func} {s : ChangeSpec} {tb : TypeId} {W W' : World} {args : Array Value} {ds gs : List (DataW H)} {before : List MemPlace}
    (hl : laidOutB P = true) (hpB : f.params.toList.all (fun t => P.readableRec t && decide (t < P.types.size)) = true) (hrt : f.resultTypes = #[tb]) (htb : P.underlying tb = some .bool)
    (hvars : s.vars = []) (hW : DataW.Whole enc P f.params.toList s.vars false W args.toList ds gs before)
    (hfn : s.fn H ds = { results := [.lit (.bool true)], args := ds }) (hb : Below W.heap.size W W') :
    s.post enc P f false true false false W args (.bool true) W' := by
  have hp : ∀ t ∈ f.params.toList, P.readableRec t = true ∧ t < P.types.size := fun t ht => by simpa using List.all_eq_true.1 hpB t ht
  have hlt : ∀ x ∈ before, x.block < W.heap.size := fun x hx => by simpa using hW.lt x hx
  have hW' := hW
  obtain ⟨p, q, hA0, hV, rfl, hfz, hnd⟩ := hW
  rw [hvars] at hV
  obtain ⟨rfl, rfl⟩ := trodVars_none hV
  have e : s.fn H (ds ++ []) = { results := [.lit (.bool true)], args := ds } := by rw [List.append_nil]; exact hfn
  have hargs := trodAll_below (enc := enc) hl hb f.params.toList args.toList ds p hp hA0 (fun x hx => hlt x (by simp [hx]))
  refine ⟨ds, [], p ++ [], [], p, [], hW', ?_, ?_, ?_, ?_, fun h => by cases h⟩
  · rw [e, hrt]
    exact trodAll_cons_mk (shut_bool htb true) trodAll_mk0
  · rw [e]
    exact hargs _ (fun x hx => by simpa using hlt x (by simp [hx]))
  · rw [e, hvars]
    rfl
  · exact hb.frame _
end


section
variable {H : Type} {enc : TypeId × Value → H} {P : Program} {w : World} {base : Nat} {spare : Nat → Bool} {held : Bool}
open Go.Joins Go.Deep
theorem open_agg5 {r : Reach} {b0 : Nat} {t : TypeId} {f0 f1 f2 f3 f4 : Field} {v : Value} {d : DataW H} {p : List MemPlace} (hs : P.underlying t = some (.struct #[f0, f1, f2, f3, f4])) (hone : oneCellFields P #[f0, f1, f2, f3, f4] = true) (hC : P.cellsOf t = 5)
    (hv : Value.okWide P w r b0 t v) (h : DataW.Trod enc P w base spare held t v d p) :
    ∃ (v0 v1 v2 v3 v4 : Value) (y0 y1 y2 y3 y4 : DataW H × List MemPlace) (n : Nat), v = .agg #[v0, v1, v2, v3, v4] ∧ d = .agg [y0.1, y1.1, y2.1, y3.1, y4.1] ∧ p = y0.2 ++ (y1.2 ++ (y2.2 ++ (y3.2 ++ y4.2))) ∧
      DataW.trod enc P w base spare held n f0.type [v0] = some y0 ∧ DataW.trod enc P w base spare held n f1.type [v1] = some y1 ∧ DataW.trod enc P w base spare held n f2.type [v2] = some y2 ∧ DataW.trod enc P w base spare held n f3.type [v3] = some y3 ∧ DataW.trod enc P w base spare held n f4.type [v4] = some y4 := by
  obtain ⟨cs, rfl, hsz⟩ := okWide_struct hs hv
  obtain ⟨l⟩ := cs
  match l, hsz.trans hC with
  | [c0, c1, c2, c3, c4], _ =>
    obtain ⟨fuel, hf⟩ := h
    obtain ⟨xs, n, _, hx, _, hlen, hg⟩ := DataW.trod_struct hs hf
    obtain ⟨o0, k0⟩ := hone_of hone 0 f0 rfl
    obtain ⟨o1, k1⟩ := hone_of hone 1 f1 rfl
    obtain ⟨o2, k2⟩ := hone_of hone 2 f2 rfl
    obtain ⟨o3, k3⟩ := hone_of hone 3 f3 rfl
    obtain ⟨o4, k4⟩ := hone_of hone 4 f4 rfl
    match xs, hlen with
    | [y0, y1, y2, y3, y4], _ =>
      simp only [Prod.mk.injEq] at hx
      exact ⟨c0, c1, c2, c3, c4, y0, y1, y2, y3, y4, n, rfl, by simpa using hx.1, by simpa using hx.2, by simpa [Value.cells, o0, k0] using hg 0 f0 rfl, by simpa [Value.cells, o1, k1] using hg 1 f1 rfl, by simpa [Value.cells, o2, k2] using hg 2 f2 rfl, by simpa [Value.cells, o3, k3] using hg 3 f3 rfl, by simpa [Value.cells, o4, k4] using hg 4 f4 rfl⟩

/-- an integer's cell -/
theorem int_cell {t : TypeId} {k : IntKind} {n : Nat} {v : Value} {y : DataW H × List MemPlace} (ht : P.underlying t = some (.int k)) (h : DataW.trod enc P w base spare held n t [v] = some y) :
    ∃ x : Int, v = .int k x ∧ (Lit.int k x).wf = true := by
  obtain ⟨a, e0, _, wa⟩ := DataW.trod_int ht h
  simp at e0
  exact ⟨a, e0, wa⟩
theorem wf_bd {x : Int} (h : (Lit.int .i64 x).wf = true) : -9223372036854775808 ≤ x ∧ x ≤ 9223372036854775807 := by
  simpa [Lit.wf, IntKind.min, IntKind.max, IntKind.signed, IntKind.bits] using h
end

section
variable {H : Type} {enc : TypeId × Value → H} {w : World} {base : Nat} {spare : Nat → Bool} {held : Bool}
theorem cells_int : Try.prog.cellsOf 3 = 1 := by kernel_rfl
theorem addr_of_cell {w : World} {a : Addr} {v : Value} (h : w.cell? a = some v) : a = ⟨a.block, a.off, none⟩ := by
  obtain ⟨b, o, s⟩ := a
  cases s with
  | none => rfl
  | some x =>
    unfold World.cell? at h
    split at h <;> simp at h
set_option maxRecDepth 100000 in
theorem ints_of_trod {n : Nat} {v : Value} {y : DataW H × List MemPlace} (h : DataW.trod enc Try.prog w base spare held n 22 [v] = some y) : ∃ l, Ints w v l := by
  rcases open_ints Try.underlying22 Try.underlying3 cells_int h with ⟨hcs, _⟩ | ⟨a, len, cap, zs, hcs, _, hl, hm, hz, _, hcell, hwz⟩
  · simp at hcs; subst hcs; exact ⟨[], Ints.nil w⟩
  · simp only [List.cons.injEq, and_true] at hcs; subst hcs
    have hle : len ≤ zs.length := by rw [hz]; split <;> omega
    refine ⟨zs.take len, some a, len, cap, rfl, by simp; omega, hl, hm, fun x hx => wf_bd (hwz x (List.mem_of_mem_take hx)), ?_⟩
    rcases Nat.eq_zero_or_pos len with h0 | h0
    · exact .inr (.inl ⟨a, rfl, h0⟩)
    · have hc0 := hcell 0 (by omega)
      have e : a.add 0 = a := by simp [Addr.add]
      rw [e] at hc0
      have ea := addr_of_cell hc0
      refine .inr (.inr ⟨a.block, a.off, by rw [← ea], fun i hi => ?_⟩)
      have := hcell i (by omega)
      rw [ea, Addr.add_lit] at this
      rw [this]
      have e2 : nth (zs.take len) i = zs.getD i 0 := by
        simp [nth, List.getD, hi]
      rw [e2]
set_option maxRecDepth 100000 in
theorem ints_of_arg {r : Reach} {b0 : Nat} {v : Value} {d : DataW H} {p : List MemPlace} (hv : Value.okWide Try.prog w r b0 22 v) (h : DataW.Trod enc Try.prog w base spare held 22 v d p) : ∃ l, Ints w v l := by
  obtain ⟨a, n, c, rfl⟩ := okWide_slice Try.underlying22 hv
  obtain ⟨fuel, hf⟩ := h
  exact ints_of_trod (by simpa [Value.cells] using hf)
set_option maxRecDepth 100000 in
theorem int_of_arg {r : Reach} {b0 : Nat} {v : Value} {d : DataW H} {p : List MemPlace} (hv : Value.okWide Try.prog w r b0 3 v) (h : DataW.Trod enc Try.prog w base spare held 3 v d p) : ∃ x : Int, v = .int .i64 x ∧ I64 x := by
  obtain ⟨x, rfl, _, _, wx⟩ := open_int Try.underlying3 hv h
  exact ⟨x, rfl, wf_bd wx⟩
end
end Go.Proofs.Ytbcaknmpbkapnaa
/- Arguments that are slices of structs. -/


namespace Go.Proofs.Ytbcaknmpbkapnaa
open Go.ChangeShapes Go.WideShapes Go.ChangeAt Go.RowKit
set_option linter.unusedVariables false

theorem rdR_of {δ : Type} {R : RowK δ} {w : World} {base : Nat} {a : Addr} {len cap : Nat} (hl : len ≤ cap) (hm : cap ≤ maxLen) (h : ∀ i, i < len → ∃ (cs : List Value) (d : δ), w.cells? base (a.add (i * R.width)) R.width = some cs ∧ R.rd w cs d) :
    0 < R.width → ∃ ds, RdR R w (.slice (some a) len cap) ds := by
  intro hpos
  rcases Nat.eq_zero_or_pos len with h0 | h0
  · subst h0
    exact ⟨[], some a, 0, cap, rfl, rfl, hl, hm, .inr (.inl ⟨a, rfl, rfl⟩)⟩
  · have h' : ∀ i : Fin len, ∃ (x : List Value × δ), w.cells? base (a.add (i * R.width)) R.width = some x.1 ∧ R.rd w x.1 x.2 := fun i => by
      obtain ⟨u, d, h1, h2⟩ := h i.1 i.2; exact ⟨(u, d), h1, h2⟩
    let f : Fin len → List Value × δ := fun i => Classical.choose (h' i)
    have hf : ∀ i : Fin len, w.cells? base (a.add (i * R.width)) R.width = some (f i).1 ∧ R.rd w (f i).1 (f i).2 := fun i => Classical.choose_spec (h' i)
    have ea : a = ⟨a.block, a.off, none⟩ := by
      have h1 := (World.cells?_some (hf ⟨0, h0⟩).1).2.2 0 (by omega)
      rw [show ((⟨0, h0⟩ : Fin len) : Nat) = 0 from rfl, Nat.zero_mul] at h1
      have e : (a.add 0).add 0 = a := by simp [Addr.add]
      rw [e, List.getElem?_eq_getElem (by rw [R.rd_len (hf ⟨0, h0⟩).2]; omega)] at h1
      exact addr_of_cell h1
    refine ⟨(List.finRange len).map fun i => (f i).2, some a, len, cap, rfl, by simp, hl, hm, .inr (.inr ⟨a.block, a.off, by rw [← ea], fun i hi => ?_⟩)⟩
    have hi' : i < len := by simpa using hi
    obtain ⟨h1, h2⟩ := hf ⟨i, hi'⟩
    refine ⟨(f ⟨i, hi'⟩).1, fun k hk => ?_, ?_⟩
    · have h3 := (World.cells?_some h1).2.2 k hk
      have e : ∀ (b o x y : Nat), (((⟨b, o, none⟩ : Addr).add x).add y) = ⟨b, o + (x + y), none⟩ := fun b o x y => by rw [Addr.add_lit, Addr.add_lit, Nat.add_assoc]
      rw [← h3, ← e, ← ea]
    · simpa using h2
end Go.Proofs.Ytbcaknmpbkapnaa
/- Arguments of type laws.Proof (printed by genarg.py). -/


namespace Go.Proofs.Ytbcaknmpbkapnaa
open Go.ChangeShapes Go.WideShapes Go.ChangeAt Go.RowKit
set_option linter.unusedVariables false
set_option linter.unusedSimpArgs false

section
variable {H : Type} {enc : TypeId × Value → H} {w : World} {base : Nat} {spare : Nat → Bool} {held : Bool}
open Go.Joins Go.Deep
theorem cells_Proof_0 : Try.prog.cellsOf 22 = 1 := by kernel_rfl
end
end Go.Proofs.Ytbcaknmpbkapnaa
/- Arguments of type laws.Head (printed by genarg.py). -/



namespace Go.Proofs.Ytbcaknmpbkapnaa
open Go.ChangeShapes Go.WideShapes Go.ChangeAt Go.RowKit
set_option linter.unusedVariables false
set_option linter.unusedSimpArgs false

section
variable {H : Type} {enc : TypeId × Value → H} {w : World} {base : Nat} {spare : Nat → Bool} {held : Bool}
open Go.Joins Go.Deep
theorem cells_Head_0 : Try.prog.cellsOf 3 = 1 := by kernel_rfl
end
end Go.Proofs.Ytbcaknmpbkapnaa
/- Arguments of type laws.Entry (printed by genarg.py). -/



namespace Go.Proofs.Ytbcaknmpbkapnaa
open Go.ChangeShapes Go.WideShapes Go.ChangeAt Go.RowKit
set_option linter.unusedVariables false
set_option linter.unusedSimpArgs false

section
variable {H : Type} {enc : TypeId × Value → H} {w : World} {base : Nat} {spare : Nat → Bool} {held : Bool}
open Go.Joins Go.Deep
theorem cells_Entry_0 : Try.prog.cellsOf 3 = 1 := by kernel_rfl
theorem cells_Entry_1 : Try.prog.cellsOf 22 = 1 := by kernel_rfl
end
end Go.Proofs.Ytbcaknmpbkapnaa
/- Arguments of type laws.Group. -/


namespace Go.Proofs.Ytbcaknmpbkapnaa
open Go.ChangeShapes Go.WideShapes Go.ChangeAt Go.RowKit
set_option linter.unusedVariables false

section
variable {H : Type} {enc : TypeId × Value → H} {w : World} {base : Nat} {spare : Nat → Bool} {held : Bool}
open Go.Joins Go.Deep
end
end Go.Proofs.Ytbcaknmpbkapnaa
