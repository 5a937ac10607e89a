/- A row of structs of the call's own, whose elements are only read (in a world of before). No program is named here. -/
import Derived.Test.YtbcaknmpbkapnaaBa
import Derived.Test.YtbcaknmpbkapnaaRegT
namespace Go.Proofs.Ytbcaknmpbkapnaa
open Go.RowKit
set_option linter.unusedSimpArgs false
set_option linter.unusedVariables false

def FrR {δ : Type} (e : TypeId) (R : RowK δ) (w0 w : World) (B : Nat) (v : Value) (ds : List δ) : Prop :=
  ∃ css : List (List Value), css.length = ds.length ∧ w.ownsRow B e R.width v ds.length css.flatten ∧ ∀ i (h1 : i < css.length) (h2 : i < ds.length), R.rd w0 css[i] ds[i]
section
variable {δ : Type} {e : TypeId} {R : RowK δ} {w0 w w' : World} {B : Nat} {v : Value} {ds es : List δ}
theorem FrR.lens {css : List (List Value)} (hl : css.length = ds.length) (hel : ∀ i (h1 : i < css.length) (h2 : i < ds.length), R.rd w0 css[i] ds[i]) : ∀ c ∈ css, c.length = R.width := by
  intro c hc
  obtain ⟨i, hi, rfl⟩ := List.getElem_of_mem hc
  exact R.rd_len (hel i hi (by omega))
theorem FrR.ones {css : List (List Value)} (hl : css.length = ds.length) (hel : ∀ i (h1 : i < css.length) (h2 : i < ds.length), R.rd w0 css[i] ds[i]) : ∀ u ∈ css.flatten, u.oneCell' = true := by
  intro u hu
  obtain ⟨c, hc, hu⟩ := List.mem_flatten.1 hu
  obtain ⟨i, hi, rfl⟩ := List.getElem_of_mem hc
  exact R.rd_one (hel i hi (by omega)) u hu
theorem FrR.rd (h : FrR e R w0 w B v ds) (hb : Below w0.heap.size w0 w) : RdR R w v ds := by
  obtain ⟨css, hl, hO, hel⟩ := h
  have hlen := FrR.lens hl hel
  have hO' := hO
  obtain ⟨hl1, ⟨rfl, h0⟩ | ⟨g, c, cur, rfl, hbb, hgc, hnc, hcm, hcs, htake⟩⟩ := hO
  · have : ds = [] := List.eq_nil_of_length_eq_zero h0
    subst this; exact RdR.nil R w
  · refine ⟨some ⟨g, 0, none⟩, ds.length, c, rfl, rfl, hnc, hcm, .inr (.inr ⟨g, 0, rfl, fun i hi => ?_⟩)⟩
    refine ⟨css[i]'(by omega), fun k hk => ?_, R.rd_below (hel i (by omega) hi) hb⟩
    have h1 := World.ownsRow.cellAt hO' (i * R.width + k) (by
      have : (i + 1) * R.width ≤ ds.length * R.width := Nat.mul_le_mul_right _ hi
      rw [Nat.succ_mul] at this; omega)
    rw [Nat.zero_add, h1, flat_get hlen hk, List.getElem?_eq_getElem (by omega)]
    rfl
theorem FrR.nil (e : TypeId) (R : RowK δ) (w0 w : World) (B : Nat) : FrR e R w0 w B (.slice none 0 0) [] :=
  ⟨[], rfl, by simpa using World.ownsRow_nil w B e R.width, fun i h1 _ => by simp at h1⟩
theorem FrR.lit0 (e : TypeId) (R : RowK δ) (w0 w : World) (B : Nat) (hB : B ≤ w.heap.size) : FrR e R w0 (w.alloc (.cells #[] e)) B (.slice (some ⟨w.heap.size, 0, none⟩) 0 0) [] :=
  ⟨[], rfl, World.ownsRow_lit (e := e) (size := R.width) w #[] 0 hB (Nat.zero_le _) (by simp), fun i h1 _ => by simp at h1⟩
theorem FrR.below (h : FrR e R w0 w B v ds) (hb : Below w.heap.size w w') : FrR e R w0 w' B v ds := by
  obtain ⟨css, hl, hO, hel⟩ := h
  exact ⟨css, hl, ownsRow_frame hO fun g hg => hb.block g (hO.lt g hg).2, hel⟩
theorem FrR.frame (h : FrR e R w0 w B v ds) (hf : ∀ g, v.ownBlock = some g → w'.heap[g]? = w.heap[g]?) : FrR e R w0 w' B v ds := by
  obtain ⟨css, hl, hO, hel⟩ := h
  exact ⟨css, hl, ownsRow_frame hO hf, hel⟩
theorem FrR.lt (h : FrR e R w0 w B v ds) : ∀ g, v.ownBlock = some g → B ≤ g ∧ g < w.heap.size := by
  obtain ⟨css, hl, hO, hel⟩ := h
  exact fun g hg => hO.lt g hg
theorem FrR.mono {B' : Nat} (h : FrR e R w0 w B v ds) (hB : B' ≤ B) : FrR e R w0 w B' v ds := by
  obtain ⟨css, hl, hO, hel⟩ := h
  exact ⟨css, hl, ownsRow_mono hO hB, hel⟩
/-- the rows of a slice that is read -/
theorem rows_of_RdR {ad : Addr} {n c : Nat} (h : RdR R w (.slice (some ad) n c) ds) : ∃ css : List (List Value), css.length = ds.length ∧ (∀ j u, css.flatten[j]? = some u → w.cell? (ad.add j) = some u) ∧ ∀ i (h1 : i < css.length) (h2 : i < ds.length), R.rd w css[i] ds[i] := by
  have hn := h.len
  rcases Nat.eq_zero_or_pos n with h0 | h0
  · have : ds = [] := List.eq_nil_of_length_eq_zero (by omega)
    subst this
    exact ⟨[], rfl, fun j u hu => by simp at hu, fun i h1 _ => by simp at h1⟩
  · obtain ⟨b, o, hab, hc⟩ := h.at_ h0
    cases hab
    have h' : ∀ i : Fin ds.length, ∃ vs, (∀ k, k < R.width → w.cell? ⟨b, o + (i.1 * R.width + k), none⟩ = vs[k]?) ∧ R.rd w vs ds[i.1] := fun i => hc i.1 i.2
    let f : Fin ds.length → List Value := fun i => Classical.choose (h' i)
    have hf : ∀ i : Fin ds.length, (∀ k, k < R.width → w.cell? ⟨b, o + (i.1 * R.width + k), none⟩ = (f i)[k]?) ∧ R.rd w (f i) ds[i.1] := fun i => Classical.choose_spec (h' i)
    have hlen : ∀ c ∈ (List.finRange ds.length).map f, c.length = R.width := fun c hc => by
      obtain ⟨i, _, rfl⟩ := List.mem_map.1 hc
      exact R.rd_len (hf i).2
    refine ⟨(List.finRange ds.length).map f, by simp, fun j u hu => ?_, fun i h1 h2 => ?_⟩
    · have hj : j < ((List.finRange ds.length).map f).flatten.length := (List.getElem?_eq_some_iff.1 hu).1
      have hfl := flat_len hlen
      rw [hfl] at hj
      have hW : 0 < R.width := by
        rcases Nat.eq_zero_or_pos R.width with hz | hz
        · rw [hz] at hj; omega
        · exact hz
      have hd : j / R.width < ds.length := Nat.div_lt_of_lt_mul (by rw [Nat.mul_comm]; simpa using hj)
      have hm := Nat.mod_lt j hW
      have e1 : j = (j / R.width) * R.width + j % R.width := by rw [Nat.mul_comm]; exact (Nat.div_add_mod j R.width).symm
      have h3 := flat_get hlen (i := j / R.width) (k := j % R.width) hm
      rw [← e1] at h3
      rw [h3, List.getElem?_map, List.getElem?_eq_getElem (by simpa using hd)] at hu
      simp only [Option.map_some, Option.bind_some, List.getElem_finRange] at hu
      have h4 := (hf ⟨j / R.width, hd⟩).1 (j % R.width) hm
      rw [Addr.add_lit, e1, h4]
      simpa using hu
    · simpa using (hf ⟨i, h2⟩).2
/-- more structs -/
theorem run_append_Fr {P : Program} (ts : TypeId) (i : TypeInfo) (z : Value) (ht : P.underlying ts = some (.slice e)) (hi' : P.info? e = some i) (hz : i.zero = some z) (hsz : i.size = R.width) (hby : i.bytes ≤ 1000) (hzs : z.cells.size = R.width) (hpos : 0 < R.width)
    (hown : FrR e R w0 w B v ds) (ad : Addr) (m c : Nat) (css' : List (List Value)) (hl' : css'.length = es.length) (hm : es.length = m) (hnews : ∀ j u, css'.flatten[j]? = some u → w.cell? (ad.add j) = some u)
    (hrd : ∀ i (h1 : i < css'.length) (h2 : i < es.length), R.rd w0 css'[i] es[i]) (hB : B ≤ w.heap.size) (hlen : ds.length + es.length ≤ 1000000000) (ty : TypeId) :
    ∃ v' w', (Builtin.append_ #[ts, ts] ty #[v, .slice (some ad) m c]).run P w = .ok v' w' ∧ FrR e R w0 w' B v' (ds ++ es) ∧ Below B w w' := by
  obtain ⟨css, hvl, hO, hel⟩ := hown
  have hb1 : (ds.length + m) * i.bytes ≤ 140737488355328 := by
    have : (ds.length + m) * i.bytes ≤ 1000000000 * 1000 := Nat.mul_le_mul (by omega) hby
    omega
  have hfl := flat_len (FrR.lens hl' hrd)
  obtain ⟨v', w', hr, h1, h2, _⟩ := run_append_own (P := P) w B ts ty e i z R.width i.bytes ht hi' hz hsz rfl hzs hpos v ds.length css.flatten hO ad m c css'.flatten (by rw [hfl, hl', hm]) hnews (FrR.ones hl' hrd) (by unfold maxLen; omega) hb1 hB
  refine ⟨v', w', hr, ⟨css ++ css', by simp [hvl, hl'], by simpa [List.flatten_append, hm] using h1, fun k k1 k2 => ?_⟩, (Below.refl B w).grown h2 hB (fun k hk => (hO.lt k hk).1)⟩
  by_cases hk : k < ds.length
  · rw [List.getElem_append_left (by omega), List.getElem_append_left hk]
    exact hel k (by omega) hk
  · rw [List.getElem_append_right (by omega), List.getElem_append_right (by omega)]
    have e1 : k - css.length = k - ds.length := by omega
    simp only [List.length_append] at k2
    have := hrd (k - ds.length) (by omega) (by omega)
    simpa only [e1] using this
theorem wpList_append_Fr {P : Program} (ts : TypeId) (i : TypeInfo) (z : Value) (ht : P.underlying ts = some (.slice e)) (hi' : P.info? e = some i) (hz : i.zero = some z) (hsz : i.size = R.width) (hby : i.bytes ≤ 1000) (hzs : z.cells.size = R.width) (hpos : 0 < R.width)
    {ops : Array Oper} {rest : List Oper} {o : Oper} {ac : Act} {Q : Exit → Act → World → Prop} (hgd : o.guard = none) (s y : Operand)
    (ho : o.op = .call { callee := .builtin .append, args := #[s, y], argTypes := #[ts, ts] })
    (hown : FrR e R w0 w B v ds) (ad : Addr) (m c : Nat) (css' : List (List Value)) (hs : ac.eval s = v) (hy : ac.eval y = .slice (some ad) m c) (hl' : css'.length = es.length) (hm : es.length = m) (hnews : ∀ j u, css'.flatten[j]? = some u → w.cell? (ad.add j) = some u)
    (hrd : ∀ i (h1 : i < css'.length) (h2 : i < es.length), R.rd w0 css'[i] es[i]) (hB : B ≤ w.heap.size) (hlen : ds.length + es.length ≤ 1000000000)
    (hK : ∀ v' w', FrR e R w0 w' B v' (ds ++ es) → Below B w w' → wpList P ops Q rest (ac.put o.dst v') w') : wpList P ops Q (o :: rest) ac w := by
  obtain ⟨v', w', hr, h1, h2⟩ := run_append_Fr ts i z ht hi' hz hsz hby hzs hpos hown ad m c css' hl' hm hnews hrd hB hlen o.type
  refine wpList_plain hgd fun K hK' => ?_
  unfold Oper.wp execOp
  simp only [ho, resolve, invoke, builtin, Sem.run_bind, Sem.run_pure, Result.andThen_ok, List.map_toArray, List.map_cons, List.map_nil, hs, hy, hr]
  exact hK' _ _ (hK v' w' h1 h2)
theorem oper_append_Fr {P : Program} (ts : TypeId) (i : TypeInfo) (z : Value) (ht : P.underlying ts = some (.slice e)) (hi' : P.info? e = some i) (hz : i.zero = some z) (hsz : i.size = R.width) (hby : i.bytes ≤ 1000) (hzs : z.cells.size = R.width) (hpos : 0 < R.width)
    {o : Oper} {ac : Act} {K : Act → World → Prop} {Q : Exit → Act → World → Prop} (hgd : o.guard = none) (s y : Operand)
    (ho : o.op = .call { callee := .builtin .append, args := #[s, y], argTypes := #[ts, ts] })
    (hown : FrR e R w0 w B v ds) (ad : Addr) (m c : Nat) (css' : List (List Value)) (hs : ac.eval s = v) (hy : ac.eval y = .slice (some ad) m c) (hl' : css'.length = es.length) (hm : es.length = m) (hnews : ∀ j u, css'.flatten[j]? = some u → w.cell? (ad.add j) = some u)
    (hrd : ∀ i (h1 : i < css'.length) (h2 : i < es.length), R.rd w0 css'[i] es[i]) (hB : B ≤ w.heap.size) (hlen : ds.length + es.length ≤ 1000000000)
    (hK : ∀ v' w', FrR e R w0 w' B v' (ds ++ es) → Below B w w' → K (ac.put o.dst v') w') : o.wp P ac w K Q := by
  obtain ⟨v', w', hr, h1, h2⟩ := run_append_Fr ts i z ht hi' hz hsz hby hzs hpos hown ad m c css' hl' hm hnews hrd hB hlen o.type
  unfold Oper.wp execOp
  simp only [ho, resolve, invoke, builtin, Sem.run_bind, Sem.run_pure, Result.andThen_ok, List.map_toArray, List.map_cons, List.map_nil, hs, hy, hr]
  exact hK v' w' h1 h2
end
end Go.Proofs.Ytbcaknmpbkapnaa
