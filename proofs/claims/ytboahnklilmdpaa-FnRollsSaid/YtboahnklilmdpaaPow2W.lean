/- Go's slices.IndexFunc, slices.ContainsFunc on slices of Cipher (printed by genfind.py). -/
import Derived.Test.YtboahnklilmdpaaFindRW
import Derived.Test.YtboahnklilmdpaaRegVW
import Derived.Test.YtboahnklilmdpaaBaW
import Derived.Test.YtboahnklilmdpaaDrG1W
import Derived.Test.YtboahnklilmdpaaBgW
namespace Go.Proofs.Ytboahnklilmdpaa
open Go.RowKit
set_option linter.unusedSimpArgs false
set_option linter.unusedVariables false

set_option maxHeartbeats 2000000 in
theorem slices_IndexFuncCipher (v : Value) (ds : List CipherD) (g : FuncId) (caps : Array Value) (p : CipherD → Bool) (w : World) (h : RdR rCipher w v ds) (hp : DecidesS rCipher w g caps p) :
    Calls Try.prog 310 #[v, .func (.func g) #[] caps] w fun e w' => (∃ r : Int, e = .returned (.int .i64 r) ∧ decide (0 ≤ r) = ds.any p) ∧ Below w.heap.size w w' := by
  obtain ⟨a, n, c, rfl⟩ := h.shape
  have e := h.len
  obtain ⟨k1, k2⟩ := h.capMax
  unfold maxLen at k2
  have HE := Lib.hid e; clear e
  have hent := hp.enters
  have HP := Lib.hid hp; clear hp
  have H := Lib.hid h; clear h
  go_enter Try.func310, Try.ntmps310
  go_wp2
  go_loopg [8] n (fun g i wr => ∃ k : Nat, k + g = n ∧ i = .int .i64 k ∧ Hid ((ds.take k).any p = false) ∧ Below w.heap.size w wr)
  case atStart => exact ⟨0, by omega, rfl, by unfold Hid; simp, Below.refl _ _⟩
  case round =>
    obtain ⟨k, hkg, rfl, HF, hb⟩ := hrel
    by_cases hlt : k < n
    · have HK : Hid (k < ds.length) := by unfold Hid; rw [HE.out]; exact hlt
      obtain ⟨b, o, rfl, hcx⟩ := H.out.at_ (by omega)
      obtain ⟨us, hcell, hrd⟩ := hcx k HK.out
      have HS : Hid ((ds.take (k + 1)).any p = ((ds.take k).any p || p (ds[k]'HK.out))) := by unfold Hid; rw [List.take_succ_eq_append_getElem HK.out, List.any_append]; simp
      have HM := Lib.hid (List.getElem_mem HK.out)
      generalize ds[k]'HK.out = d at hrd HS HM
      obtain ⟨_, rfl, i37, ⟨_, rfl, i38, rfl⟩⟩ := hrd
      have y0 : w.cell? ⟨b, o + (k * 2 + 0), none⟩ = some (.int .i64 d.a) := hcell 0 (by decide)
      replace y0 : w.cell? ⟨b, o + k * 2, none⟩ = some (.int .i64 d.a) := by rw [Nat.add_zero] at y0; exact y0
      have y1 : w.cell? ⟨b, o + (k * 2 + 1), none⟩ = some (.int .i64 d.b) := hcell 1 (by decide)
      replace y1 : w.cell? ⟨b, o + k * 2 + 1, none⟩ = some (.int .i64 d.b) := by rw [← Nat.add_assoc] at y1; exact y1
      have HR : Hid ((kS rCipher).rd wr (.agg #[.int .i64 d.a, .int .i64 d.b]) d) := (kS rCipher).rd_below (rdCipher.2 ⟨rfl, i37, i38⟩) hb
      replace y0 := box_at y0 hb
      replace y1 := box_at y1 hb
      clear hcell hcx i37 i38
      cases hpx : p d with
      | true =>
        have HA : Hid (decide (0 ≤ (k : Int)) = ds.any p) := by
          unfold Hid; rw [decide_eq_true (by omega), eq_comm, List.any_eq_true]; exact ⟨_, HM.out, hpx⟩
        have HX := Lib.hid hpx
        clear hpx
        go_wp2_with fail
        refine (HP.out.runs _ _ _ HR.out hb).mono ?_
        rintro e w1 ⟨rfl, hb1⟩
        rw [HX.out]
        go_wp2_with fail
        go_ret
        exact ⟨⟨_, rfl, HA.out⟩, hb.trans (hb1.mono hb.size)⟩
      | false =>
        have HX := Lib.hid hpx
        clear hpx
        go_wp2_with fail
        refine (HP.out.runs _ _ _ HR.out hb).mono ?_
        rintro e w1 ⟨rfl, hb1⟩
        rw [HX.out]
        go_wp2_with fail
        go_roundg (n - (k + 1))
        case measure => omega
        case rel => exact ⟨k + 1, by omega, by go_num, by unfold Hid; rw [HS.out, HF.out, HX.out]; rfl, hb.trans (hb1.mono hb.size)⟩
    · obtain rfl : n = k := by omega
      have HA : Hid (decide (0 ≤ (-1 : Int)) = ds.any p) := by
        have := HF.out
        rw [List.take_of_length_le (by rw [HE.out]; exact Nat.le_refl _)] at this
        unfold Hid; rw [this]; rfl
      go_wp2_with fail
      go_ret
      exact ⟨⟨_, rfl, HA.out⟩, hb⟩
theorem slices_ContainsFuncCipher (v : Value) (ds : List CipherD) (g : FuncId) (caps : Array Value) (p : CipherD → Bool) (w : World) (h : RdR rCipher w v ds) (hp : DecidesS rCipher w g caps p) :
    Calls Try.prog 261 #[v, .func (.func g) #[] caps] w fun e w' => e = .returned (.bool (ds.any p)) ∧ Below w.heap.size w w' := by
  have HP := Lib.hid hp; clear hp
  have H := Lib.hid h; clear h
  go_enter Try.func261, Try.ntmps261
  go_wp2_with fail
  refine (slices_IndexFuncCipher v ds g caps p _ H.out HP.out).mono ?_
  rintro e w1 ⟨⟨r, rfl, hr⟩, hb⟩
  have HR := Lib.hid hr; clear hr
  go_wp2_with fail
  go_ret
  exact ⟨ret_bool (by first | (rw [HR.out]; done) | (rw [HR.out]; rfl) | exact HR.out.symm), hb⟩
end Go.Proofs.Ytboahnklilmdpaa
namespace Go.Proofs.Ytboahnklilmdpaa
open Go.RowKit
set_option linter.unusedSimpArgs false
set_option linter.unusedVariables false

def FrR {δ : Type} (e : TypeId) (R : RowK δ) (w0 w : World) (B : Nat) (v : Value) (ds : List δ) : Prop :=
  ∃ css : List (List Value), css.length = ds.length ∧ w.ownsRow B e R.width v ds.length css.flatten ∧ ∀ i (h1 : i < css.length) (h2 : i < ds.length), R.rd w0 css[i] ds[i]
section
variable {δ : Type} {e : TypeId} {R : RowK δ} {w0 w w' : World} {B : Nat} {v : Value} {ds es : List δ}
theorem FrR.lens {css : List (List Value)} (hl : css.length = ds.length) (hel : ∀ i (h1 : i < css.length) (h2 : i < ds.length), R.rd w0 css[i] ds[i]) : ∀ c ∈ css, c.length = R.width := by
  intro c hc
  obtain ⟨i, hi, rfl⟩ := List.getElem_of_mem hc
  exact R.rd_len (hel i hi (by omega))
theorem FrR.ones {css : List (List Value)} (hl : css.length = ds.length) (hel : ∀ i (h1 : i < css.length) (h2 : i < ds.length), R.rd w0 css[i] ds[i]) : ∀ u ∈ css.flatten, u.oneCell' = true := by
  intro u hu
  obtain ⟨c, hc, hu⟩ := List.mem_flatten.1 hu
  obtain ⟨i, hi, rfl⟩ := List.getElem_of_mem hc
  exact R.rd_one (hel i hi (by omega)) u hu
theorem FrR.rd (h : FrR e R w0 w B v ds) (hb : Below w0.heap.size w0 w) : RdR R w v ds := by
  obtain ⟨css, hl, hO, hel⟩ := h
  have hlen := FrR.lens hl hel
  have hO' := hO
  obtain ⟨hl1, ⟨rfl, h0⟩ | ⟨g, c, cur, rfl, hbb, hgc, hnc, hcm, hcs, htake⟩⟩ := hO
  · have : ds = [] := List.eq_nil_of_length_eq_zero h0
    subst this; exact RdR.nil R w
  · refine ⟨some ⟨g, 0, none⟩, ds.length, c, rfl, rfl, hnc, hcm, .inr (.inr ⟨g, 0, rfl, fun i hi => ?_⟩)⟩
    refine ⟨css[i]'(by omega), fun k hk => ?_, R.rd_below (hel i (by omega) hi) hb⟩
    have h1 := World.ownsRow.cellAt hO' (i * R.width + k) (by
      have : (i + 1) * R.width ≤ ds.length * R.width := Nat.mul_le_mul_right _ hi
      rw [Nat.succ_mul] at this; omega)
    rw [Nat.zero_add, h1, flat_get hlen hk, List.getElem?_eq_getElem (by omega)]
    rfl
theorem FrR.nil (e : TypeId) (R : RowK δ) (w0 w : World) (B : Nat) : FrR e R w0 w B (.slice none 0 0) [] :=
  ⟨[], rfl, by simpa using World.ownsRow_nil w B e R.width, fun i h1 _ => by simp at h1⟩
theorem FrR.lit0 (e : TypeId) (R : RowK δ) (w0 w : World) (B : Nat) (hB : B ≤ w.heap.size) : FrR e R w0 (w.alloc (.cells #[] e)) B (.slice (some ⟨w.heap.size, 0, none⟩) 0 0) [] :=
  ⟨[], rfl, World.ownsRow_lit (e := e) (size := R.width) w #[] 0 hB (Nat.zero_le _) (by simp), fun i h1 _ => by simp at h1⟩
theorem FrR.below (h : FrR e R w0 w B v ds) (hb : Below w.heap.size w w') : FrR e R w0 w' B v ds := by
  obtain ⟨css, hl, hO, hel⟩ := h
  exact ⟨css, hl, ownsRow_frame hO fun g hg => hb.block g (hO.lt g hg).2, hel⟩
theorem FrR.frame (h : FrR e R w0 w B v ds) (hf : ∀ g, v.ownBlock = some g → w'.heap[g]? = w.heap[g]?) : FrR e R w0 w' B v ds := by
  obtain ⟨css, hl, hO, hel⟩ := h
  exact ⟨css, hl, ownsRow_frame hO hf, hel⟩
theorem FrR.lt (h : FrR e R w0 w B v ds) : ∀ g, v.ownBlock = some g → B ≤ g ∧ g < w.heap.size := by
  obtain ⟨css, hl, hO, hel⟩ := h
  exact fun g hg => hO.lt g hg
theorem FrR.mono {B' : Nat} (h : FrR e R w0 w B v ds) (hB : B' ≤ B) : FrR e R w0 w B' v ds := by
  obtain ⟨css, hl, hO, hel⟩ := h
  exact ⟨css, hl, ownsRow_mono hO hB, hel⟩
/-- the rows of a slice that is read -/
theorem rows_of_RdR {ad : Addr} {n c : Nat} (h : RdR R w (.slice (some ad) n c) ds) : ∃ css : List (List Value), css.length = ds.length ∧ (∀ j u, css.flatten[j]? = some u → w.cell? (ad.add j) = some u) ∧ ∀ i (h1 : i < css.length) (h2 : i < ds.length), R.rd w css[i] ds[i] := by
  have hn := h.len
  rcases Nat.eq_zero_or_pos n with h0 | h0
  · have : ds = [] := List.eq_nil_of_length_eq_zero (by omega)
    subst this
    exact ⟨[], rfl, fun j u hu => by simp at hu, fun i h1 _ => by simp at h1⟩
  · obtain ⟨b, o, hab, hc⟩ := h.at_ h0
    cases hab
    have h' : ∀ i : Fin ds.length, ∃ vs, (∀ k, k < R.width → w.cell? ⟨b, o + (i.1 * R.width + k), none⟩ = vs[k]?) ∧ R.rd w vs ds[i.1] := fun i => hc i.1 i.2
    let f : Fin ds.length → List Value := fun i => Classical.choose (h' i)
    have hf : ∀ i : Fin ds.length, (∀ k, k < R.width → w.cell? ⟨b, o + (i.1 * R.width + k), none⟩ = (f i)[k]?) ∧ R.rd w (f i) ds[i.1] := fun i => Classical.choose_spec (h' i)
    have hlen : ∀ c ∈ (List.finRange ds.length).map f, c.length = R.width := fun c hc => by
      obtain ⟨i, _, rfl⟩ := List.mem_map.1 hc
      exact R.rd_len (hf i).2
    refine ⟨(List.finRange ds.length).map f, by simp, fun j u hu => ?_, fun i h1 h2 => ?_⟩
    · have hj : j < ((List.finRange ds.length).map f).flatten.length := (List.getElem?_eq_some_iff.1 hu).1
      have hfl := flat_len hlen
      rw [hfl] at hj
      have hW : 0 < R.width := by
        rcases Nat.eq_zero_or_pos R.width with hz | hz
        · rw [hz] at hj; omega
        · exact hz
      have hd : j / R.width < ds.length := Nat.div_lt_of_lt_mul (by rw [Nat.mul_comm]; simpa using hj)
      have hm := Nat.mod_lt j hW
      have e1 : j = (j / R.width) * R.width + j % R.width := by rw [Nat.mul_comm]; exact (Nat.div_add_mod j R.width).symm
      have h3 := flat_get hlen (i := j / R.width) (k := j % R.width) hm
      rw [← e1] at h3
      rw [h3, List.getElem?_map, List.getElem?_eq_getElem (by simpa using hd)] at hu
      simp only [Option.map_some, Option.bind_some, List.getElem_finRange] at hu
      have h4 := (hf ⟨j / R.width, hd⟩).1 (j % R.width) hm
      rw [Addr.add_lit, e1, h4]
      simpa using hu
    · simpa using (hf ⟨i, h2⟩).2
/-- more structs -/
theorem run_append_Fr {P : Program} (ts : TypeId) (i : TypeInfo) (z : Value) (ht : P.underlying ts = some (.slice e)) (hi' : P.info? e = some i) (hz : i.zero = some z) (hsz : i.size = R.width) (hby : i.bytes ≤ 1000) (hzs : z.cells.size = R.width) (hpos : 0 < R.width)
    (hown : FrR e R w0 w B v ds) (ad : Addr) (m c : Nat) (css' : List (List Value)) (hl' : css'.length = es.length) (hm : es.length = m) (hnews : ∀ j u, css'.flatten[j]? = some u → w.cell? (ad.add j) = some u)
    (hrd : ∀ i (h1 : i < css'.length) (h2 : i < es.length), R.rd w0 css'[i] es[i]) (hB : B ≤ w.heap.size) (hlen : ds.length + es.length ≤ 1000000000) (ty : TypeId) :
    ∃ v' w', (Builtin.append_ #[ts, ts] ty #[v, .slice (some ad) m c]).run P w = .ok v' w' ∧ FrR e R w0 w' B v' (ds ++ es) ∧ Below B w w' := by
  obtain ⟨css, hvl, hO, hel⟩ := hown
  have hb1 : (ds.length + m) * i.bytes ≤ 140737488355328 := by
    have : (ds.length + m) * i.bytes ≤ 1000000000 * 1000 := Nat.mul_le_mul (by omega) hby
    omega
  have hfl := flat_len (FrR.lens hl' hrd)
  obtain ⟨v', w', hr, h1, h2, _⟩ := run_append_own (P := P) w B ts ty e i z R.width i.bytes ht hi' hz hsz rfl hzs hpos v ds.length css.flatten hO ad m c css'.flatten (by rw [hfl, hl', hm]) hnews (FrR.ones hl' hrd) (by unfold maxLen; omega) hb1 hB
  refine ⟨v', w', hr, ⟨css ++ css', by simp [hvl, hl'], by simpa [List.flatten_append, hm] using h1, fun k k1 k2 => ?_⟩, (Below.refl B w).grown h2 hB (fun k hk => (hO.lt k hk).1)⟩
  by_cases hk : k < ds.length
  · rw [List.getElem_append_left (by omega), List.getElem_append_left hk]
    exact hel k (by omega) hk
  · rw [List.getElem_append_right (by omega), List.getElem_append_right (by omega)]
    have e1 : k - css.length = k - ds.length := by omega
    simp only [List.length_append] at k2
    have := hrd (k - ds.length) (by omega) (by omega)
    simpa only [e1] using this
theorem wpList_append_Fr {P : Program} (ts : TypeId) (i : TypeInfo) (z : Value) (ht : P.underlying ts = some (.slice e)) (hi' : P.info? e = some i) (hz : i.zero = some z) (hsz : i.size = R.width) (hby : i.bytes ≤ 1000) (hzs : z.cells.size = R.width) (hpos : 0 < R.width)
    {ops : Array Oper} {rest : List Oper} {o : Oper} {ac : Act} {Q : Exit → Act → World → Prop} (hgd : o.guard = none) (s y : Operand)
    (ho : o.op = .call { callee := .builtin .append, args := #[s, y], argTypes := #[ts, ts] })
    (hown : FrR e R w0 w B v ds) (ad : Addr) (m c : Nat) (css' : List (List Value)) (hs : ac.eval s = v) (hy : ac.eval y = .slice (some ad) m c) (hl' : css'.length = es.length) (hm : es.length = m) (hnews : ∀ j u, css'.flatten[j]? = some u → w.cell? (ad.add j) = some u)
    (hrd : ∀ i (h1 : i < css'.length) (h2 : i < es.length), R.rd w0 css'[i] es[i]) (hB : B ≤ w.heap.size) (hlen : ds.length + es.length ≤ 1000000000)
    (hK : ∀ v' w', FrR e R w0 w' B v' (ds ++ es) → Below B w w' → wpList P ops Q rest (ac.put o.dst v') w') : wpList P ops Q (o :: rest) ac w := by
  obtain ⟨v', w', hr, h1, h2⟩ := run_append_Fr ts i z ht hi' hz hsz hby hzs hpos hown ad m c css' hl' hm hnews hrd hB hlen o.type
  refine wpList_plain hgd fun K hK' => ?_
  unfold Oper.wp execOp
  simp only [ho, resolve, invoke, builtin, Sem.run_bind, Sem.run_pure, Result.andThen_ok, List.map_toArray, List.map_cons, List.map_nil, hs, hy, hr]
  exact hK' _ _ (hK v' w' h1 h2)
end
end Go.Proofs.Ytboahnklilmdpaa
namespace Go.Proofs.Ytboahnklilmdpaa
open Go.RowKit
set_option linter.unusedSimpArgs false
set_option linter.unusedVariables false

theorem ciB_any (gr : GroupD) (ds : List CipherD) : (ds.any fun d => !ciB gr d) = !(ds.all (ciB gr)) := by
  induction ds with
  | nil => rfl
  | cons a ds ih => simp only [List.any_cons, List.all_cons, ih, Bool.not_and]
noncomputable def cisB (gr : GroupD) (l : List CipherD) : Bool := decide (l.length ≤ 24) && l.all (ciB gr)
theorem cisB_small {gr : GroupD} (hg : OkG gr) {l : List CipherD} (h : cisB gr l = true) : AllSmallC l := fun c hc => by
  unfold cisB at h
  rw [Bool.and_eq_true] at h
  exact ciB_small hg (List.all_eq_true.1 h.2 c hc)
set_option maxHeartbeats 1000000 in
theorem impl_hasCiphers1 (gr : GroupD) (v : Value) (d : CipherD) (b : Nat) (w : World) (hg : OkG gr) (h : (kS rCipher).rd w v d) (hx : BoxN w b 39 [.int .i64 gr.p, .int .i64 gr.q, .int .i64 gr.g]) :
    Calls Try.prog 262 #[v, .pointer (some ⟨b, 0, none⟩)] w fun e w' => e = .returned (.bool (!ciB gr d)) ∧ Below w.heap.size w w' := by
  obtain ⟨q, hq⟩ : ∃ q, ciB gr d = q := ⟨_, rfl⟩
  have HQ := Lib.hid hq
  have HG := Lib.hid hg
  rw [hq]; clear hq hg
  obtain ⟨rfl, j0, j1⟩ := rdCipher.1 h
  clear h
  obtain ⟨W, hW⟩ : ∃ W, W = w.alloc (.cells #[.int .i64 d.a, .int .i64 d.b] 58) := ⟨_, rfl⟩
  have HB : Hid (Below w.heap.size w W) := by unfold Hid; rw [hW]; (repeat (first | exact Below.refl _ _ | assumption | refine Below.drew ?_ | refine Below.alloc ?_ (by first | (simp; done) | (simp; omega)) _ | refine Below.setCell ?_ (by first | (simp; done) | (simp; omega)) _))
  have c0 := box_at (hx.cell (i := 0) rfl) HB.out
  have c1 := box_at (hx.cell (i := 1) rfl) HB.out
  have c2 := box_at (hx.cell (i := 2) rfl) HB.out
  have hlt := hx.lt
  have e0 := hx.cell (i := 0) rfl
  have e1 := hx.cell (i := 1) rfl
  have e2 := hx.cell (i := 2) rfl
  clear hx
  have d0 : W.cell? ⟨w.heap.size, 0, none⟩ = some (.int .i64 d.a) := by rw [hW]; simp [go_sem]
  have d1 : W.cell? ⟨w.heap.size, 1, none⟩ = some (.int .i64 d.b) := by rw [hW]; simp [go_sem]
  go_enter Try.func262, Try.ntmps262
  go_wp2_with fail
  rw [← hW]
  clear hW
  refine (impl_hasCipher gr d _ HG.out).mono ?_
  rintro e w1 ⟨rfl, hb1⟩
  rw [HQ.out]
  go_wp2_with fail
  go_ret
  exact ⟨rfl, HB.out.trans (hb1.mono HB.out.size)⟩
set_option maxHeartbeats 1000000 in
theorem impl_hasCiphers (gr : GroupD) (v : Value) (ds : List CipherD) (w : World) (hg : OkG gr) (h : RdR rCipher w v ds) :
    Calls Try.prog 139 #[.agg #[.int .i64 gr.p, .int .i64 gr.q, .int .i64 gr.g], v] w fun e w' => e = .returned (.bool (cisB gr ds)) ∧ Below w.heap.size w w' := by
  obtain ⟨a, n, c, rfl⟩ := h.shape
  have e := h.len
  have HG := Lib.hid hg
  obtain ⟨W, hW⟩ : ∃ W, W = w.alloc (.cells #[.int .i64 gr.p, .int .i64 gr.q, .int .i64 gr.g] 39) := ⟨_, rfl⟩
  have HB : Hid (Below w.heap.size w W) := by unfold Hid; rw [hW]; (repeat (first | exact Below.refl _ _ | assumption | refine Below.drew ?_ | refine Below.alloc ?_ (by first | (simp; done) | (simp; omega)) _ | refine Below.setCell ?_ (by first | (simp; done) | (simp; omega)) _))
  have HX : Hid (BoxN W w.heap.size 39 [.int .i64 gr.p, .int .i64 gr.q, .int .i64 gr.g]) := by unfold Hid; rw [hW]; exact BoxN.new w _ _
  have H : Hid ((kR 58 rCipher).rd W (.slice a n c) ds) := (kR 58 rCipher).rd_below h HB.out
  clear h
  have HD : Hid (DecidesS rCipher W 262 #[.pointer (some ⟨w.heap.size, 0, none⟩)] (fun d => !ciB gr d)) :=
    ⟨Try.call262, fun v d wr hx hb => impl_hasCiphers1 gr v d _ wr HG.out hx (HX.out.below hb)⟩
  by_cases hn : (n : Int) ≤ 24
  · have HR : Hid (cisB gr ds = !(ds.any fun d => !ciB gr d)) := by unfold Hid cisB; rw [ciB_any, decide_eq_true (by omega)]; simp
    obtain ⟨q, hq⟩ : ∃ q, (ds.any fun d => !ciB gr d) = q := ⟨_, rfl⟩
    have HQ := Lib.hid hq
    rw [hq] at HR; clear hq e hg
    go_enter Try.func139, Try.ntmps139
    go_wp2_with fail
    rw [← hW]
    clear hW
    refine (slices_ContainsFuncCipher _ ds _ _ (fun d => !ciB gr d) _ H.out HD.out).mono ?_
    rintro e w1 ⟨rfl, hb⟩
    rw [HQ.out]
    go_wp2_with fail
    go_ret
    exact ⟨ret_bool (by first | (rw [HR.out]; done) | (rw [HR.out]; rfl) | exact HR.out.symm), HB.out.trans (hb.mono HB.out.size)⟩
  · have HR : Hid (cisB gr ds = false) := by unfold Hid cisB; rw [decide_eq_false (by omega)]; rfl
    clear e hg
    go_enter Try.func139, Try.ntmps139
    go_wp2_with fail
    go_ret
    exact ⟨ret_bool (by first | (rw [HR.out]; done) | (rw [HR.out]; rfl) | exact HR.out.symm), by rw [← hW]; exact HB.out⟩
theorem FrR.lit {δ : Type} {e : TypeId} {R : RowK δ} (w : World) (css : List (List Value)) {ds : List δ} {cs : Array Value} {n : Nat} (hcs : cs = css.flatten.toArray) (hl : css.length = ds.length) (hn : n = ds.length) (hm : n ≤ maxLen) (hsz : cs.size = n * R.width)
    (hel : ∀ i (h1 : i < css.length) (h2 : i < ds.length), R.rd w css[i] ds[i]) : FrR e R w (w.alloc (.cells cs e)) w.heap.size (.slice (some ⟨w.heap.size, 0, none⟩) n n) ds := by
  have hO := World.ownsRow_lit (e := e) (size := R.width) w cs n (Nat.le_refl _) hm hsz
  subst hcs
  rw [hn] at hO ⊢
  exact ⟨css, hl, by simpa using hO, hel⟩
def SmallCI (c : CipherD) : Prop := I64 c.a ∧ I64 c.b
theorem SmallC.ci {c : CipherD} (h : SmallC c) : SmallCI c := ⟨small_64 h.1, small_64 h.2⟩
def AllCI (l : List CipherD) : Prop := ∀ c ∈ l, SmallCI c
theorem rowC {w : World} {c : CipherD} (h : SmallCI c) : rCipher.rd w [.int .i64 c.a, .int .i64 c.b] c := by
  obtain ⟨us, e, hr⟩ := (rdCipher (w := w)).2 ⟨rfl, h.1, h.2⟩
  obtain rfl : us = [.int .i64 c.a, .int .i64 c.b] := by have h := Value.agg.inj e; simpa using (congrArg Array.toList h).symm
  exact hr
def rowsC (c : CipherD) : List Value := [.int .i64 c.a, .int .i64 c.b]
theorem RdC.lit (w : World) {l : List CipherD} (h : AllCI l) {cs : Array Value} (hcs : cs = (l.map rowsC).flatten.toArray) (n : Nat) (hn : n = l.length) (hm : n ≤ maxLen) :
    RdR rCipher (w.alloc (.cells cs 58)) (.slice (some ⟨w.heap.size, 0, none⟩) n n) l := by
  refine (FrR.lit (e := 58) (R := rCipher) w (l.map rowsC) hcs (by simp) hn hm ?_ (fun i h1 h2 => ?_)).rd ((Below.refl _ _).alloc (Nat.le_refl _) _)
  · subst hcs
    rw [List.size_toArray, flat_len (s := 2) (fun c hc => by obtain ⟨d, _, rfl⟩ := List.mem_map.1 hc; rfl), List.length_map, hn]
    rfl
  · simp only [List.getElem_map]
    exact rowC (h _ (List.getElem_mem _))
theorem AllSmallC.nil : AllSmallC [] := fun x hx => by cases hx
theorem AllSmallC.cons {x : CipherD} {l : List CipherD} (h : SmallC x) (h' : AllSmallC l) : AllSmallC (x :: l) := fun y hy => by
  rcases List.mem_cons.1 hy with rfl | hy
  · exact h
  · exact h' y hy
theorem AllCI.nil : AllCI [] := fun x hx => by cases hx
theorem AllCI.cons {x : CipherD} {l : List CipherD} (h : SmallCI x) (h' : AllCI l) : AllCI (x :: l) := fun y hy => by
  rcases List.mem_cons.1 hy with rfl | hy
  · exact h
  · exact h' y hy
theorem spec_eGoodC (gr : GroupD) (v : Value) (l : List CipherD) (w : World) (hg : OkG gr) (h : RdR rCipher w v l) :
    Calls Try.prog 143 #[.agg #[.int .i64 gr.p, .int .i64 gr.q, .int .i64 gr.g], v] w fun e w' => e = .returned (.bool (cisB gr l)) ∧ Below w.heap.size w w' := spec_eGood gr v l w hg h
end Go.Proofs.Ytboahnklilmdpaa
namespace Go.Proofs.Ytboahnklilmdpaa
open Go.RowKit
set_option linter.unusedSimpArgs false
set_option linter.unusedVariables false

/-- the k-th power -/
def yE (gr : GroupD) (b : Int) (k : Nat) : Int := powM b k gr.p
theorem yE_add (gr : GroupD) (b : Int) (a d : Nat) (h : yE gr b d = 1) : yE gr b (a + d) = yE gr b a := by
  have h' : b ^ d % gr.p = 1 := h
  show b ^ (a + d) % gr.p = b ^ a % gr.p
  rw [Int.pow_add, ← emod_mul_right, h', Int.mul_one]
theorem yE_mod (gr : GroupD) (b : Int) {d : Nat} (hd : 0 < d) (h : yE gr b d = 1) (j : Nat) : yE gr b j = yE gr b (j % d) := by
  induction j using Nat.strongRecOn with
  | ind j ih =>
    rcases Nat.lt_or_ge j d with hlt | hge
    · rw [Nat.mod_eq_of_lt hlt]
    · have e : j = (j - d) + d := by omega
      have h1 := ih (j - d) (by omega)
      rw [Nat.mod_eq_sub_mod hge, ← h1, ← yE_add gr b (j - d) d h, ← e]
theorem elB_pow {gr : GroupD} {x : Int} (h : elB gr x = true) : powM x gr.q gr.p = 1 := by
  unfold elB at h; simp only [Bool.and_eq_true, beq_iff_eq] at h; exact h.2
end Go.Proofs.Ytboahnklilmdpaa
