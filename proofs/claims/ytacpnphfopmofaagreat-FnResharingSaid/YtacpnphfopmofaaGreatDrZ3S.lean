/- Wrong shares: the model's walk (printed by gen_sb1.py). -/
import Derived.Test.YtacpnphfopmofaaGreatDeaLS
import Derived.Test.YtacpnphfopmofaaGreatSh2S
import Derived.Test.YtacpnphfopmofaaGreatRegVS
import Derived.Test.YtacpnphfopmofaaGreatBaS
import Derived.Test.YtacpnphfopmofaaGreatRegPS
import Derived.Test.YtacpnphfopmofaaGreatDrSh3S
import Derived.Test.YtacpnphfopmofaaGreatLag1S
import Derived.Test.YtacpnphfopmofaaGreatDrZ1S
import Derived.Deep.CutRange
namespace Go.Proofs.YtacpnphfopmofaaGreat
open Go.RowKit
set_option linter.unusedSimpArgs false
set_option linter.unusedVariables false
set_option maxRecDepth 100000 in
set_option maxHeartbeats 2000000 in
theorem spec_sBad (gr : GroupD) (pv : Value) (d : DealingD) (w : World) (hg : OkG gr) (hp : DlR w pv d) (hel : AllSmall d.c) (hd : d.c.length ≤ 1000 ∧ d.s.length ≤ 7) :
    Calls Tryz.prog 61 #[.agg #[.int .i64 gr.p, .int .i64 gr.q, .int .i64 gr.g], pv] w fun e w' => (∃ v', e = .returned v' ∧ OwnI w' w.heap.size v' (badE gr d)) ∧ Below w.heap.size w w' := by
  have HG := Lib.hid hg
  have HD := Lib.hid hd
  have HEL := Lib.hid hel
  clear hg hd hel
  obtain ⟨xcv, xsv, rfl, hxc, hxs⟩ := hp
  obtain ⟨xca, xcn, xcc, rfl⟩ := hxc.shape
  have Exc := Lib.hid hxc.len
  have Kxc := Lib.hid hxc.capMax
  have Hxc := Lib.hid hxc
  clear hxc
  obtain ⟨xsa, xsn, xsc, rfl⟩ := hxs.shape
  have Exs := Lib.hid hxs.len
  have Kxs := Lib.hid hxs.capMax
  have Hxs := Lib.hid hxs
  clear hxs
  obtain ⟨W, hW⟩ : ∃ W, W = (w.alloc (.cells #[.int .i64 gr.p, .int .i64 gr.q, .int .i64 gr.g] 24)).alloc (.cells #[.slice xca xcn xcc, .slice xsa xsn xsc] 61) := ⟨_, rfl⟩
  have HB : Hid (Below w.heap.size w W) := by unfold Hid; rw [hW]; (repeat (first | exact Below.refl _ _ | assumption | refine Below.drew ?_ | refine Below.alloc ?_ (by first | (simp; done) | (simp; omega)) _ | refine Below.setCell ?_ (by first | (simp; done) | (simp; omega)) _))
  have HBG : Hid (BoxN W w.heap.size 24 [.int .i64 gr.p, .int .i64 gr.q, .int .i64 gr.g]) := by unfold Hid; rw [hW]; have h := (BoxN.new w [.int .i64 gr.p, .int .i64 gr.q, .int .i64 gr.g] 24).alloc (.cells #[.slice xca xcn xcc, .slice xsa xsn xsc] 61); simpa using h
  have HBD : Hid (BoxN W (w.heap.size + 1) 61 [.slice xca xcn xcc, .slice xsa xsn xsc]) := by unfold Hid; rw [hW]; have h := BoxN.new (w.alloc (.cells #[.int .i64 gr.p, .int .i64 gr.q, .int .i64 gr.g] 24)) [.slice xca xcn xcc, .slice xsa xsn xsc] 61; simpa using h
  have HSW : w.heap.size ≤ W.heap.size := HB.out.size
  have HW2 : Hid (W.heap.size = w.heap.size + 1 + 1) := by unfold Hid; rw [hW]; simp
  have d0 := HBD.out.cell (i := 0) rfl
  have d1 := HBD.out.cell (i := 1) rfl
  go_enter Tryz.func61, Tryz.ntmps61
  go_wp2_with fail
  rw [← hW]
  clear hW d0 d1
  have HO0 : Hid (OwnI W W.heap.size (.slice none 0 0) []) := OwnI.nil _ _
  have hbV : Below W.heap.size W W := Below.refl _ _
  have d1 := HBD.out.cell (i := 1) rfl
  have d0 := HBD.out.cell (i := 0) rfl
  (try (go_wp2_with fail))
  clear d0 d1
  go_loopg [5, 11] xsn (fun gk ov iv wr => ∃ k : Nat, k + gk = xsn ∧ iv = .int .i64 (k : Int) ∧ OwnI wr W.heap.size ov (bdL gr d k) ∧ Below W.heap.size W wr)
  case atStart => exact ⟨0, by omega, rfl, HO0.out, hbV⟩
  case round =>
    obtain ⟨k, hkg, rfl, hO, hbr⟩ := hrel
    have HKG := Lib.hid hkg
    have HBR := Lib.hid hbr
    have hgl : k < xsn → xsn - (k + 1) < gk := by omega
    have hsr := hbr.size
    have HLB := Lib.hid (bdL_len gr d k)
    obtain ⟨LB, hLB⟩ : ∃ l, bdL gr d k = l := ⟨_, rfl⟩
    rw [hLB] at hO HLB
    have HLe := Lib.hid hLB
    obtain ⟨ao, co, rfl⟩ := hO.shape
    have HO := Lib.hid hO
    clear hkg hbr hO hLB
    have hN7 : xsn ≤ 7 := by have := HD.out; have := Exs.out; omega
    by_cases hlt : k < xsn
    · obtain ⟨b, o, e, hcx⟩ := Hxs.out.at_ (by have := Exs.out; omega)
      cases e
      have yk := box_at (box_at (hcx k hlt) HB.out) HBR.out
      clear hcx
      have HXI : Hid (I64 (nth d.s k)) := nth_64 Hxs.out k
      obtain ⟨x, hx⟩ : ∃ z, nth d.s k = z := ⟨_, rfl⟩
      rw [hx] at yk HXI
      have HXe := Lib.hid hx
      clear hx
      have kk0 : (0 : Int) ≤ (k : Int) := by omega
      have kk1 : (k : Int) < (xsn : Int) := by omega
      have hwk : IntKind.i64.wrap ((k : Int) + 1) = (k : Int) + 1 := IntWalk.i64_in _ (by omega)
      have HKI : Hid (0 ≤ (k : Int) + 1 ∧ (k : Int) + 1 ≤ 1000) := ⟨by omega, by omega⟩
      have c0 := (HBG.out.below HBR.out).cell (i := 0) rfl
      have c1 := (HBG.out.below HBR.out).cell (i := 1) rfl
      have c2 := (HBG.out.below HBR.out).cell (i := 2) rfl
      have d0 := (HBD.out.below HBR.out).cell (i := 0) rfl
      have d1 := (HBD.out.below HBR.out).cell (i := 1) rfl
      go_wp2_with fail
      refine (spec_sFits gr _ d.c ((k : Int) + 1) x _ HG.out ((Hxc.out.below HB.out).below HBR.out) HEL.out (by have := HD.out; omega) HKI.out HXI.out).mono ?_
      rintro e w1 ⟨rfl, hb1⟩
      have hs1 := hb1.size
      have HO1 := Lib.hid (HO.out.below hb1)
      have HB1 := Lib.hid (HBR.out.trans (hb1.mono HBR.out.size))
      clear hb1 c0 c1 c2 d0 d1 yk
      obtain ⟨q, hq⟩ : ∃ q, shrB gr d.c ((k : Int) + 1) x = q := ⟨_, rfl⟩
      have HQ := Lib.hid hq
      rw [hq]
      clear hq
      cases q with
      | true =>
        have HN : Hid (bdL gr d (k + 1) = LB) := by unfold Hid bdL; rw [HXe.out, if_pos HQ.out]; exact HLe.out
        go_wp2_with fail
        go_roundg (xsn - (k + 1))
        case measure => exact hgl hlt
        case rel => exact ⟨k + 1, by have := HKG.out; omega, by go_num, by rw [HN.out]; exact HO1.out, HB1.out⟩
      | false =>
        have HN : Hid (bdL gr d (k + 1) = LB ++ [(k : Int) + 1]) := by unfold Hid bdL; rw [HXe.out, if_neg (by rw [HQ.out]; simp), HLe.out]
        go_wp2_with (at_builtin; refine wpList_append_ints rfl _ _ rfl W.heap.size _ _ LB [(k : Int) + 1] rfl (HO1.out.alloc _) rfl (Ints.lit1 _ ⟨by omega, by omega⟩) (by have := HLB.out; simp; omega) (by simp; omega) ?_; intro v4 w4 hown4 hgr4)
        have hb4 := (HO1.out.alloc _).grown hgr4 (by simp; omega)
        have hb5 := ((Below.refl W.heap.size w1).alloc (by omega) _).trans hb4
        go_roundg (xsn - (k + 1))
        case measure => exact hgl hlt
        case rel => exact ⟨k + 1, by have := HKG.out; omega, by go_num, by rw [HN.out]; exact hown4, HB1.out.trans hb5⟩
    · obtain rfl : k = xsn := by have := HKG.out; omega
      have HV : Hid (badE gr d = LB) := by unfold Hid badE; rw [Exs.out]; exact HLe.out
      go_wp2_with fail
      go_ret
      exact ⟨⟨_, rfl, by rw [HV.out]; exact HO.out.mono HSW⟩, HB.out.trans (HBR.out.mono HB.out.size)⟩
theorem spec_sBadD (gr : GroupD) (pv : Value) (d : DealingD) (w : World) (hg : OkG gr) (hp : DlR w pv d) (hd : deB gr d = true) :
    Calls Tryz.prog 61 #[.agg #[.int .i64 gr.p, .int .i64 gr.q, .int .i64 gr.g], pv] w fun e w' => (∃ v', e = .returned v' ∧ OwnI w' w.heap.size v' (badE gr d)) ∧ Below w.heap.size w w' :=
  spec_sBad gr pv d w hg hp (cms_small hg (deB_parts hd).2.1) (by have := (deB_parts hd).1; omega)
end Go.Proofs.YtacpnphfopmofaaGreat
namespace Go.Proofs.YtacpnphfopmofaaGreat
open Go.RowKit
set_option linter.unusedSimpArgs false
set_option linter.unusedVariables false

def FrR {δ : Type} (e : TypeId) (R : RowK δ) (w0 w : World) (B : Nat) (v : Value) (ds : List δ) : Prop :=
  ∃ css : List (List Value), css.length = ds.length ∧ w.ownsRow B e R.width v ds.length css.flatten ∧ ∀ i (h1 : i < css.length) (h2 : i < ds.length), R.rd w0 css[i] ds[i]
section
variable {δ : Type} {e : TypeId} {R : RowK δ} {w0 w w' : World} {B : Nat} {v : Value} {ds es : List δ}
theorem FrR.lens {css : List (List Value)} (hl : css.length = ds.length) (hel : ∀ i (h1 : i < css.length) (h2 : i < ds.length), R.rd w0 css[i] ds[i]) : ∀ c ∈ css, c.length = R.width := by
  intro c hc
  obtain ⟨i, hi, rfl⟩ := List.getElem_of_mem hc
  exact R.rd_len (hel i hi (by omega))
theorem FrR.ones {css : List (List Value)} (hl : css.length = ds.length) (hel : ∀ i (h1 : i < css.length) (h2 : i < ds.length), R.rd w0 css[i] ds[i]) : ∀ u ∈ css.flatten, u.oneCell' = true := by
  intro u hu
  obtain ⟨c, hc, hu⟩ := List.mem_flatten.1 hu
  obtain ⟨i, hi, rfl⟩ := List.getElem_of_mem hc
  exact R.rd_one (hel i hi (by omega)) u hu
theorem FrR.rd (h : FrR e R w0 w B v ds) (hb : Below w0.heap.size w0 w) : RdR R w v ds := by
  obtain ⟨css, hl, hO, hel⟩ := h
  have hlen := FrR.lens hl hel
  have hO' := hO
  obtain ⟨hl1, ⟨rfl, h0⟩ | ⟨g, c, cur, rfl, hbb, hgc, hnc, hcm, hcs, htake⟩⟩ := hO
  · have : ds = [] := List.eq_nil_of_length_eq_zero h0
    subst this; exact RdR.nil R w
  · refine ⟨some ⟨g, 0, none⟩, ds.length, c, rfl, rfl, hnc, hcm, .inr (.inr ⟨g, 0, rfl, fun i hi => ?_⟩)⟩
    refine ⟨css[i]'(by omega), fun k hk => ?_, R.rd_below (hel i (by omega) hi) hb⟩
    have h1 := World.ownsRow.cellAt hO' (i * R.width + k) (by
      have : (i + 1) * R.width ≤ ds.length * R.width := Nat.mul_le_mul_right _ hi
      rw [Nat.succ_mul] at this; omega)
    rw [Nat.zero_add, h1, flat_get hlen hk, List.getElem?_eq_getElem (by omega)]
    rfl
theorem FrR.nil (e : TypeId) (R : RowK δ) (w0 w : World) (B : Nat) : FrR e R w0 w B (.slice none 0 0) [] :=
  ⟨[], rfl, by simpa using World.ownsRow_nil w B e R.width, fun i h1 _ => by simp at h1⟩
theorem FrR.lit0 (e : TypeId) (R : RowK δ) (w0 w : World) (B : Nat) (hB : B ≤ w.heap.size) : FrR e R w0 (w.alloc (.cells #[] e)) B (.slice (some ⟨w.heap.size, 0, none⟩) 0 0) [] :=
  ⟨[], rfl, World.ownsRow_lit (e := e) (size := R.width) w #[] 0 hB (Nat.zero_le _) (by simp), fun i h1 _ => by simp at h1⟩
theorem FrR.below (h : FrR e R w0 w B v ds) (hb : Below w.heap.size w w') : FrR e R w0 w' B v ds := by
  obtain ⟨css, hl, hO, hel⟩ := h
  exact ⟨css, hl, ownsRow_frame hO fun g hg => hb.block g (hO.lt g hg).2, hel⟩
theorem FrR.frame (h : FrR e R w0 w B v ds) (hf : ∀ g, v.ownBlock = some g → w'.heap[g]? = w.heap[g]?) : FrR e R w0 w' B v ds := by
  obtain ⟨css, hl, hO, hel⟩ := h
  exact ⟨css, hl, ownsRow_frame hO hf, hel⟩
theorem FrR.lt (h : FrR e R w0 w B v ds) : ∀ g, v.ownBlock = some g → B ≤ g ∧ g < w.heap.size := by
  obtain ⟨css, hl, hO, hel⟩ := h
  exact fun g hg => hO.lt g hg
theorem FrR.mono {B' : Nat} (h : FrR e R w0 w B v ds) (hB : B' ≤ B) : FrR e R w0 w B' v ds := by
  obtain ⟨css, hl, hO, hel⟩ := h
  exact ⟨css, hl, ownsRow_mono hO hB, hel⟩
end
end Go.Proofs.YtacpnphfopmofaaGreat
namespace Go.Proofs.YtacpnphfopmofaaGreat
open Go.RowKit
set_option linter.unusedSimpArgs false
set_option linter.unusedVariables false

theorem infoDl : ∃ i, Tryz.prog.info? 61 = some i ∧ i.zero = some (.agg #[.slice none 0 0, .slice none 0 0]) ∧ i.size = 2 ∧ i.bytes ≤ 1000 := by
  have h : (Tryz.prog.info? 61).map (fun i => (i.zero, i.size, decide (i.bytes ≤ 1000))) = some (some (.agg #[.slice none 0 0, .slice none 0 0]), 2, true) := by kernel_rfl
  obtain ⟨i, hi, hz⟩ := Option.map_eq_some_iff.1 h
  simp only [Prod.mk.injEq] at hz
  exact ⟨i, hi, hz.1, hz.2.1, of_decide_eq_true hz.2.2⟩
/-- a row of dealings: each in rows of its own -/
def OwnDs (w : World) (B : Nat) (v : Value) (ds : List DealingD) : Prop :=
  ∃ css : List (List Value), css.length = ds.length ∧ w.ownsRow B 61 2 v ds.length css.flatten ∧
    ∀ i (h1 : i < css.length) (h2 : i < ds.length), ∃ x y, css[i] = [x, y] ∧ OwnI w B x ds[i].c ∧ OwnI w B y ds[i].s
section
variable {w w' : World} {B : Nat} {v : Value} {ds : List DealingD} {d : DealingD}
theorem OwnDs.nil (w : World) (B : Nat) : OwnDs w B (.slice none 0 0) [] :=
  ⟨[], rfl, by simpa using World.ownsRow_nil w B 61 2, fun i h1 _ => by simp at h1⟩
theorem OwnDs.lens {css : List (List Value)} (hl : css.length = ds.length)
    (hel : ∀ i (h1 : i < css.length) (h2 : i < ds.length), ∃ x y, css[i] = [x, y] ∧ OwnI w B x ds[i].c ∧ OwnI w B y ds[i].s) : ∀ c ∈ css, c.length = 2 := by
  intro c hc
  obtain ⟨i, hi, rfl⟩ := List.getElem_of_mem hc
  obtain ⟨x, y, e, _⟩ := hel i hi (by omega)
  rw [e]; rfl
theorem rowDl {x y : Value} (h1 : Ints w x d.c) (h2 : Ints w y d.s) : rDealing.rd w [x, y] d := by
  obtain ⟨a1, n1, c1, rfl⟩ := h1.shape
  obtain ⟨a2, n2, c2, rfl⟩ := h2.shape
  obtain ⟨vs, e, h⟩ := rdDealing.2 ⟨_, _, _, _, _, _, rfl, h1, h2⟩
  obtain rfl : vs = [.slice a1 n1 c1, .slice a2 n2 c2] := by have h := Value.agg.inj e; simpa using (congrArg Array.toList h).symm
  exact h
theorem OwnDs.rd (h : OwnDs w B v ds) : RdR rDealing w v ds := by
  obtain ⟨css, hl, hO, hel⟩ := h
  refine FrR.rd (e := 61) (w0 := w) (B := B) ⟨css, hl, hO, fun i h1 h2 => ?_⟩ (Below.refl _ _)
  obtain ⟨x, y, e, q1, q2⟩ := hel i h1 h2
  rw [e]
  exact rowDl q1.ints q2.ints
theorem OwnDs.frame (h : OwnDs w B v ds) (hs : w.heap.size ≤ w'.heap.size) (hb : ∀ k, B ≤ k → k < w.heap.size → w'.heap[k]? = w.heap[k]?) : OwnDs w' B v ds := by
  obtain ⟨css, hl, hO, hel⟩ := h
  refine ⟨css, hl, ownsRow_frame hO fun g hg => hb g (hO.lt g hg).1 (hO.lt g hg).2, fun i h1 h2 => ?_⟩
  obtain ⟨x, y, e, q1, q2⟩ := hel i h1 h2
  exact ⟨x, y, e, q1.since hs hb, q2.since hs hb⟩
theorem OwnDs.below (h : OwnDs w B v ds) (hb : Below w.heap.size w w') : OwnDs w' B v ds := h.frame hb.size fun k _ hk => hb.block k hk
theorem OwnDs.within {lo hi : Nat} (h : OwnDs w B v ds) (hw : Within lo hi w w') (hd : hi ≤ B) : OwnDs w' B v ds := h.frame hw.size fun k hk hlt => hw.block k hlt (.inr (by omega))
theorem Since.of_ownDs {B' : Nat} (h : OwnDs w B v ds) (hB : B' ≤ B) : Since B' w (fun u => RdR rDealing u v ds) := fun u hs hb => (h.frame hs fun k hk hlt => hb k (by omega) hlt).rd
theorem OwnI.apartDs {l : List Int} {n : Nat} {xs : List Value} {q : Value} (h : OwnI w B q l) (hO : w.ownsRow B 61 2 v n xs) : q.ownBlock = none ∨ q.ownBlock ≠ v.ownBlock := by
  cases e : q.ownBlock with
  | none => exact .inl rfl
  | some k =>
    refine .inr fun e2 => ?_
    rcases hO.2 with ⟨rfl, _⟩ | ⟨g, c, cur, rfl, hb, hg, _⟩
    · cases e2
    · have hk : some k = some g := e2
      cases hk
      rcases h.2.2 with h2 | ⟨g', c', cur', rfl, hb', hg', _⟩
      · rw [h2.1] at e; cases e
      · cases e
        rw [hg] at hg'
        injection hg' with hg'
        injection hg' with h1 h2 h3
        exact absurd h2 (by decide)
end
end Go.Proofs.YtacpnphfopmofaaGreat
namespace Go.Proofs.YtacpnphfopmofaaGreat
open Go.RowKit
set_option linter.unusedSimpArgs false
set_option linter.unusedVariables false

/-- a list of the call's own (not in block u), or one of before (in W) -/
def MemI (W w : World) (B : Nat) (u : Option Nat) (x : Value) (l : List Int) : Prop := (OwnI w B x l ∧ ∀ k, u = some k → x.ownBlock ≠ some k) ∨ Ints W x l
/-- a row of dealings with such lists -/
structure MixDs (W w : World) (B : Nat) (u : Option Nat) (v : Value) (ds : List DealingD) : Prop where
  bel : Below W.heap.size W w
  le : W.heap.size ≤ B
  row : ∃ css : List (List Value), css.length = ds.length ∧ w.ownsRow B 61 2 v ds.length css.flatten ∧
    ∀ i (h1 : i < css.length) (h2 : i < ds.length), ∃ x y, css[i] = [x, y] ∧ MemI W w B u x ds[i].c ∧ MemI W w B u y ds[i].s
section
variable {W w w' : World} {B : Nat} {u : Option Nat} {v : Value} {ds : List DealingD} {d : DealingD}
theorem MemI.ints {x : Value} {l : List Int} (h : MemI W w B u x l) (hb : Below W.heap.size W w) : Ints w x l := by
  rcases h with h | h
  · exact h.1.ints
  · exact h.below hb
theorem MemI.shape {x : Value} {l : List Int} (h : MemI W w B u x l) : ∃ a n c, x = .slice a n c := by
  rcases h with h | h
  · obtain ⟨a, c, e⟩ := h.1.shape; exact ⟨a, _, c, e⟩
  · exact h.shape
theorem MemI.below {x : Value} {l : List Int} (h : MemI W w B u x l) (hb : Below w.heap.size w w') : MemI W w' B u x l := by
  rcases h with h | h
  · exact .inl ⟨h.1.below hb, h.2⟩
  · exact .inr h
theorem MixDs.nil (hb : Below W.heap.size W w) (hle : W.heap.size ≤ B) : MixDs W w B u (.slice none 0 0) [] :=
  ⟨hb, hle, [], rfl, by simpa using World.ownsRow_nil w B 61 2, fun i h1 _ => by simp at h1⟩
theorem MixDs.lit0 (hb : Below W.heap.size W w) (hle : W.heap.size ≤ B) (hB : B ≤ w.heap.size) : MixDs W (w.alloc (.cells #[] 61)) B u (.slice (some ⟨w.heap.size, 0, none⟩) 0 0) [] :=
  ⟨hb.trans ((Below.refl _ _).alloc hb.size _), hle, [], rfl, World.ownsRow_lit (e := 61) (size := 2) w #[] 0 hB (Nat.zero_le _) (by simp), fun i h1 _ => by simp at h1⟩
theorem MixDs.lit1 {x y : Value} (hb : Below W.heap.size W w) (hle : W.heap.size ≤ B) (hB : B ≤ w.heap.size) (hx : MemI W w B u x d.c) (hy : MemI W w B u y d.s) : MixDs W (w.alloc (.cells #[x, y] 61)) B u (.slice (some ⟨w.heap.size, 0, none⟩) 1 1) [d] := by
  have hal : Below w.heap.size w (w.alloc (.cells #[x, y] 61)) := (Below.refl _ _).alloc (Nat.le_refl _) _
  refine ⟨hb.trans ((Below.refl _ _).alloc hb.size _), hle, [[x, y]], rfl, ?_, fun i h1 h2 => ?_⟩
  · exact World.ownsRow_lit (e := 61) (size := 2) w #[x, y] 1 hB (by simp [maxLen]) (by simp)
  · have hi : i = 0 := by simp at h1; omega
    subst hi
    exact ⟨x, y, rfl, hx.below hal, hy.below hal⟩
theorem MixDs.lens {css : List (List Value)} (hl : css.length = ds.length)
    (hel : ∀ i (h1 : i < css.length) (h2 : i < ds.length), ∃ x y, css[i] = [x, y] ∧ MemI W w B u x ds[i].c ∧ MemI W w B u y ds[i].s) : ∀ c ∈ css, c.length = 2 := by
  intro c hc
  obtain ⟨i, hi, rfl⟩ := List.getElem_of_mem hc
  obtain ⟨x, y, e, _⟩ := hel i hi (by omega)
  rw [e]; rfl
theorem MixDs.rd (h : MixDs W w B u v ds) : RdR rDealing w v ds := by
  obtain ⟨hb, hle, css, hl, hO, hel⟩ := h
  refine FrR.rd (e := 61) (w0 := w) (B := B) ⟨css, hl, hO, fun i h1 h2 => ?_⟩ (Below.refl _ _)
  obtain ⟨x, y, e, q1, q2⟩ := hel i h1 h2
  rw [e]
  exact rowDl (q1.ints hb) (q2.ints hb)
theorem MixDs.below (h : MixDs W w B u v ds) (hb : Below w.heap.size w w') : MixDs W w' B u v ds := by
  obtain ⟨hb0, hle, css, hl, hO, hel⟩ := h
  refine ⟨Below.next hb0 hb, hle, css, hl, ownsRow_frame hO fun g hg => hb.block g (hO.lt g hg).2, fun i h1 h2 => ?_⟩
  obtain ⟨x, y, e, q1, q2⟩ := hel i h1 h2
  exact ⟨x, y, e, q1.below hb, q2.below hb⟩
theorem MixDs.shape (h : MixDs W w B u v ds) : ∃ a c, v = .slice a ds.length c := by
  obtain ⟨a, n, c, e⟩ := h.rd.shape
  have := (e ▸ h.rd : RdR rDealing w (.slice a n c) ds).len
  exact ⟨a, c, by rw [e, this]⟩
theorem MemI.keepRow {row : Option Nat} {x : Value} {l : List Int} {n : Nat} {xs : List Value} (h : MemI W w B u x l) (hO : w.ownsRow B 61 2 v n xs) (hg : w.grownBy w' v.ownBlock) : MemI W w' B u x l := by
  rcases h with h | h
  · exact .inl ⟨h.1.kept hg (h.1.apartDs hO), h.2⟩
  · exact .inr h
/-- more dealings, whose cells stand somewhere -/
theorem run_append_Mix {es : List DealingD} (h : MixDs W w B u v ds) (ad : Addr) (m c : Nat) (css' : List (List Value)) (hl' : css'.length = es.length) (hm : es.length = m) (hnews : ∀ j t, css'.flatten[j]? = some t → w.cell? (ad.add j) = some t)
    (hel' : ∀ i (h1 : i < css'.length) (h2 : i < es.length), ∃ x y, css'[i] = [x, y] ∧ MemI W w B u x es[i].c ∧ MemI W w B u y es[i].s) (hB : B ≤ w.heap.size) (hlen : ds.length + es.length ≤ 1000000) (ty : TypeId) :
    ∃ v' w', (Builtin.append_ #[28, 28] ty #[v, .slice (some ad) m c]).run Tryz.prog w = .ok v' w' ∧ MixDs W w' B u v' (ds ++ es) ∧ Below B w w' ∧ (∀ q l, OwnI w B q l → OwnI w' B q l) ∧ w.grownBy w' v.ownBlock := by
  obtain ⟨hb0, hle, css, hl, hO, hel⟩ := h
  obtain ⟨i, hi, hzr, hsz, hby⟩ := infoDl
  have hfl' := flat_len (MixDs.lens hl' hel')
  have hones : ∀ t ∈ css'.flatten, t.oneCell' = true := by
    intro t ht
    obtain ⟨r, hr, ht⟩ := List.mem_flatten.1 ht
    obtain ⟨j, hj, rfl⟩ := List.getElem_of_mem hr
    obtain ⟨x, y, e, q1, q2⟩ := hel' j hj (by omega)
    rw [e] at ht
    obtain ⟨a1, n1, c1, e1⟩ := q1.shape
    obtain ⟨a2, n2, c2, e2⟩ := q2.shape
    simp only [List.mem_cons, List.not_mem_nil, or_false] at ht
    rcases ht with rfl | rfl
    · rw [e1]; rfl
    · rw [e2]; rfl
  obtain ⟨v', w', hr, h1, h2, _⟩ := run_append_own (P := Tryz.prog) w B 28 ty 61 i _ 2 i.bytes Tryz.underlying28 hi hzr hsz rfl rfl (by decide) v ds.length css.flatten hO ad m c css'.flatten (by rw [hfl', hl', hm]) hnews hones (by unfold maxLen; omega) (by
    have : (ds.length + m) * i.bytes ≤ 1000000000 * 1000 := Nat.mul_le_mul (by omega) hby
    omega) hB
  have hbb : Below B w w' := (Below.refl B w).grown h2 hB (fun k hk => (hO.lt k hk).1)
  refine ⟨v', w', hr, ⟨hb0.trans (hbb.mono hle), hle, css ++ css', by simp [hl, hl'], by simpa [List.flatten_append, hm] using h1, fun k k1 k2 => ?_⟩, hbb, fun q l hq => hq.kept h2 (hq.apartDs hO), h2⟩
  by_cases hk : k < ds.length
  · rw [List.getElem_append_left (by omega), List.getElem_append_left hk]
    obtain ⟨x', y', e, q1, q2⟩ := hel k (by omega) hk
    exact ⟨x', y', e, q1.keepRow (row := none) hO h2, q2.keepRow (row := none) hO h2⟩
  · rw [List.getElem_append_right (by omega), List.getElem_append_right (by omega)]
    simp only [List.length_append] at k2
    obtain ⟨x', y', e, q1, q2⟩ := hel' (k - css.length) (by simp only [List.length_append] at k1; omega) (by omega)
    have e2 : k - css.length = k - ds.length := by omega
    refine ⟨x', y', e, ?_, ?_⟩
    · have := q1.keepRow (row := none) hO h2; simpa only [e2] using this
    · have := q2.keepRow (row := none) hO h2; simpa only [e2] using this
theorem run_append_Mix1 {b : Nat} {x y : Value} (h : MixDs W w B u v ds) (hx : MemI W w B u x d.c) (hy : MemI W w B u y d.s)
    (hc0 : w.cell? ⟨b, 0, none⟩ = some x) (hc1 : w.cell? ⟨b, 1, none⟩ = some y) (hB : B ≤ w.heap.size) (hlen : ds.length ≤ 100000) (ty : TypeId) :
    ∃ v' w', (Builtin.append_ #[28, 28] ty #[v, .slice (some ⟨b, 0, none⟩) 1 1]).run Tryz.prog w = .ok v' w' ∧ MixDs W w' B u v' (ds ++ [d]) ∧ Below B w w' ∧ (∀ q l, OwnI w B q l → OwnI w' B q l) ∧ w.grownBy w' v.ownBlock := by
  refine run_append_Mix h ⟨b, 0, none⟩ 1 1 [[x, y]] rfl rfl ?_ (fun i h1 h2 => ?_) hB (by simp; omega) ty
  · intro j t ht
    rw [Addr.add_lit, Nat.zero_add]
    rcases j with _ | _ | j
    · simp at ht; subst ht; exact hc0
    · simp at ht; subst ht; exact hc1
    · simp at ht
  · have hi : i = 0 := by simp at h1; omega
    subst hi
    exact ⟨x, y, rfl, hx, hy⟩
/-- the integers beside it grow -/
theorem MixDs.growU {q q' : Value} {l : List Int} (h : MixDs W w B q.ownBlock v ds) (ho : OwnI w B q l) (hg : w.grownBy w' q.ownBlock) (hq' : ∀ k, q'.ownBlock = some k → q.ownBlock = some k ∨ w.heap.size ≤ k) (hB : B ≤ w.heap.size) : MixDs W w' B q'.ownBlock v ds := by
  obtain ⟨hb0, hle, css, hl, hO, hel⟩ := h
  have hbb : Below B w w' := ho.grown hg hB
  have hne : v.ownBlock = none ∨ v.ownBlock ≠ q.ownBlock := by
    cases e : v.ownBlock with
    | none => exact .inl rfl
    | some k =>
      refine .inr fun e2 => ?_
      rcases ho.apartDs hO with h1 | h1
      · rw [h1] at e2; cases e2
      · exact h1 (by rw [e, ← e2])
  have one : ∀ x l', MemI W w B q.ownBlock x l' → MemI W w' B q'.ownBlock x l' := by
    intro x l' hx
    rcases hx with hx | hx
    · refine .inl ⟨hx.1.kept hg ?_, fun k hk => ?_⟩
      · cases e : x.ownBlock with
        | none => exact .inl rfl
        | some k => exact .inr fun e2 => hx.2 k e2.symm e
      · rcases hq' k hk with h1 | h1
        · exact hx.2 k h1
        · intro e; have := (hx.1.lt k e).2; omega
    · exact .inr hx
  refine ⟨hb0.trans (hbb.mono hle), hle, css, hl, hO.kept hg hne, fun i h1 h2 => ?_⟩
  obtain ⟨x, y, e, q1, q2⟩ := hel i h1 h2
  exact ⟨x, y, e, one _ _ q1, one _ _ q2⟩
theorem wpList_append_Mix {ops : Array Oper} {rest : List Oper} {o : Oper} {a : Act} {Q : Exit → Act → World → Prop} (hg : o.guard = none) (s y0 : Operand)
    (ho : o.op = .call { callee := .builtin .append, args := #[s, y0], argTypes := #[28, 28] })
    {b : Nat} {x y : Value} (hs : a.eval s = v) (he : a.eval y0 = .slice (some ⟨b, 0, none⟩) 1 1) (h : MixDs W w B u v ds) (hx : MemI W w B u x d.c) (hy : MemI W w B u y d.s)
    (hbx : BoxN w b 61 [x, y]) (hB : B ≤ w.heap.size) (hlen : ds.length ≤ 100000) (N : Nat) (hN : ds.length + 1 = N)
    (hK : ∀ a' c' w', MixDs W w' B u (.slice a' N c') (ds ++ [d]) → Below B w w' → (∀ q l, OwnI w B q l → OwnI w' B q l) → wpList Tryz.prog ops Q rest (a.put o.dst (.slice a' N c')) w') : wpList Tryz.prog ops Q (o :: rest) a w := by
  obtain ⟨v', w', hr, h1, h3, h4, _⟩ := run_append_Mix1 h hx hy (hbx.cell (i := 0) rfl) (hbx.cell (i := 1) rfl) hB hlen o.type
  obtain ⟨a', c', e⟩ := h1.shape
  rw [List.length_append, List.length_singleton, hN] at e
  subst e
  refine wpList_plain hg fun K hK' => ?_
  unfold Oper.wp execOp
  simp only [ho, resolve, invoke, builtin, Sem.run_bind, Sem.run_pure, Result.andThen_ok, List.map_toArray, List.map_cons, List.map_nil, hs, he, hr]
  exact hK' _ _ (hK a' c' w' h1 h3 h4)
theorem wpList_append_intsU {ops : Array Oper} {rest : List Oper} {o : Oper} {a : Act} {Q : Exit → Act → World → Prop} (hgd : o.guard = none) (s x : Operand)
    (ho : o.op = .call { callee := .builtin .append, args := #[s, x], argTypes := #[25, 25] })
    {q y : Value} {l m : List Int} (hown : OwnI w B q l) (hM : MixDs W w B q.ownBlock v ds) (hy : Ints w y m) (hm : m ≠ []) (N : Nat) (hN : l.length + m.length = N) (hlen : N ≤ 1000000) (hB : B ≤ w.heap.size) (hs : a.eval s = q) (hxx : a.eval x = y)
    (hK : ∀ a' c' w', OwnI w' B (.slice a' N c') (l ++ m) → MixDs W w' B (Value.slice a' N c').ownBlock v ds → Below B w w' → wpList Tryz.prog ops Q rest (a.put o.dst (.slice a' N c')) w') : wpList Tryz.prog ops Q (o :: rest) a w := by
  obtain ⟨v', w', hr, h1, h2, h3⟩ := run_append_intsB hown hy hm (by omega) hB o.type
  obtain ⟨a', c', e⟩ := h1.shape
  rw [List.length_append, hN] at e
  subst e
  refine wpList_plain hgd fun K hK' => ?_
  unfold Oper.wp execOp
  simp only [ho, resolve, invoke, builtin, Sem.run_bind, Sem.run_pure, Result.andThen_ok, List.map_toArray, List.map_cons, List.map_nil, hs, hxx, hr]
  exact hK' _ _ (hK a' c' w' h1 (hM.growU hown h2 h3 hB) (hown.grown h2 hB))
end
end Go.Proofs.YtacpnphfopmofaaGreat
namespace Go.Proofs.YtacpnphfopmofaaGreat
open Go.RowKit
set_option linter.unusedSimpArgs false
set_option linter.unusedVariables false

theorem de_same {gr : GroupD} {k d : DealingD} (hd : deB gr d = true) (hs : smB d k = true) : SameD gr k d := by
  obtain ⟨_, p1, p2⟩ := deB_parts hd
  unfold smB at hs
  simp only [Bool.and_eq_true, decide_eq_true_iff] at hs
  exact ⟨hs.1, hs.2, fun x hx => List.all_eq_true.1 p1 x hx, fun x hx => List.all_eq_true.1 p2 x hx⟩
theorem smB_self (k : DealingD) : smB k k = true := by unfold smB; simp
end Go.Proofs.YtacpnphfopmofaaGreat
namespace Go.Proofs.YtacpnphfopmofaaGreat
open Go.RowKit
set_option linter.unusedSimpArgs false
set_option linter.unusedVariables false
set_option maxRecDepth 100000 in
set_option maxHeartbeats 2000000 in
theorem impl_hasKey (gr : GroupD) (pv : Value) (d : DealingD) (w : World) (hp : DlR w pv d) :
    Calls Tryz.prog 26 #[.agg #[.int .i64 gr.p, .int .i64 gr.q, .int .i64 gr.g], pv] w fun e w' => e = .returned (.bool (vdB gr d)) ∧ Below w.heap.size w w' := by
  obtain ⟨xcv, xsv, rfl, hxc, hxs⟩ := hp
  obtain ⟨xca, xcn, xcc, rfl⟩ := hxc.shape
  have Exc := Lib.hid hxc.len
  have Kxc := Lib.hid hxc.capMax
  have Hxc := Lib.hid hxc
  clear hxc
  obtain ⟨xsa, xsn, xsc, rfl⟩ := hxs.shape
  have Exs := Lib.hid hxs.len
  have Kxs := Lib.hid hxs.capMax
  have Hxs := Lib.hid hxs
  clear hxs
  obtain ⟨W, hW⟩ : ∃ W, W = (w.alloc (.cells #[.int .i64 gr.p, .int .i64 gr.q, .int .i64 gr.g] 24)).alloc (.cells #[(.slice xca xcn xcc), (.slice xsa xsn xsc)] 27) := ⟨_, rfl⟩
  have HB : Hid (Below w.heap.size w W) := by unfold Hid; rw [hW]; (repeat (first | exact Below.refl _ _ | assumption | refine Below.drew ?_ | refine Below.alloc ?_ (by first | (simp; done) | (simp; omega)) _ | refine Below.setCell ?_ (by first | (simp; done) | (simp; omega)) _))
  have c0_0 : W.cell? ⟨w.heap.size, 0, none⟩ = some (.int .i64 gr.p) := by rw [hW]; simp [go_sem]
  have c0_1 : W.cell? ⟨w.heap.size, 1, none⟩ = some (.int .i64 gr.q) := by rw [hW]; simp [go_sem]
  have c0_2 : W.cell? ⟨w.heap.size, 2, none⟩ = some (.int .i64 gr.g) := by rw [hW]; simp [go_sem]
  have c1_0 : W.cell? ⟨w.heap.size + 1, 0, none⟩ = some ((.slice xca xcn xcc)) := by rw [hW]; simp [go_sem]
  have c1_1 : W.cell? ⟨w.heap.size + 1, 1, none⟩ = some ((.slice xsa xsn xsc)) := by rw [hW]; simp [go_sem]
  have HSW : Hid (W.heap.size = w.heap.size + 2) := by unfold Hid; rw [hW]; simp
  go_enter Tryz.func26, Tryz.ntmps26
  go_wp2_with fail
  rw [← hW]
  have hse : w.heap.size + 1 + 1 = W.heap.size := by have := HSW.out; omega
  (try rw [hse])
  clear hse
  clear hW
  have hc : Below W.heap.size W W := Below.refl _ _
  have HCC : Hid (∀ u, Below W.heap.size W u → u.cell? ⟨w.heap.size, 0, none⟩ = some (.int .i64 gr.p) ∧ u.cell? ⟨w.heap.size, 1, none⟩ = some (.int .i64 gr.q) ∧ u.cell? ⟨w.heap.size, 2, none⟩ = some (.int .i64 gr.g) ∧ u.cell? ⟨w.heap.size + 1, 0, none⟩ = some ((.slice xca xcn xcc)) ∧ u.cell? ⟨w.heap.size + 1, 1, none⟩ = some ((.slice xsa xsn xsc))) := fun u h => ⟨box_at c0_0 h, box_at c0_1 h, box_at c0_2 h, box_at c1_0 h, box_at c1_1 h⟩
  go_wp2_with fail
  refine (impl_IsValidDealing gr _ d _ (DlR.mk (Hxc.out.below (HB.out.trans (hc.mono HB.out.size))) (Hxs.out.below (HB.out.trans (hc.mono HB.out.size))))).mono ?_
  rintro e u1 ⟨rfl, hq1⟩
  replace hc := Below.next hc hq1
  clear hq1 c0_0 c0_1 c0_2 c1_0 c1_1
  obtain ⟨c0_0, c0_1, c0_2, c1_0, c1_1⟩ := HCC.out _ hc
  cases hc1 : vdB gr d with
  | false =>
    have Hhc1 := Lib.hid hc1
    clear hc1
    go_wp2_with fail
    have HV : Hid ((.bool (vdB gr d) : Value) = .bool false) := by unfold Hid; simp [Hhc1.out]
    go_ret
    exact ⟨congrArg Ending.returned HV.out.symm, HB.out.trans (hc.mono HB.out.size)⟩
  | true =>
    have Hhc1 := Lib.hid hc1
    clear hc1
    go_wp2_with fail
    have HV : Hid ((.bool (vdB gr d) : Value) = .bool true) := by unfold Hid; simp [Hhc1.out]
    go_ret
    exact ⟨congrArg Ending.returned HV.out.symm, HB.out.trans (hc.mono HB.out.size)⟩
set_option maxRecDepth 100000 in
set_option maxHeartbeats 2000000 in
theorem impl_IsRightKey (gr : GroupD) (pv : Value) (d : DealingD) (w : World) (hp : DlR w pv d) :
    Calls Tryz.prog 12 #[.agg #[.int .i64 gr.p, .int .i64 gr.q, .int .i64 gr.g], pv] w fun e w' => e = .returned (.tuple #[.bool (vdB gr d && decide ((badE gr d).length = 0)), .bool (vdB gr d)]) ∧ Below w.heap.size w w' := by
  obtain ⟨xcv, xsv, rfl, hxc, hxs⟩ := hp
  obtain ⟨xca, xcn, xcc, rfl⟩ := hxc.shape
  have Exc := Lib.hid hxc.len
  have Kxc := Lib.hid hxc.capMax
  have Hxc := Lib.hid hxc
  clear hxc
  obtain ⟨xsa, xsn, xsc, rfl⟩ := hxs.shape
  have Exs := Lib.hid hxs.len
  have Kxs := Lib.hid hxs.capMax
  have Hxs := Lib.hid hxs
  clear hxs
  obtain ⟨W, hW⟩ : ∃ W, W = (w.alloc (.cells #[.int .i64 gr.p, .int .i64 gr.q, .int .i64 gr.g] 24)).alloc (.cells #[(.slice xca xcn xcc), (.slice xsa xsn xsc)] 27) := ⟨_, rfl⟩
  have HB : Hid (Below w.heap.size w W) := by unfold Hid; rw [hW]; (repeat (first | exact Below.refl _ _ | assumption | refine Below.drew ?_ | refine Below.alloc ?_ (by first | (simp; done) | (simp; omega)) _ | refine Below.setCell ?_ (by first | (simp; done) | (simp; omega)) _))
  have c0_0 : W.cell? ⟨w.heap.size, 0, none⟩ = some (.int .i64 gr.p) := by rw [hW]; simp [go_sem]
  have c0_1 : W.cell? ⟨w.heap.size, 1, none⟩ = some (.int .i64 gr.q) := by rw [hW]; simp [go_sem]
  have c0_2 : W.cell? ⟨w.heap.size, 2, none⟩ = some (.int .i64 gr.g) := by rw [hW]; simp [go_sem]
  have c1_0 : W.cell? ⟨w.heap.size + 1, 0, none⟩ = some ((.slice xca xcn xcc)) := by rw [hW]; simp [go_sem]
  have c1_1 : W.cell? ⟨w.heap.size + 1, 1, none⟩ = some ((.slice xsa xsn xsc)) := by rw [hW]; simp [go_sem]
  have HSW : Hid (W.heap.size = w.heap.size + 2) := by unfold Hid; rw [hW]; simp
  go_enter Tryz.func12, Tryz.ntmps12
  go_wp2_with fail
  rw [← hW]
  have hse : w.heap.size + 1 + 1 = W.heap.size := by have := HSW.out; omega
  (try rw [hse])
  clear hse
  clear hW
  have hc : Below W.heap.size W W := Below.refl _ _
  have HCC : Hid (∀ u, Below W.heap.size W u → u.cell? ⟨w.heap.size, 0, none⟩ = some (.int .i64 gr.p) ∧ u.cell? ⟨w.heap.size, 1, none⟩ = some (.int .i64 gr.q) ∧ u.cell? ⟨w.heap.size, 2, none⟩ = some (.int .i64 gr.g) ∧ u.cell? ⟨w.heap.size + 1, 0, none⟩ = some ((.slice xca xcn xcc)) ∧ u.cell? ⟨w.heap.size + 1, 1, none⟩ = some ((.slice xsa xsn xsc))) := fun u h => ⟨box_at c0_0 h, box_at c0_1 h, box_at c0_2 h, box_at c1_0 h, box_at c1_1 h⟩
  go_wp2_with fail
  refine (impl_hasKey gr _ d _ (DlR.mk (Hxc.out.below (HB.out.trans (hc.mono HB.out.size))) (Hxs.out.below (HB.out.trans (hc.mono HB.out.size))))).mono ?_
  rintro e u1 ⟨rfl, hq1⟩
  replace hc := Below.next hc hq1
  clear hq1 c0_0 c0_1 c0_2 c1_0 c1_1
  obtain ⟨c0_0, c0_1, c0_2, c1_0, c1_1⟩ := HCC.out _ hc
  cases hc1 : vdB gr d with
  | false =>
    have Hhc1 := Lib.hid hc1
    clear hc1
    go_wp2_with fail
    have HV : Hid ((.tuple #[.bool (vdB gr d && decide ((badE gr d).length = 0)), .bool (vdB gr d)] : Value) = .tuple #[.bool false, .bool false]) := by unfold Hid; simp [Hhc1.out]
    go_ret2
    exact ⟨congrArg Ending.returned HV.out.symm, HB.out.trans (hc.mono HB.out.size)⟩
  | true =>
    have HG := Lib.hid (vdB_parts hc1).1
    have HDB := Lib.hid (vdB_parts hc1).2
    have Hhc1 := Lib.hid hc1
    clear hc1
    go_wp2_with fail
    refine (impl_bad gr _ d _ HG.out (DlR.mk (Hxc.out.below (HB.out.trans (hc.mono HB.out.size))) (Hxs.out.below (HB.out.trans (hc.mono HB.out.size)))) HDB.out).mono ?_
    rintro e u2 ⟨⟨vb, rfl, hob⟩, hq2⟩
    obtain ⟨ba, bc, rfl⟩ := OwnI.shapeN (n := (badE gr d).length) hob rfl
    have HOB := Lib.hid hob.ints
    clear hob
    obtain ⟨bn, hbn⟩ : ∃ z, (badE gr d).length = z := ⟨_, rfl⟩
    have HBN := Lib.hid hbn
    rw [hbn]
    rw [hbn] at HOB
    clear hbn
    replace hc := Below.next hc hq2
    clear hq2 c0_0 c0_1 c0_2 c1_0 c1_1
    obtain ⟨c0_0, c0_1, c0_2, c1_0, c1_1⟩ := HCC.out _ hc
    cases hc2 : ((bn : Int) == 0) with
    | false =>
      have HT1 : Hid (decide ((badE gr d).length = 0) = false) := by have q := hc2; rw [beq_eq_false_iff_ne] at q; have := HBN.out; unfold Hid; exact decide_eq_false (by omega)
      have HT2n : Hid (¬ badE gr d = []) := fun e => of_decide_eq_false HT1.out (by rw [e]; rfl)
      have hcp1 : ¬ bn = 0 := by have q := hc2; rw [beq_eq_false_iff_ne] at q; omega
      have hcn1 : decide (bn = 0) = false := decide_eq_false hcp1
      have hcq1 : (bn == 0) = false := by rw [beq_eq_false_iff_ne]; exact hcp1
      go_wp2_with fail
      have HV : Hid ((.tuple #[.bool (vdB gr d && decide ((badE gr d).length = 0)), .bool (vdB gr d)] : Value) = .tuple #[.bool false, .bool true]) := by unfold Hid; simp [Hhc1.out, HT2n.out]
      go_ret2
      exact ⟨congrArg Ending.returned HV.out.symm, HB.out.trans (hc.mono HB.out.size)⟩
    | true =>
      have HT1 : Hid (decide ((badE gr d).length = 0) = true) := by have q := hc2; rw [beq_iff_eq] at q; have := HBN.out; unfold Hid; exact decide_eq_true (by omega)
      have HT2n : Hid (badE gr d = []) := List.length_eq_zero_iff.1 (of_decide_eq_true HT1.out)
      have hcp1 : bn = 0 := by have q := hc2; rw [beq_iff_eq] at q; omega
      have hcn1 : decide (bn = 0) = true := decide_eq_true hcp1
      have hcq1 : (bn == 0) = true := by rw [beq_iff_eq]; exact hcp1
      go_wp2_with fail
      have HV : Hid ((.tuple #[.bool (vdB gr d && decide ((badE gr d).length = 0)), .bool (vdB gr d)] : Value) = .tuple #[.bool true, .bool true]) := by unfold Hid; simp [Hhc1.out, HT2n.out]
      go_ret2
      exact ⟨congrArg Ending.returned HV.out.symm, HB.out.trans (hc.mono HB.out.size)⟩
set_option maxRecDepth 100000 in
set_option maxHeartbeats 2000000 in
theorem spec_rAlike (pv qv : Value) (d f : DealingD) (w : World) (hp : DlR w pv d) (hq : DlR w qv f) :
    Calls Tryz.prog 33 #[pv, qv] w fun e w' => e = .returned (.bool (smB f d)) ∧ Below w.heap.size w w' := by
  obtain ⟨xcv, xsv, rfl, hxc, hxs⟩ := hp
  obtain ⟨xca, xcn, xcc, rfl⟩ := hxc.shape
  have Exc := Lib.hid hxc.len
  have Kxc := Lib.hid hxc.capMax
  have Hxc := Lib.hid hxc
  clear hxc
  obtain ⟨xsa, xsn, xsc, rfl⟩ := hxs.shape
  have Exs := Lib.hid hxs.len
  have Kxs := Lib.hid hxs.capMax
  have Hxs := Lib.hid hxs
  clear hxs
  obtain ⟨ycv, ysv, rfl, hyc, hys⟩ := hq
  obtain ⟨yca, ycn, ycc, rfl⟩ := hyc.shape
  have Eyc := Lib.hid hyc.len
  have Kyc := Lib.hid hyc.capMax
  have Hyc := Lib.hid hyc
  clear hyc
  obtain ⟨ysa, ysn, ysc, rfl⟩ := hys.shape
  have Eys := Lib.hid hys.len
  have Kys := Lib.hid hys.capMax
  have Hys := Lib.hid hys
  clear hys
  cases hc1 : ((ycn : Int) == (xcn : Int)) with
  | false =>
    have HS1 : Hid (decide (f.c.length = d.c.length) = false) := by have q := hc1; rw [beq_eq_false_iff_ne] at q; have := Exc.out; have := Eyc.out; unfold Hid; exact decide_eq_false (by omega)
    have HV : Hid ((.bool (smB f d) : Value) = .bool false) := by unfold Hid; simp [smB, hc1, HS1.out]
    rw [HV.out]
    go_enter Tryz.func33, Tryz.ntmps33
    go_wp2_with fail
    go_ret
    exact ⟨rfl, by (repeat (first | exact Below.refl _ _ | assumption | refine Below.drew ?_ | refine Below.alloc ?_ (by first | (simp; done) | (simp; omega)) _ | refine Below.setCell ?_ (by first | (simp; done) | (simp; omega)) _))⟩
  | true =>
    have HS1 : Hid (decide (f.c.length = d.c.length) = true) := by have q := hc1; rw [beq_iff_eq] at q; have := Exc.out; have := Eyc.out; unfold Hid; exact decide_eq_true (by omega)
    cases hc2 : ((ysn : Int) == (xsn : Int)) with
    | false =>
      have HS2 : Hid (decide (f.s.length = d.s.length) = false) := by have q := hc2; rw [beq_eq_false_iff_ne] at q; have := Exs.out; have := Eys.out; unfold Hid; exact decide_eq_false (by omega)
      have HV : Hid ((.bool (smB f d) : Value) = .bool false) := by unfold Hid; simp [smB, hc1, hc2, HS1.out, HS2.out]
      rw [HV.out]
      go_enter Tryz.func33, Tryz.ntmps33
      go_wp2_with fail
      go_ret
      exact ⟨rfl, by (repeat (first | exact Below.refl _ _ | assumption | refine Below.drew ?_ | refine Below.alloc ?_ (by first | (simp; done) | (simp; omega)) _ | refine Below.setCell ?_ (by first | (simp; done) | (simp; omega)) _))⟩
    | true =>
      have HS2 : Hid (decide (f.s.length = d.s.length) = true) := by have q := hc2; rw [beq_iff_eq] at q; have := Exs.out; have := Eys.out; unfold Hid; exact decide_eq_true (by omega)
      have HV : Hid ((.bool (smB f d) : Value) = .bool true) := by unfold Hid; simp [smB, hc1, hc2, HS1.out, HS2.out]
      rw [HV.out]
      go_enter Tryz.func33, Tryz.ntmps33
      go_wp2_with fail
      go_ret
      exact ⟨rfl, by (repeat (first | exact Below.refl _ _ | assumption | refine Below.drew ?_ | refine Below.alloc ?_ (by first | (simp; done) | (simp; omega)) _ | refine Below.setCell ?_ (by first | (simp; done) | (simp; omega)) _))⟩
end Go.Proofs.YtacpnphfopmofaaGreat
namespace Go.Proofs.YtacpnphfopmofaaGreat
open Go.RowKit
set_option linter.unusedSimpArgs false
set_option linter.unusedVariables false

theorem take_all' {α : Type} {P : α → Prop} {l : List α} {k : Nat} (hk : k < l.length) (h : ∀ d ∈ l.take k, P d) (hP : P l[k]) : ∀ d ∈ l.take (k + 1), P d := by
  intro d hd
  rw [List.take_succ_eq_append_getElem hk, List.mem_append] at hd
  rcases hd with h1 | h1
  · exact h d h1
  · rw [List.mem_singleton] at h1; rw [h1]; exact hP
theorem dsB_not {gr : GroupD} {l : List DealingD} {d : DealingD} (hd : d ∈ l) (h : deB gr d = false) : dsB gr l = false := by
  unfold dsB
  have : l.all (deB gr) = false := by rw [List.all_eq_false]; exact ⟨d, hd, by rw [h]; simp⟩
  rw [this, Bool.and_false]
theorem dsB_all {gr : GroupD} {l : List DealingD} (h : ∀ d ∈ l, deB gr d = true) : dsB gr l = decide ((l.length : Int) ≤ 7) := by
  unfold dsB
  rw [List.all_eq_true.2 h, Bool.and_true]
set_option maxRecDepth 100000 in
set_option maxHeartbeats 4000000 in
theorem spec_rList (gr : GroupD) (v : Value) (l : List DealingD) (w : World) (hg : OkG gr) (h : RdR rDealing w v l) :
    Calls Tryz.prog 32 #[.agg #[.int .i64 gr.p, .int .i64 gr.q, .int .i64 gr.g], v] w fun e w' => e = .returned (.bool (dsB gr l)) ∧ Below w.heap.size w w' := by
  have HG := Lib.hid hg; clear hg
  obtain ⟨a, n, c, rfl⟩ := h.shape
  have e := h.len
  obtain ⟨k1', k2'⟩ := h.capMax
  unfold maxLen at k2'
  have HE := Lib.hid e
  have H := Lib.hid h; clear h e
  obtain ⟨W, hW⟩ : ∃ W, W = w.alloc (.cells #[.int .i64 gr.p, .int .i64 gr.q, .int .i64 gr.g] 24) := ⟨_, rfl⟩
  have HB : Hid (Below w.heap.size w W) := by unfold Hid; rw [hW]; (repeat (first | exact Below.refl _ _ | assumption | refine Below.drew ?_ | refine Below.alloc ?_ (by first | (simp; done) | (simp; omega)) _ | refine Below.setCell ?_ (by first | (simp; done) | (simp; omega)) _))
  have HX : Hid (BoxN W w.heap.size 24 [.int .i64 gr.p, .int .i64 gr.q, .int .i64 gr.g]) := by unfold Hid; rw [hW]; exact BoxN.new w _ _
  go_enter Tryz.func32, Tryz.ntmps32
  go_wp2_with fail
  rw [← hW]
  clear hW
  (try (go_wp2_with fail))
  go_loopg [9] n (fun gk iv wr => ∃ k : Nat, k + gk = n ∧ iv = .int .i64 (k : Int) ∧ Hid (∀ d ∈ l.take k, deB gr d = true) ∧ Below W.heap.size W wr)
  case atStart => exact ⟨0, by omega, rfl, Lib.hid (fun d hd => by simp at hd), Below.refl _ _⟩
  case round =>
    obtain ⟨k, hkg, rfl, HALL, hbr⟩ := hrel
    have HBR := Lib.hid hbr
    have hgl : k < n → n - (k + 1) < gk := by omega
    have HKG := Lib.hid hkg
    clear hkg hbr
    by_cases hlt : k < n
    · have hwk : IntKind.i64.wrap ((k : Int) + 1) = (k : Int) + 1 := IntWalk.i64_in _ (by omega)
      have HK : Hid (k < l.length) := by unfold Hid; rw [HE.out]; exact hlt
      have HT : Hid (deB gr (l[k]'HK.out) = true → ∀ d ∈ l.take (k + 1), deB gr d = true) := fun q => take_all' HK.out HALL.out q
      have HM := Lib.hid (List.getElem_mem HK.out)
      obtain ⟨b2, o2, p0, m0, k0, p1, m1, k1, e, y0, y1, f0, f1⟩ := RdDl.get H.out HK.out
      cases e
      generalize l[k]'HK.out = d at f0 f1 HT HM
      have y0 := box_at (box_at y0 HB.out) HBR.out
      have y1 := box_at (box_at y1 HB.out) HBR.out
      have hbW := HB.out.trans (HBR.out.mono HB.out.size)
      obtain ⟨V, hV⟩ : ∃ V, V = wr.alloc (.cells #[.slice p0 m0 k0, .slice p1 m1 k1] 61) := ⟨_, rfl⟩
      have hbV : Below wr.heap.size wr V := by rw [hV]; exact (Below.refl _ _).alloc (Nat.le_refl _) _
      have HZ : Hid (BoxN V wr.heap.size 61 [.slice p0 m0 k0, .slice p1 m1 k1]) := by unfold Hid; rw [hV]; exact BoxN.new wr _ _
      have HDl : Hid (DlR V (.agg #[.slice p0 m0 k0, .slice p1 m1 k1]) d) := DlR.mk ((f0.below hbW).below hbV) ((f1.below hbW).below hbV)
      have HBV : Hid (Below W.heap.size W V) := Below.next HBR.out hbV
      have kk0 : (0 : Int) ≤ (k : Int) := by omega
      have kk1 : (k : Int) < (n : Int) := by omega
      have hly := World.block_lt_of_cell? wr _ y0
      have hlg : w.heap.size < wr.heap.size := (HX.out.below HBR.out).lt
      have c0_0 := (HX.out.below HBR.out).cell (i := 0) rfl
      have c0_1 := (HX.out.below HBR.out).cell (i := 1) rfl
      have c0_2 := (HX.out.below HBR.out).cell (i := 2) rfl
      go_wp2_with fail
      rw [← hV]
      clear hV y0 y1 f0 f1 hbW kk0 kk1 c0_0 c0_1 c0_2 hbV hly hlg
      refine (spec_sDealing gr _ d _ HG.out HDl.out).mono ?_
      rintro e u ⟨rfl, hq⟩
      have HBQ : Hid (Below W.heap.size W u) := Below.next HBV.out hq
      clear hq
      cases hqd : deB gr d with
      | false =>
        have HQD := Lib.hid hqd
        have HV : Hid (dsB gr l = false) := dsB_not HM.out hqd
        clear hqd
        go_wp2_with fail
        go_ret
        exact ⟨ret_bool HV.out.symm, HB.out.trans (HBQ.out.mono HB.out.size)⟩
      | true =>
        have HQD := Lib.hid hqd
        clear hqd
        go_wp2_with fail
        go_roundg (n - (k + 1))
        case measure => exact hgl hlt
        case rel => exact ⟨k + 1, by have := HKG.out; omega, by go_num, Lib.hid (HT.out HQD.out), HBQ.out⟩
    · obtain rfl : n = k := by have := HKG.out; omega
      have HV : Hid (dsB gr l = decide ((n : Int) ≤ 7)) := by
        have h := HALL.out
        rw [List.take_of_length_le (by rw [HE.out]; exact Nat.le_refl _)] at h
        unfold Hid; rw [dsB_all h, HE.out]
      go_wp2_with fail
      go_ret
      exact ⟨ret_bool HV.out.symm, HB.out.trans (HBR.out.mono HB.out.size)⟩
set_option maxRecDepth 100000 in
set_option maxHeartbeats 4000000 in
theorem spec_rShared (pv : Value) (d : DealingD) (w : World) (hp : DlR w pv d) (hlc : d.c.length ≤ 1000000000) (hls : d.s.length ≤ 1000000000) :
    Calls Tryz.prog 62 #[pv] w fun e w' => RetDl e w' w.heap.size d ∧ Below w.heap.size w w' := by
  obtain ⟨xcv, xsv, rfl, hxc, hxs⟩ := hp
  obtain ⟨xca, xcn, xcc, rfl⟩ := hxc.shape
  obtain ⟨xsa, xsn, xsc, rfl⟩ := hxs.shape
  have Hxc := Lib.hid hxc
  have Hxs := Lib.hid hxs
  have HLNc := Lib.hid hlc
  have HLNs := Lib.hid hls
  clear hxc hxs hlc hls
  obtain ⟨W, hW⟩ : ∃ W, W = (w.alloc (.cells #[.slice xca xcn xcc, .slice xsa xsn xsc] 61)).alloc (.cells #[.slice none 0 0, .slice none 0 0] 27) := ⟨_, rfl⟩
  have HB : Hid (Below w.heap.size w W) := by unfold Hid; rw [hW]; (repeat (first | exact Below.refl _ _ | assumption | refine Below.drew ?_ | refine Below.alloc ?_ (by first | (simp; done) | (simp; omega)) _ | refine Below.setCell ?_ (by first | (simp; done) | (simp; omega)) _))
  have HBK : Hid (BoxN W w.heap.size 61 [.slice xca xcn xcc, .slice xsa xsn xsc]) := by unfold Hid; rw [hW]; have h := (BoxN.new w [.slice xca xcn xcc, .slice xsa xsn xsc] 61).alloc (.cells #[.slice none 0 0, .slice none 0 0] 27); simpa using h
  have HRX : Hid (BoxN W (w.heap.size + 1) 27 [.slice none 0 0, .slice none 0 0]) := by unfold Hid; rw [hW]; have h := BoxN.new (w.alloc (.cells #[.slice xca xcn xcc, .slice xsa xsn xsc] 61)) [.slice none 0 0, .slice none 0 0] 27; simpa using h
  have HSW : Hid (W.heap.size = w.heap.size + 2) := by unfold Hid; rw [hW]; simp
  have HKC : Hid (Ints W (.slice xca xcn xcc) d.c) := Hxc.out.below HB.out
  have HKS : Hid (Ints W (.slice xsa xsn xsc) d.s) := Hxs.out.below HB.out
  clear Hxc Hxs
  go_enter Tryz.func62, Tryz.ntmps62
  go_wp2_with fail
  rw [← hW]
  clear hW
  have d0 := HBK.out.cell (i := 0) rfl
  have d1 := HBK.out.cell (i := 1) rfl
  have hc : Below W.heap.size W W := Below.refl _ _
  try (go_wp2_with fail)
  refine wp_region_noPanic ?_
  refine wp_region_P (fun w' => w'.cell? ⟨w.heap.size, 0, none⟩ = some (.slice xca xcn xcc) ∧ w'.cell? ⟨w.heap.size, 1, none⟩ = some (.slice xsa xsn xsc)) 10 [(0, []), (1, [0]), (2, [0]), (3, []), (4, [0]), (5, [0]), (6, [3, 0])] [7] (by kernel_rfl) (by kernel_rfl) (by kernel_rfl) rfl (fun _ _ _ _ h => h) (fun w' h => ⟨box_at d0 h, box_at d1 h⟩) ?_
  simp only [pickP, pickN, List.getElem?_cons_zero, List.getElem?_cons_succ]
  iterate 2 (refine' chainP_read _ rfl rfl (fun w' hS' => ?_) ?_; rotate_left; · (simp only [lookP, allP, Act.put, List.getElem?_cons_zero, List.getElem?_cons_succ, List.setIfInBounds_toArray, List.set_cons_zero, List.set_cons_succ]; (try dsimp only at hS'); go_simp; (try with_reducible rfl)))
  -- 2: call { callee := value (func 104), args := #[t4], argTypes := #[25] }
  refine chainP_do (d := (some 5)) (fun v u => OwnI u W.heap.size v d.c) (fun v w1 w2 hb h => h.below hb) rfl rfl (fun w' hS' => ?_) ?_
  · simp only [lookP, allP, Act.put, List.getElem?_cons_zero, List.getElem?_cons_succ, List.setIfInBounds_toArray, List.set_cons_zero, List.set_cons_succ]
    intro K hK
    go_simp
    go_at_call 104
    refine (spec_l1Own _ d.c _ (HKC.out.below hS'.1) HLNc.out).mono ?_
    rintro e u ⟨v2, rfl, ho2, hq⟩
    exact hK.out _ _ hq (ho2.mono hS'.1.size)
  iterate 2 (refine' chainP_read _ rfl rfl (fun w' hS' => ?_) ?_; rotate_left; · (simp only [lookP, allP, Act.put, List.getElem?_cons_zero, List.getElem?_cons_succ, List.setIfInBounds_toArray, List.set_cons_zero, List.set_cons_succ]; (try dsimp only at hS'); go_simp; (try with_reducible rfl)))
  -- 5: call { callee := value (func 104), args := #[t7], argTypes := #[25] }
  refine chainP_do (d := (some 8)) (fun v u => OwnI u W.heap.size v d.s) (fun v w1 w2 hb h => h.below hb) rfl rfl (fun w' hS' => ?_) ?_
  · simp only [lookP, allP, Act.put, List.getElem?_cons_zero, List.getElem?_cons_succ, List.setIfInBounds_toArray, List.set_cons_zero, List.set_cons_succ]
    intro K hK
    go_simp
    go_at_call 104
    refine (spec_l1Own _ d.s _ (HKS.out.below hS'.1) HLNs.out).mono ?_
    rintro e u ⟨v2, rfl, ho2, hq⟩
    exact hK.out _ _ hq (ho2.mono hS'.1.size)
  -- 6: build 27 #[(0, t5), (1, t8)]
  refine chainP_have (d := (some 9)) (fun v u => ∃ ax cx ay cy, v = .agg #[.slice ax d.c.length cx, .slice ay d.s.length cy] ∧ OwnI u W.heap.size (.slice ax d.c.length cx) d.c ∧ OwnI u W.heap.size (.slice ay d.s.length cy) d.s) (fun v w1 w2 hb h => by obtain ⟨ax, cx, ay, cy, e, h1, h2⟩ := h; exact ⟨ax, cx, ay, cy, e, h1.below hb, h2.below hb⟩) rfl rfl (fun w' hS' => ?_) ?_
  · simp only [lookP, allP, Act.put, List.getElem?_cons_zero, List.getElem?_cons_succ, List.setIfInBounds_toArray, List.set_cons_zero, List.set_cons_succ]
    intro x2 hx2
    intro x5 hx5
    obtain ⟨ax, cx, rfl⟩ := OwnI.shapeN (n := d.c.length) hx2 rfl
    obtain ⟨ay, cy, rfl⟩ := OwnI.shapeN (n := d.s.length) hx5 rfl
    refine ⟨.agg #[.slice ax d.c.length cx, .slice ay d.s.length cy], ?_, ax, cx, ay, cy, rfl, hx2, hx5⟩
    go_simp
  refine chainP_nil (fun u1 hS' => ?_)
  simp only [allP, Act.put, List.setIfInBounds_toArray, List.set_cons_zero, List.set_cons_succ]
  intro x6 hx6
  intro x5 hx5
  intro x2 hx2
  have hq1 := hS'.1
  clear hS'
  replace hc := Below.next hc hq1
  replace d0 := box_at d0 hq1
  replace d1 := box_at d1 hq1
  clear hq1
  clear hx2 hx5
  obtain ⟨ax, cx, ay, cy, rfl, hox, hoy⟩ := hx6
  have hszu := hc.size
  have hsw := HSW.out
  have HR := Lib.hid (HRX.out.below hc)
  have r0 := HR.out.cell (i := 0) rfl
  have r1 := HR.out.cell (i := 1) rfl
  have fr := fun j => HR.out.frozen j
  go_wp2_with fail
  refine NoPanic.normal ?_
  clear r0 r1 fr
  have HRF := Lib.hid ((HR.out.set 0 (.slice ax d.c.length cx)).set 1 (.slice ay d.s.length cy))
  have t0 := HRF.out.cell (i := 0) rfl
  have t1 := HRF.out.cell (i := 1) rfl
  try (go_wp2_with fail)
  refine bodyPost_ret (v := .agg #[.slice ax d.c.length cx, .slice ay d.s.length cy]) (by simp [results, Tryz.results62, go_sem, t0, t1]) rfl ⟨⟨_, _, rfl, ((hox.oth (b := w.heap.size + 1) (by omega) 0 (.slice ax d.c.length cx)).oth (b := w.heap.size + 1) (by omega) 1 (.slice ay d.s.length cy)).mono (by omega), ((hoy.oth (b := w.heap.size + 1) (by omega) 0 (.slice ax d.c.length cx)).oth (b := w.heap.size + 1) (by omega) 1 (.slice ay d.s.length cy)).mono (by omega)⟩, ((HB.out.trans (hc.mono HB.out.size)).setCell (p := ⟨w.heap.size + 1, 0, none⟩) (by show w.heap.size ≤ w.heap.size + 1; omega) _).setCell (p := ⟨w.heap.size + 1, 1, none⟩) (by show w.heap.size ≤ w.heap.size + 1; omega) _⟩
end Go.Proofs.YtacpnphfopmofaaGreat
namespace Go.Proofs.YtacpnphfopmofaaGreat
open Go.RowKit
set_option linter.unusedSimpArgs false
set_option linter.unusedVariables false

theorem OwnDs.mono {w : World} {B B' : Nat} {v : Value} {ds : List DealingD} (h : OwnDs w B v ds) (hB : B' ≤ B) : OwnDs w B' v ds := by
  obtain ⟨css, h1, h2, h3⟩ := h
  refine ⟨css, h1, ownsRow_mono h2 hB, fun i k1 k2 => ?_⟩
  obtain ⟨x, y, e, q1, q2⟩ := h3 i k1 k2
  exact ⟨x, y, e, q1.mono hB, q2.mono hB⟩
end Go.Proofs.YtacpnphfopmofaaGreat
