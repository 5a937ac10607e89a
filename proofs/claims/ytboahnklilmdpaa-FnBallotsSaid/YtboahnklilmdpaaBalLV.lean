/- Ciphertexts: valid lists, powers, re-encryption: walks (printed by gen_cip4.py). -/
import Derived.Test.YtboahnklilmdpaaFrV
import Derived.Test.YtboahnklilmdpaaDrBV
import Derived.Test.YtboahnklilmdpaaOpLV
import Derived.Test.YtboahnklilmdpaaBgV
namespace Go.Proofs.Ytboahnklilmdpaa
open Go.RowKit
set_option linter.unusedSimpArgs false
set_option linter.unusedVariables false

noncomputable def cisB (gr : GroupD) (l : List CipherD) : Bool := decide (l.length ≤ 24) && l.all (ciB gr)
theorem FrR.lit {δ : Type} {e : TypeId} {R : RowK δ} (w : World) (css : List (List Value)) {ds : List δ} {cs : Array Value} {n : Nat} (hcs : cs = css.flatten.toArray) (hl : css.length = ds.length) (hn : n = ds.length) (hm : n ≤ maxLen) (hsz : cs.size = n * R.width)
    (hel : ∀ i (h1 : i < css.length) (h2 : i < ds.length), R.rd w css[i] ds[i]) : FrR e R w (w.alloc (.cells cs e)) w.heap.size (.slice (some ⟨w.heap.size, 0, none⟩) n n) ds := by
  have hO := World.ownsRow_lit (e := e) (size := R.width) w cs n (Nat.le_refl _) hm hsz
  subst hcs
  rw [hn] at hO ⊢
  exact ⟨css, hl, by simpa using hO, hel⟩
def SmallCI (c : CipherD) : Prop := I64 c.a ∧ I64 c.b
def AllCI (l : List CipherD) : Prop := ∀ c ∈ l, SmallCI c
theorem rowC {w : World} {c : CipherD} (h : SmallCI c) : rCipher.rd w [.int .i64 c.a, .int .i64 c.b] c := by
  obtain ⟨us, e, hr⟩ := (rdCipher (w := w)).2 ⟨rfl, h.1, h.2⟩
  obtain rfl : us = [.int .i64 c.a, .int .i64 c.b] := by have h := Value.agg.inj e; simpa using (congrArg Array.toList h).symm
  exact hr
def rowsC (c : CipherD) : List Value := [.int .i64 c.a, .int .i64 c.b]
theorem RdC.lit (w : World) {l : List CipherD} (h : AllCI l) {cs : Array Value} (hcs : cs = (l.map rowsC).flatten.toArray) (n : Nat) (hn : n = l.length) (hm : n ≤ maxLen) :
    RdR rCipher (w.alloc (.cells cs 58)) (.slice (some ⟨w.heap.size, 0, none⟩) n n) l := by
  refine (FrR.lit (e := 58) (R := rCipher) w (l.map rowsC) hcs (by simp) hn hm ?_ (fun i h1 h2 => ?_)).rd ((Below.refl _ _).alloc (Nat.le_refl _) _)
  · subst hcs
    rw [List.size_toArray, flat_len (s := 2) (fun c hc => by obtain ⟨d, _, rfl⟩ := List.mem_map.1 hc; rfl), List.length_map, hn]
    rfl
  · simp only [List.getElem_map]
    exact rowC (h _ (List.getElem_mem _))
theorem AllSmallC.nil : AllSmallC [] := fun x hx => by cases hx
theorem AllSmallC.cons {x : CipherD} {l : List CipherD} (h : SmallC x) (h' : AllSmallC l) : AllSmallC (x :: l) := fun y hy => by
  rcases List.mem_cons.1 hy with rfl | hy
  · exact h
  · exact h' y hy
theorem AllCI.nil : AllCI [] := fun x hx => by cases hx
theorem AllCI.cons {x : CipherD} {l : List CipherD} (h : SmallCI x) (h' : AllCI l) : AllCI (x :: l) := fun y hy => by
  rcases List.mem_cons.1 hy with rfl | hy
  · exact h
  · exact h' y hy
theorem spec_eGoodC (gr : GroupD) (v : Value) (l : List CipherD) (w : World) (hg : OkG gr) (h : RdR rCipher w v l) :
    Calls Try.prog 143 #[.agg #[.int .i64 gr.p, .int .i64 gr.q, .int .i64 gr.g], v] w fun e w' => e = .returned (.bool (cisB gr l)) ∧ Below w.heap.size w w' := spec_eGood gr v l w hg h
end Go.Proofs.Ytboahnklilmdpaa
namespace Go.Proofs.Ytboahnklilmdpaa
open Go.RowKit
set_option linter.unusedSimpArgs false
set_option linter.unusedVariables false

structure CastD where
  c : CipherD
  v : CipherD
  p : ProofD
/-- a credential -/
noncomputable def crB (gr : GroupD) (x : Int) : Bool := (x != 1) && elB gr x
def caE (gr : GroupD) (s : ByteArray) (a b : CipherD) (l : List Int) : Int := chV gr s ([a.a, a.b, b.a, b.b] ++ l)
noncomputable def caB (gr : GroupD) (key cred vote : Int) (cs : List Int) : Bool := goodG gr && (elB gr key && (crB gr cred && (expB gr vote && (decide (cs.length = 4) && cs.all (expB gr)))))
def caC (gr : GroupD) (key cred : Int) (cs : List Int) : CipherD := enC gr key cred (nth cs 0)
def caV (gr : GroupD) (key vote : Int) (cs : List Int) : CipherD := enC gr key (powE gr gr.g vote) (nth cs 1)
def caX (gr : GroupD) (s : ByteArray) (key cred vote : Int) (cs : List Int) : Int := caE gr s (caC gr key cred cs) (caV gr key vote cs) [powE gr gr.g (nth cs 2), powE gr gr.g (nth cs 3)]
def caD (gr : GroupD) (s : ByteArray) (key cred vote : Int) (cs : List Int) : CastD :=
  ⟨caC gr key cred cs, caV gr key vote cs, ⟨[powE gr gr.g (nth cs 2), powE gr gr.g (nth cs 3)], [caX gr s key cred vote cs], [(nth cs 2 + caX gr s key cred vote cs * nth cs 0) % gr.q, (nth cs 3 + caX gr s key cred vote cs * nth cs 1) % gr.q]⟩⟩
noncomputable def caR (gr : GroupD) (s : ByteArray) (key cred vote : Int) (cs : List Int) : CastD := if caB gr key cred vote cs = true then caD gr s key cred vote cs else ⟨⟨0, 0⟩, ⟨0, 0⟩, ⟨[], [], []⟩⟩
noncomputable def vcastA (gr : GroupD) (x : CastD) : Bool := goodG gr && (ciB gr x.c && ciB gr x.v)
noncomputable def vcastK (gr : GroupD) (x y z e : Int) : Bool := powE gr gr.g z == mulL gr [x, powE gr y e]
noncomputable def vcastV (gr : GroupD) (s : ByteArray) (x : CastD) : Bool :=
  decide (x.p.c.length = 2) && (decide (x.p.h.length = 1) && (decide (x.p.r.length = 2) && (x.p.c.all (elB gr) && (x.p.r.all (expB gr) && ((nth x.p.h 0 == caE gr s x.c x.v x.p.c) && (vcastK gr (nth x.p.c 0) x.c.a (nth x.p.r 0) (caE gr s x.c x.v x.p.c) && vcastK gr (nth x.p.c 1) x.v.a (nth x.p.r 1) (caE gr s x.c x.v x.p.c)))))))
noncomputable def vcastR (gr : GroupD) (s : ByteArray) (x : CastD) : Bool := vcastA gr x && vcastV gr s x
/-- a fake credential -/
noncomputable def fkB (gr : GroupD) (cred f : Int) : Bool := goodG gr && (crB gr cred && (expB gr f && ((f != 0) && (mulL gr [cred, powE gr gr.g f] != 1))))
noncomputable def fkR (gr : GroupD) (cred f : Int) : Int := if fkB gr cred f = true then mulL gr [cred, powE gr gr.g f] else 0
theorem caB_parts {gr : GroupD} {key cred vote : Int} {cs : List Int} (h : caB gr key cred vote cs = true) : goodG gr = true ∧ elB gr key = true ∧ crB gr cred = true ∧ expB gr vote = true ∧ cs.length = 4 ∧ cs.all (expB gr) = true := by
  unfold caB at h
  simp only [Bool.and_eq_true, decide_eq_true_iff] at h
  exact ⟨h.1, h.2.1, h.2.2.1, h.2.2.2.1, h.2.2.2.2.1, h.2.2.2.2.2⟩
theorem crB_el {gr : GroupD} {x : Int} (h : crB gr x = true) : elB gr x = true := by
  unfold crB at h; rw [Bool.and_eq_true] at h; exact h.2
theorem elT_enC {gr : GroupD} (hgd : goodG gr = true) {key m : Int} (hk : elB gr key = true) (hm : elB gr m = true) (r : Int) : ciB gr (enC gr key m r) = true := by
  have hg := goodG_ok hgd
  unfold ciB enC
  simp only [mulT]
  rw [elT_pow hg (elT_gen hgd), elT_mul hg hm (elT_pow hg hk r)]
  rfl
theorem cast_tail {gr : GroupD} {s : ByteArray} {key cred vote : Int} {cs : List Int} (h : caB gr key cred vote cs = true) :
    vcastA gr (caR gr s key cred vote cs) = true ∧ vcastR gr s (caR gr s key cred vote cs) = true ∧ (fkB gr cred 1 = true → caB gr key (fkR gr cred 1) vote cs = true ∧ (caR gr s key (fkR gr cred 1) vote cs).v = (caR gr s key cred vote cs).v) := by
  obtain ⟨hgd, hk, hc, hv, h4, hcs⟩ := caB_parts h
  have hg := goodG_ok hgd
  have hR : caR gr s key cred vote cs = caD gr s key cred vote cs := by unfold caR; rw [if_pos h]
  have hA : vcastA gr (caR gr s key cred vote cs) = true := by
    rw [hR]
    unfold vcastA caD caC caV
    simp only [hgd, elT_enC hgd hk (crB_el hc), elT_enC hgd hk (elT_pow hg (elT_gen hgd) vote), Bool.and_self]
  refine ⟨hA, ?_, fun hf => ?_⟩
  · unfold vcastR
    rw [hA, Bool.true_and, hR]
    have n0 : ∀ a b : Int, nth [a, b] 0 = a := fun a b => rfl
    have n1 : ∀ a b : Int, nth [a, b] 1 = b := fun a b => rfl
    have n2 : ∀ a : Int, nth [a] 0 = a := fun a => rfl
    have e1 : ∀ a b c : Int, (enC gr a b c).a = powE gr gr.g c := fun a b c => rfl
    have S := fun w e x => sigma_eq hg (elT_gen hgd) w e x
    unfold vcastV caD vcastK
    simp only [n0, n1, n2, caC, caV, e1, List.length_cons, List.length_nil, List.all_cons, List.all_nil, elT_pow hg (elT_gen hgd), expT hg, S, mulT, caX, Bool.and_self, beq_self_eq_true, decide_true]
  · have hf' := hf
    unfold fkB at hf'
    simp only [Bool.and_eq_true, bne_iff_ne] at hf'
    have hfr : fkR gr cred 1 = mulL gr [cred, powE gr gr.g 1] := by unfold fkR; rw [if_pos hf]
    have hcf : crB gr (fkR gr cred 1) = true := by
      rw [hfr]
      unfold crB
      rw [Bool.and_eq_true, bne_iff_ne]
      exact ⟨hf'.2.2.2.2, by rw [mulT]; exact elT_mul hg (crB_el hc) (elT_pow hg (elT_gen hgd) 1)⟩
    have hB : caB gr key (fkR gr cred 1) vote cs = true := by
      unfold caB
      rw [hgd, hk, hcf, hv, hcs, decide_eq_true h4]; rfl
    refine ⟨hB, ?_⟩
    rw [hR]
    unfold caR
    rw [if_pos hB]
    rfl
end Go.Proofs.Ytboahnklilmdpaa
