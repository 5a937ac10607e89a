/- Walks: challenges, images. -/
import Derived.Test.YtapfceghgkmgoaaGrp3
import Derived.Test.YtapfceghgkmgoaaEntry
import Derived.Test.YtapfceghgkmgoaaReach2
import Derived.Test.YtapfceghgkmgoaaMerkle2
namespace Go.Proofs.Ytapfceghgkmgoaa
open Go.RowKit
set_option linter.unusedSimpArgs false
set_option linter.unusedVariables false

theorem keep_tt {W wa w' : World} (h : Below W.heap.size W wa) (hb : Below W.heap.size wa w') : Below W.heap.size W w' := h.trans hb
/-- the list of a challenge -/
def chList (gr : GroupD) (l : List Int) : List Int := [gr.p, gr.q, gr.g] ++ l
/-- the challenge of a list, if it can be hashed -/
def chB (gr : GroupD) (s : ByteArray) (l : List Int) : Bool := labelledB s (chList gr l)
def chI (gr : GroupD) (s : ByteArray) (l : List Int) : Int := if chB gr s l = true then hashOf (lab s ++ chList gr l) % gr.q else 0
def chV (gr : GroupD) (s : ByteArray) (l : List Int) : Int := hashOf (lab s ++ chList gr l) % gr.q
theorem chV_bd {gr : GroupD} (hg : OkG gr) (s : ByteArray) (l : List Int) : 0 ≤ chV gr s l ∧ chV gr s l < gr.q := ⟨Int.emod_nonneg _ (by have := hg.q1; omega), Int.emod_lt_of_pos _ (by have := hg.q1; omega)⟩
theorem chI_yes {gr : GroupD} {s : ByteArray} {l : List Int} (h : chB gr s l = true) : chI gr s l = chV gr s l := by unfold chI; rw [if_pos h]; rfl
theorem chI_no {gr : GroupD} {s : ByteArray} {l : List Int} (h : chB gr s l = false) : chI gr s l = 0 := by unfold chI; rw [if_neg (by rw [h]; simp)]
theorem chList_digest {gr : GroupD} (hg : OkG gr) {l : List Int} (h : l.all digestB = true) : (chList gr l).all digestB = true := by
  obtain ⟨h1, h2, h3, h4, h5, h6, _, _, _, _⟩ := hg
  unfold chList
  rw [List.all_append, h]
  simp [digestB]; omega
theorem chB_yes {gr : GroupD} (hg : OkG gr) {s : ByteArray} {l : List Int} (h : l.all digestB = true) (hs : s.size ≤ 40) (hl : l.length ≤ 300) : chB gr s l = true := by
  have e : (lab s).length = s.size + 1 := lab_length s
  have e2 : (chList gr l).length = l.length + 3 := by simp [chList]
  unfold chB labelledB hashable
  rw [List.all_append, chList_digest hg h, lab_all _ (by omega), List.length_append, e, e2]
  simp; omega
theorem digest_small {x : Int} (h : Small x) : digestB x = true := by
  obtain ⟨h1, h2⟩ := h; simp [digestB]; omega
theorem digests_small {l : List Int} (h : AllSmall l) : l.all digestB = true := List.all_eq_true.2 fun x hx => digest_small (h x hx)
set_option maxRecDepth 100000 in
set_option maxHeartbeats 2000000 in
theorem impl_challenge (gr : GroupD) (s : ByteArray) (v : Value) (l : List Int) (w : World) (hg : OkG gr) (h : Ints w v l) (hs : s.size ≤ 1000000) (hl : l.length ≤ 100000000) :
    Calls Try.prog 275 #[.agg #[.int .i64 gr.p, .int .i64 gr.q, .int .i64 gr.g], .string s, v] w fun e w' => e = .returned (.tuple #[.int .i64 (chI gr s l), .bool (chB gr s l)]) ∧ Below w.heap.size w w' := by
  have HG := Lib.hid hg
  have hbq := fun x => Int.emod_nonneg x (show gr.q ≠ 0 by have := hg.q1; omega)
  obtain ⟨hp1, hp2, hq1, hq2, hg1, hg2, _, _, _, _⟩ := hg
  have HYES := Lib.hid (@chI_yes gr s l)
  have HNO := Lib.hid (@chI_no gr s l)
  have HCB : Hid (labelledB s ([gr.p, gr.q, gr.g] ++ l) = chB gr s l) := rfl
  have HCI : Hid (chB gr s l = true → labelledI s ([gr.p, gr.q, gr.g] ++ l) % gr.q = chV gr s l) := fun hh => by
    have h2 : labelledB s ([gr.p, gr.q, gr.g] ++ l) = true := hh
    unfold labelledI; rw [if_pos h2]; rfl
  have HHB := Lib.hid (hashOf_bd (lab s ++ chList gr l))
  have HLI : Hid (chB gr s l = true → labelledI s ([gr.p, gr.q, gr.g] ++ l) = hashOf (lab s ++ chList gr l)) := fun hh => by
    have h2 : labelledB s ([gr.p, gr.q, gr.g] ++ l) = true := hh
    unfold labelledI; rw [if_pos h2]; rfl
  clear hbq
  obtain ⟨p, q, g⟩ := gr
  simp only [] at hp1 hp2 hq1 hq2 hg1 hg2
  obtain ⟨a, n, c, rfl⟩ := h.shape
  have H := Lib.hid h; clear h
  (obtain ⟨qb, h_q⟩ : ∃ b_q, chB ⟨p, q, g⟩ s l = b_q := ⟨_, rfl⟩); have HQ := Lib.hid h_q; clear h_q
  rw [HQ.out]
  have hlen : ([p, q, g] ++ l).length ≤ 1000000000 := by rw [List.length_append]; simp; omega
  have HLEN := Lib.hid hlen; clear hlen
  cases qb
  all_goals
    go_enter Try.func275, Try.ntmps275
    go_wp2_with (at_builtin; refine wpList_append_ints rfl _ _ rfl (w.heap.size + 1) (.slice (some ⟨w.heap.size + 1, 0, none⟩) 3 3) _ [p, q, g] l rfl (Ints.lit3 _ (by simp) (by simp) ⟨by omega, by omega⟩ ⟨by omega, by omega⟩ ⟨by omega, by omega⟩) rfl ((H.out.alloc _).alloc _) (by simp; omega) (by simp) ?_; intro v' w1 hown1 hgr1)
    have hb : Below w.heap.size w w1 := below_of_grown (by (repeat (first | exact Below.refl _ _ | assumption | refine Below.drew ?_ | refine Below.alloc ?_ (by first | (simp; done) | (simp; omega)) _ | refine Below.setCell ?_ (by first | (simp; done) | (simp; omega)) _))) hgr1 (by first | (simp; done) | (simp; omega) | omega) (by first | (simp; done) | (simp; omega) | omega)
    have hO := Lib.hid hown1
    have HC0 : Hid (w1.cell? ⟨w.heap.size, 1, none⟩ = some (.int .i64 q)) := by
      have hx : ((w.alloc (.cells #[.int .i64 p, .int .i64 q, .int .i64 g] 88)).alloc (.cells #[.int .i64 p, .int .i64 q, .int .i64 g] 3)).cell? ⟨w.heap.size, 1, none⟩ = some (.int .i64 q) := by simp [go_sem]
      unfold Hid
      exact hgr1.cell hx (by simp [Value.ownBlock])
    clear hown1 hgr1
    have c1 := HC0.out
    refine (impl_HashLabelled s _ _ _ hO.out.ints hs HLEN.out).mono ?_
    rintro e w2 ⟨rfl, hb2⟩
    rw [HCB.out, HQ.out]
    replace c1 := box_at c1 hb2
    try rw [HLI.out HQ.out]
    obtain ⟨d, hd⟩ : ∃ d, hashOf (lab s ++ chList ⟨p, q, g⟩ l) = d := ⟨_, rfl⟩
    have HCV : Hid (chV ⟨p, q, g⟩ s l = d % q) := by unfold Hid chV; rw [hd]
    rw [hd] at HHB
    try rw [hd]
    clear hd
    obtain ⟨d0, d1⟩ := HHB.out
    have HBB := Lib.hid (Below.next hb hb2)
    go_wp2_with fail
    go_ret2
    first
      | exact ⟨ret_int_bool (by rw [HYES.out HQ.out, HCV.out]) rfl, HBB.out⟩
      | exact ⟨ret_int_bool (by rw [HNO.out HQ.out]) rfl, HBB.out⟩
      | fail
set_option maxRecDepth 100000 in
set_option maxHeartbeats 2000000 in
theorem spec_hChallenge (gr : GroupD) (s : ByteArray) (v : Value) (l : List Int) (w : World) (hg : OkG gr) (h : Ints w v l) (hs : s.size ≤ 1000000) (hl : l.length ≤ 1000000) (hd : l.all digestB = true) :
    Calls Try.prog 255 #[.agg #[.int .i64 gr.p, .int .i64 gr.q, .int .i64 gr.g], .string s, v] w fun e w' => e = .returned (.int .i64 (chV gr s l)) ∧ Below w.heap.size w w' := by
  have HG := Lib.hid hg
  have HAD := Lib.hid (chList_digest hg hd)
  obtain ⟨hp1, hp2, hq1, hq2, hg1, hg2, _, _, _, _⟩ := hg
  obtain ⟨p, q, g⟩ := gr
  simp only [] at hp1 hp2 hq1 hq2 hg1 hg2
  have hlen : ([p, q, g] ++ l).length ≤ 10000000 := by rw [List.length_append]; simp; omega
  have HLEN := Lib.hid hlen; clear hlen
  obtain ⟨d, hd'⟩ : ∃ d, hashOf (lab s ++ chList ⟨p, q, g⟩ l) = d := ⟨_, rfl⟩
  have HDD : Hid (hashOf (lab s ++ ([p, q, g] ++ l)) = d) := hd'
  have HCV : Hid (d % q = chV ⟨p, q, g⟩ s l) := by unfold Hid chV; rw [hd']
  have HHB := hashOf_bd (lab s ++ chList ⟨p, q, g⟩ l)
  rw [hd'] at HHB
  obtain ⟨d0, d1⟩ := HHB
  clear hd' hd
  obtain ⟨a, n, c, rfl⟩ := h.shape
  have H := Lib.hid h; clear h
  go_enter Try.func255, Try.ntmps255
  go_wp2
  obtain ⟨W, hW⟩ : ∃ W, W = w.alloc (.cells #[.int .i64 p, .int .i64 q, .int .i64 g] 88) := ⟨_, rfl⟩
  rw [← hW]
  have hb : Below w.heap.size w W := by rw [hW]; exact (Below.refl _ _).alloc (Nat.le_refl _) _
  have d0' : W.cell? ⟨w.heap.size, 0, none⟩ = some (.int .i64 p) := by rw [hW]; simp [go_sem]
  have d1' : W.cell? ⟨w.heap.size, 1, none⟩ = some (.int .i64 q) := by rw [hW]; simp [go_sem]
  have d2' : W.cell? ⟨w.heap.size, 2, none⟩ = some (.int .i64 g) := by rw [hW]; simp [go_sem]
  clear hW
  have hpz : ¬ q = 0 := by omega
  have hpz2 : (q == 0) = false := by rw [beq_eq_false_iff_ne]; omega
  have et : Int.tmod d q = d % q := Int.tmod_eq_emod_of_nonneg d0
  have hsW := hb.size
  go_region_held3 (fun w' => Below W.heap.size W w' ∧ w'.cell? ⟨w.heap.size, 0, none⟩ = some (.int .i64 p) ∧ w'.cell? ⟨w.heap.size, 1, none⟩ = some (.int .i64 q) ∧ w'.cell? ⟨w.heap.size, 2, none⟩ = some (.int .i64 g)) (first | (have hbq : Below W.heap.size W _ := (Below.refl _ _).drew; exact ⟨hbq, box_at d0' hbq, box_at d1' hbq, box_at d2' hbq⟩) | (refine (fun (hbq : Below W.heap.size W _) => ⟨hbq, box_at d0' hbq, box_at d1' hbq, box_at d2' hbq⟩) ?_; exact keep_b (by with_reducible assumption) (And.left (by assumption))) | (refine (fun (hbq : Below W.heap.size W _) => ⟨hbq, box_at d0' hbq, box_at d1' hbq, box_at d2' hbq⟩) ?_; exact keep_al (And.left (by assumption)) _) | (refine (fun (hbq : Below W.heap.size W _) => ⟨hbq, box_at d0' hbq, box_at d1' hbq, box_at d2' hbq⟩) ?_; exact keep_tt (And.left (by assumption)) (by with_reducible assumption)) | assumption | fail) ((first
    | (refine step_append_ints rfl _ _ rfl W.heap.size _ _ [p, q, g] l rfl (by first | exact OwnI.below (Ints.lit3 W (Nat.le_refl _) rfl ⟨by omega, by omega⟩ ⟨by omega, by omega⟩ ⟨by omega, by omega⟩) (Below.refl _ _).drew | exact Ints.lit3 W (Nat.le_refl _) rfl ⟨by omega, by omega⟩ ⟨by omega, by omega⟩ ⟨by omega, by omega⟩) rfl ((H.out.below hb).below (And.left (by assumption))) (by have := HLEN.out; rw [List.length_append] at this; omega) (by have hq := (‹Below W.heap.size W _ ∧ _›).1.size; first | omega | (simp; done) | (simp; omega) | (simp at hq ⊢; omega)) ?_; intro v3 w3 hown3 hb3)
    | (go_at_call 186; refine (spec_hLabelled s _ ([p, q, g] ++ l) _ hown3.ints hs HLEN.out HAD.out).mono ?_; rintro e w4 ⟨rfl, hb4⟩; rw [HDD.out])
    | fail))
  have hbx := (‹Below W.heap.size W _ ∧ _›).1
  go_wp2
  go_ret
  exact ⟨ret_int HCV.out, Below.next hb hbx⟩
end Go.Proofs.Ytapfceghgkmgoaa
