/- Walks: proofs of linear statements are made, the reference's. -/
import Derived.Test.YteemlmmdngkghaaProve1V
import Derived.Test.YteemlmmdngkghaaBaV
import Derived.Test.YteemlmmdngkghaaSpoilV
import Derived.Test.YteemlmmdngkghaaBmV
import Derived.Test.YteemlmmdngkghaaGrpAV
import Derived.Test.YteemlmmdngkghaaBgV
namespace Go.Proofs.Yteemlmmdngkghaa
open Go.RowKit
set_option linter.unusedSimpArgs false
set_option linter.unusedVariables false
set_option maxRecDepth 100000 in
set_option maxHeartbeats 4000000 in
theorem spec_sProve (gr : GroupD) (s : ByteArray) (vb : Value) (bs : List (List Int)) (vx : Value) (xs : List Int) (vw : Value) (ws : List Int) (w : World) (hg : OkG gr) (hb : RdL kInts w vb bs) (hx : Ints w vx xs) (hw : Ints w vw ws) (hok : PrvOk gr s bs xs ws) :
    Calls Try.prog 137 #[.agg #[.int .i64 gr.p, .int .i64 gr.q, .int .i64 gr.g], .string s, vb, vx, vw] w fun e w' => ∃ v, e = .returned v ∧ (kS rProof).own w' w.heap.size w'.heap.size v (pvD gr s bs xs ws) ∧ Below w.heap.size w w' := by
  have HG := Lib.hid hg; clear hg
  have HOK := Lib.hid hok; clear hok
  obtain ⟨ax, nx, cx, rfl⟩ := hx.shape
  have ex := hx.len
  obtain ⟨aw, nw, cw, rfl⟩ := hw.shape
  have ew := hw.len
  obtain ⟨i1, i2⟩ := hx.capMax
  obtain ⟨i3, i4⟩ := hw.capMax
  obtain ⟨ab, nb, cb, rfl⟩ := hb.shape
  have eb := hb.len
  obtain ⟨i5, i6⟩ := hb.capMax
  unfold maxLen at i2 i4 i6
  have HX := Lib.hid hx; have HWS := Lib.hid hw; have HBS := Lib.hid hb
  clear hx hw hb
  obtain ⟨p, q, g⟩ := gr
  obtain ⟨sd, sl⟩ := HOK.out.digests HG.out
  have HSL := Lib.hid sl
  have HCH : Hid (chB ⟨p, q, g⟩ s (bs.flatten ++ imagesL ⟨p, q, g⟩ bs xs ++ imagesL ⟨p, q, g⟩ bs ws) = true) := chB_yes HG.out sd HOK.out.s40 (by omega)
  have HCI := Lib.hid (chI_yes HCH.out)
  have hebnd := chV_bd HG.out s (bs.flatten ++ imagesL ⟨p, q, g⟩ bs xs ++ imagesL ⟨p, q, g⟩ bs ws)
  obtain ⟨E, hE⟩ : ∃ E, chV ⟨p, q, g⟩ s (bs.flatten ++ imagesL ⟨p, q, g⟩ bs xs ++ imagesL ⟨p, q, g⟩ bs ws) = E := ⟨_, rfl⟩
  rw [hE] at HCI hebnd
  obtain ⟨E0, E1⟩ := hebnd
  simp only [] at E1
  have hq2 := HG.out.q2; have hp2 := HG.out.p2
  simp only [] at hq2 hp2
  have HRES : Hid (pvD ⟨p, q, g⟩ s bs xs ws = ⟨imagesL ⟨p, q, g⟩ bs ws, [E], respN ⟨p, q, g⟩ E ws xs ws.length⟩) := by
    unfold Hid pvD pvE; rw [hE]
  rw [HRES.out]
  have HE := Lib.hid hE
  have HSD := Lib.hid sd
  clear HRES sd sl hE
  have hlx := HOK.out.lx; have hlw := HOK.out.lw; have hl8 := HOK.out.h8
  have hb8 := HOK.out.b8; have hb1 := HOK.out.b1
  obtain rfl : nx = nw := by omega
  have HLW := Lib.hid ew; have HLX := Lib.hid ex; have HLB := Lib.hid eb
  have hn8 : nx ≤ 8 := by omega
  have hnb8 : nb ≤ 8 := by omega
  clear ex ew eb hlx hlw hl8 hb8 hb1
  have HRX : Hid (∀ r ∈ bs, r.length ≤ xs.length ∧ AllSmall r) := fun r hr => ⟨by rw [(HOK.out.rows r hr).1, HOK.out.lx]; exact Nat.le_refl _, (HOK.out.rows r hr).2⟩
  have HRW : Hid (∀ r ∈ bs, r.length ≤ ws.length ∧ AllSmall r) := fun r hr => ⟨by rw [(HOK.out.rows r hr).1, HOK.out.lw]; exact Nat.le_refl _, (HOK.out.rows r hr).2⟩
  have HMW : Hid ((imagesL ⟨p, q, g⟩ bs ws).length = nb) := by unfold Hid; rw [imagesL_length]; exact HLB.out
  have HMX : Hid ((imagesL ⟨p, q, g⟩ bs xs).length = nb) := by unfold Hid; rw [imagesL_length]; exact HLB.out
  obtain ⟨W, hW⟩ : ∃ W, W = (w.alloc (.cells #[.int .i64 p, .int .i64 q, .int .i64 g] 25)).alloc (.cells #[.slice none 0 0, .slice none 0 0, .slice none 0 0] 63) := ⟨_, rfl⟩
  have HWB : Hid (Below w.heap.size w W) := by unfold Hid; rw [hW]; (repeat (first | exact Below.refl _ _ | assumption | refine Below.drew ?_ | refine Below.alloc ?_ (by first | (simp; done) | (simp; omega)) _ | refine Below.setCell ?_ (by first | (simp; done) | (simp; omega)) _))
  have hs0 : W.heap.size = w.heap.size + 2 := by rw [hW]; simp
  have p0 : W.cell? ⟨w.heap.size, 0, none⟩ = some (.int .i64 p) := by rw [hW]; simp [go_sem]
  have p1 : W.cell? ⟨w.heap.size, 1, none⟩ = some (.int .i64 q) := by rw [hW]; simp [go_sem]
  have p2 : W.cell? ⟨w.heap.size, 2, none⟩ = some (.int .i64 g) := by rw [hW]; simp [go_sem]
  have hs1 : (w.alloc (.cells #[.int .i64 p, .int .i64 q, .int .i64 g] 25)).heap.size = w.heap.size + 1 := by simp
  have BR : Hid (BoxN W (w.heap.size + 1) 63 [.slice none 0 0, .slice none 0 0, .slice none 0 0]) := by unfold Hid; rw [hW, ← hs1]; exact BoxN.new _ [.slice none 0 0, .slice none 0 0, .slice none 0 0] _
  have BG : Hid (BoxN W w.heap.size 25 [.int .i64 p, .int .i64 q, .int .i64 g]) := by unfold Hid; rw [hW]; exact (BoxN.new w [.int .i64 p, .int .i64 q, .int .i64 g] _).alloc _
  have HS0 := Lib.hid hs0
  clear hs1 hs0
  go_enter Try.func137, Try.ntmps137
  go_wp2_with fail
  rw [← hW]
  clear hW
  refine (spec_sImages ⟨p, q, g⟩ _ bs _ ws _ HG.out (kRows.rd_below HBS.out HWB.out) (HWS.out.below HWB.out) HRW.out (by have := HLB.out; omega)).mono ?_
  rintro e w1 ⟨v1, rfl, ho1, hb1⟩
  obtain ⟨a1, c1, hv1⟩ := ho1.shape
  rw [HMW.out] at hv1
  subst hv1
  have P1 := Lib.hid (InI.of_own ho1)
  have d0 := box_at p0 hb1
  have d1 := box_at p1 hb1
  have d2 := box_at p2 hb1
  have BR1 := Lib.hid (BR.out.below hb1)
  have BG1 := Lib.hid (BG.out.below hb1)
  have HB1 := Lib.hid (Below.next HWB.out hb1)
  have HBA := Lib.hid hb1
  have HS1 := Lib.hid hb1.size
  clear ho1 hb1 p0 p1 p2
  go_wp2_with fail
  obtain ⟨wq, hwq⟩ : ∃ u, u = w1.alloc (.cells #[.slice a1 nb c1, .slice none 0 0, .slice none 0 0] 63) := ⟨_, rfl⟩
  rw [← hwq]
  have hsq : wq.heap.size = w1.heap.size + 1 := by rw [hwq]; simp
  have HBQ : Hid (Below w1.heap.size w1 wq) := by unfold Hid; rw [hwq]; (repeat (first | exact Below.refl _ _ | assumption | refine Below.drew ?_ | refine Below.alloc ?_ (by first | (simp; done) | (simp; omega)) _ | refine Below.setCell ?_ (by first | (simp; done) | (simp; omega)) _))
  have BP : Hid (BoxN wq w1.heap.size 63 [.slice a1 nb c1, .slice none 0 0, .slice none 0 0]) := by unfold Hid; rw [hwq]; exact BoxN.new _ [.slice a1 nb c1, .slice none 0 0, .slice none 0 0] _
  clear hwq
  replace d0 := box_at d0 HBQ.out
  replace d1 := box_at d1 HBQ.out
  replace d2 := box_at d2 HBQ.out
  have f0 := BP.out.cell (i := 0) rfl
  have HSQ := Lib.hid hsq
  have P1q := Lib.hid (P1.out.next HBQ.out)
  have HBW := Lib.hid (Below.next HB1.out HBQ.out)
  have HTB : Hid (total bs ≤ 64) := (HOK.out.stmt HG.out).total
  have HF3 : Hid ([bs.flatten, imagesL ⟨p, q, g⟩ bs xs, imagesL ⟨p, q, g⟩ bs ws].flatten = bs.flatten ++ imagesL ⟨p, q, g⟩ bs xs ++ imagesL ⟨p, q, g⟩ bs ws) := by unfold Hid; simp
  have HT3 : Hid (total [bs.flatten, imagesL ⟨p, q, g⟩ bs xs, imagesL ⟨p, q, g⟩ bs ws] ≤ 80) := by
    have := HSL.out
    rw [List.length_append, List.length_append] at this
    unfold Hid; rw [total3]; omega
  have HRB : Hid (RdL kInts wq (.slice ab nb cb) bs) := kRows.rd_below HBS.out HBW.out
  have HRX2 : Hid (Ints wq (.slice ax nx cx) xs) := HX.out.below HBW.out
  have HRC : Hid (Ints wq (.slice a1 nb c1) (imagesL ⟨p, q, g⟩ bs ws)) := P1q.out.reads
  obtain ⟨F, hF⟩ : ∃ F, bs.flatten = F := ⟨_, rfl⟩
  obtain ⟨IX, hIX⟩ : ∃ F, imagesL ⟨p, q, g⟩ bs xs = F := ⟨_, rfl⟩
  obtain ⟨IW, hIW⟩ : ∃ F, imagesL ⟨p, q, g⟩ bs ws = F := ⟨_, rfl⟩
  have HFF := Lib.hid hF; have HIX := Lib.hid hIX
  rw [hF, hIX, hIW] at HF3 HT3 HCH HCI HSL HE HSD
  rw [hIW] at HRC P1q
  have HLIX : Hid (IX.length ≤ 80) := by have := HSL.out; simp only [List.length_append] at this; unfold Hid; omega
  have HLIW : Hid (IW.length ≤ 80) := by have := HSL.out; simp only [List.length_append] at this; unfold Hid; omega
  have HIW := Lib.hid hIW
  clear hF hIX hIW hsq P1 HMW HMX BR HBA
  go_region_held3 (fun w' => Below wq.heap.size wq w' ∧ w'.cell? ⟨w.heap.size, 0, none⟩ = some (.int .i64 p) ∧ w'.cell? ⟨w.heap.size, 1, none⟩ = some (.int .i64 q) ∧ w'.cell? ⟨w.heap.size, 2, none⟩ = some (.int .i64 g) ∧ w'.cell? ⟨w1.heap.size, 0, none⟩ = some (.slice a1 nb c1)) (first | (have hbq : Below wq.heap.size wq _ := (Below.refl _ _).drew; exact ⟨hbq, box_at d0 hbq, box_at d1 hbq, box_at d2 hbq, box_at f0 hbq⟩) | (refine (fun (hbq : Below wq.heap.size wq _) => ⟨hbq, box_at d0 hbq, box_at d1 hbq, box_at d2 hbq, box_at f0 hbq⟩) ?_; exact keep_b (by with_reducible assumption) (And.left (by assumption))) | (refine (fun (hbq : Below wq.heap.size wq _) => ⟨hbq, box_at d0 hbq, box_at d1 hbq, box_at d2 hbq, box_at f0 hbq⟩) ?_; exact keep_al (And.left (by assumption)) _) | assumption | fail) ((first
    | (go_at_call 241; refine (spec_sImages ⟨p, q, g⟩ _ bs _ xs _ HG.out (kRows.rd_below HRB.out (And.left (by assumption))) (HRX2.out.below (And.left (by assumption))) HRX.out (by have := HLB.out; omega)).mono ?_; rintro e w3 ⟨v3, rfl, ho3, hb3⟩; rw [HIX.out] at ho3; (obtain ⟨a3, c3, rfl⟩ := ho3.shape); (have HO3 := Lib.hid ho3.ints); clear ho3)
    | (go_at_call 243; refine (spec_sStatement _ bs _ _ IX IW _ (kRows.rd_below HRB.out (And.left (by assumption))) HO3.out (HRC.out.below (And.left (by assumption))) (by have := HTB.out; omega) (by have := HLIX.out; omega) (by have := HLIW.out; omega)).mono ?_; rintro e w4 ⟨v4, rfl, ho4, hb4⟩; (have HO4 := Lib.hid ho4); clear ho4; rw [HFF.out] at HO4)
    | (go_at_call 242; refine (spec_hChallenge ⟨p, q, g⟩ s _ (F ++ IX ++ IW) _ HG.out HO4.out.ints (by have := HOK.out.s40; omega) (by have := HSL.out; omega) HSD.out).mono ?_; rintro e w5 ⟨rfl, hb5⟩; rw [HE.out])
    | fail))
  have HBX := Lib.hid (‹Below wq.heap.size wq _ ∧ _›).1
  have HB5 := Lib.hid (Below.next HBW.out HBX.out)
  have BP5 := Lib.hid (BP.out.below HBX.out)
  have P15 := Lib.hid (P1q.out.next HBX.out)
  have BR5 := Lib.hid ((BR1.out.below HBQ.out).below HBX.out)
  have hs5 := HBX.out.size
  have hsq := HSQ.out; have hs0 := HS0.out; have hs1 := HS1.out
  have BG5 := Lib.hid ((BG1.out.below HBQ.out).below HBX.out)
  clear d0 d1 d2 f0 HO3 HO4 hb3 hb4 hb5
  have fr := (BP5.out.alloc (.cells #[.int .i64 E] 3)).frozen 1
  have y1 := (BP5.out.alloc (.cells #[.int .i64 E] 3)).cell (i := 1) rfl
  have hI : I64 E := ⟨by omega, by omega⟩
  have HIE := Lib.hid hI
  clear hI
  go_wp2_with fail
  obtain ⟨V, hV⟩ : ∃ V, V = (w5.alloc (.cells #[.int .i64 E] 3)).setCell ⟨w1.heap.size, 1, none⟩ (.slice (some ⟨w5.heap.size, 0, none⟩) 1 1) := ⟨_, rfl⟩
  rw [← hV]
  have hVs : V.heap.size = w5.heap.size + 1 := by rw [hV]; simp
  have hwi : Within w1.heap.size (w1.heap.size + 1) w5 V := by rw [hV]; exact ((Within.refl _ _ _).allocR _).setCell (by omega) (by omega) _ _
  have BV : Hid (BoxN V w1.heap.size 63 [.slice a1 nb c1, .slice (some ⟨w5.heap.size, 0, none⟩) 1 1, .slice none 0 0]) := by unfold Hid; rw [hV]; exact (BP5.out.alloc _).set 1 _
  have BRV : Hid (BoxN V (w.heap.size + 1) 63 [.slice none 0 0, .slice none 0 0, .slice none 0 0]) := Lib.hid (BR5.out.kept hwi (.inl (by omega)))
  have P1V : Hid (InI V W.heap.size w1.heap.size (.slice a1 nb c1) IW) := P15.out.kept hwi (.inl (by omega))
  have hE1 : InI (w5.alloc (.cells #[.int .i64 E] 3)) w5.heap.size (w5.heap.size + 1) (.slice (some ⟨w5.heap.size, 0, none⟩) 1 1) [E] := by
    have := InI.of_own (OwnI.lit1 (B := w5.heap.size) w5 (Nat.le_refl _) HIE.out)
    simpa using this
  have P2V : Hid (InI V w5.heap.size (w5.heap.size + 1) (.slice (some ⟨w5.heap.size, 0, none⟩) 1 1) [E]) := by
    unfold Hid; rw [hV]; exact hE1.kept (((Within.refl w1.heap.size (w1.heap.size + 1) _)).setCell (by omega) (by omega) _ _) (.inr (by omega))
  have HBV := Lib.hid (HB5.out.trans (hwi.below (B := w.heap.size) (by have := HB5.out.size; omega) (by omega)))
  have BGV := Lib.hid (BG5.out.kept hwi (.inl (by omega)))
  have HVS := Lib.hid hVs
  have HLEV : Hid (w.heap.size + 1 < w1.heap.size ∧ w1.heap.size + 1 ≤ w5.heap.size ∧ V.heap.size = w5.heap.size + 1) := ⟨by omega, by omega, hVs⟩
  clear hV hE1 fr y1 hwi
  go_loopg [36] nx (fun gh iv wr => ∃ k : Nat, k + gh = nx ∧ iv = .int .i64 k ∧ (∃ ov, BoxN wr w1.heap.size 63 [.slice a1 nb c1, .slice (some ⟨w5.heap.size, 0, none⟩) 1 1, ov] ∧ OwnI wr V.heap.size ov (respN ⟨p, q, g⟩ E ws xs k)) ∧ Within w1.heap.size (w1.heap.size + 1) V wr)
  case atStart => exact ⟨0, by omega, rfl, ⟨_, BV.out, OwnI.nil _ _⟩, Within.refl _ _ _⟩
  case round =>
    obtain ⟨k, hk, rfl, ⟨ov, hbp, hown⟩, hwr⟩ := hrel
    obtain ⟨ao, co, hv⟩ := hown.shape
    rw [respN_length] at hv
    subst hv
    have HBPR := Lib.hid hbp
    have HOWN := Lib.hid hown
    have HWR := Lib.hid hwr
    have hszr := hwr.size
    have HBR : Hid (Below w.heap.size w wr) := HBV.out.trans (hwr.below (B := w.heap.size) (by omega) (by omega))
    clear hbp hown hwr
    by_cases hlt : k < nx
    · have HKX : Hid (k < xs.length) := by unfold Hid; rw [HLX.out]; exact hlt
      have HKW : Hid (k < ws.length) := by unfold Hid; rw [HLW.out]; exact hlt
      obtain ⟨bx, ox, rfl, hcx⟩ := (HX.out.below HBR.out).at_ (by omega)
      have yx := hcx k hlt
      obtain ⟨bw, ow, rfl, hcw⟩ := (HWS.out.below HBR.out).at_ (by omega)
      have yw := hcw k hlt
      have hxb := exp_at HOK.out.ex HKX.out
      have hwb := exp_at HOK.out.ew HKW.out
      simp only [] at hxb hwb
      have HSUC := Lib.hid (respN_succ ⟨p, q, g⟩ E ws xs k)
      have HLN : Hid ((respN ⟨p, q, g⟩ E ws xs k).length = k) := respN_length _ _ _ _ _
      clear hcx hcw
      generalize nth xs k = x at yx hxb HSUC
      generalize nth ws k = c at yw hwb HSUC
      generalize respN ⟨p, q, g⟩ E ws xs k = RK at HSUC HLN HOWN
      have hm := mul_bd E0 (show E ≤ 2000000000 by omega) hxb.1 (show x ≤ 2000000000 by omega)
      have ew1 : IntKind.i64.wrap (E * x) = E * x := IntWalk.i64_in _ (by omega)
      have ew2 : IntKind.i64.wrap (c + E * x) = c + E * x := IntWalk.i64_in _ (by omega)
      have HIN : Hid (I64 (c + E * x)) := ⟨by omega, by omega⟩
      obtain ⟨z, hz⟩ : ∃ z, (c + E * x) % q = z := ⟨_, rfl⟩
      have hz0 : 0 ≤ z ∧ z < q := by rw [← hz]; exact ⟨Int.emod_nonneg _ (by omega), Int.emod_lt_of_pos _ (by omega)⟩
      simp only [] at HSUC
      rw [hz] at HSUC
      have HZ : Hid ((c + E * x) % (GroupD.mk p q g).q = z) := hz
      have HIZ : Hid (I64 z) := ⟨by omega, by omega⟩
      have BGR := Lib.hid (BGV.out.kept HWR.out (.inl (by omega)))
      have d0 := BGR.out.cell (i := 0) rfl
      have d1 := BGR.out.cell (i := 1) rfl
      have d2 := BGR.out.cell (i := 2) rfl
      have y2 := HBPR.out.cell (i := 2) rfl
      have hq0 : 0 < q := by omega
      have hqne : ¬ q = 0 := by omega
      have hnn : 0 ≤ c + E * x := by omega
      have htm : Int.tmod (c + E * x) q = z := by rw [Int.tmod_eq_emod_of_nonneg hnn]; exact hz
      clear hm
      go_wp2_with fail
      have k0 : (0 : Int) ≤ (k : Int) := by omega
      have k1 : (k : Int) < (nx : Int) := by omega
      have HVL : Hid (V.heap.size ≤ wr.heap.size ∧ w1.heap.size < V.heap.size) := ⟨hszr, by omega⟩
      clear hVs hs5 hsq hs0 hs1
      have hbz := Below.refl wr.heap.size wr
      have HHK := Lib.hid hk
      have HLTK := Lib.hid hlt
      have HK8 : Hid (k ≤ 8) := by unfold Hid; omega
      have HE01 : Hid (0 ≤ E ∧ E < q ∧ q ≤ p - 1 ∧ p ≤ 2000000000) := ⟨E0, E1, hq2, hp2⟩
      clear HX HBS HOK HLW HLX HLB HRX HRW HWB BG HS0 BR1 BG1 HB1 HS1 HBQ BP HSQ HBW HTB HRB HRX2 P1q HRC HSL HCI HCH HT3 HF3 HFF HIX HIW HBX HB5 BP5 P15 BR5 BG5 HIE BV BRV P1V P2V HBV BGV HVS HBR BGR HKX HKW HWS hxb hwb i1 i2 i3 i4 i5 i6 hn8 hnb8 hk hszr hz0 hlt hq2 hp2 E0 E1
      refine wp_region_noPanic ?_
      refine wp_region_take (fun w' => Below wr.heap.size wr w' ∧ w'.cell? ⟨w.heap.size, 1, none⟩ = some (.int .i64 q) ∧ w'.cell? ⟨w1.heap.size, 2, none⟩ = some (.slice ao k co) ∧ w'.cell? ⟨bw, ow + k, none⟩ = some (.int .i64 c)) 12 [(true, 0), (true, 1), (true, 2), (true, 3), (true, 4), (true, 5), (true, 6), (true, 7), (true, 8), (true, 9), (true, 10), (true, 11), (true, 12), (false, 13)] [14, 15, 16] (by kernel_rfl) (by kernel_rfl) rfl (fun _ _ _ _ _ h => h) ⟨(Below.refl _ _).drew, d1, y2, yw⟩ ?_
      simp only [pickL, pickN, List.getElem?_cons_zero, List.getElem?_cons_succ]
      repeat (refine' wpTake_read _ (by rfl) (fun w' hS' => ?_) ?_; rotate_left; · ((try dsimp only at hS'); go_simp; (try with_reducible rfl)); (try simp only [Act.put, List.setIfInBounds_toArray, List.set_cons_zero, List.set_cons_succ]))
      refine wpTake_do (by rfl) (fun K hK => ?_)
      go_simp
      have hba : Below wr.heap.size wr ((wr.alloc (.cells #[.int .i64 z] 3)).drew) := ((Below.refl _ _).alloc (Nat.le_refl _) _).drew
      refine hK.out _ _ ⟨hba, box_at d1 hba, box_at y2 hba, box_at yw hba⟩ (fun _ => ?_)
      clear hK K
      try simp only [Act.put, List.setIfInBounds_toArray, List.set_cons_zero, List.set_cons_succ]
      refine wpTake_nil ?_
      have HO6 : Hid (OwnI ((wr.alloc (.cells #[.int .i64 z] 3)).drew) V.heap.size (.slice ao k co) RK) := HOWN.out.below hba
      have BP6 : Hid (BoxN ((wr.alloc (.cells #[.int .i64 z] 3)).drew) w1.heap.size 63 _) := HBPR.out.below hba
      have HVL2 : Hid (V.heap.size ≤ ((wr.alloc (.cells #[.int .i64 z] 3)).drew).heap.size) := Nat.le_trans HVL.out.1 hba.size
      have HBA := Lib.hid hba
      clear hba hbz d0 d1 d2 y2 yx yw
      refine wpList_append_ints rfl _ _ rfl V.heap.size (.slice ao k co) (.slice (some ⟨wr.heap.size, 0, none⟩) 1 1) RK [z] rfl HO6.out rfl (Ints.lit1 wr HIZ.out).drew (by have := HLN.out; have := HK8.out; simp only [List.length_cons, List.length_nil]; omega) HVL2.out ?_
      intro v7 w7 ho7 hg7
      obtain ⟨a7, c7, rfl⟩ := ho7.shape
      have BP7 := Lib.hid (BoxN.grownO BP6.out hg7 HO6.out HVL.out.2)
      have y7 := BP7.out.cell (i := 2) rfl
      have fr7 := BP7.out.frozen 2
      have HWZ : Hid (Within w1.heap.size (w1.heap.size + 1) V w7) := HWR.out.belowStep1 ((HBA.out.mono HVL.out.1).trans (HO6.out.grown hg7 HVL2.out))
      have HO7 := Lib.hid ho7
      clear ho7 hg7
      go_wp2_with fail
      refine NoPanic.normal ?_
      have HOT := Lib.hid ((InI.of_own HO7.out).kept (lo' := w1.heap.size) (hi' := w1.heap.size + 1) (((Within.refl _ _ w7).setCell (Nat.le_refl _) (Nat.lt_succ_self _) 2 (.slice a7 (RK ++ [z]).length c7))) (.inr (by have := HVL.out; omega))).1
      have HBT := Lib.hid (BP7.out.set 2 (.slice a7 (RK ++ [z]).length c7))
      have HWT := Lib.hid (HWZ.out.setCell (Nat.le_refl _) (Nat.lt_succ_self _) 2 (.slice a7 (RK ++ [z]).length c7))
      have HLA : Hid ((RK ++ [z]).length = RK.length + 1) := by unfold Hid; simp
      rw [HLA.out] at HOT HBT HWT
      clear y7 fr7 k0 k1
      have hk := HHK.out
      have hltk := HLTK.out
      have hk8 := HK8.out
      go_wp2_with fail
      go_roundg (nx - (k + 1))
      case measure => omega
      case rel => exact ⟨k + 1, by omega, by go_num, ⟨_, HBT.out, by rw [HSUC.out]; exact HOT.out⟩, HWT.out⟩
    · obtain rfl : nx = k := by omega
      have BRR := Lib.hid (BRV.out.kept HWR.out (.inl (by omega)))
      have P1R := Lib.hid (P1V.out.kept HWR.out (.inl (by omega)))
      have P2R := Lib.hid (P2V.out.kept HWR.out (.inr (by omega)))
      have P3R := Lib.hid (InI.of_own HOWN.out)
      have y0 := HBPR.out.cell (i := 0) rfl
      have y1 := HBPR.out.cell (i := 1) rfl
      have y2 := HBPR.out.cell (i := 2) rfl
      have r0 := BRR.out.cell (i := 0) rfl
      have r1 := BRR.out.cell (i := 1) rfl
      have r2 := BRR.out.cell (i := 2) rfl
      have fr := BRR.out.frozen
      have hne : w.heap.size + 1 ≠ w1.heap.size := by omega
      go_wp2_with fail
      obtain ⟨Z, hZ⟩ : ∃ Z, Z = ((wr.setCell ⟨w.heap.size + 1, 0, none⟩ (.slice a1 nb c1)).setCell ⟨w.heap.size + 1, 1, none⟩ (.slice (some ⟨w5.heap.size, 0, none⟩) 1 1)).setCell ⟨w.heap.size + 1, 2, none⟩ (.slice ao nx co) := ⟨_, rfl⟩
      rw [← hZ]
      have hwz : Within (w.heap.size + 1) (w.heap.size + 2) wr Z := by rw [hZ]; exact ((Within.refl _ _ _ |>.setCell (by omega) (by omega) _ _) |>.setCell (by omega) (by omega) _ _) |>.setCell (by omega) (by omega) _ _
      have hZs : Z.heap.size = wr.heap.size := by rw [hZ]; simp only [size_setC]
      have BZ : BoxN Z (w.heap.size + 1) 63 [.slice a1 nb c1, .slice (some ⟨w5.heap.size, 0, none⟩) 1 1, .slice ao nx co] := by rw [hZ]; exact ((BRR.out.set 0 _).set 1 _).set 2 _
      have hs0' := HS0.out
      have P1Z := Lib.hid (P1R.out.kept hwz (.inr (by omega)))
      have P2Z := Lib.hid (P2R.out.kept hwz (.inr (by omega)))
      have P3Z := Lib.hid (P3R.out.kept hwz (.inr (by omega)))
      have HBZ := Lib.hid (HBR.out.trans (hwz.below (B := w.heap.size) (by have := HBR.out.size; omega) (by omega)))
      have HRS : Hid (respN ⟨p, q, g⟩ E ws xs ws.length = respN ⟨p, q, g⟩ E ws xs nx) := by unfold Hid; rw [HLW.out]
      clear hZ r0 r1 r2 y0 y1 y2 fr
      have r0 := BZ.cell (i := 0) rfl
      have r1 := BZ.cell (i := 1) rfl
      have r2 := BZ.cell (i := 2) rfl
      refine bodyPost_ret (v := .agg #[.slice a1 nb c1, .slice (some ⟨w5.heap.size, 0, none⟩) 1 1, .slice ao nx co]) (by simp [results, Try.results137, go_sem, r0, r1, r2]) rfl ⟨_, rfl, ⟨_, rfl, ⟨_, _, W.heap.size, w1.heap.size, w5.heap.size, Z.heap.size, rfl, (by rw [HIW.out]; exact P1Z.out), ⟨_, _, w5.heap.size, w5.heap.size + 1, w5.heap.size + 1, Z.heap.size, rfl, P2Z.out, ⟨_, _, V.heap.size, wr.heap.size, Z.heap.size, Z.heap.size, rfl, (by rw [HRS.out]; exact P3Z.out), rfl, ⟨by omega, by omega⟩, ⟨by omega, by omega⟩, by omega⟩, ⟨by omega, by omega⟩, ⟨by omega, by omega⟩, by omega⟩, ⟨by omega, by omega⟩, ⟨by omega, by omega⟩, by omega⟩⟩, HBZ.out⟩
end Go.Proofs.Yteemlmmdngkghaa
namespace Go.Proofs.Yteemlmmdngkghaa
open Go.RowKit
set_option linter.unusedSimpArgs false
set_option linter.unusedVariables false

/-- the label of a signature -/
def sgLabel (s : ByteArray) (d : Int) : ByteArray := s ++ dText d
attribute [irreducible] sgLabel
def sHead : ByteArray := ⟨#[104, 101, 97, 100]⟩
def sHeadSp : ByteArray := ⟨#[104, 101, 97, 100, 32]⟩
def hdD (a s r : Int) : Int := hashOf (lab sHead ++ [a, s, r])
def hdLabel (a s r : Int) : ByteArray := sgLabel sHeadSp (hdD a s r)
attribute [irreducible] hdLabel
end Go.Proofs.Yteemlmmdngkghaa
namespace Go.Proofs.Yteemlmmdngkghaa
open Go.RowKit
set_option linter.unusedSimpArgs false
set_option linter.unusedVariables false

def zProof : ProofD := ⟨[], [], []⟩
theorem own_zProof (w : World) (lo hi : Nat) (h : lo ≤ hi) : (kS rProof).own w lo hi (.agg #[.slice none 0 0, .slice none 0 0, .slice none 0 0]) zProof := by
  have h1 : InI w lo lo (.slice none 0 0) [] := ⟨OwnI.nil w lo, fun k hk => by cases hk⟩
  exact ⟨_, rfl, ⟨_, _, lo, lo, lo, lo, rfl, h1, ⟨_, _, lo, lo, lo, lo, rfl, h1, ⟨_, _, lo, lo, lo, lo, rfl, h1, rfl, ⟨by omega, by omega⟩, ⟨by omega, by omega⟩, by omega⟩, ⟨by omega, by omega⟩, ⟨by omega, by omega⟩, by omega⟩, ⟨by omega, by omega⟩, ⟨by omega, by omega⟩, by omega⟩⟩
/-- the arguments of a proof of a linear statement are right -/
noncomputable def plB (gr : GroupD) (s : ByteArray) (bs : List (List Int)) (xs ws : List Int) : Bool :=
  goodG gr && (decide (s.size ≤ 40) && (rowsB gr bs && (decide (xs.length = headLen bs) && (decide (ws.length = xs.length) && (xs.all (expB gr) && ws.all (expB gr))))))
noncomputable def plD (gr : GroupD) (s : ByteArray) (bs : List (List Int)) (xs ws : List Int) : ProofD := if plB gr s bs xs ws = true then pvD gr s bs xs ws else zProof
theorem prvOk {gr : GroupD} {s : ByteArray} {bs : List (List Int)} {xs ws : List Int} (hg : OkG gr) (h2 : s.size ≤ 40) (h3 : rowsB gr bs = true) (h4 : xs.length = headLen bs) (h5 : ws.length = xs.length) (h6 : xs.all (expB gr) = true) (h7 : ws.all (expB gr) = true) : PrvOk gr s bs xs ws := by
  obtain ⟨⟨a1, a2⟩, ⟨a3, a4⟩, a5⟩ := rowsB_bd hg h3
  exact ⟨h2, a1, a2, a4, a5, h4, h5.trans h4, h6, h7⟩
theorem impl_isLabel (s : ByteArray) (w : World) (hs : s.size ≤ 9223372036854775807) :
    Calls Try.prog 132 #[.string s] w fun e w' => e = .returned (.bool (decide (s.size ≤ 40))) ∧ w = w' := by
  by_cases h : s.size ≤ 40
  · have h1 : decide ((s.size : Int) ≤ 40) = true := decide_eq_true (by omega)
    have h2 := Lib.hid (decide_eq_true h)
    go_enter Try.func132, Try.ntmps132
    go_wp2
    go_ret
    exact ⟨ret_bool (by first | (rw [h2.out]; done) | (rw [h2.out]; rfl) | exact h2.out.symm), rfl⟩
  · have h1 : decide ((s.size : Int) ≤ 40) = false := decide_eq_false (by omega)
    have h2 := Lib.hid (decide_eq_false h)
    go_enter Try.func132, Try.ntmps132
    go_wp2
    go_ret
    exact ⟨ret_bool (by first | (rw [h2.out]; done) | (rw [h2.out]; rfl) | exact h2.out.symm), rfl⟩
set_option maxRecDepth 100000 in
set_option maxHeartbeats 8000000 in
theorem impl_ProveLinear (gr : GroupD) (s : ByteArray) (vb : Value) (bs : List (List Int)) (vx : Value) (xs : List Int) (vw : Value) (ws : List Int) (w : World) (hs : s.size ≤ 1000000) (hb : RdL kInts w vb bs) (hx : Ints w vx xs) (hw : Ints w vw ws) :
    Calls Try.prog 32 #[.agg #[.int .i64 gr.p, .int .i64 gr.q, .int .i64 gr.g], .string s, vb, vx, vw] w fun e w' => ∃ v, e = .returned (.tuple #[v, .bool (plB gr s bs xs ws)]) ∧ (kS rProof).own w' w.heap.size w'.heap.size v (plD gr s bs xs ws) ∧ Below w.heap.size w w' := by
  obtain ⟨ax, nx, cx, rfl⟩ := hx.shape
  have ex := hx.len
  obtain ⟨aw, nw, cw, rfl⟩ := hw.shape
  have ew := hw.len
  obtain ⟨i1, i2⟩ := hx.capMax
  obtain ⟨i3, i4⟩ := hw.capMax
  obtain ⟨ab, nb, cb, rfl⟩ := hb.shape
  have eb := hb.len
  obtain ⟨i5, i6⟩ := hb.capMax
  unfold maxLen at i2 i4 i6
  have HX := Lib.hid hx; have HWS := Lib.hid hw; have HBS := Lib.hid hb
  clear hx hw hb
  (obtain ⟨q1, h_q⟩ : ∃ b_q, goodG gr = b_q := ⟨_, rfl⟩); have H1 := Lib.hid h_q; clear h_q
  (obtain ⟨q2, h_q⟩ : ∃ b_q, decide (s.size ≤ 40) = b_q := ⟨_, rfl⟩); have H2 := Lib.hid h_q; clear h_q
  (obtain ⟨q3, h_q⟩ : ∃ b_q, rowsB gr bs = b_q := ⟨_, rfl⟩); have H3 := Lib.hid h_q; clear h_q
  (obtain ⟨q4, h_q⟩ : ∃ b_q, decide (xs.length = headLen bs) = b_q := ⟨_, rfl⟩); have H4 := Lib.hid h_q; clear h_q
  (obtain ⟨q5, h_q⟩ : ∃ b_q, decide (ws.length = xs.length) = b_q := ⟨_, rfl⟩); have H5 := Lib.hid h_q; clear h_q
  (obtain ⟨q6, h_q⟩ : ∃ b_q, xs.all (expB gr) = b_q := ⟨_, rfl⟩); have H6 := Lib.hid h_q; clear h_q
  (obtain ⟨q7, h_q⟩ : ∃ b_q, ws.all (expB gr) = b_q := ⟨_, rfl⟩); have H7 := Lib.hid h_q; clear h_q
  have HB : Hid (plB gr s bs xs ws = (q1 && (q2 && (q3 && (q4 && (q5 && (q6 && q7))))))) := by unfold Hid plB; rw [H1.out, H2.out, H3.out, H4.out, H5.out, H6.out, H7.out]
  have HD : Hid (plD gr s bs xs ws = if (q1 && (q2 && (q3 && (q4 && (q5 && (q6 && q7)))))) = true then pvD gr s bs xs ws else zProof) := by unfold Hid plD; rw [HB.out]
  rw [HB.out, HD.out]
  have HXN := Lib.hid ex; have HWN := Lib.hid ew; have HBN := Lib.hid eb
  clear ex ew eb
  obtain ⟨p, q, g⟩ := gr
  obtain ⟨W, hW⟩ : ∃ W, W = (w.alloc (.cells #[.int .i64 p, .int .i64 q, .int .i64 g] 25)).alloc (.cells #[.slice none 0 0, .slice none 0 0, .slice none 0 0] 63) := ⟨_, rfl⟩
  have HWB : Hid (Below w.heap.size w W) := by unfold Hid; rw [hW]; (repeat (first | exact Below.refl _ _ | assumption | refine Below.drew ?_ | refine Below.alloc ?_ (by first | (simp; done) | (simp; omega)) _ | refine Below.setCell ?_ (by first | (simp; done) | (simp; omega)) _))
  have hsW : W.heap.size = w.heap.size + 2 := by rw [hW]; simp
  have p0 : W.cell? ⟨w.heap.size, 0, none⟩ = some (.int .i64 p) := by rw [hW]; simp [go_sem]
  have p1 : W.cell? ⟨w.heap.size, 1, none⟩ = some (.int .i64 q) := by rw [hW]; simp [go_sem]
  have p2 : W.cell? ⟨w.heap.size, 2, none⟩ = some (.int .i64 g) := by rw [hW]; simp [go_sem]
  have hs1 : (w.alloc (.cells #[.int .i64 p, .int .i64 q, .int .i64 g] 25)).heap.size = w.heap.size + 1 := by simp
  have BR : Hid (BoxN W (w.heap.size + 1) 63 [.slice none 0 0, .slice none 0 0, .slice none 0 0]) := by unfold Hid; rw [hW, ← hs1]; exact BoxN.new _ [.slice none 0 0, .slice none 0 0, .slice none 0 0] _
  have BG : Hid (BoxN W w.heap.size 25 [.int .i64 p, .int .i64 q, .int .i64 g]) := by unfold Hid; rw [hW]; exact (BoxN.new w [.int .i64 p, .int .i64 q, .int .i64 g] _).alloc _
  have FX : Hid (∀ W', Below W.heap.size W W' → W'.cell? ⟨w.heap.size, 0, none⟩ = some (.int .i64 p) ∧ W'.cell? ⟨w.heap.size, 1, none⟩ = some (.int .i64 q) ∧ W'.cell? ⟨w.heap.size, 2, none⟩ = some (.int .i64 g)) := fun W' hb => ⟨box_at p0 hb, box_at p1 hb, box_at p2 hb⟩
  have hcum : Below W.heap.size W W := Below.refl _ _
  clear hs1
  have HW := Lib.hid hW
  clear hW
  go_enter Try.func32, Try.ntmps32
  go_wp2_with fail
  rw [← HW.out]
  refine (impl_IsValidGroup ⟨p, q, g⟩ _).mono ?_
  rintro e w1 ⟨rfl, hb1⟩
  rw [H1.out]
  replace hcum := hcum.trans (hb1.mono hcum.size)
  clear hb1
  clear p0 p1 p2
  obtain ⟨p0, p1, p2⟩ := FX.out _ hcum
  cases q1 with
  | false =>
    have BU := Lib.hid (BR.out.below hcum)
    have r0 := BU.out.cell (i := 0) rfl
    have r1 := BU.out.cell (i := 1) rfl
    have r2 := BU.out.cell (i := 2) rfl
    have fr := BU.out.frozen
    have hlw := hcum.size
    go_wp2_with fail
    obtain ⟨Z, hZ⟩ : ∃ Z, Z = ((w1.setCell ⟨w.heap.size + 1, 0, none⟩ (.slice none 0 0)).setCell ⟨w.heap.size + 1, 1, none⟩ (.slice none 0 0)).setCell ⟨w.heap.size + 1, 2, none⟩ (.slice none 0 0) := ⟨_, rfl⟩
    rw [← hZ]
    have hwz : Within (w.heap.size + 1) (w.heap.size + 2) w1 Z := by rw [hZ]; exact ((Within.refl _ _ _ |>.setCell (by omega) (by omega) _ _) |>.setCell (by omega) (by omega) _ _) |>.setCell (by omega) (by omega) _ _
    have hZs : Z.heap.size = w1.heap.size := by rw [hZ]; simp only [size_setC]
    have BZ : BoxN Z (w.heap.size + 1) 63 [(.slice none 0 0), (.slice none 0 0), (.slice none 0 0)] := by rw [hZ]; exact ((BU.out.set 0 _).set 1 _).set 2 _
    have HZB := Lib.hid ((Below.next HWB.out hcum).trans (hwz.below (B := w.heap.size) (by omega) (by omega)))
    clear hZ r0 r1 r2 fr
    have r0 := BZ.cell (i := 0) rfl
    have r1 := BZ.cell (i := 1) rfl
    have r2 := BZ.cell (i := 2) rfl
    refine bodyPost_ret (v := .tuple #[.agg #[.slice none 0 0, .slice none 0 0, .slice none 0 0], .bool false]) (by simp [results, Try.results32, go_sem, r0, r1, r2]) rfl ⟨_, rfl, own_zProof _ _ _ (by omega), HZB.out⟩
  | true =>
    have HG := Lib.hid (goodG_ok H1.out)
    have hs63 : s.size ≤ 9223372036854775807 := by omega
    cases q2 with
    | false =>
      have BU := Lib.hid (BR.out.below hcum)
      have r0 := BU.out.cell (i := 0) rfl
      have r1 := BU.out.cell (i := 1) rfl
      have r2 := BU.out.cell (i := 2) rfl
      have fr := BU.out.frozen
      have hlw := hcum.size
      go_wp2_with (first | (go_at_call 132; refine (impl_isLabel s _ hs63).mono ?_; rintro e wz ⟨rfl, rfl⟩; rw [H2.out]) | fail)
      obtain ⟨Z, hZ⟩ : ∃ Z, Z = ((w1.setCell ⟨w.heap.size + 1, 0, none⟩ (.slice none 0 0)).setCell ⟨w.heap.size + 1, 1, none⟩ (.slice none 0 0)).setCell ⟨w.heap.size + 1, 2, none⟩ (.slice none 0 0) := ⟨_, rfl⟩
      rw [← hZ]
      have hwz : Within (w.heap.size + 1) (w.heap.size + 2) w1 Z := by rw [hZ]; exact ((Within.refl _ _ _ |>.setCell (by omega) (by omega) _ _) |>.setCell (by omega) (by omega) _ _) |>.setCell (by omega) (by omega) _ _
      have hZs : Z.heap.size = w1.heap.size := by rw [hZ]; simp only [size_setC]
      have BZ : BoxN Z (w.heap.size + 1) 63 [(.slice none 0 0), (.slice none 0 0), (.slice none 0 0)] := by rw [hZ]; exact ((BU.out.set 0 _).set 1 _).set 2 _
      have HZB := Lib.hid ((Below.next HWB.out hcum).trans (hwz.below (B := w.heap.size) (by omega) (by omega)))
      clear hZ r0 r1 r2 fr
      have r0 := BZ.cell (i := 0) rfl
      have r1 := BZ.cell (i := 1) rfl
      have r2 := BZ.cell (i := 2) rfl
      refine bodyPost_ret (v := .tuple #[.agg #[.slice none 0 0, .slice none 0 0, .slice none 0 0], .bool false]) (by simp [results, Try.results32, go_sem, r0, r1, r2]) rfl ⟨_, rfl, own_zProof _ _ _ (by omega), HZB.out⟩
    | true =>
      go_wp2_with (first | (go_at_call 132; refine (impl_isLabel s _ hs63).mono ?_; rintro e wz ⟨rfl, rfl⟩; rw [H2.out]) | fail)
      refine (impl_areRows ⟨p, q, g⟩ _ bs _ HG.out (kRows.rd_below HBS.out (Below.next HWB.out hcum))).mono ?_
      rintro e w2 ⟨rfl, hb2⟩
      rw [H3.out]
      replace hcum := hcum.trans (hb2.mono hcum.size)
      clear hb2
      clear p0 p1 p2
      obtain ⟨p0, p1, p2⟩ := FX.out _ hcum
      cases q3 with
      | false =>
        have BU := Lib.hid (BR.out.below hcum)
        have r0 := BU.out.cell (i := 0) rfl
        have r1 := BU.out.cell (i := 1) rfl
        have r2 := BU.out.cell (i := 2) rfl
        have fr := BU.out.frozen
        have hlw := hcum.size
        go_wp2_with fail
        obtain ⟨Z, hZ⟩ : ∃ Z, Z = ((w2.setCell ⟨w.heap.size + 1, 0, none⟩ (.slice none 0 0)).setCell ⟨w.heap.size + 1, 1, none⟩ (.slice none 0 0)).setCell ⟨w.heap.size + 1, 2, none⟩ (.slice none 0 0) := ⟨_, rfl⟩
        rw [← hZ]
        have hwz : Within (w.heap.size + 1) (w.heap.size + 2) w2 Z := by rw [hZ]; exact ((Within.refl _ _ _ |>.setCell (by omega) (by omega) _ _) |>.setCell (by omega) (by omega) _ _) |>.setCell (by omega) (by omega) _ _
        have hZs : Z.heap.size = w2.heap.size := by rw [hZ]; simp only [size_setC]
        have BZ : BoxN Z (w.heap.size + 1) 63 [(.slice none 0 0), (.slice none 0 0), (.slice none 0 0)] := by rw [hZ]; exact ((BU.out.set 0 _).set 1 _).set 2 _
        have HZB := Lib.hid ((Below.next HWB.out hcum).trans (hwz.below (B := w.heap.size) (by omega) (by omega)))
        clear hZ r0 r1 r2 fr
        have r0 := BZ.cell (i := 0) rfl
        have r1 := BZ.cell (i := 1) rfl
        have r2 := BZ.cell (i := 2) rfl
        refine bodyPost_ret (v := .tuple #[.agg #[.slice none 0 0, .slice none 0 0, .slice none 0 0], .bool false]) (by simp [results, Try.results32, go_sem, r0, r1, r2]) rfl ⟨_, rfl, own_zProof _ _ _ (by omega), HZB.out⟩
      | true =>
        have hbd := rowsB_bd HG.out H3.out
        have h0 : 0 < bs.length := by omega
        have hnb : 0 < nb := by have := HBN.out; omega
        have HBSW := Lib.hid (kRows.rd_below HBS.out (Below.next HWB.out hcum))
        obtain ⟨bb, ob, hab, vs, hcx⟩ := (HBSW.out : RdL _ _ _ _).at_ hnb
        subst hab
        obtain ⟨y0, hr0⟩ := hcx 0 h0
        rw [Nat.add_zero] at y0
        obtain ⟨a0, n0, c0, hv0⟩ := Ints.shape hr0
        rw [hv0] at y0 hr0
        have hl0 := Ints.len hr0
        have HN0 : Hid (headLen bs = n0) := by unfold Hid; rw [headLen_eq h0]; exact hl0
        have hn08 : n0 ≤ 8 := by have := HN0.out; omega
        clear hcx hr0 hl0 hv0 hbd
        have z4 : (decide ((nx : Int) = (n0 : Int))) = q4 := by
          rw [← H4.out, decide_eq_decide]; have := HXN.out; have := HN0.out; omega
        have z4' : ((nx : Int) != (n0 : Int)) = !q4 := by rw [← z4]; rfl
        have z5' : ((nw : Int) != (nx : Int)) = !q5 := by
          have : decide ((nw : Int) = (nx : Int)) = q5 := by rw [← H5.out, decide_eq_decide]; have := HXN.out; have := HWN.out; omega
          rw [← this]; rfl
        clear z4
        cases q4 with
        | false =>
          have BU := Lib.hid (BR.out.below hcum)
          have r0 := BU.out.cell (i := 0) rfl
          have r1 := BU.out.cell (i := 1) rfl
          have r2 := BU.out.cell (i := 2) rfl
          have fr := BU.out.frozen
          have hlw := hcum.size
          go_wp2_with fail
          obtain ⟨Z, hZ⟩ : ∃ Z, Z = ((w2.setCell ⟨w.heap.size + 1, 0, none⟩ (.slice none 0 0)).setCell ⟨w.heap.size + 1, 1, none⟩ (.slice none 0 0)).setCell ⟨w.heap.size + 1, 2, none⟩ (.slice none 0 0) := ⟨_, rfl⟩
          rw [← hZ]
          have hwz : Within (w.heap.size + 1) (w.heap.size + 2) w2 Z := by rw [hZ]; exact ((Within.refl _ _ _ |>.setCell (by omega) (by omega) _ _) |>.setCell (by omega) (by omega) _ _) |>.setCell (by omega) (by omega) _ _
          have hZs : Z.heap.size = w2.heap.size := by rw [hZ]; simp only [size_setC]
          have BZ : BoxN Z (w.heap.size + 1) 63 [(.slice none 0 0), (.slice none 0 0), (.slice none 0 0)] := by rw [hZ]; exact ((BU.out.set 0 _).set 1 _).set 2 _
          have HZB := Lib.hid ((Below.next HWB.out hcum).trans (hwz.below (B := w.heap.size) (by omega) (by omega)))
          clear hZ r0 r1 r2 fr
          have r0 := BZ.cell (i := 0) rfl
          have r1 := BZ.cell (i := 1) rfl
          have r2 := BZ.cell (i := 2) rfl
          refine bodyPost_ret (v := .tuple #[.agg #[.slice none 0 0, .slice none 0 0, .slice none 0 0], .bool false]) (by simp [results, Try.results32, go_sem, r0, r1, r2]) rfl ⟨_, rfl, own_zProof _ _ _ (by omega), HZB.out⟩
        | true =>
          cases q5 with
          | false =>
            have BU := Lib.hid (BR.out.below hcum)
            have r0 := BU.out.cell (i := 0) rfl
            have r1 := BU.out.cell (i := 1) rfl
            have r2 := BU.out.cell (i := 2) rfl
            have fr := BU.out.frozen
            have hlw := hcum.size
            go_wp2_with fail
            obtain ⟨Z, hZ⟩ : ∃ Z, Z = ((w2.setCell ⟨w.heap.size + 1, 0, none⟩ (.slice none 0 0)).setCell ⟨w.heap.size + 1, 1, none⟩ (.slice none 0 0)).setCell ⟨w.heap.size + 1, 2, none⟩ (.slice none 0 0) := ⟨_, rfl⟩
            rw [← hZ]
            have hwz : Within (w.heap.size + 1) (w.heap.size + 2) w2 Z := by rw [hZ]; exact ((Within.refl _ _ _ |>.setCell (by omega) (by omega) _ _) |>.setCell (by omega) (by omega) _ _) |>.setCell (by omega) (by omega) _ _
            have hZs : Z.heap.size = w2.heap.size := by rw [hZ]; simp only [size_setC]
            have BZ : BoxN Z (w.heap.size + 1) 63 [(.slice none 0 0), (.slice none 0 0), (.slice none 0 0)] := by rw [hZ]; exact ((BU.out.set 0 _).set 1 _).set 2 _
            have HZB := Lib.hid ((Below.next HWB.out hcum).trans (hwz.below (B := w.heap.size) (by omega) (by omega)))
            clear hZ r0 r1 r2 fr
            have r0 := BZ.cell (i := 0) rfl
            have r1 := BZ.cell (i := 1) rfl
            have r2 := BZ.cell (i := 2) rfl
            refine bodyPost_ret (v := .tuple #[.agg #[.slice none 0 0, .slice none 0 0, .slice none 0 0], .bool false]) (by simp [results, Try.results32, go_sem, r0, r1, r2]) rfl ⟨_, rfl, own_zProof _ _ _ (by omega), HZB.out⟩
          | true =>
            have HPO := Lib.hid (fun h6 h7 => prvOk HG.out (of_decide_eq_true H2.out) H3.out (of_decide_eq_true H4.out) (of_decide_eq_true H5.out) h6 h7)
            go_wp2_with fail
            refine (impl_areExps ⟨p, q, g⟩ _ xs _ HG.out (HX.out.below (Below.next HWB.out hcum))).mono ?_
            rintro e w3 ⟨rfl, hb3⟩
            rw [H6.out]
            replace hcum := hcum.trans (hb3.mono hcum.size)
            clear hb3
            clear p0 p1 p2
            obtain ⟨p0, p1, p2⟩ := FX.out _ hcum
            cases q6 with
            | false =>
              have BU := Lib.hid (BR.out.below hcum)
              have r0 := BU.out.cell (i := 0) rfl
              have r1 := BU.out.cell (i := 1) rfl
              have r2 := BU.out.cell (i := 2) rfl
              have fr := BU.out.frozen
              have hlw := hcum.size
              go_wp2_with fail
              obtain ⟨Z, hZ⟩ : ∃ Z, Z = ((w3.setCell ⟨w.heap.size + 1, 0, none⟩ (.slice none 0 0)).setCell ⟨w.heap.size + 1, 1, none⟩ (.slice none 0 0)).setCell ⟨w.heap.size + 1, 2, none⟩ (.slice none 0 0) := ⟨_, rfl⟩
              rw [← hZ]
              have hwz : Within (w.heap.size + 1) (w.heap.size + 2) w3 Z := by rw [hZ]; exact ((Within.refl _ _ _ |>.setCell (by omega) (by omega) _ _) |>.setCell (by omega) (by omega) _ _) |>.setCell (by omega) (by omega) _ _
              have hZs : Z.heap.size = w3.heap.size := by rw [hZ]; simp only [size_setC]
              have BZ : BoxN Z (w.heap.size + 1) 63 [(.slice none 0 0), (.slice none 0 0), (.slice none 0 0)] := by rw [hZ]; exact ((BU.out.set 0 _).set 1 _).set 2 _
              have HZB := Lib.hid ((Below.next HWB.out hcum).trans (hwz.below (B := w.heap.size) (by omega) (by omega)))
              clear hZ r0 r1 r2 fr
              have r0 := BZ.cell (i := 0) rfl
              have r1 := BZ.cell (i := 1) rfl
              have r2 := BZ.cell (i := 2) rfl
              refine bodyPost_ret (v := .tuple #[.agg #[.slice none 0 0, .slice none 0 0, .slice none 0 0], .bool false]) (by simp [results, Try.results32, go_sem, r0, r1, r2]) rfl ⟨_, rfl, own_zProof _ _ _ (by omega), HZB.out⟩
            | true =>
              go_wp2_with fail
              refine (impl_areExps ⟨p, q, g⟩ _ ws _ HG.out (HWS.out.below (Below.next HWB.out hcum))).mono ?_
              rintro e w4 ⟨rfl, hb4⟩
              rw [H7.out]
              replace hcum := hcum.trans (hb4.mono hcum.size)
              clear hb4
              clear p0 p1 p2
              obtain ⟨p0, p1, p2⟩ := FX.out _ hcum
              cases q7 with
              | false =>
                have BU := Lib.hid (BR.out.below hcum)
                have r0 := BU.out.cell (i := 0) rfl
                have r1 := BU.out.cell (i := 1) rfl
                have r2 := BU.out.cell (i := 2) rfl
                have fr := BU.out.frozen
                have hlw := hcum.size
                go_wp2_with fail
                obtain ⟨Z, hZ⟩ : ∃ Z, Z = ((w4.setCell ⟨w.heap.size + 1, 0, none⟩ (.slice none 0 0)).setCell ⟨w.heap.size + 1, 1, none⟩ (.slice none 0 0)).setCell ⟨w.heap.size + 1, 2, none⟩ (.slice none 0 0) := ⟨_, rfl⟩
                rw [← hZ]
                have hwz : Within (w.heap.size + 1) (w.heap.size + 2) w4 Z := by rw [hZ]; exact ((Within.refl _ _ _ |>.setCell (by omega) (by omega) _ _) |>.setCell (by omega) (by omega) _ _) |>.setCell (by omega) (by omega) _ _
                have hZs : Z.heap.size = w4.heap.size := by rw [hZ]; simp only [size_setC]
                have BZ : BoxN Z (w.heap.size + 1) 63 [(.slice none 0 0), (.slice none 0 0), (.slice none 0 0)] := by rw [hZ]; exact ((BU.out.set 0 _).set 1 _).set 2 _
                have HZB := Lib.hid ((Below.next HWB.out hcum).trans (hwz.below (B := w.heap.size) (by omega) (by omega)))
                clear hZ r0 r1 r2 fr
                have r0 := BZ.cell (i := 0) rfl
                have r1 := BZ.cell (i := 1) rfl
                have r2 := BZ.cell (i := 2) rfl
                refine bodyPost_ret (v := .tuple #[.agg #[.slice none 0 0, .slice none 0 0, .slice none 0 0], .bool false]) (by simp [results, Try.results32, go_sem, r0, r1, r2]) rfl ⟨_, rfl, own_zProof _ _ _ (by omega), HZB.out⟩
              | true =>
                go_wp2_with fail
                refine (impl_proveLinear ⟨p, q, g⟩ s _ bs _ xs _ ws _ HG.out (kRows.rd_below HBS.out (Below.next HWB.out hcum)) (HX.out.below (Below.next HWB.out hcum)) (HWS.out.below (Below.next HWB.out hcum)) (HPO.out H6.out H7.out)).mono ?_
                rintro e w5 ⟨v5, rfl, ho5, hb5⟩
                obtain ⟨a1, m1, c1, a2, m2, c2, a3, m3, c3, rfl, _, _, _⟩ := rdProof.1 ((kS rProof).own_rd ho5)
                have HO5 := Lib.hid ho5
                have hs4 := hcum.size
                have hs5 := hb5.size
                clear ho5
                replace hcum := hcum.trans (hb5.mono hcum.size)
                clear hb5
                clear p0 p1 p2
                obtain ⟨p0, p1, p2⟩ := FX.out _ hcum
                have BU := Lib.hid (BR.out.below hcum)
                have r0 := BU.out.cell (i := 0) rfl
                have r1 := BU.out.cell (i := 1) rfl
                have r2 := BU.out.cell (i := 2) rfl
                have fr := BU.out.frozen
                have hlw := hcum.size
                go_wp2_with fail
                obtain ⟨Z, hZ⟩ : ∃ Z, Z = ((w5.setCell ⟨w.heap.size + 1, 0, none⟩ (.slice a1 m1 c1)).setCell ⟨w.heap.size + 1, 1, none⟩ (.slice a2 m2 c2)).setCell ⟨w.heap.size + 1, 2, none⟩ (.slice a3 m3 c3) := ⟨_, rfl⟩
                rw [← hZ]
                have hwz : Within (w.heap.size + 1) (w.heap.size + 2) w5 Z := by rw [hZ]; exact ((Within.refl _ _ _ |>.setCell (by omega) (by omega) _ _) |>.setCell (by omega) (by omega) _ _) |>.setCell (by omega) (by omega) _ _
                have hZs : Z.heap.size = w5.heap.size := by rw [hZ]; simp only [size_setC]
                have BZ : BoxN Z (w.heap.size + 1) 63 [(.slice a1 m1 c1), (.slice a2 m2 c2), (.slice a3 m3 c3)] := by rw [hZ]; exact ((BU.out.set 0 _).set 1 _).set 2 _
                have HZB := Lib.hid ((Below.next HWB.out hcum).trans (hwz.below (B := w.heap.size) (by omega) (by omega)))
                have HOZ := Lib.hid ((kS rProof).own_mono (Kind.kept (K := kS rProof) HO5.out hwz (.inr (by omega))) (show w.heap.size ≤ _ by omega) (show _ ≤ Z.heap.size by omega))
                clear hZ r0 r1 r2 fr
                have r0 := BZ.cell (i := 0) rfl
                have r1 := BZ.cell (i := 1) rfl
                have r2 := BZ.cell (i := 2) rfl
                refine bodyPost_ret (v := .tuple #[.agg #[.slice a1 m1 c1, .slice a2 m2 c2, .slice a3 m3 c3], .bool true]) (by simp [results, Try.results32, go_sem, r0, r1, r2]) rfl ⟨_, rfl, HOZ.out, HZB.out⟩
end Go.Proofs.Yteemlmmdngkghaa
namespace Go.Proofs.Yteemlmmdngkghaa
open Go.RowKit
set_option linter.unusedSimpArgs false
set_option linter.unusedVariables false

theorem nth_in {l : List Int} {k : Nat} (h : k < l.length) : nth l k ∈ l := by
  have e : nth l k = l[k] := by simp [nth, List.getD, h]
  rw [e]; exact List.getElem_mem h
theorem elT_prodTo {gr : GroupD} (hg : OkG gr) {l es : List Int} (hl : l.all (elB gr) = true) (k : Nat) (h1 : k ≤ l.length) (h2 : k ≤ es.length) : elB gr (prodTo gr l es k) = true := by
  induction k with
  | zero => exact elT_one hg
  | succ k ih =>
    rw [prodTo_succ (by omega) (by omega)]
    exact elT_mul hg (ih (by omega) (by omega)) (elT_pow hg (List.all_eq_true.1 hl _ (nth_in (by omega))) _)
theorem elT_prodL {gr : GroupD} (hg : OkG gr) {l es : List Int} (hl : l.all (elB gr) = true) (h : l.length ≤ es.length) : elB gr (prodL gr l es) = true := by
  rw [← prodTo_all h]; exact elT_prodTo hg hl _ (Nat.le_refl _) h
theorem nth_respN {gr : GroupD} {e : Int} {ws xs : List Int} {n k : Nat} (h : k < n) : nth (respN gr e ws xs n) k = (nth ws k + e * nth xs k) % gr.q := by
  unfold respN nth; simp [List.getD, h]
theorem prodTo_resp {gr : GroupD} (hg : OkG gr) {r ws xs : List Int} {e : Int} {n : Nat} (hl : r.all (elB gr) = true) (hn : n ≤ r.length) (hw : n ≤ ws.length) (hx : n ≤ xs.length) (k : Nat) (hk : k ≤ n) :
    prodTo gr r (respN gr e ws xs n) k = prodTo gr r ws k * powE gr (prodTo gr r xs k) e % gr.p := by
  have hp := hg.p1
  induction k with
  | zero =>
    show (1 : Int) = 1 * powE gr 1 e % gr.p
    rw [Int.one_mul]
    have h := powE_pow hg (elT_one hg) 0 e
    rw [Int.zero_mul, powE_zero hg] at h
    rw [h]
    exact (Int.emod_eq_of_lt (by omega) (by omega)).symm
  | succ k ih =>
    rw [prodTo_succ (by omega) (by rw [respN_length]; omega), prodTo_succ (by omega) (by omega), prodTo_succ (by omega) (by omega), ih (by omega), nth_respN (by omega),
      sigma_eq hg (List.all_eq_true.1 hl _ (nth_in (by omega))), powE_mulB, ← Int.mul_emod, ← Int.mul_emod]
    congr 1
    simp only [Int.mul_assoc, Int.mul_comm, Int.mul_left_comm]
theorem prodL_resp {gr : GroupD} (hg : OkG gr) {r ws xs : List Int} {e : Int} (hl : r.all (elB gr) = true) (hw : ws.length = r.length) (hx : xs.length = r.length) :
    prodL gr r (respN gr e ws xs ws.length) = prodL gr r ws * powE gr (prodL gr r xs) e % gr.p := by
  rw [← prodTo_all (by rw [respN_length]; omega), ← prodTo_all (by omega), ← prodTo_all (by omega)]
  exact prodTo_resp hg hl (by omega) (by omega) (by omega) _ (by omega)
/-- what a statement and secrets must be -/
structure LinOk (gr : GroupD) (bs : List (List Int)) (xs ws : List Int) : Prop where
  rows : rowsB gr bs = true
  lx : xs.length = headLen bs
  lw : ws.length = xs.length
  xe : xs.all (expB gr) = true
  we : ws.all (expB gr) = true
theorem rowsB_row {gr : GroupD} {bs : List (List Int)} (h : rowsB gr bs = true) {r : List Int} (hr : r ∈ bs) : r.length = headLen bs ∧ r.all (elB gr) = true := by
  unfold rowsB at h
  simp only [Bool.and_eq_true, decide_eq_true_iff] at h
  have := List.all_eq_true.1 h.2.2 r hr
  unfold rowB at this
  simpa using this
theorem rowsB_len {gr : GroupD} {bs : List (List Int)} (h : rowsB gr bs = true) : (1 ≤ bs.length ∧ bs.length ≤ 8) ∧ (1 ≤ headLen bs ∧ headLen bs ≤ 8) := by
  unfold rowsB at h
  simp only [Bool.and_eq_true, decide_eq_true_iff] at h
  exact ⟨h.1, h.2.1⟩
theorem imagesL_el {gr : GroupD} (hg : OkG gr) {bs : List (List Int)} {es : List Int} (h : rowsB gr bs = true) (hl : es.length = headLen bs) : (imagesL gr bs es).all (elB gr) = true := by
  rw [List.all_eq_true]
  intro x hx
  obtain ⟨r, hr, rfl⟩ := List.mem_map.1 hx
  obtain ⟨h1, h2⟩ := rowsB_row h hr
  exact elT_prodL hg h2 (by omega)
theorem nth_imagesL {gr : GroupD} {bs : List (List Int)} {es : List Int} {i : Nat} (h : i < bs.length) : nth (imagesL gr bs es) i = prodL gr bs[i] es := by
  unfold imagesL nth; simp [List.getD, h]
theorem getD_row {bs : List (List Int)} {i : Nat} (h : i < bs.length) : bs.getD i [] = bs[i] := by
  simp [List.getD, h]
theorem respN_exp {gr : GroupD} (hg : OkG gr) (e : Int) (ws xs : List Int) (n : Nat) : (respN gr e ws xs n).all (expB gr) = true := by
  rw [List.all_eq_true]
  intro x hx
  obtain ⟨k, _, rfl⟩ := List.mem_map.1 hx
  exact expT hg _
theorem pv_head {gr : GroupD} (hg : OkG gr) {s : ByteArray} {bs : List (List Int)} {xs ws : List Int} (h : LinOk gr bs xs ws) : vlHead gr bs (pvD gr s bs xs ws) = true := by
  unfold vlHead pvD
  simp only [Bool.and_eq_true, decide_eq_true_iff]
  exact ⟨imagesL_length, rfl, by rw [respN_length, h.lw, h.lx], imagesL_el hg h.rows (by rw [h.lw, h.lx]), respN_exp hg _ _ _ _⟩
theorem lin_right {gr : GroupD} (hg : OkG gr) {s : ByteArray} {bs : List (List Int)} {xs ws : List Int} (h : LinOk gr bs xs ws) : vlB gr s bs (imagesL gr bs xs) (pvD gr s bs xs ws) = true := by
  unfold vlB
  rw [pv_head hg h, Bool.true_and]
  have e : vlE gr s bs (imagesL gr bs xs) (pvD gr s bs xs ws) = pvE gr s bs xs ws := by unfold vlE pvD pvE; rfl
  rw [e, Bool.and_eq_true]
  refine ⟨beq_self_eq_true _, range_all_true fun i hi => ?_⟩
  unfold vlEq
  obtain ⟨h1, h2⟩ := rowsB_row h.rows (List.getElem_mem hi)
  rw [getD_row hi, beq_iff_eq, mulT]
  show prodL gr bs[i] (respN gr (pvE gr s bs xs ws) ws xs ws.length) = nth (imagesL gr bs ws) i * powE gr (nth (imagesL gr bs xs) i) _ % gr.p
  rw [nth_imagesL hi, nth_imagesL hi]
  exact prodL_resp hg h2 (by rw [h.lw, h.lx, h1]) (by rw [h.lx, h1])
theorem prodL_fold {gr : GroupD} (hg : OkG gr) (l : List (Int × Int)) : ∀ o : Int, 0 ≤ o → o < gr.p → l.foldl (fun o x => o * powE gr x.1 x.2 % gr.p) o = o * l.foldl (fun o x => o * powE gr x.1 x.2 % gr.p) 1 % gr.p := by
  have hp := hg.p1
  induction l with
  | nil => intro o h0 h1; simp only [List.foldl_nil, Int.mul_one]; exact (Int.emod_eq_of_lt h0 h1).symm
  | cons x l ih =>
    intro o h0 h1
    simp only [List.foldl_cons]
    rw [ih (o * powE gr x.1 x.2 % gr.p) (Int.emod_nonneg _ (by omega)) (Int.emod_lt_of_pos _ (by omega)), ih (1 * powE gr x.1 x.2 % gr.p) (Int.emod_nonneg _ (by omega)) (Int.emod_lt_of_pos _ (by omega)),
      emod_mul_left, emod_mul_right, Int.one_mul, Int.mul_assoc]
    conv => rhs; rw [← emod_mul_right, emod_mul_left, emod_mul_right]
theorem prodL_cons {gr : GroupD} (hg : OkG gr) (x e : Int) (l es : List Int) : prodL gr (x :: l) (e :: es) = powE gr x e * prodL gr l es % gr.p := by
  have hp := hg.p1
  unfold prodL
  simp only [List.zip_cons_cons, List.foldl_cons, Int.one_mul]
  rw [prodL_fold hg _ _ (Int.emod_nonneg _ (by omega)) (Int.emod_lt_of_pos _ (by omega)), emod_mul_left]
/-- the proof with one response that is changed -/
def bendD (gr : GroupD) (d : ProofD) : ProofD := ⟨d.c, d.h, (nth d.r 0 + 1) % gr.q :: d.r.drop 1⟩
theorem bend_one {gr : GroupD} (hg : OkG gr) {x y : Int} {l es : List Int} (hx : elB gr x = true) (hl : l.all (elB gr) = true) (hle : l.length ≤ es.length) (e1 : prodL gr (x :: l) ((nth (y :: es) 0 + 1) % gr.q :: (y :: es).drop 1) = prodL gr (x :: l) (y :: es)) : x = 1 := by
  have hn0 : nth (y :: es) 0 = y := rfl
  have hd1 : (y :: es).drop 1 = es := rfl
  rw [hn0, hd1, prodL_cons hg, prodL_cons hg, powE_emod, powE_add hg hx, powE_single hg hx] at e1
  obtain ⟨u, hu⟩ : ∃ u, powE gr x y * prodL gr l es % gr.p = u := ⟨_, rfl⟩
  have hue : elB gr u = true := by rw [← hu]; exact elT_mul hg (elT_pow hg hx _) (elT_prodL hg hl hle)
  have e6 : u * x % gr.p = u := by
    rw [emod_mul_left] at e1
    rw [← hu, emod_mul_left, Int.mul_right_comm]
    exact e1
  have e7 := powE_neg hg hue 1
  rw [powE_single hg hue] at e7
  have hxm := elT_mod hg hx
  have : u * x % gr.p * powE gr u (-1) % gr.p = x := by
    rw [emod_mul_left, Int.mul_right_comm, ← emod_mul_left, e7, Int.one_mul, hxm]
  rw [e6, e7] at this
  exact this.symm
theorem lin_wrong {gr : GroupD} (hg : OkG gr) {s : ByteArray} {bs : List (List Int)} {xs ws : List Int} (h : LinOk gr bs xs ws) (h1 : nth (bs.headD []) 0 ≠ 1) :
    vlB gr s bs (imagesL gr bs xs) (bendD gr (pvD gr s bs xs ws)) = false := by
  obtain ⟨⟨hb1, _⟩, hn1, hn8⟩ := rowsB_len h.rows
  have hp := hg.p1
  cases bs with
  | nil => simp at hb1
  | cons r0 bs' =>
    have hr := rowsB_row h.rows (r := r0) (by simp)
    have hlen : headLen (r0 :: bs') = r0.length := rfl
    have hright := lin_right (s := s) hg h
    cases hb : vlB gr s (r0 :: bs') (imagesL gr (r0 :: bs') xs) (bendD gr (pvD gr s (r0 :: bs') xs ws)) with
    | false => rfl
    | true =>
      exfalso
      unfold vlB at hright hb
      simp only [Bool.and_eq_true] at hright hb
      have e0 := List.all_eq_true.1 hright.2.2 0 (List.mem_range.2 (by simp))
      have e1 := List.all_eq_true.1 hb.2.2 0 (List.mem_range.2 (by simp))
      unfold vlEq at e0 e1
      rw [beq_iff_eq] at e0 e1
      have e2 : vlE gr s (r0 :: bs') (imagesL gr (r0 :: bs') xs) (bendD gr (pvD gr s (r0 :: bs') xs ws)) = vlE gr s (r0 :: bs') (imagesL gr (r0 :: bs') xs) (pvD gr s (r0 :: bs') xs ws) := by unfold vlE bendD; rfl
      rw [e2] at e1
      have e3 : (bendD gr (pvD gr s (r0 :: bs') xs ws)).c = (pvD gr s (r0 :: bs') xs ws).c := by unfold bendD; rfl
      rw [e3, ← e0] at e1
      have e4 : (r0 :: bs').getD 0 [] = r0 := rfl
      rw [e4] at e1
      obtain ⟨R, hR⟩ : ∃ R, (pvD gr s (r0 :: bs') xs ws).r = R := ⟨_, rfl⟩
      have hRl : R.length = r0.length := by rw [← hR]; show (respN _ _ _ _ _).length = _; rw [respN_length, h.lw, h.lx, hlen]
      have e5 : (bendD gr (pvD gr s (r0 :: bs') xs ws)).r = (nth R 0 + 1) % gr.q :: R.drop 1 := by unfold bendD; rw [hR]
      rw [e5, hR] at e1
      rw [hlen] at hn1
      obtain ⟨x, l, hxl⟩ : ∃ x l, r0 = x :: l := by
        cases r0 with
        | nil => simp at hn1
        | cons x l => exact ⟨x, l, rfl⟩
      obtain ⟨y, es, hye⟩ : ∃ y es, R = y :: es := by
        cases R with
        | nil => simp at hRl; omega
        | cons y es => exact ⟨y, es, rfl⟩
      rw [hxl] at hr hRl e1 h1
      rw [hye] at hRl e1
      have ha := hr.2
      simp only [List.all_cons, Bool.and_eq_true] at ha
      exact h1 (bend_one hg ha.1 ha.2 (by simp at hRl; omega) e1)
end Go.Proofs.Yteemlmmdngkghaa
