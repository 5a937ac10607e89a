/- Walks: proofs of linear statements are made, the reference's. -/
import Derived.Test.YtapfceghgkmgoaaProve1
namespace Go.Proofs.Ytapfceghgkmgoaa
open Go.RowKit
set_option linter.unusedSimpArgs false
set_option linter.unusedVariables false
set_option maxRecDepth 100000 in
set_option maxHeartbeats 4000000 in
theorem spec_sProve (gr : GroupD) (s : ByteArray) (vb : Value) (bs : List (List Int)) (vx : Value) (xs : List Int) (vw : Value) (ws : List Int) (w : World) (hg : OkG gr) (hb : RdL kInts w vb bs) (hx : Ints w vx xs) (hw : Ints w vw ws) (hok : PrvOk gr s bs xs ws) :
    Calls Try.prog 213 #[.agg #[.int .i64 gr.p, .int .i64 gr.q, .int .i64 gr.g], .string s, vb, vx, vw] w fun e w' => ∃ v, e = .returned v ∧ (kS rProof).own w' w.heap.size w'.heap.size v (pvD gr s bs xs ws) ∧ Below w.heap.size w w' := by
  have HG := Lib.hid hg; clear hg
  have HOK := Lib.hid hok; clear hok
  obtain ⟨ax, nx, cx, rfl⟩ := hx.shape
  have ex := hx.len
  obtain ⟨aw, nw, cw, rfl⟩ := hw.shape
  have ew := hw.len
  obtain ⟨i1, i2⟩ := hx.capMax
  obtain ⟨i3, i4⟩ := hw.capMax
  obtain ⟨ab, nb, cb, rfl⟩ := hb.shape
  have eb := hb.len
  obtain ⟨i5, i6⟩ := hb.capMax
  unfold maxLen at i2 i4 i6
  have HX := Lib.hid hx; have HWS := Lib.hid hw; have HBS := Lib.hid hb
  clear hx hw hb
  obtain ⟨p, q, g⟩ := gr
  obtain ⟨sd, sl⟩ := HOK.out.digests HG.out
  have HSL := Lib.hid sl
  have HCH : Hid (chB ⟨p, q, g⟩ s (bs.flatten ++ imagesL ⟨p, q, g⟩ bs xs ++ imagesL ⟨p, q, g⟩ bs ws) = true) := chB_yes HG.out sd HOK.out.s40 (by omega)
  have HCI := Lib.hid (chI_yes HCH.out)
  have hebnd := chV_bd HG.out s (bs.flatten ++ imagesL ⟨p, q, g⟩ bs xs ++ imagesL ⟨p, q, g⟩ bs ws)
  obtain ⟨E, hE⟩ : ∃ E, chV ⟨p, q, g⟩ s (bs.flatten ++ imagesL ⟨p, q, g⟩ bs xs ++ imagesL ⟨p, q, g⟩ bs ws) = E := ⟨_, rfl⟩
  rw [hE] at HCI hebnd
  obtain ⟨E0, E1⟩ := hebnd
  simp only [] at E1
  have hq2 := HG.out.q2; have hp2 := HG.out.p2
  simp only [] at hq2 hp2
  have HRES : Hid (pvD ⟨p, q, g⟩ s bs xs ws = ⟨imagesL ⟨p, q, g⟩ bs ws, [E], respN ⟨p, q, g⟩ E ws xs ws.length⟩) := by
    unfold Hid pvD pvE; rw [hE]
  rw [HRES.out]
  have HE := Lib.hid hE
  have HSD := Lib.hid sd
  clear HRES sd sl hE
  have hlx := HOK.out.lx; have hlw := HOK.out.lw; have hl8 := HOK.out.h8
  have hb8 := HOK.out.b8; have hb1 := HOK.out.b1
  obtain rfl : nx = nw := by omega
  have HLW := Lib.hid ew; have HLX := Lib.hid ex; have HLB := Lib.hid eb
  have hn8 : nx ≤ 8 := by omega
  have hnb8 : nb ≤ 8 := by omega
  clear ex ew eb hlx hlw hl8 hb8 hb1
  have HRX : Hid (∀ r ∈ bs, r.length ≤ xs.length ∧ AllSmall r) := fun r hr => ⟨by rw [(HOK.out.rows r hr).1, HOK.out.lx]; exact Nat.le_refl _, (HOK.out.rows r hr).2⟩
  have HRW : Hid (∀ r ∈ bs, r.length ≤ ws.length ∧ AllSmall r) := fun r hr => ⟨by rw [(HOK.out.rows r hr).1, HOK.out.lw]; exact Nat.le_refl _, (HOK.out.rows r hr).2⟩
  have HMW : Hid ((imagesL ⟨p, q, g⟩ bs ws).length = nb) := by unfold Hid; rw [imagesL_length]; exact HLB.out
  have HMX : Hid ((imagesL ⟨p, q, g⟩ bs xs).length = nb) := by unfold Hid; rw [imagesL_length]; exact HLB.out
  obtain ⟨W, hW⟩ : ∃ W, W = (w.alloc (.cells #[.int .i64 p, .int .i64 q, .int .i64 g] 88)).alloc (.cells #[.slice none 0 0, .slice none 0 0, .slice none 0 0] 47) := ⟨_, rfl⟩
  have HWB : Hid (Below w.heap.size w W) := by unfold Hid; rw [hW]; (repeat (first | exact Below.refl _ _ | assumption | refine Below.drew ?_ | refine Below.alloc ?_ (by first | (simp; done) | (simp; omega)) _ | refine Below.setCell ?_ (by first | (simp; done) | (simp; omega)) _))
  have hs0 : W.heap.size = w.heap.size + 2 := by rw [hW]; simp
  have p0 : W.cell? ⟨w.heap.size, 0, none⟩ = some (.int .i64 p) := by rw [hW]; simp [go_sem]
  have p1 : W.cell? ⟨w.heap.size, 1, none⟩ = some (.int .i64 q) := by rw [hW]; simp [go_sem]
  have p2 : W.cell? ⟨w.heap.size, 2, none⟩ = some (.int .i64 g) := by rw [hW]; simp [go_sem]
  have hs1 : (w.alloc (.cells #[.int .i64 p, .int .i64 q, .int .i64 g] 88)).heap.size = w.heap.size + 1 := by simp
  have BR : Hid (BoxN W (w.heap.size + 1) 47 [.slice none 0 0, .slice none 0 0, .slice none 0 0]) := by unfold Hid; rw [hW, ← hs1]; exact BoxN.new _ [.slice none 0 0, .slice none 0 0, .slice none 0 0] _
  have BG : Hid (BoxN W w.heap.size 88 [.int .i64 p, .int .i64 q, .int .i64 g]) := by unfold Hid; rw [hW]; exact (BoxN.new w [.int .i64 p, .int .i64 q, .int .i64 g] _).alloc _
  have HS0 := Lib.hid hs0
  clear hs1 hs0
  go_enter Try.func213, Try.ntmps213
  go_wp2_with fail
  rw [← hW]
  clear hW
  refine (spec_sImages ⟨p, q, g⟩ _ bs _ ws _ HG.out (kRows.rd_below HBS.out HWB.out) (HWS.out.below HWB.out) HRW.out (by have := HLB.out; omega)).mono ?_
  rintro e w1 ⟨v1, rfl, ho1, hb1⟩
  obtain ⟨a1, c1, hv1⟩ := ho1.shape
  rw [HMW.out] at hv1
  subst hv1
  have P1 := Lib.hid (InI.of_own ho1)
  have d0 := box_at p0 hb1
  have d1 := box_at p1 hb1
  have d2 := box_at p2 hb1
  have BR1 := Lib.hid (BR.out.below hb1)
  have BG1 := Lib.hid (BG.out.below hb1)
  have HB1 := Lib.hid (Below.next HWB.out hb1)
  have HBA := Lib.hid hb1
  have HS1 := Lib.hid hb1.size
  clear ho1 hb1 p0 p1 p2
  go_wp2_with fail
  obtain ⟨wq, hwq⟩ : ∃ u, u = w1.alloc (.cells #[.slice a1 nb c1, .slice none 0 0, .slice none 0 0] 47) := ⟨_, rfl⟩
  rw [← hwq]
  have hsq : wq.heap.size = w1.heap.size + 1 := by rw [hwq]; simp
  have HBQ : Hid (Below w1.heap.size w1 wq) := by unfold Hid; rw [hwq]; (repeat (first | exact Below.refl _ _ | assumption | refine Below.drew ?_ | refine Below.alloc ?_ (by first | (simp; done) | (simp; omega)) _ | refine Below.setCell ?_ (by first | (simp; done) | (simp; omega)) _))
  have BP : Hid (BoxN wq w1.heap.size 47 [.slice a1 nb c1, .slice none 0 0, .slice none 0 0]) := by unfold Hid; rw [hwq]; exact BoxN.new _ [.slice a1 nb c1, .slice none 0 0, .slice none 0 0] _
  clear hwq
  replace d0 := box_at d0 HBQ.out
  replace d1 := box_at d1 HBQ.out
  replace d2 := box_at d2 HBQ.out
  have f0 := BP.out.cell (i := 0) rfl
  have HSQ := Lib.hid hsq
  have P1q := Lib.hid (P1.out.next HBQ.out)
  have HBW := Lib.hid (Below.next HB1.out HBQ.out)
  have HTB : Hid (total bs ≤ 64) := (HOK.out.stmt HG.out).total
  have HF3 : Hid ([bs.flatten, imagesL ⟨p, q, g⟩ bs xs, imagesL ⟨p, q, g⟩ bs ws].flatten = bs.flatten ++ imagesL ⟨p, q, g⟩ bs xs ++ imagesL ⟨p, q, g⟩ bs ws) := by unfold Hid; simp
  have HT3 : Hid (total [bs.flatten, imagesL ⟨p, q, g⟩ bs xs, imagesL ⟨p, q, g⟩ bs ws] ≤ 80) := by
    have := HSL.out
    rw [List.length_append, List.length_append] at this
    unfold Hid; rw [total3]; omega
  have HRB : Hid (RdL kInts wq (.slice ab nb cb) bs) := kRows.rd_below HBS.out HBW.out
  have HRX2 : Hid (Ints wq (.slice ax nx cx) xs) := HX.out.below HBW.out
  have HRC : Hid (Ints wq (.slice a1 nb c1) (imagesL ⟨p, q, g⟩ bs ws)) := P1q.out.reads
  obtain ⟨F, hF⟩ : ∃ F, bs.flatten = F := ⟨_, rfl⟩
  obtain ⟨IX, hIX⟩ : ∃ F, imagesL ⟨p, q, g⟩ bs xs = F := ⟨_, rfl⟩
  obtain ⟨IW, hIW⟩ : ∃ F, imagesL ⟨p, q, g⟩ bs ws = F := ⟨_, rfl⟩
  have HFF := Lib.hid hF; have HIX := Lib.hid hIX
  rw [hF, hIX, hIW] at HF3 HT3 HCH HCI HSL HE HSD
  rw [hIW] at HRC P1q
  have HLIX : Hid (IX.length ≤ 80) := by have := HSL.out; simp only [List.length_append] at this; unfold Hid; omega
  have HLIW : Hid (IW.length ≤ 80) := by have := HSL.out; simp only [List.length_append] at this; unfold Hid; omega
  have HIW := Lib.hid hIW
  clear hF hIX hIW hsq P1 HMW HMX BR HBA
  go_region_held3 (fun w' => Below wq.heap.size wq w' ∧ w'.cell? ⟨w.heap.size, 0, none⟩ = some (.int .i64 p) ∧ w'.cell? ⟨w.heap.size, 1, none⟩ = some (.int .i64 q) ∧ w'.cell? ⟨w.heap.size, 2, none⟩ = some (.int .i64 g) ∧ w'.cell? ⟨w1.heap.size, 0, none⟩ = some (.slice a1 nb c1)) (first | (have hbq : Below wq.heap.size wq _ := (Below.refl _ _).drew; exact ⟨hbq, box_at d0 hbq, box_at d1 hbq, box_at d2 hbq, box_at f0 hbq⟩) | (refine (fun (hbq : Below wq.heap.size wq _) => ⟨hbq, box_at d0 hbq, box_at d1 hbq, box_at d2 hbq, box_at f0 hbq⟩) ?_; exact keep_b (by with_reducible assumption) (And.left (by assumption))) | (refine (fun (hbq : Below wq.heap.size wq _) => ⟨hbq, box_at d0 hbq, box_at d1 hbq, box_at d2 hbq, box_at f0 hbq⟩) ?_; exact keep_al (And.left (by assumption)) _) | assumption | fail) ((first
    | (go_at_call 254; refine (spec_sImages ⟨p, q, g⟩ _ bs _ xs _ HG.out (kRows.rd_below HRB.out (And.left (by assumption))) (HRX2.out.below (And.left (by assumption))) HRX.out (by have := HLB.out; omega)).mono ?_; rintro e w3 ⟨v3, rfl, ho3, hb3⟩; rw [HIX.out] at ho3; (obtain ⟨a3, c3, rfl⟩ := ho3.shape); (have HO3 := Lib.hid ho3.ints); clear ho3)
    | (go_at_call 256; refine (spec_sStatement _ bs _ _ IX IW _ (kRows.rd_below HRB.out (And.left (by assumption))) HO3.out (HRC.out.below (And.left (by assumption))) (by have := HTB.out; omega) (by have := HLIX.out; omega) (by have := HLIW.out; omega)).mono ?_; rintro e w4 ⟨v4, rfl, ho4, hb4⟩; (have HO4 := Lib.hid ho4); clear ho4; rw [HFF.out] at HO4)
    | (go_at_call 255; refine (spec_hChallenge ⟨p, q, g⟩ s _ (F ++ IX ++ IW) _ HG.out HO4.out.ints (by have := HOK.out.s40; omega) (by have := HSL.out; omega) HSD.out).mono ?_; rintro e w5 ⟨rfl, hb5⟩; rw [HE.out])
    | fail))
  have HBX := Lib.hid (‹Below wq.heap.size wq _ ∧ _›).1
  have HB5 := Lib.hid (Below.next HBW.out HBX.out)
  have BP5 := Lib.hid (BP.out.below HBX.out)
  have P15 := Lib.hid (P1q.out.next HBX.out)
  have BR5 := Lib.hid ((BR1.out.below HBQ.out).below HBX.out)
  have hs5 := HBX.out.size
  have hsq := HSQ.out; have hs0 := HS0.out; have hs1 := HS1.out
  have BG5 := Lib.hid ((BG1.out.below HBQ.out).below HBX.out)
  clear d0 d1 d2 f0 HO3 HO4 hb3 hb4 hb5
  have fr := (BP5.out.alloc (.cells #[.int .i64 E] 3)).frozen 1
  have y1 := (BP5.out.alloc (.cells #[.int .i64 E] 3)).cell (i := 1) rfl
  have hI : I64 E := ⟨by omega, by omega⟩
  have HIE := Lib.hid hI
  clear hI
  go_wp2_with fail
  obtain ⟨V, hV⟩ : ∃ V, V = (w5.alloc (.cells #[.int .i64 E] 3)).setCell ⟨w1.heap.size, 1, none⟩ (.slice (some ⟨w5.heap.size, 0, none⟩) 1 1) := ⟨_, rfl⟩
  rw [← hV]
  have hVs : V.heap.size = w5.heap.size + 1 := by rw [hV]; simp
  have hwi : Within w1.heap.size (w1.heap.size + 1) w5 V := by rw [hV]; exact ((Within.refl _ _ _).allocR _).setCell (by omega) (by omega) _ _
  have BV : Hid (BoxN V w1.heap.size 47 [.slice a1 nb c1, .slice (some ⟨w5.heap.size, 0, none⟩) 1 1, .slice none 0 0]) := by unfold Hid; rw [hV]; exact (BP5.out.alloc _).set 1 _
  have BRV : Hid (BoxN V (w.heap.size + 1) 47 [.slice none 0 0, .slice none 0 0, .slice none 0 0]) := Lib.hid (BR5.out.kept hwi (.inl (by omega)))
  have P1V : Hid (InI V W.heap.size w1.heap.size (.slice a1 nb c1) IW) := P15.out.kept hwi (.inl (by omega))
  have hE1 : InI (w5.alloc (.cells #[.int .i64 E] 3)) w5.heap.size (w5.heap.size + 1) (.slice (some ⟨w5.heap.size, 0, none⟩) 1 1) [E] := by
    have := InI.of_own (OwnI.lit1 (B := w5.heap.size) w5 (Nat.le_refl _) HIE.out)
    simpa using this
  have P2V : Hid (InI V w5.heap.size (w5.heap.size + 1) (.slice (some ⟨w5.heap.size, 0, none⟩) 1 1) [E]) := by
    unfold Hid; rw [hV]; exact hE1.kept (((Within.refl w1.heap.size (w1.heap.size + 1) _)).setCell (by omega) (by omega) _ _) (.inr (by omega))
  have HBV := Lib.hid (HB5.out.trans (hwi.below (B := w.heap.size) (by have := HB5.out.size; omega) (by omega)))
  have BGV := Lib.hid (BG5.out.kept hwi (.inl (by omega)))
  have HVS := Lib.hid hVs
  have HLEV : Hid (w.heap.size + 1 < w1.heap.size ∧ w1.heap.size + 1 ≤ w5.heap.size ∧ V.heap.size = w5.heap.size + 1) := ⟨by omega, by omega, hVs⟩
  clear hV hE1 fr y1 hwi
  go_loopg [36] nx (fun gh iv wr => ∃ k : Nat, k + gh = nx ∧ iv = .int .i64 k ∧ (∃ ov, BoxN wr w1.heap.size 47 [.slice a1 nb c1, .slice (some ⟨w5.heap.size, 0, none⟩) 1 1, ov] ∧ OwnI wr V.heap.size ov (respN ⟨p, q, g⟩ E ws xs k)) ∧ Within w1.heap.size (w1.heap.size + 1) V wr)
  case atStart => exact ⟨0, by omega, rfl, ⟨_, BV.out, OwnI.nil _ _⟩, Within.refl _ _ _⟩
  case round =>
    obtain ⟨k, hk, rfl, ⟨ov, hbp, hown⟩, hwr⟩ := hrel
    obtain ⟨ao, co, hv⟩ := hown.shape
    rw [respN_length] at hv
    subst hv
    have HBPR := Lib.hid hbp
    have HOWN := Lib.hid hown
    have HWR := Lib.hid hwr
    have hszr := hwr.size
    have HBR : Hid (Below w.heap.size w wr) := HBV.out.trans (hwr.below (B := w.heap.size) (by omega) (by omega))
    clear hbp hown hwr
    by_cases hlt : k < nx
    · have HKX : Hid (k < xs.length) := by unfold Hid; rw [HLX.out]; exact hlt
      have HKW : Hid (k < ws.length) := by unfold Hid; rw [HLW.out]; exact hlt
      obtain ⟨bx, ox, rfl, hcx⟩ := (HX.out.below HBR.out).at_ (by omega)
      have yx := hcx k hlt
      obtain ⟨bw, ow, rfl, hcw⟩ := (HWS.out.below HBR.out).at_ (by omega)
      have yw := hcw k hlt
      have hxb := exp_at HOK.out.ex HKX.out
      have hwb := exp_at HOK.out.ew HKW.out
      simp only [] at hxb hwb
      have HSUC := Lib.hid (respN_succ ⟨p, q, g⟩ E ws xs k)
      have HLN : Hid ((respN ⟨p, q, g⟩ E ws xs k).length = k) := respN_length _ _ _ _ _
      clear hcx hcw
      generalize nth xs k = x at yx hxb HSUC
      generalize nth ws k = c at yw hwb HSUC
      generalize respN ⟨p, q, g⟩ E ws xs k = RK at HSUC HLN HOWN
      have hm := mul_bd E0 (show E ≤ 2000000000 by omega) hxb.1 (show x ≤ 2000000000 by omega)
      have ew1 : IntKind.i64.wrap (E * x) = E * x := IntWalk.i64_in _ (by omega)
      have ew2 : IntKind.i64.wrap (c + E * x) = c + E * x := IntWalk.i64_in _ (by omega)
      have HIN : Hid (I64 (c + E * x)) := ⟨by omega, by omega⟩
      obtain ⟨z, hz⟩ : ∃ z, (c + E * x) % q = z := ⟨_, rfl⟩
      have hz0 : 0 ≤ z ∧ z < q := by rw [← hz]; exact ⟨Int.emod_nonneg _ (by omega), Int.emod_lt_of_pos _ (by omega)⟩
      simp only [] at HSUC
      rw [hz] at HSUC
      have HZ : Hid ((c + E * x) % (GroupD.mk p q g).q = z) := hz
      have HIZ : Hid (I64 z) := ⟨by omega, by omega⟩
      have BGR := Lib.hid (BGV.out.kept HWR.out (.inl (by omega)))
      have d0 := BGR.out.cell (i := 0) rfl
      have d1 := BGR.out.cell (i := 1) rfl
      have d2 := BGR.out.cell (i := 2) rfl
      have y2 := HBPR.out.cell (i := 2) rfl
      have hq0 : 0 < q := by omega
      have hqne : ¬ q = 0 := by omega
      have hnn : 0 ≤ c + E * x := by omega
      have htm : Int.tmod (c + E * x) q = z := by rw [Int.tmod_eq_emod_of_nonneg hnn]; exact hz
      clear hm
      go_wp2_with fail
      have k0 : (0 : Int) ≤ (k : Int) := by omega
      have k1 : (k : Int) < (nx : Int) := by omega
      have HVL : Hid (V.heap.size ≤ wr.heap.size ∧ w1.heap.size < V.heap.size) := ⟨hszr, by omega⟩
      clear hVs hs5 hsq hs0 hs1
      have hbz := Below.refl wr.heap.size wr
      have HHK := Lib.hid hk
      have HLTK := Lib.hid hlt
      have HK8 : Hid (k ≤ 8) := by unfold Hid; omega
      have HE01 : Hid (0 ≤ E ∧ E < q ∧ q ≤ p - 1 ∧ p ≤ 2000000000) := ⟨E0, E1, hq2, hp2⟩
      clear HX HBS HOK HLW HLX HLB HRX HRW HWB BG HS0 BR1 BG1 HB1 HS1 HBQ BP HSQ HBW HTB HRB HRX2 P1q HRC HSL HCI HCH HT3 HF3 HFF HIX HIW HBX HB5 BP5 P15 BR5 BG5 HIE BV BRV P1V P2V HBV BGV HVS HBR BGR HKX HKW HWS hxb hwb i1 i2 i3 i4 i5 i6 hn8 hnb8 hk hszr hz0 hlt hq2 hp2 E0 E1
      refine wp_region_noPanic ?_
      refine wp_region_take (fun w' => Below wr.heap.size wr w' ∧ w'.cell? ⟨w.heap.size, 1, none⟩ = some (.int .i64 q) ∧ w'.cell? ⟨w1.heap.size, 2, none⟩ = some (.slice ao k co) ∧ w'.cell? ⟨bw, ow + k, none⟩ = some (.int .i64 c)) 12 [(true, 0), (true, 1), (true, 2), (true, 3), (true, 4), (true, 5), (true, 6), (true, 7), (true, 8), (true, 9), (true, 10), (true, 11), (true, 12), (false, 13)] [14, 15, 16] (by kernel_rfl) (by kernel_rfl) rfl (fun _ _ _ _ _ h => h) ⟨(Below.refl _ _).drew, d1, y2, yw⟩ ?_
      simp only [pickL, pickN, List.getElem?_cons_zero, List.getElem?_cons_succ]
      repeat (refine' wpTake_read _ (by rfl) (fun w' hS' => ?_) ?_; rotate_left; · ((try dsimp only at hS'); go_simp; (try with_reducible rfl)); (try simp only [Act.put, List.setIfInBounds_toArray, List.set_cons_zero, List.set_cons_succ]))
      refine wpTake_do (by rfl) (fun K hK => ?_)
      go_simp
      have hba : Below wr.heap.size wr ((wr.alloc (.cells #[.int .i64 z] 3)).drew) := ((Below.refl _ _).alloc (Nat.le_refl _) _).drew
      refine hK.out _ _ ⟨hba, box_at d1 hba, box_at y2 hba, box_at yw hba⟩ (fun _ => ?_)
      clear hK K
      try simp only [Act.put, List.setIfInBounds_toArray, List.set_cons_zero, List.set_cons_succ]
      refine wpTake_nil ?_
      have HO6 : Hid (OwnI ((wr.alloc (.cells #[.int .i64 z] 3)).drew) V.heap.size (.slice ao k co) RK) := HOWN.out.below hba
      have BP6 : Hid (BoxN ((wr.alloc (.cells #[.int .i64 z] 3)).drew) w1.heap.size 47 _) := HBPR.out.below hba
      have HVL2 : Hid (V.heap.size ≤ ((wr.alloc (.cells #[.int .i64 z] 3)).drew).heap.size) := Nat.le_trans HVL.out.1 hba.size
      have HBA := Lib.hid hba
      clear hba hbz d0 d1 d2 y2 yx yw
      refine wpList_append_ints rfl _ _ rfl V.heap.size (.slice ao k co) (.slice (some ⟨wr.heap.size, 0, none⟩) 1 1) RK [z] rfl HO6.out rfl (Ints.lit1 wr HIZ.out).drew (by have := HLN.out; have := HK8.out; simp only [List.length_cons, List.length_nil]; omega) HVL2.out ?_
      intro v7 w7 ho7 hg7
      obtain ⟨a7, c7, rfl⟩ := ho7.shape
      have BP7 := Lib.hid (BoxN.grownO BP6.out hg7 HO6.out HVL.out.2)
      have y7 := BP7.out.cell (i := 2) rfl
      have fr7 := BP7.out.frozen 2
      have HWZ : Hid (Within w1.heap.size (w1.heap.size + 1) V w7) := HWR.out.belowStep1 ((HBA.out.mono HVL.out.1).trans (HO6.out.grown hg7 HVL2.out))
      have HO7 := Lib.hid ho7
      clear ho7 hg7
      go_wp2_with fail
      refine NoPanic.normal ?_
      have HOT := Lib.hid ((InI.of_own HO7.out).kept (lo' := w1.heap.size) (hi' := w1.heap.size + 1) (((Within.refl _ _ w7).setCell (Nat.le_refl _) (Nat.lt_succ_self _) 2 (.slice a7 (RK ++ [z]).length c7))) (.inr (by have := HVL.out; omega))).1
      have HBT := Lib.hid (BP7.out.set 2 (.slice a7 (RK ++ [z]).length c7))
      have HWT := Lib.hid (HWZ.out.setCell (Nat.le_refl _) (Nat.lt_succ_self _) 2 (.slice a7 (RK ++ [z]).length c7))
      have HLA : Hid ((RK ++ [z]).length = RK.length + 1) := by unfold Hid; simp
      rw [HLA.out] at HOT HBT HWT
      clear y7 fr7 k0 k1
      have hk := HHK.out
      have hltk := HLTK.out
      have hk8 := HK8.out
      go_wp2_with fail
      go_roundg (nx - (k + 1))
      case measure => omega
      case rel => exact ⟨k + 1, by omega, by go_num, ⟨_, HBT.out, by rw [HSUC.out]; exact HOT.out⟩, HWT.out⟩
    · obtain rfl : nx = k := by omega
      have BRR := Lib.hid (BRV.out.kept HWR.out (.inl (by omega)))
      have P1R := Lib.hid (P1V.out.kept HWR.out (.inl (by omega)))
      have P2R := Lib.hid (P2V.out.kept HWR.out (.inr (by omega)))
      have P3R := Lib.hid (InI.of_own HOWN.out)
      have y0 := HBPR.out.cell (i := 0) rfl
      have y1 := HBPR.out.cell (i := 1) rfl
      have y2 := HBPR.out.cell (i := 2) rfl
      have r0 := BRR.out.cell (i := 0) rfl
      have r1 := BRR.out.cell (i := 1) rfl
      have r2 := BRR.out.cell (i := 2) rfl
      have fr := BRR.out.frozen
      have hne : w.heap.size + 1 ≠ w1.heap.size := by omega
      go_wp2_with fail
      obtain ⟨Z, hZ⟩ : ∃ Z, Z = ((wr.setCell ⟨w.heap.size + 1, 0, none⟩ (.slice a1 nb c1)).setCell ⟨w.heap.size + 1, 1, none⟩ (.slice (some ⟨w5.heap.size, 0, none⟩) 1 1)).setCell ⟨w.heap.size + 1, 2, none⟩ (.slice ao nx co) := ⟨_, rfl⟩
      rw [← hZ]
      have hwz : Within (w.heap.size + 1) (w.heap.size + 2) wr Z := by rw [hZ]; exact ((Within.refl _ _ _ |>.setCell (by omega) (by omega) _ _) |>.setCell (by omega) (by omega) _ _) |>.setCell (by omega) (by omega) _ _
      have hZs : Z.heap.size = wr.heap.size := by rw [hZ]; simp only [size_setC]
      have BZ : BoxN Z (w.heap.size + 1) 47 [.slice a1 nb c1, .slice (some ⟨w5.heap.size, 0, none⟩) 1 1, .slice ao nx co] := by rw [hZ]; exact ((BRR.out.set 0 _).set 1 _).set 2 _
      have hs0' := HS0.out
      have P1Z := Lib.hid (P1R.out.kept hwz (.inr (by omega)))
      have P2Z := Lib.hid (P2R.out.kept hwz (.inr (by omega)))
      have P3Z := Lib.hid (P3R.out.kept hwz (.inr (by omega)))
      have HBZ := Lib.hid (HBR.out.trans (hwz.below (B := w.heap.size) (by have := HBR.out.size; omega) (by omega)))
      have HRS : Hid (respN ⟨p, q, g⟩ E ws xs ws.length = respN ⟨p, q, g⟩ E ws xs nx) := by unfold Hid; rw [HLW.out]
      clear hZ r0 r1 r2 y0 y1 y2 fr
      have r0 := BZ.cell (i := 0) rfl
      have r1 := BZ.cell (i := 1) rfl
      have r2 := BZ.cell (i := 2) rfl
      refine bodyPost_ret (v := .agg #[.slice a1 nb c1, .slice (some ⟨w5.heap.size, 0, none⟩) 1 1, .slice ao nx co]) (by simp [results, Try.results213, go_sem, r0, r1, r2]) rfl ⟨_, rfl, ⟨_, rfl, ⟨_, _, W.heap.size, w1.heap.size, w5.heap.size, Z.heap.size, rfl, (by rw [HIW.out]; exact P1Z.out), ⟨_, _, w5.heap.size, w5.heap.size + 1, w5.heap.size + 1, Z.heap.size, rfl, P2Z.out, ⟨_, _, V.heap.size, wr.heap.size, Z.heap.size, Z.heap.size, rfl, (by rw [HRS.out]; exact P3Z.out), rfl, ⟨by omega, by omega⟩, ⟨by omega, by omega⟩, by omega⟩, ⟨by omega, by omega⟩, ⟨by omega, by omega⟩, by omega⟩, ⟨by omega, by omega⟩, ⟨by omega, by omega⟩, by omega⟩⟩, HBZ.out⟩
end Go.Proofs.Ytapfceghgkmgoaa
