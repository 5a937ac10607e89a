/- Walks: predicates over lists, the hash. -/
import Derived.Test.YtapfceghgkmgoaaNum
import Derived.Test.YtapfceghgkmgoaaSlices
import Derived.Test.YtapfceghgkmgoaaHashP
import Derived.Test.YtapfceghgkmgoaaLawsI
namespace Go.Proofs.Ytapfceghgkmgoaa
open Go.RowKit
set_option linter.unusedSimpArgs false
set_option linter.unusedVariables false

/-- a digest -/
def digestB (x : Int) : Bool := decide (0 ≤ x ∧ x ≤ 4611686018427387903)
/-- a function value that decides p on integers, in every world that has grown from w -/
structure Decides (w : World) (g : FuncId) (caps : Array Value) (p : Int → Bool) : Prop where
  enters : ∀ args wr, (callFunc g args).run Try.prog wr = .ok (.enter g args) wr
  runs : ∀ x wr, I64 x → Below w.heap.size w wr → Calls Try.prog g (#[.int .i64 x] ++ caps) wr fun e w' => e = .returned (.bool (p x)) ∧ Below wr.heap.size wr w'
theorem Decides.below {w w' : World} {g : FuncId} {caps : Array Value} {p : Int → Bool} (h : Decides w g caps p) (hb : Below w.heap.size w w') : Decides w' g caps p :=
  ⟨h.enters, fun x wr hx hr => h.runs x wr hx (hb.trans (hr.mono hb.size))⟩

/-- the place of the first element of which p holds, or -1 -/
def findTo (p : Int → Bool) (l : List Int) : Int := match l.findIdx? p with | some i => i | none => -1

theorem findTo_yes {p : Int → Bool} {l : List Int} {k : Nat} (h : k < l.length) (hp : p (nth l k) = true) (hf : ∀ j, j < k → p (nth l j) = false) : findTo p l = k := by
  have e : l.findIdx? p = some k := by
    rw [List.findIdx?_eq_some_iff_getElem]
    refine ⟨h, by rw [← nth_eq h]; exact hp, fun j hj => ?_⟩
    have := hf j hj
    rw [nth_eq (by omega)] at this
    simp [this]
  unfold findTo; rw [e]
theorem findTo_no {p : Int → Bool} {l : List Int} (hf : ∀ j, j < l.length → p (nth l j) = false) : findTo p l = -1 := by
  have e : l.findIdx? p = none := by
    rw [List.findIdx?_eq_none_iff]
    intro x hx
    obtain ⟨j, hj, rfl⟩ := List.getElem_of_mem hx
    have := hf j hj
    rwa [nth_eq hj] at this
  unfold findTo; rw [e]
theorem findTo_nonneg {p : Int → Bool} {l : List Int} : decide (0 ≤ findTo p l) = l.any p := by
  unfold findTo
  cases h : l.findIdx? p with
  | none =>
    rw [List.findIdx?_eq_none_iff] at h
    have : l.any p = false := by rw [List.any_eq_false]; intro x hx; simpa using h x hx
    rw [this]; rfl
  | some i =>
    rw [List.findIdx?_eq_some_iff_getElem] at h
    obtain ⟨hi, hp, _⟩ := h
    have : l.any p = true := List.any_eq_true.2 ⟨_, List.getElem_mem hi, hp⟩
    rw [this]; simp

set_option maxHeartbeats 400000 in
theorem slices_IndexFunc (v : Value) (l : List Int) (g : FuncId) (caps : Array Value) (p : Int → Bool) (w : World) (h : Ints w v l) (hp : Decides w g caps p) :
    Calls Try.prog 279 #[v, .func (.func g) #[] caps] w fun e w' => e = .returned (.int .i64 (findTo p l)) ∧ Below w.heap.size w w' := by
  obtain ⟨a, n, c, rfl⟩ := h.shape
  have e := h.len
  obtain ⟨k1, k2⟩ := h.capMax
  unfold maxLen at k2
  have HE := Lib.hid e; clear e
  have hent := hp.enters
  have HP := Lib.hid hp; clear hp
  have H := Lib.hid h; clear h
  go_enter Try.func279, Try.ntmps279
  go_wp2
  go_loopg [8] n (fun g i wr => ∃ k : Nat, k + g = n ∧ i = .int .i64 k ∧ Hid (∀ j, j < k → p (nth l j) = false) ∧ Below w.heap.size w wr)
  case atStart => exact ⟨0, by omega, rfl, fun j hj => by omega, Below.refl _ _⟩
  case round =>
    obtain ⟨k, hkg, rfl, HF, hb⟩ := hrel
    by_cases hlt : k < n
    · obtain ⟨b, o, rfl, hcx⟩ := (H.out.below hb).at_ (by omega)
      have hy := hcx k hlt
      clear hcx
      have hI := H.out.all.at_ k
      cases hpx : p (nth l k) with
      | true =>
        have HR : Hid (findTo p l = k) := by
          refine findTo_yes (by rw [HE.out]; exact hlt) hpx (fun j hj => HF.out j hj)
        have HX := Lib.hid hpx
        clear hpx
        go_wp2_with fail
        refine (HP.out.runs _ _ hI hb).mono ?_
        rintro e w1 ⟨rfl, hb1⟩
        rw [HX.out]
        go_wp2_with fail
        go_ret
        exact ⟨ret_int (by first | (rw [HR.out]; done) | (rw [HR.out]; rfl) | exact HR.out.symm), hb.trans (hb1.mono hb.size)⟩
      | false =>
        have HX := Lib.hid hpx
        clear hpx
        go_wp2_with fail
        refine (HP.out.runs _ _ hI hb).mono ?_
        rintro e w1 ⟨rfl, hb1⟩
        rw [HX.out]
        go_wp2_with fail
        go_roundg (n - (k + 1))
        case measure => omega
        case rel =>
          refine ⟨k + 1, by omega, by go_num, fun j hj => ?_, hb.trans (hb1.mono hb.size)⟩
          rcases Nat.lt_succ_iff_lt_or_eq.1 hj with h | rfl
          · exact HF.out j h
          · exact HX.out
    · have HR : Hid (findTo p l = -1) := findTo_no (fun j hj => HF.out j (by rw [HE.out] at hj; omega))
      go_wp2_with fail
      go_ret
      exact ⟨ret_int (by first | (rw [HR.out]; done) | (rw [HR.out]; rfl) | exact HR.out.symm), hb⟩
set_option maxHeartbeats 400000 in
theorem slices_ContainsFunc (v : Value) (l : List Int) (g : FuncId) (caps : Array Value) (p : Int → Bool) (w : World) (h : Ints w v l) (hp : Decides w g caps p) :
    Calls Try.prog 268 #[v, .func (.func g) #[] caps] w fun e w' => e = .returned (.bool (l.any p)) ∧ Below w.heap.size w w' := by
  have HP := Lib.hid hp; clear hp
  have H := Lib.hid h; clear h
  go_enter Try.func268, Try.ntmps268
  go_wp2_with fail
  refine (slices_IndexFunc v l g caps p _ H.out HP.out).mono ?_
  rintro e w1 ⟨rfl, hb⟩
  have HR := Lib.hid (findTo_nonneg (p := p) (l := l))
  go_wp2_with fail
  go_ret
  exact ⟨ret_bool (by first | (rw [HR.out]; done) | (rw [HR.out]; rfl) | exact HR.out.symm), hb⟩
set_option maxHeartbeats 400000 in
theorem impl_areAll1 (x : Int) (a : Addr) (g : FuncId) (caps : Array Value) (p : Int → Bool) (w : World) (hx : I64 x) (hc : w.cell? a = some (.func (.func g) #[] caps)) (hp : Decides w g caps p) :
    Calls Try.prog 269 #[.int .i64 x, .pointer (some a)] w fun e w' => e = .returned (.bool (!p x)) ∧ Below w.heap.size w w' := by
  have hent := hp.enters
  have HP := Lib.hid hp; clear hp
  go_enter Try.func269, Try.ntmps269
  go_wp2_with fail
  refine (HP.out.runs _ _ hx (Below.refl _ _)).mono ?_
  rintro e w1 ⟨rfl, hb1⟩
  go_wp2_with fail
  go_ret
  exact ⟨rfl, hb1⟩
set_option maxHeartbeats 400000 in
theorem impl_areAll (v : Value) (l : List Int) (g : FuncId) (caps : Array Value) (p : Int → Bool) (w : World) (h : Ints w v l) (hp : Decides w g caps p) :
    Calls Try.prog 242 #[v, .func (.func g) #[] caps] w fun e w' => e = .returned (.bool (l.all p)) ∧ Below w.heap.size w w' := by
  have HP := Lib.hid hp; clear hp
  have H := Lib.hid h; clear h
  have HD : Hid (Decides (w.alloc (.cells #[.func (.func g) #[] caps] 161)) 269 #[.pointer (some ⟨w.heap.size, 0, none⟩)] (fun x => !p x)) := by
    refine ⟨Try.call269, fun x wr hx hb => ?_⟩
    refine impl_areAll1 x ⟨w.heap.size, 0, none⟩ g caps p wr hx ?_ (HP.out.below (((Below.refl _ _).alloc (Nat.le_refl _) _).trans (hb.mono (by simp))))
    rw [hb.cell (p := ⟨w.heap.size, 0, none⟩) (by simp)]
    simp [go_sem]
  have HE : Hid ((!l.any fun x => !p x) = l.all p) := by
    unfold Hid; rw [List.all_eq_not_any_not]
  go_enter Try.func242, Try.ntmps242
  go_wp2_with fail
  refine (slices_ContainsFunc v l 269 _ (fun x => !p x) _ (H.out.alloc _) HD.out).mono ?_
  rintro e w1 ⟨rfl, hb⟩
  go_wp2_with fail
  go_ret
  exact ⟨ret_bool (by first | (rw [HE.out]; done) | (rw [HE.out]; rfl) | exact HE.out.symm), (by (repeat (first | exact Below.refl _ _ | assumption | refine Below.drew ?_ | refine Below.alloc ?_ (by first | (simp; done) | (simp; omega)) _ | refine Below.setCell ?_ (by first | (simp; done) | (simp; omega)) _)) : Below w.heap.size w (w.alloc _)).trans (hb.mono (by simp))⟩
theorem impl_isDigest (n : Int) (w : World) :
    Calls Try.prog 215 #[.int .i64 n] w fun e w' => e = .returned (.bool (digestB n)) ∧ w = w' := by
  go_enter Try.func215, Try.ntmps215
  go_wp2_with fail
  refine (impl_within n _ _ _).mono ?_
  rintro e w' ⟨rfl, rfl⟩
  have HE : Hid (decide (0 ≤ n ∧ n ≤ 4611686018427387903) = digestB n) := rfl
  rw [HE.out]
  go_wp2_with fail
  go_ret
  exact ⟨rfl, rfl⟩
theorem decides_isDigest (w : World) : Decides w 215 #[] digestB :=
  ⟨Try.call215, fun x wr hx hb => (impl_isDigest x wr).mono fun e w' ⟨h1, h2⟩ => ⟨h1, h2 ▸ Below.refl _ _⟩⟩
set_option maxHeartbeats 400000 in
theorem spec_l1All (v : Value) (l : List Int) (lo hi : Int) (w : World) (h : Ints w v l) :
    Calls Try.prog 211 #[v, .int .i64 lo, .int .i64 hi] w fun e w' => e = .returned (.bool (l.all fun x => decide (lo ≤ x ∧ x ≤ hi))) ∧ w = w' := by
  obtain ⟨a, n, c, rfl⟩ := h.shape
  have e := h.len
  obtain ⟨k1, k2⟩ := h.capMax
  unfold maxLen at k2
  have HE := Lib.hid e; clear e
  have H := Lib.hid h; clear h
  go_enter Try.func211, Try.ntmps211
  go_wp2
  go_loopg [11] n (fun g i wr => ∃ k : Nat, k + g = n ∧ i = .int .i64 k ∧ Hid (∀ j, j < k → decide (lo ≤ nth l j ∧ nth l j ≤ hi) = true) ∧ wr = w)
  case atStart => exact ⟨0, by omega, rfl, fun j hj => by omega, rfl⟩
  case round =>
    obtain ⟨k, hkg, rfl, HF, rfl⟩ := hrel
    by_cases hlt : k < n
    · obtain ⟨b, o, rfl, hcx⟩ := H.out.at_ (by omega)
      have hy := hcx k hlt
      clear hcx
      cases hpx : decide (lo ≤ nth l k ∧ nth l k ≤ hi) with
      | true =>
        have HX := Lib.hid hpx
        clear hpx
        go_wp2_with fail
        refine (spec_l1In _ _ _ _).mono ?_
        rintro e w1 ⟨rfl, rfl⟩
        rw [HX.out]
        go_wp2_with fail
        go_roundg (n - (k + 1))
        case measure => omega
        case rel =>
          refine ⟨k + 1, by omega, by go_num, fun j hj => ?_, rfl⟩
          rcases Nat.lt_succ_iff_lt_or_eq.1 hj with h | rfl
          · exact HF.out j h
          · exact HX.out
      | false =>
        have HR : Hid ((l.all fun x => decide (lo ≤ x ∧ x ≤ hi)) = false) := by
          refine List.all_eq_false.2 ⟨nth l k, ?_, by simpa using hpx⟩
          rw [nth_eq (by rw [HE.out]; exact hlt)]; exact List.getElem_mem _
        have HX := Lib.hid hpx
        clear hpx
        go_wp2_with fail
        refine (spec_l1In _ _ _ _).mono ?_
        rintro e w1 ⟨rfl, rfl⟩
        rw [HX.out]
        go_wp2_with fail
        go_ret
        exact ⟨ret_bool (by first | (rw [HR.out]; done) | (rw [HR.out]; rfl) | exact HR.out.symm), rfl⟩
    · have HR : Hid ((l.all fun x => decide (lo ≤ x ∧ x ≤ hi)) = true) := by
        refine List.all_eq_true.2 fun x hx => ?_
        obtain ⟨j, hj, rfl⟩ := List.getElem_of_mem hx
        have := HF.out j (by rw [HE.out] at hj; omega)
        rwa [nth_eq hj] at this
      go_wp2_with fail
      go_ret
      exact ⟨ret_bool (by first | (rw [HR.out]; done) | (rw [HR.out]; rfl) | exact HR.out.symm), rfl⟩
/-- the bytes of a string as integers -/
def bytesI (s : ByteArray) : List Int := s.data.toList.map fun b => (b.toNat : Int)
/-- a label in front of a list: its length, its bytes -/
def labTo (s : ByteArray) (k : Nat) : List Int := (s.size : Int) :: (bytesI s).take k
def lab (s : ByteArray) : List Int := (s.size : Int) :: bytesI s
theorem bytesI_length (s : ByteArray) : (bytesI s).length = s.size := by simp [bytesI]
theorem labTo_all (s : ByteArray) : labTo s s.size = lab s := by unfold labTo lab; rw [← bytesI_length, List.take_length]
theorem labTo_length {s : ByteArray} {k : Nat} (h : k ≤ s.size) : (labTo s k).length = k + 1 := by simp [labTo, bytesI_length]; omega
theorem bytesI_all (s : ByteArray) : AllI64 (bytesI s) := fun x hx => by
  obtain ⟨b, _, rfl⟩ := List.mem_map.1 hx
  have := b.toNat_lt
  constructor <;> omega
theorem labTo_succ {s : ByteArray} {k : Nat} (h : k < s.size) : labTo s (k + 1) = labTo s k ++ [((s[k].toNat : Nat) : Int)] := by
  unfold labTo
  rw [List.take_succ_eq_append_getElem (by rw [bytesI_length]; exact h)]
  simp [bytesI]; rfl
theorem Ints.lit1 (w : World) {x : Int} (h : I64 x) : Ints (w.alloc (.cells #[.int .i64 x] 3)) (.slice (some ⟨w.heap.size, 0, none⟩) 1 1) [x] :=
  (OwnI.lit (B := 0) w (Nat.zero_le _) (AllI64.one h) rfl (by simp [maxLen]) 1 rfl).ints
theorem OwnI.lit1 {B : Nat} (w : World) (hB : B ≤ w.heap.size) {x : Int} (h : I64 x) : OwnI (w.alloc (.cells #[.int .i64 x] 3)) B (.slice (some ⟨w.heap.size, 0, none⟩) 1 1) [x] :=
  OwnI.lit w hB (AllI64.one h) rfl (by simp [maxLen]) 1 rfl
theorem OwnI.alloc {w : World} {B : Nat} {v : Value} {l : List Int} (h : OwnI w B v l) (o : Obj) : OwnI (w.alloc o) B v l := h.below ((Below.refl _ _).alloc (Nat.le_refl _) o)
theorem lab_all (s : ByteArray) (hs : s.size ≤ 1000000) : (lab s).all digestB = true := by
  refine List.all_eq_true.2 fun x hx => ?_
  rcases List.mem_cons.1 hx with rfl | hx
  · simp [digestB]; omega
  · obtain ⟨b, _, rfl⟩ := List.mem_map.1 hx
    have := b.toNat_lt
    simp [digestB]; omega
theorem lab_length (s : ByteArray) : (lab s).length = s.size + 1 := by rw [← labTo_all, labTo_length (Nat.le_refl _)]
set_option maxHeartbeats 400000 in
theorem impl_labelled (s : ByteArray) (v : Value) (l : List Int) (w : World) (h : Ints w v l) (hs : s.size ≤ 1000000) (hl : l.length ≤ 1000000000) :
    Calls Try.prog 189 #[.string s, v] w fun e w' => ∃ v', e = .returned v' ∧ OwnI w' w.heap.size v' (lab s ++ l) ∧ Below w.heap.size w w' := by
  have H := Lib.hid h; clear h
  have h0 : Hid (OwnI (w.alloc (.cells #[.int .i64 (s.size : Int)] 3)) w.heap.size (.slice (some ⟨w.heap.size, 0, none⟩) 1 1) (labTo s 0)) := OwnI.lit1 w (Nat.le_refl _) ⟨by omega, by omega⟩
  go_enter Try.func189, Try.ntmps189
  go_wp2
  go_loopg [5, 12] s.size (fun g u i wr => ∃ k : Nat, k + g = s.size ∧ i = .int .i64 k ∧ OwnI wr w.heap.size u (labTo s k) ∧ Below w.heap.size w wr)
  case atStart => exact ⟨0, by omega, rfl, h0.out, by (repeat (first | exact Below.refl _ _ | assumption | refine Below.drew ?_ | refine Below.alloc ?_ (by first | (simp; done) | (simp; omega)) _ | refine Below.setCell ?_ (by first | (simp; done) | (simp; omega)) _))⟩
  case round =>
    clear h0
    obtain ⟨k, hkg, rfl, hO, hb⟩ := hrel
    have hsz := hb.size
    by_cases hlt : k < s.size
    · have hby : (s[k].toNat : Int) < 256 := by have := s[k].toNat_lt; omega
      have hO := Lib.hid hO
      have HS := Lib.hid (labTo_succ hlt)
      go_wp2_with (at_builtin; refine wpList_append_ints rfl _ _ rfl w.heap.size _ _ (labTo s k) [((s[k].toNat : Nat) : Int)] rfl (hO.out.alloc _) rfl (Ints.lit1 _ ⟨by omega, by omega⟩) (by rw [labTo_length (by omega)]; simp; omega) (by simp; omega) ?_; intro v' w1 hown1 hgr1)
      go_roundg (s.size - (k + 1))
      case measure => omega
      case rel =>
        refine ⟨k + 1, by omega, by go_num, by rw [HS.out]; exact hown1, (hb.alloc hsz _).trans ((hO.out.alloc _).grown hgr1 (by simp; omega))⟩
    · obtain rfl : s.size = k := by omega
      rw [labTo_all] at hO
      have hO := Lib.hid hO
      go_wp2_with (at_builtin; refine wpList_append_ints rfl _ _ rfl w.heap.size _ _ (lab s) l rfl hO.out rfl (H.out.below hb) (by rw [← labTo_all, labTo_length (by omega)]; omega) hsz ?_; intro v' w1 hown1 hgr1)
      go_ret
      exact ⟨_, rfl, hown1, hb.trans (hO.out.grown hgr1 hsz)⟩
set_option maxHeartbeats 400000 in
theorem spec_l3With (s : ByteArray) (v : Value) (l : List Int) (w : World) (h : Ints w v l) (hs : s.size ≤ 1000000) (hl : l.length ≤ 1000000000) :
    Calls Try.prog 248 #[.string s, v] w fun e w' => ∃ v', e = .returned v' ∧ OwnI w' w.heap.size v' (lab s ++ l) ∧ Below w.heap.size w w' := by
  have H := Lib.hid h; clear h
  have h0 : Hid (OwnI (w.alloc (.cells #[.int .i64 (s.size : Int)] 3)) w.heap.size (.slice (some ⟨w.heap.size, 0, none⟩) 1 1) (labTo s 0)) := OwnI.lit1 w (Nat.le_refl _) ⟨by omega, by omega⟩
  go_enter Try.func248, Try.ntmps248
  go_wp2
  go_loopg [5, 6] s.size (fun g u i wr => ∃ k : Nat, k + g = s.size ∧ i = .int .i64 k ∧ OwnI wr w.heap.size u (labTo s k) ∧ Below w.heap.size w wr)
  case atStart => exact ⟨0, by omega, rfl, h0.out, by (repeat (first | exact Below.refl _ _ | assumption | refine Below.drew ?_ | refine Below.alloc ?_ (by first | (simp; done) | (simp; omega)) _ | refine Below.setCell ?_ (by first | (simp; done) | (simp; omega)) _))⟩
  case round =>
    clear h0
    obtain ⟨k, hkg, rfl, hO, hb⟩ := hrel
    have hsz := hb.size
    by_cases hlt : k < s.size
    · have hby : (s[k].toNat : Int) < 256 := by have := s[k].toNat_lt; omega
      have hO := Lib.hid hO
      have HS := Lib.hid (labTo_succ hlt)
      go_wp2_with (at_builtin; refine wpList_append_ints rfl _ _ rfl w.heap.size _ _ (labTo s k) [((s[k].toNat : Nat) : Int)] rfl (hO.out.alloc _) rfl (Ints.lit1 _ ⟨by omega, by omega⟩) (by rw [labTo_length (by omega)]; simp; omega) (by simp; omega) ?_; intro v' w1 hown1 hgr1)
      go_roundg (s.size - (k + 1))
      case measure => omega
      case rel =>
        refine ⟨k + 1, by omega, by go_num, by rw [HS.out]; exact hown1, (hb.alloc hsz _).trans ((hO.out.alloc _).grown hgr1 (by simp; omega))⟩
    · obtain rfl : s.size = k := by omega
      rw [labTo_all] at hO
      have hO := Lib.hid hO
      go_wp2_with (at_builtin; refine wpList_append_ints rfl _ _ rfl w.heap.size _ _ (lab s) l rfl hO.out rfl (H.out.below hb) (by rw [← labTo_all, labTo_length (by omega)]; omega) hsz ?_; intro v' w1 hown1 hgr1)
      go_ret
      exact ⟨_, rfl, hown1, hb.trans (hO.out.grown hgr1 hsz)⟩
theorem and31 (x : Int) (h0 : 0 ≤ x) (h1 : x ≤ 4611686018427387903) : bits .and .i64 x 2147483647 = x % 2147483648 := by
  have h := bits_mask .i64 62 (by decide) (fun n h h' => IntWalk.i64_in n ⟨by omega, by
    have e : ((2 : Int) ^ 62) = 4611686018427387904 := by decide
    omega⟩) 31 (by decide) x h0 (by
    have e : ((2 : Int) ^ 62) = 4611686018427387904 := by decide
    omega)
  have e1 : ((2 : Int) ^ 31 - 1) = 2147483647 := by decide
  have e2 : ((2 : Int) ^ 31) = 2147483648 := by decide
  rw [e1, e2] at h
  exact h
set_option maxRecDepth 100000 in
set_option maxHeartbeats 1000000 in
theorem impl_hash (v : Value) (l : List Int) (w : World) (h : Ints w v l) (hl : l.length ≤ 1000000000) (hd : l.all digestB = true) :
    Calls Try.prog 250 #[v] w fun e w' => e = .returned (.int .i64 (hashOf l)) ∧ Below w.heap.size w w' := by
  obtain ⟨a, n, c, rfl⟩ := h.shape
  have e := h.len
  have hn : n ≤ 1000000000 := by omega
  have HL := Lib.hid e
  have hfin : Hid (foldS ((n : Int) :: l) * 2147483648 + foldT ((n : Int) :: l) = hashOf l) := by unfold hashOf; rw [e]; rfl
  clear e hl
  have H := Lib.hid h; clear h
  have HD : Hid (∀ j, j < n + 1 → 0 ≤ nth ((n : Int) :: l) j ∧ nth ((n : Int) :: l) j ≤ 4611686018427387903) := by
    intro j hj
    cases j with
    | zero => exact ⟨by simp [nth], by simp [nth]; omega⟩
    | succ j =>
      have e : nth ((n : Int) :: l) (j + 1) = nth l j := by simp [nth]
      have hj' : j < l.length := by rw [HL.out]; omega
      rw [e, nth_eq hj']
      have := List.all_eq_true.1 hd _ (List.getElem_mem hj')
      simpa [digestB] using this
  clear hd
  go_enter Try.func250, Try.ntmps250
  go_wp2_with (at_builtin; refine wpList_append_intsN rfl _ _ rfl w.heap.size _ _ [(n : Int)] l rfl (OwnI.lit1 w (Nat.le_refl _) ⟨by omega, by omega⟩) rfl (H.out.alloc _) (by rw [HL.out]; simp; omega) (by simp) (n + 1) (by rw [HL.out]; simp; omega) ?_; intro a' c' w1 hown1 hgr1)
  have hb : Below w.heap.size w w1 := (by (repeat (first | exact Below.refl _ _ | assumption | refine Below.drew ?_ | refine Below.alloc ?_ (by first | (simp; done) | (simp; omega)) _ | refine Below.setCell ?_ (by first | (simp; done) | (simp; omega)) _)) : Below w.heap.size w (w.alloc _)).trans ((OwnI.lit1 w (Nat.le_refl _) (x := (n : Int)) ⟨by omega, by omega⟩).grown hgr1 (by simp))
  have hI := hown1.ints
  clear hown1 hgr1
  obtain ⟨k1, k2⟩ := hI.capMax
  unfold maxLen at k2
  have hI := Lib.hid hI
  rw [show [(n : Int)] ++ l = (n : Int) :: l from rfl] at hI
  go_wp2_with fail
  go_loopg [3, 4, 15] (n + 1) (fun g s t i wr => ∃ k : Nat, k + g = n + 1 ∧ i = .int .i64 k ∧ s = .int .i64 (foldS (((n : Int) :: l).take k)) ∧ t = .int .i64 (foldT (((n : Int) :: l).take k)) ∧ wr = w1)
  case atStart => exact ⟨0, by omega, rfl, rfl, rfl, rfl⟩
  case round =>
    obtain ⟨k, hkg, rfl, rfl, rfl, rfl⟩ := hrel
    by_cases hlt : k < n + 1
    · obtain ⟨b, o, rfl, hcx⟩ := hI.out.at_ (by omega)
      have hy := hcx k hlt
      clear hcx
      obtain ⟨x0, x1⟩ := HD.out k hlt
      have HX : Hid (((n : Int) :: l).take (k + 1) = ((n : Int) :: l).take k ++ [nth ((n : Int) :: l) k]) := take_succ_nth (by simp [HL.out]; omega)
      have HXS := Lib.hid (foldS_snoc (((n : Int) :: l).take k) (nth ((n : Int) :: l) k))
      have HXT := Lib.hid (foldT_snoc (((n : Int) :: l).take k) (nth ((n : Int) :: l) k))
      obtain ⟨s0, s1⟩ := foldS_bd (((n : Int) :: l).take k)
      obtain ⟨t0, t1⟩ := foldT_bd (((n : Int) :: l).take k)
      have ha := and31 _ x0 x1
      generalize nth ((n : Int) :: l) k = x at *
      generalize foldS (((n : Int) :: l).take k) = S at *
      generalize foldT (((n : Int) :: l).take k) = T at *
      go_wp2_with fail
      go_roundg (n + 1 - (k + 1))
      case measure => omega
      case rel => exact ⟨k + 1, by omega, by go_num, by rw [HX.out, HXS.out]; rfl, by rw [HX.out, HXT.out]; rfl, rfl⟩
    · obtain rfl : n + 1 = k := by omega
      have e : ((n : Int) :: l).take (n + 1) = (n : Int) :: l := List.take_of_length_le (by simp [HL.out])
      rw [e]
      obtain ⟨s0, s1⟩ := foldS_bd ((n : Int) :: l)
      obtain ⟨t0, t1⟩ := foldT_bd ((n : Int) :: l)
      go_wp2_with fail
      go_ret
      exact ⟨ret_int (by first | (rw [hfin.out]; done) | (rw [hfin.out]; rfl) | exact hfin.out.symm), hb⟩
set_option maxHeartbeats 400000 in
theorem impl_areDigests (v : Value) (l : List Int) (w : World) (h : Ints w v l) :
    Calls Try.prog 249 #[v] w fun e w' => e = .returned (.bool (decide (l.length ≤ 400) && l.all digestB)) ∧ Below w.heap.size w w' := by
  obtain ⟨a, n, c, rfl⟩ := h.shape
  have e := h.len
  have k := h.capMax
  unfold maxLen at k
  obtain ⟨k1, k2⟩ := k
  rw [e]
  clear e
  have H := Lib.hid h; clear h
  by_cases hn : n ≤ 400
  · have HR : Hid ((decide (n ≤ 400) && l.all digestB) = l.all digestB) := by unfold Hid; simp [hn]
    have hn' : decide ((n : Int) ≤ 400) = true := by simp; omega
    go_enter Try.func249, Try.ntmps249
    go_wp2_with fail
    refine (impl_areAll _ l 215 #[] digestB _ H.out (decides_isDigest _)).mono ?_
    rintro e w1 ⟨rfl, hb⟩
    go_wp2_with fail
    go_ret
    exact ⟨ret_bool (by first | (rw [HR.out]; done) | (rw [HR.out]; rfl) | exact HR.out.symm), hb⟩
  · have HR : Hid ((decide (n ≤ 400) && l.all digestB) = false) := by unfold Hid; simp [hn]
    have hn' : decide ((n : Int) ≤ 400) = false := by simp; omega
    go_enter Try.func249, Try.ntmps249
    go_wp2_with fail
    go_ret
    exact ⟨ret_bool (by first | (rw [HR.out]; done) | (rw [HR.out]; rfl) | exact HR.out.symm), Below.refl _ _⟩
/-- a list that can be hashed -/
def hashable (l : List Int) : Bool := decide (l.length ≤ 400) && l.all digestB
theorem hashable_yes {l : List Int} (h : hashable l = true) : l.length ≤ 400 ∧ l.all digestB = true := by
  unfold hashable at h; rw [Bool.and_eq_true, decide_eq_true_iff] at h; exact h
/-- what HashInts returns -/
def hashInt (l : List Int) : Int := if hashable l = true then hashOf l else 0
theorem hashInt_yes {l : List Int} (h : hashable l = true) : hashInt l = hashOf l := by unfold hashInt; rw [if_pos h]
theorem hashInt_no {l : List Int} (h : hashable l = false) : hashInt l = 0 := by unfold hashInt; rw [if_neg (by rw [h]; simp)]
set_option maxHeartbeats 400000 in
theorem impl_HashInts (v : Value) (l : List Int) (w : World) (h : Ints w v l) :
    Calls Try.prog 188 #[v] w fun e w' => e = .returned (.tuple #[.int .i64 (hashInt l), .bool (hashable l)]) ∧ Below w.heap.size w w' := by
  have H := Lib.hid h; clear h
  have HE : Hid ((decide (l.length ≤ 400) && l.all digestB) = hashable l) := rfl
  cases hk : hashable l with
  | false =>
    have HS := Lib.hid (hashInt_no hk)
    have HK := Lib.hid hk; clear hk
    go_enter Try.func188, Try.ntmps188
    go_wp2_with fail
    refine (impl_areDigests _ l _ H.out).mono ?_
    rintro e w1 ⟨rfl, hb⟩
    rw [HE.out, HK.out]
    go_wp2_with fail
    go_ret2
    exact ⟨ret_int_bool (by first | (rw [HS.out]; done) | (rw [HS.out]; rfl) | exact HS.out.symm) rfl, hb⟩
  | true =>
    have HS := Lib.hid (hashInt_yes hk)
    obtain ⟨h1, h2⟩ := hashable_yes hk
    have H2 := Lib.hid h2; clear h2
    have HK := Lib.hid hk; clear hk
    go_enter Try.func188, Try.ntmps188
    go_wp2_with fail
    refine (impl_areDigests _ l _ H.out).mono ?_
    rintro e w1 ⟨rfl, hb⟩
    rw [HE.out, HK.out]
    go_wp2_with fail
    refine (impl_hash _ l _ (H.out.below hb) (by omega) H2.out).mono ?_
    rintro e w2 ⟨rfl, hb2⟩
    go_wp2_with fail
    go_ret2
    exact ⟨ret_int_bool (by first | (rw [HS.out]; done) | (rw [HS.out]; rfl) | exact HS.out.symm) rfl, hb.trans (hb2.mono hb.size)⟩
/-- what HashLabelled answers: whether, and the digest -/
def labelledB (s : ByteArray) (l : List Int) : Bool := decide (s.size ≤ 40 ∧ l.length ≤ 400) && hashable (lab s ++ l)
def labelledI (s : ByteArray) (l : List Int) : Int := if labelledB s l = true then hashOf (lab s ++ l) else 0
set_option maxHeartbeats 400000 in
theorem impl_HashLabelled (s : ByteArray) (v : Value) (l : List Int) (w : World) (h : Ints w v l) (hs : s.size ≤ 1000000) (hl : l.length ≤ 1000000000) :
    Calls Try.prog 97 #[.string s, v] w fun e w' => e = .returned (.tuple #[.int .i64 (labelledI s l), .bool (labelledB s l)]) ∧ Below w.heap.size w w' := by
  obtain ⟨a, n, c, rfl⟩ := h.shape
  have e := h.len
  by_cases hc : s.size ≤ 40 ∧ n ≤ 400
  · obtain ⟨hc1, hc2⟩ := hc
    have HB : Hid (labelledB s l = hashable (lab s ++ l)) := by unfold Hid labelledB; rw [e]; simp [hc1, hc2]
    have HI : Hid (labelledI s l = hashInt (lab s ++ l)) := by unfold Hid labelledI hashInt; rw [HB.out]
    clear e
    have H := Lib.hid h; clear h
    go_enter Try.func97, Try.ntmps97
    go_wp2_with fail
    refine (impl_labelled s _ l _ H.out hs hl).mono ?_
    rintro e w1 ⟨v', rfl, hO, hb⟩
    have hO := Lib.hid hO
    go_wp2_with fail
    refine (impl_HashInts _ _ _ hO.out.ints).mono ?_
    rintro e w2 ⟨rfl, hb2⟩
    go_wp2_with fail
    go_ret2
    exact ⟨ret_int_bool (by first | (rw [HI.out]; done) | (rw [HI.out]; rfl) | exact HI.out.symm) (by first | (rw [HB.out]; done) | (rw [HB.out]; rfl) | exact HB.out.symm), hb.trans (hb2.mono hb.size)⟩
  · have HB : Hid (labelledB s l = false) := by unfold Hid labelledB; rw [e]; simp [hc]
    have HI : Hid (labelledI s l = 0) := by unfold Hid labelledI; rw [HB.out]; simp
    clear e h
    go_enter Try.func97, Try.ntmps97
    by_cases hc1 : s.size ≤ 40
    · have hc2 : 400 < n := by omega
      clear hc
      go_wp2_with fail
      go_ret2
      exact ⟨ret_int_bool (by first | (rw [HI.out]; done) | (rw [HI.out]; rfl) | exact HI.out.symm) (by first | (rw [HB.out]; done) | (rw [HB.out]; rfl) | exact HB.out.symm), Below.refl _ _⟩
    · clear hc
      go_wp2_with fail
      go_ret2
      exact ⟨ret_int_bool (by first | (rw [HI.out]; done) | (rw [HI.out]; rfl) | exact HI.out.symm) (by first | (rw [HB.out]; done) | (rw [HB.out]; rfl) | exact HB.out.symm), Below.refl _ _⟩
/-- a block of two cells -/
def Box2 (w : World) (b : Nat) (t : TypeId) (x y : Value) : Prop := w.heap[b]? = some (.cells #[x, y] t (0, 0))
section
variable {w w' : World} {b : Nat} {t : TypeId} {x y : Value}
theorem Box2.cell0 (h : Box2 w b t x y) : w.cell? ⟨b, 0, none⟩ = some x := by rw [cell_of_row w b 0 _ t (0, 0) h]; rfl
theorem Box2.cell1 (h : Box2 w b t x y) : w.cell? ⟨b, 1, none⟩ = some y := by rw [cell_of_row w b 1 _ t (0, 0) h]; rfl
theorem Box2.frozen (h : Box2 w b t x y) (j : Nat) : w.frozen? ⟨b, j, none⟩ = false := frozen_of_row w b j _ t h
theorem Box2.set0 (h : Box2 w b t x y) (u : Value) : Box2 (w.setCell ⟨b, 0, none⟩ u) b t u y := heap_setCell_same w b 0 _ t u h
theorem Box2.set1 (h : Box2 w b t x y) (u : Value) : Box2 (w.setCell ⟨b, 1, none⟩ u) b t x u := heap_setCell_same w b 1 _ t u h
theorem Box2.lt (h : Box2 w b t x y) : b < w.heap.size := (Array.getElem?_eq_some_iff.1 h).1
theorem Box2.below (h : Box2 w b t x y) (hb : Below w.heap.size w w') : Box2 w' b t x y := (hb.block b h.lt).trans h
theorem Box2.alloc (h : Box2 w b t x y) (o : Obj) : Box2 (w.alloc o) b t x y := h.below ((Below.refl _ _).alloc (Nat.le_refl _) o)
theorem grownBy_setCell (w : World) (b o : Nat) (u : Value) : w.grownBy (w.setCell ⟨b, o, none⟩ u) (some b) :=
  ⟨rfl, rfl, rfl, by simp, fun k _ hk => heap_setCell_other w ⟨b, o, none⟩ k u (fun e => hk (by simp [e]))⟩
end
set_option maxRecDepth 100000 in
set_option maxHeartbeats 1000000 in
theorem spec_absorb (b : Nat) (s t x : Int) (w : World) (h : Box2 w b 285 (.int .i64 s) (.int .i64 t)) (s0 : 0 ≤ s) (s1 : s < 2147483647) (t0 : 0 ≤ t) (t1 : t < 2147483647) (x0 : 0 ≤ x) (x1 : x ≤ 4611686018427387903) :
    Calls Try.prog 270 #[.pointer (some ⟨b, 0, none⟩), .int .i64 x] w fun e w' => e = .returned (.tuple #[]) ∧ Box2 w' b 285 (.int .i64 (absS s x)) (.int .i64 (absT t x)) ∧ w.grownBy w' (some b) := by
  have hne : b ≠ w.heap.size := by have := h.lt; omega
  have hI : Hid (Ints (w.alloc (.cells #[.int .i64 (x % 2147483648), .int .i64 (x / 2147483648)] 3)) (.slice (some ⟨w.heap.size, 0, none⟩) 2 2) [x % 2147483648, x / 2147483648]) :=
    (OwnI.lit (B := 0) w (Nat.zero_le _) (AllI64.cons ⟨by omega, by omega⟩ (AllI64.one ⟨by omega, by omega⟩)) rfl (by simp [maxLen]) 2 rfl).ints
  have HH := Lib.hid h; clear h
  have hfs : Hid (∀ k, 0 ≤ (([x % 2147483648, x / 2147483648] : List Int).take k).foldl hS s ∧ (([x % 2147483648, x / 2147483648] : List Int).take k).foldl hS s < 2147483647) := fun k => foldl_bd (fun s x => hS_bd s x) _ s s0 s1
  have hft : Hid (∀ k, 0 ≤ (([x % 2147483648, x / 2147483648] : List Int).take k).foldl hT t ∧ (([x % 2147483648, x / 2147483648] : List Int).take k).foldl hT t < 2147483647) := fun k => foldl_bd (fun s x => hT_bd s x) _ t t0 t1
  have hL : Hid (∀ j, j < 2 → 0 ≤ nth [x % 2147483648, x / 2147483648] j ∧ nth [x % 2147483648, x / 2147483648] j ≤ 2147483647) := by
    intro j hj
    match j, hj with
    | 0, _ => simp only [nth, List.getD_cons_zero]; omega
    | 1, _ => simp only [nth, List.getD_cons_succ, List.getD_cons_zero]; omega
  have hfin1 : Hid (([x % 2147483648, x / 2147483648] : List Int).foldl hS s = absS s x) := rfl
  have hfin2 : Hid (([x % 2147483648, x / 2147483648] : List Int).foldl hT t = absT t x) := rfl
  go_enter Try.func270, Try.ntmps270
  go_wp2_with fail
  generalize hLL : ([x % 2147483648, x / 2147483648] : List Int) = L at *
  have hlen : Hid (L.length = 2) := by rw [← hLL]; rfl
  clear hLL
  go_loopg [12] 2 (fun g i wr => ∃ k : Nat, k + g = 2 ∧ i = .int .i64 k ∧ Box2 wr b 285 (.int .i64 ((L.take k).foldl hS s)) (.int .i64 ((L.take k).foldl hT t)) ∧ Ints wr (.slice (some ⟨w.heap.size, 0, none⟩) 2 2) L ∧ w.grownBy wr (some b))
  case atStart => exact ⟨0, by omega, rfl, HH.out.alloc _, hI.out, World.grownBy_alloc _ _ _⟩
  case round =>
    obtain ⟨k, hkg, rfl, hB, hI2, hG⟩ := hrel
    by_cases hlt : k < 2
    · obtain ⟨b', o', hbo, hcx⟩ := hI2.at_ (by omega)
      cases hbo
      have hy := hcx k hlt
      rw [Nat.zero_add] at hy
      clear hcx
      obtain ⟨x2, x3⟩ := hL.out k hlt
      obtain ⟨s2, s3⟩ := hfs.out k
      obtain ⟨t2, t3⟩ := hft.out k
      have HX : Hid (L.take (k + 1) = L.take k ++ [nth L k]) := take_succ_nth (by rw [hlen.out]; omega)
      have HS : Hid ((L.take k ++ [nth L k]).foldl hS s = hS ((L.take k).foldl hS s) (nth L k)) := by unfold Hid; simp
      have HT : Hid ((L.take k ++ [nth L k]).foldl hT t = hT ((L.take k).foldl hT t) (nth L k)) := by unfold Hid; simp
      have hc0 := hB.cell0
      have hc1 := hB.cell1
      have hf0 := hB.frozen 0
      have hf1 := hB.frozen 1
      generalize nth L k = X at *
      generalize (L.take k).foldl hS s = S at *
      generalize (L.take k).foldl hT t = T at *
      have hB := Lib.hid hB
      have hI2 := Lib.hid hI2
      go_wp2_with fail
      go_roundg (2 - (k + 1))
      case measure => omega
      case rel =>
        refine ⟨k + 1, by omega, by go_num, ?_, ?_, ?_⟩
        · rw [HX.out, HS.out, HT.out]
          exact (hB.out.set0 _).set1 _
        · refine (hI2.out.kept (grownBy_setCell _ b 0 _) ?_).kept (grownBy_setCell _ b 1 _) ?_
          · intro k hk e; cases hk; cases e; exact hne rfl
          · intro k hk e; cases hk; cases e; exact hne rfl
        · exact grownBy_trans hG (grownBy_trans (grownBy_setCell _ b 0 _) (grownBy_setCell _ b 1 _))
    · obtain rfl : 2 = k := by omega
      have e : L.take 2 = L := List.take_of_length_le (by rw [hlen.out]; omega)
      rw [e, hfin1.out, hfin2.out] at hB
      clear e
      have hB := Lib.hid hB
      have hI2 := Lib.hid hI2
      go_wp2_with fail
      go_end0
      exact ⟨rfl, hB.out, hG⟩
set_option maxRecDepth 100000 in
set_option maxHeartbeats 1000000 in
theorem spec_hInts (v : Value) (l : List Int) (w : World) (h : Ints w v l) (hl : l.length ≤ 1000000000) (hd : l.all digestB = true) :
    Calls Try.prog 247 #[v] w fun e w' => e = .returned (.int .i64 (hashOf l)) ∧ Below w.heap.size w w' := by
  obtain ⟨a, n, c, rfl⟩ := h.shape
  have e := h.len
  obtain ⟨k1, k2⟩ := h.capMax
  unfold maxLen at k2
  have hn : n ≤ 1000000000 := by omega
  have HL := Lib.hid e
  have hfin : Hid (foldS ((n : Int) :: l) * 2147483648 + foldT ((n : Int) :: l) = hashOf l) := by unfold hashOf; rw [e]; rfl
  clear e hl
  have H := Lib.hid h; clear h
  have HD : Hid (∀ j, j < n → 0 ≤ nth l j ∧ nth l j ≤ 4611686018427387903) := by
    intro j hj
    have hj' : j < l.length := by rw [HL.out]; omega
    rw [nth_eq hj']
    have := List.all_eq_true.1 hd _ (List.getElem_mem hj')
    simpa [digestB] using this
  clear hd
  have hbx : Hid (Box2 (w.alloc (.cells #[.int .i64 1, .int .i64 2] 285)) w.heap.size 285 (.int .i64 1) (.int .i64 2)) := heap_alloc_new w _
  have hst : Hid (absS 1 n = foldS ((n : Int) :: l.take 0)) := rfl
  have htt : Hid (absT 2 n = foldT ((n : Int) :: l.take 0)) := rfl
  go_enter Try.func247, Try.ntmps247
  go_wp2_with fail
  refine (spec_absorb w.heap.size 1 2 n _ hbx.out (by decide) (by decide) (by decide) (by decide) (by omega) (by omega)).mono ?_
  rintro e w1 ⟨rfl, hB1, hg1⟩
  rw [hst.out, htt.out] at hB1
  have hb1 : Below w.heap.size w w1 := (by (repeat (first | exact Below.refl _ _ | assumption | refine Below.drew ?_ | refine Below.alloc ?_ (by first | (simp; done) | (simp; omega)) _ | refine Below.setCell ?_ (by first | (simp; done) | (simp; omega)) _)) : Below w.heap.size w (w.alloc _)).grown hg1 (by simp) (fun k hk => by cases hk; exact Nat.le_refl _)
  clear hg1 hbx
  have hB1 := Lib.hid hB1
  go_wp2_with fail
  go_loopg [14] n (fun g i wr => ∃ k : Nat, k + g = n ∧ i = .int .i64 k ∧ Box2 wr w.heap.size 285 (.int .i64 (foldS ((n : Int) :: l.take k))) (.int .i64 (foldT ((n : Int) :: l.take k))) ∧ Below w.heap.size w wr)
  case atStart => exact ⟨0, by omega, rfl, hB1.out, hb1⟩
  case round =>
    obtain ⟨k, hkg, rfl, hB, hb⟩ := hrel
    have hsz := hB.lt
    by_cases hlt : k < n
    · obtain ⟨b, o, rfl, hcx⟩ := (H.out.below hb).at_ (by omega)
      have hy := hcx k hlt
      clear hcx
      obtain ⟨x2, x3⟩ := HD.out k hlt
      obtain ⟨s2, s3⟩ := foldS_bd ((n : Int) :: l.take k)
      obtain ⟨t2, t3⟩ := foldT_bd ((n : Int) :: l.take k)
      have HX : Hid ((n : Int) :: l.take (k + 1) = ((n : Int) :: l.take k) ++ [nth l k]) := by unfold Hid; rw [take_succ_nth (by rw [HL.out]; omega)]; rfl
      have HS := Lib.hid (foldS_snoc ((n : Int) :: l.take k) (nth l k))
      have HT := Lib.hid (foldT_snoc ((n : Int) :: l.take k) (nth l k))
      generalize nth l k = X at *
      generalize foldS ((n : Int) :: l.take k) = S at *
      generalize foldT ((n : Int) :: l.take k) = T at *
      have hB := Lib.hid hB
      go_wp2_with fail
      refine (spec_absorb w.heap.size S T X _ hB.out s2 s3 t2 t3 x2 x3).mono ?_
      rintro e w2 ⟨rfl, hB2, hg2⟩
      have hB2 := Lib.hid hB2
      go_wp2_with fail
      go_roundg (n - (k + 1))
      case measure => omega
      case rel =>
        refine ⟨k + 1, by omega, by go_num, ?_, ?_⟩
        · rw [HX.out, HS.out, HT.out]; exact hB2.out
        · exact hb.grown hg2 (by omega) (fun k hk => by cases hk; exact Nat.le_refl _)
    · obtain rfl : n = k := by omega
      have e : l.take n = l := List.take_of_length_le (by rw [HL.out]; omega)
      rw [e] at hB
      clear e
      obtain ⟨s2, s3⟩ := foldS_bd ((n : Int) :: l)
      obtain ⟨t2, t3⟩ := foldT_bd ((n : Int) :: l)
      have hc0 := hB.cell0
      have hc1 := hB.cell1
      generalize foldS ((n : Int) :: l) = S at *
      generalize foldT ((n : Int) :: l) = T at *
      have hB := Lib.hid hB
      have e1 : IntKind.i64.wrap (S * 2147483648) = S * 2147483648 := IntWalk.i64_in _ (by omega)
      have e2 : IntKind.i64.wrap (S * 2147483648 + T) = S * 2147483648 + T := IntWalk.i64_in _ (by omega)
      go_wp2_with fail
      go_quiet (fail)
      go_wp2_with fail
      go_ret
      exact ⟨ret_int (by first | (rw [hfin.out]; done) | (rw [hfin.out]; rfl) | exact hfin.out.symm), below_drewN hb _⟩
set_option maxHeartbeats 400000 in
theorem spec_hLabelled (s : ByteArray) (v : Value) (l : List Int) (w : World) (h : Ints w v l) (hs : s.size ≤ 1000000) (hl : l.length ≤ 10000000) (hd : l.all digestB = true) :
    Calls Try.prog 186 #[.string s, v] w fun e w' => e = .returned (.int .i64 (hashOf (lab s ++ l))) ∧ Below w.heap.size w w' := by
  have H := Lib.hid h; clear h
  have HD : Hid ((lab s ++ l).all digestB = true) := by
    unfold Hid; rw [List.all_append, hd, Bool.and_true]
    refine List.all_eq_true.2 fun x hx => ?_
    rcases List.mem_cons.1 hx with rfl | hx
    · simp [digestB]; omega
    · obtain ⟨b, _, rfl⟩ := List.mem_map.1 hx
      have := b.toNat_lt
      simp [digestB]; omega
  have HLn : Hid ((lab s ++ l).length ≤ 1000000000) := by unfold Hid; rw [List.length_append, ← labTo_all, labTo_length (Nat.le_refl _)]; omega
  clear hd
  go_enter Try.func186, Try.ntmps186
  go_wp2_with fail
  refine (spec_l3With s v l _ H.out hs (by omega)).mono ?_
  rintro e w1 ⟨v', rfl, hO, hb⟩
  have hO := Lib.hid hO
  go_wp2_with fail
  refine (spec_hInts _ _ _ hO.out.ints HLn.out HD.out).mono ?_
  rintro e w2 ⟨rfl, hb2⟩
  go_wp2_with fail
  go_ret
  exact ⟨rfl, hb.trans (hb2.mono hb.size)⟩
end Go.Proofs.Ytapfceghgkmgoaa
