/- Walks: the text of a digest. -/
import Derived.Test.YtapfceghgkmgoaaStdI
import Derived.Test.YtapfceghgkmgoaaRows1
import Derived.Laws.IdiomStrings
namespace Go.Proofs.Ytapfceghgkmgoaa
open Go.RowKit
set_option linter.unusedSimpArgs false
set_option linter.unusedVariables false

def sHex : ByteArray := ⟨#[48, 49, 50, 51, 52, 53, 54, 55, 56, 57, 97, 98, 99, 100, 101, 102]⟩
def hexC (n : Nat) : UInt8 := sHex.data.getD n 0
/-- the last k hexadecimal digits of a number -/
def hexL : Nat → Nat → List UInt8
  | 0, _ => []
  | k + 1, d => hexL k (d / 16) ++ [hexC (d % 16)]
theorem hexL_length (k : Nat) : ∀ d, (hexL k d).length = k := by
  induction k with
  | zero => intro d; rfl
  | succ k ih => intro d; simp [hexL, ih]
/-- the text of a digest -/
def dText (d : Int) : ByteArray := ⟨(hexL 16 d.toNat).toArray⟩
theorem dText_size (d : Int) : (dText d).size = 16 := by
  show (hexL 16 d.toNat).toArray.size = 16
  simp [hexL_length]
theorem info_u8 : (Try.prog.info? 5).map (fun i => (i.zero, i.size, i.bytes)) = some (some (.int .u8 0), 1, 1) := by kernel_rfl
def u8s (l : List UInt8) : List Value := l.map fun b => Value.int .u8 (b.toNat : Int)
theorem u8s_length (l : List UInt8) : (u8s l).length = l.length := by simp [u8s]
theorem u8s_one (l : List UInt8) : ∀ v ∈ u8s l, v.oneCell' = true := fun v hv => by
  simp only [u8s, List.mem_map] at hv
  obtain ⟨b, _, rfl⟩ := hv; rfl
/-- the value is a row of bytes of the call's own, from block B on -/
def OwnU (w : World) (B : Nat) (v : Value) (l : List UInt8) : Prop := w.ownsRow B 5 1 v l.length (u8s l)
theorem OwnU.shape {w : World} {B : Nat} {v : Value} {l : List UInt8} (h : OwnU w B v l) : ∃ a c, v = .slice a l.length c := by
  rcases h.2 with ⟨h, h2⟩ | ⟨g, c, cur, h, _⟩
  · exact ⟨none, 0, by rw [h, h2]⟩
  · exact ⟨_, _, h⟩
theorem OwnU.below {w w' : World} {B : Nat} {v : Value} {l : List UInt8} (h : OwnU w B v l) (hb : Below w.heap.size w w') : OwnU w' B v l :=
  h.kept (row := none) ⟨hb.os, hb.tape, hb.output, hb.size, fun k hk _ => hb.block k hk⟩ (by cases v.ownBlock <;> simp)
theorem OwnU.alloc {w : World} {B : Nat} {v : Value} {l : List UInt8} (h : OwnU w B v l) (o : Obj) : OwnU (w.alloc o) B v l := h.below ((Below.refl _ _).alloc (Nat.le_refl _) o)
theorem OwnU.grown {w w' : World} {B : Nat} {v : Value} {l : List UInt8} (h : OwnU w B v l) (hg : w.grownBy w' v.ownBlock) (hB : B ≤ w.heap.size) : Below B w w' :=
  (Below.refl B w).grown hg hB (fun k hk => (h.lt k hk).1)
theorem OwnU.lit0 (w : World) : OwnU (w.alloc (.cells #[] 5)) w.heap.size (.slice (some ⟨w.heap.size, 0, none⟩) 0 0) [] :=
  World.ownsRow_lit (e := 5) (size := 1) w #[] 0 (Nat.le_refl _) (Nat.zero_le _) (by simp)
theorem OwnU.cells {w : World} {B : Nat} {a : Addr} {n c : Nat} {l : List UInt8} (h : OwnU w B (.slice (some a) n c) l) : ∃ g, a = ⟨g, 0, none⟩ ∧ ∀ j (hj : j < l.length), w.cell? (a.add j) = some (.int .u8 (l[j].toNat : Int)) := by
  have h' := h
  rcases h with ⟨hl, ⟨h1, h2⟩ | ⟨g, c', cur, h1, h2⟩⟩
  · cases h1
  · cases h1
    refine ⟨g, rfl, fun j hj => ?_⟩
    have h3 := World.ownsRow.cellAt h' j (by omega)
    rw [Addr.add_lit, Nat.zero_add, h3]
    simp [u8s, hj]
theorem wpList_append_u8 {ops : Array Oper} {rest : List Oper} {o : Oper} {a : Act} {w : World} {Q : Exit → Act → World → Prop} (hg : o.guard = none) (s x : Operand)
    (ho : o.op = .call { callee := .builtin .append, args := #[s, x], argTypes := #[276, 276] })
    (B : Nat) (v : Value) (l : List UInt8) (b : UInt8) (g : Nat) (hs : a.eval s = v) (hown : OwnU w B v l) (hx : a.eval x = .slice (some ⟨g, 0, none⟩) 1 1) (hy : w.cell? ⟨g, 0, none⟩ = some (.int .u8 (b.toNat : Int))) (hlen : l.length ≤ 1000000000) (hB : B ≤ w.heap.size)
    (hK : ∀ a' c' w', OwnU w' B (.slice a' (l.length + 1) c') (l ++ [b]) → w.grownBy w' v.ownBlock → wpList Try.prog ops Q rest (a.put o.dst (.slice a' (l.length + 1) c')) w') : wpList Try.prog ops Q (o :: rest) a w := by
  obtain ⟨i, hi, hz, hsz, hby⟩ := info_parts info_u8
  obtain ⟨v', w', hr, h1, h2, _⟩ := run_append_own (P := Try.prog) w B 276 o.type 5 i (.int .u8 0) 1 1 Try.underlying276 hi hz hsz hby rfl (by decide) v l.length _ hown ⟨g, 0, none⟩ 1 1 (u8s [b]) rfl
    (fun j u hu => by
      have hj : j < 1 := by simpa [u8s] using (List.getElem?_eq_some_iff.1 hu).1
      obtain rfl : j = 0 := by omega
      rw [Addr.add_lit]; simp [u8s] at hu; rw [← hu]; exact hy) (u8s_one _) (by unfold maxLen; omega) (by omega) hB
  have h3 : OwnU w' B v' (l ++ [b]) := by
    unfold OwnU
    have e : u8s (l ++ [b]) = u8s l ++ u8s [b] := by simp [u8s]
    rw [e, List.length_append]; exact h1
  obtain ⟨a', c', e⟩ := h3.shape
  rw [List.length_append] at e
  have e' : v' = .slice a' (l.length + 1) c' := e
  refine wpList_plain hg fun K hK' => ?_
  unfold Oper.wp execOp
  simp only [ho, resolve, invoke, builtin, Sem.run_bind, Sem.run_pure, Result.andThen_ok, List.map_toArray, List.map_cons, List.map_nil, hs, hx, hr]
  subst e'
  exact hK' _ _ (hK a' c' w' h3 h2)
theorem and15 (x : Int) (h0 : 0 ≤ x) (h1 : x ≤ 4611686018427387903) : bits .and .i64 x 15 = x % 16 := by
  have h := bits_mask .i64 62 (by decide) (fun n h h' => IntWalk.i64_in n ⟨by omega, by
    have e : ((2 : Int) ^ 62) = 4611686018427387904 := by decide
    omega⟩) 4 (by decide) x h0 (by
    have e : ((2 : Int) ^ 62) = 4611686018427387904 := by decide
    omega)
  have e1 : ((2 : Int) ^ 4 - 1) = 15 := by decide
  have e2 : ((2 : Int) ^ 4) = 16 := by decide
  rw [e1, e2] at h
  exact h
theorem hexC_at : ∀ q : Fin 16, (sHex[q.1]'q.2) = hexC q.1 := by decide
theorem hex_index (q : Nat) (hq : q < 16) (W : World) : (Instr.index 9 (.string sHex) (.int .i64 (q : Int))).run Try.prog W = .ok (.int .u8 ((hexC q).toNat : Int)) W := by
  have e : sHex.size = 16 := rfl
  rw [run_index_string W _ _ _ _ Try.underlying9]
  rw [dif_pos ⟨by omega, by rw [e]; omega⟩, ← hexC_at ⟨q, hq⟩]
  first | (simp; done) | (simp; rfl) | rfl
theorem pow16 (j : Nat) : (2 : Nat) ^ (4 * j) = 16 ^ j := by rw [Nat.pow_mul]
set_option maxRecDepth 100000 in
set_option maxHeartbeats 2000000 in
theorem impl_DigestText (d : Int) (w : World) (hd : digestB d = true) :
    Calls Try.prog 222 #[.int .i64 d] w fun e w' => e = .returned (.tuple #[.string (dText d), .bool true]) ∧ Below w.heap.size w w' := by
  have HD := Lib.hid hd
  simp only [digestB, decide_eq_true_iff] at hd
  obtain ⟨d0, d1⟩ := hd
  obtain ⟨n, rfl⟩ := Int.eq_ofNat_of_zero_le d0
  have HO0 := Lib.hid (OwnU.lit0 w)
  have HDT : Hid (dText (n : Int) = ⟨(hexL 16 n).toArray⟩) := rfl
  go_enter Try.func222, Try.ntmps222
  go_wp2_with (first | (go_at_call 215; refine (impl_isDigest _ _).mono ?_; rintro e w1 ⟨rfl, rfl⟩; rw [HD.out]) | fail)
  go_loopg [4, 5] 16 (fun gh v i wr => ∃ l : List UInt8, i = .int .i64 ((gh : Int) - 1) ∧ gh ≤ 16 ∧ l.length + gh = 16 ∧ Hid (l = hexL (16 - gh) (n / 16 ^ gh)) ∧ OwnU wr w.heap.size v l ∧ Below w.heap.size w wr)
  case atStart => exact ⟨[], rfl, by omega, by simp, rfl, HO0.out, by (repeat (first | exact Below.refl _ _ | assumption | refine Below.drew ?_ | refine Below.alloc ?_ (by first | (simp; done) | (simp; omega)) _ | refine Below.setCell ?_ (by first | (simp; done) | (simp; omega)) _))⟩
  case round =>
    obtain ⟨l, rfl, hgk, hll, HL, hO, hbw⟩ := hrel
    obtain ⟨a, c, rfl⟩ := hO.shape
    have HO := Lib.hid hO; have HB := Lib.hid hbw
    have hsz := hbw.size
    clear hO hbw HO0
    obtain ⟨m, hm⟩ : ∃ m, l.length = m := ⟨_, rfl⟩
    rw [hm] at hll HO ⊢
    have HM := Lib.hid hm
    clear hm
    rcases Nat.eq_zero_or_pos gk with hz | hpos
    · subst hz
      have HLX : Hid (l = hexL 16 n) := by have := HL.out; unfold Hid; simpa using this
      have hm16 : m = 16 := by omega
      subst hm16
      obtain ⟨ad, rfl⟩ : ∃ ad, a = some ad := by
        rcases HO.out.2 with ⟨h1, h2⟩ | ⟨g', c', cur, h1, _⟩
        · have := HM.out; omega
        · exact ⟨_, (Value.slice.inj h1).1⟩
      obtain ⟨g', rfl, hcell⟩ := HO.out.cells
      have hcv : ∀ W, (∀ j (hj : j < l.length), W.cell? ((⟨g', 0, none⟩ : Addr).add j) = some (.int .u8 (l[j].toNat : Int))) → (convert 276 9 (.slice (some ⟨g', 0, none⟩) 16 c)).run Try.prog W = .ok (.string (dText (n : Int))) W := fun W hc => by
        have h1 := run_convert_bytes_back (P := Try.prog) W 276 9 5 ⟨g', 0, none⟩ c l Try.underlying276 Try.underlying5 Try.underlying9 hc
        rw [HM.out] at h1
        rw [h1, HDT.out, HLX.out]
      have hconv := hcv wr hcell
      clear hcv hcell
      have HBB := Lib.hid HB.out
      go_wp2_with fail
      go_ret2
      exact ⟨rfl, HB.out⟩
    · obtain ⟨j, rfl⟩ : ∃ j, gk = j + 1 := ⟨gk - 1, by omega⟩
      have e1 : (((j + 1 : Nat) : Int) - 1) = (j : Int) := by omega
      rw [e1]
      have hj : j ≤ 15 := by omega
      have HQ : Hid (bits BinOp.and IntKind.i64 ((n : Int) / 2 ^ (4 * j)) 15 = ((n / 16 ^ j % 16 : Nat) : Int)) := by
        unfold Hid
        have e3 : ((n : Int) / 2 ^ (4 * j)) = ((n / 16 ^ j : Nat) : Int) := by
          rw [← pow16]
          simp
        have h1 : n / 16 ^ j ≤ n := Nat.div_le_self _ _
        rw [e3]
        generalize n / 16 ^ j = r at h1
        rw [and15 _ (by omega) (by omega)]
        omega
      have hb := HQ.out
      have hq16 : n / 16 ^ j % 16 < 16 := Nat.mod_lt _ (by omega)
      have HN : Hid (l ++ [hexC (n / 16 ^ j % 16)] = hexL (16 - j) (n / 16 ^ j)) := by
        unfold Hid
        rw [HL.out, show 16 - j = (16 - (j + 1)) + 1 by omega, hexL, Nat.div_div_eq_div_mul, Nat.pow_succ]
      generalize n / 16 ^ j % 16 = q at hb hq16 HN
      have hidx := hex_index q hq16
      unfold sHex at hidx
      go_wp2_with (first
        | (at_builtin; refine wpList_append_u8 rfl _ _ rfl w.heap.size _ l (hexC q) wr.heap.size rfl (HO.out.alloc _) rfl (by simp [go_sem]) (by have := HM.out; omega) (by simp; omega) ?_; intro a4 c4 w4 hown4 hgr4)
        | fail)
      have hb4 := (HO.out.alloc (.cells #[.int .u8 ((hexC q).toNat : Int)] 5)).grown hgr4 (by simp; omega)
      go_roundg j
      case measure => omega
      case rel => exact ⟨l ++ [hexC q], by first | rfl | (congr 1; omega), by omega, by have := HM.out; simp; omega, HN.out, hown4, (HB.out.alloc hsz _).trans hb4⟩
theorem hexL_cons (k : Nat) : ∀ n, hexL (k + 1) n = hexC (n / 16 ^ k % 16) :: hexL k n := by
  induction k with
  | zero => intro n; simp [hexL]
  | succ k ih =>
    intro n
    rw [hexL, ih, List.cons_append, Nat.div_div_eq_div_mul, Nat.mul_comm, ← Nat.pow_succ]
    rfl
theorem u8s_set {j : Nat} {b : UInt8} {L : List UInt8} : (u8s (List.replicate (j + 1) 0 ++ L)).set j (.int .u8 (b.toNat : Int)) = u8s (List.replicate j 0 ++ (b :: L)) := by
  have e : List.replicate (j + 1) (0 : UInt8) = List.replicate j 0 ++ [0] := List.replicate_succ'
  rw [e]
  simp [u8s, List.set_append]
theorem made_u8 : (madeCells #[Value.int .u8 0] 16) = (u8s (List.replicate 16 0)).toArray := by
  rw [← Array.toList_inj, toList_madeCells_one]; simp [u8s]
set_option maxRecDepth 100000 in
set_option maxHeartbeats 2000000 in
theorem spec_DigestText (d : Int) (w : World) (hd : digestB d = true) :
    Calls Try.prog 257 #[.int .i64 d] w fun e w' => e = .returned (.tuple #[.string (dText d), .bool true]) ∧ Below w.heap.size w w' := by
  have HD := Lib.hid hd
  simp only [digestB, decide_eq_true_iff] at hd
  obtain ⟨d0, d1⟩ := hd
  obtain ⟨n, rfl⟩ := Int.eq_ofNat_of_zero_le d0
  have HDT : Hid (dText (n : Int) = ⟨(hexL 16 n).toArray⟩) := rfl
  have hmk := fun u => run_make_row' (P := Try.prog) 276 5 (.int .u8 0) 1 Try.underlying276 info_u8 rfl .i64 .i64 16 (by omega) (by omega) u
  rw [made_u8] at hmk
  simp only [show ((16 : Nat) : Int) = 16 from rfl] at hmk
  generalize hz : (u8s (List.replicate 16 0)) = z0 at hmk
  have HZ := Lib.hid hz; clear hz
  go_enter Try.func257, Try.ntmps257
  go_wp2_with (first | (go_at_call 212; refine (spec_l3Digest _ _).mono ?_; rintro e w1 ⟨rfl, rfl⟩; rw [HD.out]) | fail)
  go_loopg [0, 5] 16 (fun gh dv i wr => ∃ r : Nat, i = .int .i64 ((gh : Int) - 1) ∧ dv = .int .i64 r ∧ gh ≤ 16 ∧ r ≤ 4611686018427387903 ∧ Hid (r = n / 16 ^ (16 - gh)) ∧ BoxN wr w.heap.size 5 (u8s (List.replicate gh 0 ++ hexL (16 - gh) n)) ∧ Below w.heap.size w wr)
  case atStart => exact ⟨n, rfl, rfl, by omega, by omega, by unfold Hid; simp, by rw [← HZ.out]; simpa [hexL] using BoxN.new w (u8s (List.replicate 16 0)) 5, by (repeat (first | exact Below.refl _ _ | assumption | refine Below.drew ?_ | refine Below.alloc ?_ (by first | (simp; done) | (simp; omega)) _ | refine Below.setCell ?_ (by first | (simp; done) | (simp; omega)) _))⟩
  case round =>
    obtain ⟨r, rfl, rfl, hgk, hr, HR, hB, hbw⟩ := hrel
    clear hmk HZ
    have HB := Lib.hid hB; have HW := Lib.hid hbw
    clear hbw
    rcases Nat.eq_zero_or_pos gk with hz | hpos
    · subst hz
      have hcv : (convert 276 9 (.slice (some ⟨w.heap.size, 0, none⟩) 16 16)).run Try.prog wr = .ok (.string (dText (n : Int))) wr := by
        have h0 : BoxN wr w.heap.size 5 (u8s (hexL 16 n)) := by simpa using hB
        have h1 := run_convert_bytes_back (P := Try.prog) wr 276 9 5 ⟨w.heap.size, 0, none⟩ 16 (hexL 16 n) Try.underlying276 Try.underlying5 Try.underlying9 (fun j hj => by
          rw [Addr.add_lit, Nat.zero_add]
          exact h0.cell (by simp [u8s, hj]))
        rw [hexL_length] at h1
        rw [h1, HDT.out]
      clear hB
      go_wp2_with fail
      go_ret2
      exact ⟨rfl, HW.out⟩
    · obtain ⟨j, rfl⟩ : ∃ j, gk = j + 1 := ⟨gk - 1, by omega⟩
      have e1 : (((j + 1 : Nat) : Int) - 1) = (j : Int) := by omega
      rw [e1]
      have hj : j ≤ 15 := by omega
      have hfz := hB.frozen j
      have HN : Hid (hexL (16 - j) n = hexC (r % 16) :: hexL (16 - (j + 1)) n) := by
        unfold Hid
        rw [show 16 - j = (16 - (j + 1)) + 1 by omega, hexL_cons, HR.out]
      have HR2 : Hid (r / 16 = n / 16 ^ (16 - j)) := by
        unfold Hid
        have e3 : 16 - j = (16 - (j + 1)) + 1 := by omega
        rw [HR.out, Nat.div_div_eq_div_mul, e3, Nat.pow_succ]
      have hq16 : r % 16 < 16 := Nat.mod_lt _ (by omega)
      have hrm : (r : Int) % 16 = ((r % 16 : Nat) : Int) := by omega
      have hrd : (r : Int) / 16 = ((r / 16 : Nat) : Int) := by omega
      have hr16 : r / 16 ≤ 4611686018427387903 := by omega
      generalize r % 16 = q at HN hq16 hrm
      generalize r / 16 = r' at HR2 hrd hr16
      have hcl : ∃ v, wr.cell? ⟨w.heap.size, j, none⟩ = some v := by
        have hlen : j < (u8s (List.replicate (j + 1) 0 ++ hexL (16 - (j + 1)) n)).length := by rw [u8s_length]; simp; omega
        exact ⟨_, hB.cell (List.getElem?_eq_getElem hlen)⟩
      obtain ⟨vold, hcell⟩ := hcl
      have HST := Lib.hid (HB.out.set j (.int .u8 ((hexC q).toNat : Int)))
      rw [u8s_set, ← HN.out] at HST
      have hidx := hex_index q hq16
      unfold sHex at hidx
      clear hB HR
      have j0 : (0 : Int) ≤ (j : Int) := by omega
      have j1 : (j : Int) < 16 := by omega
      go_wp2_with fail
      go_roundg j
      case measure => omega
      case rel => exact ⟨r', by first | rfl | (congr 1; omega), rfl, by omega, hr16, HR2.out, HST.out, HW.out.setCell (Nat.le_refl _) _⟩
attribute [irreducible] dText
end Go.Proofs.Ytapfceghgkmgoaa
