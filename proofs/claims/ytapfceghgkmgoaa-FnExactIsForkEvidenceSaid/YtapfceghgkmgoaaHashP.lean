/- The hash as a function on lists: plain Lean. -/
namespace Go.Proofs.Ytapfceghgkmgoaa

def hS (s b : Int) : Int := (48271 * s + b + 1) % 2147483647
def hT (t b : Int) : Int := (69621 * t + b + 1) % 2147483647
def absS (s x : Int) : Int := hS (hS s (x % 2147483648)) (x / 2147483648)
def absT (t x : Int) : Int := hT (hT t (x % 2147483648)) (x / 2147483648)
def foldS (l : List Int) : Int := l.foldl absS 1
def foldT (l : List Int) : Int := l.foldl absT 2
/-- the digest of a list -/
def hashOf (l : List Int) : Int := foldS ((l.length : Int) :: l) * 2147483648 + foldT ((l.length : Int) :: l)

theorem hS_bd (s b : Int) : 0 ≤ hS s b ∧ hS s b < 2147483647 := by unfold hS; omega
theorem hT_bd (s b : Int) : 0 ≤ hT s b ∧ hT s b < 2147483647 := by unfold hT; omega
theorem foldl_bd {f : Int → Int → Int} (hf : ∀ s x, 0 ≤ f s x ∧ f s x < 2147483647) (l : List Int) : ∀ s : Int, 0 ≤ s → s < 2147483647 → 0 ≤ l.foldl f s ∧ l.foldl f s < 2147483647 := by
  induction l with
  | nil => intro s h1 h2; exact ⟨h1, h2⟩
  | cons x l ih => intro s _ _; exact ih _ (hf s x).1 (hf s x).2
theorem foldS_bd (l : List Int) : 0 ≤ foldS l ∧ foldS l < 2147483647 := foldl_bd (fun s x => hS_bd _ _) l 1 (by decide) (by decide)
theorem foldT_bd (l : List Int) : 0 ≤ foldT l ∧ foldT l < 2147483647 := foldl_bd (fun s x => hT_bd _ _) l 2 (by decide) (by decide)
theorem foldS_snoc (l : List Int) (x : Int) : foldS (l ++ [x]) = absS (foldS l) x := by simp [foldS]
theorem foldT_snoc (l : List Int) (x : Int) : foldT (l ++ [x]) = absT (foldT l) x := by simp [foldT]
theorem hashOf_bd (l : List Int) : 0 ≤ hashOf l ∧ hashOf l ≤ 4611686018427387903 := by
  have h1 := foldS_bd ((l.length : Int) :: l)
  have h2 := foldT_bd ((l.length : Int) :: l)
  unfold hashOf
  omega
end Go.Proofs.Ytapfceghgkmgoaa
