/- Bits of packets' heads: the plain law: the program's way of packing them and the document's. -/
import Derived.Test.YtnpoakabheeoeaaLib
namespace Go.Proofs.Ytnpoakabheeoeaa

/-- the program's writer: its bytes, how much room the last one has -/
def wbit (s : List UInt8 × Nat) (b : Bool) : List UInt8 × Nat :=
  let t : List UInt8 × Nat := if s.2 = 0 then (s.1 ++ [0], if s.1.getLast? = some 255 then 7 else 8) else s
  (t.1.dropLast ++ [t.1.getLastD 0 ||| (if b then (1 : UInt8) <<< UInt8.ofNat (t.2 - 1) else 0)], t.2 - 1)
def wbits (bs : List Bool) : List UInt8 × Nat := bs.foldl wbit ([], 0)
def wout (s : List UInt8 × Nat) : List UInt8 := if s.1.getLast? = some 255 then s.1 ++ [0] else s.1
/-- the document's writer: its whole bytes, the one on its way, how many of its bits are free -/
def rbit (s : List UInt8 × UInt8 × Nat) (b : Bool) : List UInt8 × UInt8 × Nat :=
  let c := s.2.1 ||| (if b then (1 : UInt8) <<< UInt8.ofNat (s.2.2 - 1) else 0)
  if s.2.2 = 1 then (s.1 ++ [c], 0, if c = 255 then 7 else 8) else (s.1, c, s.2.2 - 1)
def rbits (bs : List Bool) : List UInt8 × UInt8 × Nat := bs.foldl rbit ([], 0, 8)
def rout (s : List UInt8 × UInt8 × Nat) : List UInt8 :=
  let b := if s.2.2 < (if s.1.getLast? = some 255 then 7 else 8) then s.1 ++ [s.2.1] else s.1
  if b.getLast? = some 255 then b ++ [0] else b

theorem wbits_snoc (bs : List Bool) (b : Bool) : wbits (bs ++ [b]) = wbit (wbits bs) b := by simp [wbits]
theorem rbits_snoc (bs : List Bool) (b : Bool) : rbits (bs ++ [b]) = rbit (rbits bs) b := by simp [rbits]

/-- how the two stand to each other -/
def WR (s : List UInt8 × Nat) (r : List UInt8 × UInt8 × Nat) : Prop :=
  (s.2 = 0 ∧ s.1 = r.1 ∧ r.2.1 = 0 ∧ r.2.2 = (if r.1.getLast? = some 255 then 7 else 8)) ∨
  (1 ≤ s.2 ∧ s.2 < (if r.1.getLast? = some 255 then 7 else 8) ∧ s.1 = r.1 ++ [r.2.1] ∧ r.2.2 = s.2)

theorem WR.step {s : List UInt8 × Nat} {r : List UInt8 × UInt8 × Nat} (h : WR s r) (b : Bool) : WR (wbit s b) (rbit r b) := by
  obtain ⟨l, k⟩ := s
  obtain ⟨B, c, f⟩ := r
  rcases h with ⟨h1, h2, h3, h4⟩ | ⟨h1, h2, h3, h4⟩
  · simp only at h1 h2 h3 h4
    subst h1 h2 h3
    have hf : f = 7 ∨ f = 8 := by rw [h4]; split <;> simp
    right
    have hf1 : ¬ f = 1 := by omega
    simp only [wbit, rbit, if_true, hf1, if_false]
    rw [← h4]
    exact ⟨by omega, by omega, by simp, by first | rfl | trivial⟩
  · simp only at h1 h2 h3 h4
    subst h3 h4
    have hk : ¬ f = 0 := by omega
    by_cases hf1 : f = 1
    · subst hf1
      left
      simp [wbit, rbit]
    · right
      simp only [wbit, rbit, hk, hf1, if_false]
      exact ⟨by omega, by omega, by simp, by first | rfl | trivial⟩
theorem wr_bits (bs : List Bool) : WR (wbits bs) (rbits bs) := by
  have h : ∀ (l : List Bool) (s : List UInt8 × Nat) (r : List UInt8 × UInt8 × Nat), WR s r → WR (l.foldl wbit s) (l.foldl rbit r) := by
    intro l
    induction l with
    | nil => intro s r h; exact h
    | cons b l ih => intro s r h; exact ih _ _ (h.step b)
  exact h bs _ _ (.inl ⟨rfl, rfl, rfl, rfl⟩)
/-- both make the same bytes -/
theorem wout_rout (bs : List Bool) : wout (wbits bs) = rout (rbits bs) := by
  have h := wr_bits bs
  generalize wbits bs = s at h ⊢
  generalize rbits bs = r at h ⊢
  obtain ⟨l, k⟩ := s
  obtain ⟨B, c, f⟩ := r
  rcases h with ⟨h1, h2, h3, h4⟩ | ⟨h1, h2, h3, h4⟩
  · simp only at h1 h2 h3 h4
    subst h1 h2 h3
    have : ¬ f < (if l.getLast? = some 255 then 7 else 8) := by omega
    simp only [wout, rout, this, if_false]
  · simp only at h1 h2 h3 h4
    subst h3 h4
    simp only [wout, rout, h2, if_true]
end Go.Proofs.Ytnpoakabheeoeaa
