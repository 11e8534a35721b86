/- Tag trees of the program: a node on the way, while something is said of it. -/
import Derived.Test.YtnpoakabheeoeaaTj
namespace Go.Proofs.Ytnpoakabheeoeaa
open Go.RowKit

/-- the tree's m-th level's node at (X, Y) is z; these bits were written -/
def Sta (w0 : World) (H0 : List HB) (w : World) (tb wb : Nat) (T : List LvG) (m : Nat) (p : LvG) (X Y : Nat) (z : NodeM) (bs : List Bool) (Hn : List HB) : Prop :=
  ∃ HT HW, TreeH tb (T.set m (p.1, p.2.set_ X Y z)) HT ∧ WrB wb bs HW ∧ Mv w0 H0 w (HW ++ (HT ++ Hn))
section
variable {w0 w : World} {H0 : List HB} {tb wb : Nat} {T : List LvG} {m : Nat} {p : LvG} {X Y : Nat} {z : NodeM} {bs : List Bool} {Hn : List HB}
theorem setT_shape (hp : T[m]? = some p) (z : NodeM) : (T.set m (p.1, p.2.set_ X Y z)).map (fun p => shapeL p.2) = T.map (fun p => shapeL p.2) := by
  rw [List.map_set]
  have hm := (List.getElem?_eq_some_iff.1 hp).1
  obtain ⟨h1, h2⟩ := List.getElem?_eq_some_iff.1 hp
  rw [show shapeL (p.1, p.2.set_ X Y z).2 = (T.map (fun p => shapeL p.2))[m]'(by simpa using h1) from by simp [h2, LevM.set_shape]]
  exact List.set_getElem_self _
theorem Sta.cells (h : Sta w0 H0 w tb wb T m p X Y z bs Hn) (hd : PDims T) (hp : T[m]? = some p) (hx : X < p.2.w) (hy : Y < p.2.h) :
    w.cell? ⟨p.1, 3 * (Y * p.2.w + X), none⟩ = some (.int .i64 z.n) ∧ w.cell? ⟨p.1, 3 * (Y * p.2.w + X) + 1, none⟩ = some (.int .i64 z.low) ∧ w.cell? ⟨p.1, 3 * (Y * p.2.w + X) + 2, none⟩ = some (.bool z.said) ∧ ∀ k, w.frozen? ⟨p.1, k, none⟩ = false := by
  obtain ⟨HT, HW, h1, h2, h3⟩ := h
  have hm := (List.getElem?_eq_some_iff.1 hp).1
  have := node_cellS h1 h3.sat.right.left (hd.congr (setT_shape hp z)) (i := m) (p := (p.1, p.2.set_ X Y z)) (by rw [List.getElem?_set, if_pos rfl, if_pos hm]) (x := X) (y := Y) hx hy
  rw [LevM.at_set _ _ _ _ (by rw [(hd.get hp).1]; exact place_lt hx hy)] at this
  exact this
theorem Sta.set (h : Sta w0 H0 w tb wb T m p X Y z bs Hn) (hd : PDims T) (hp : T[m]? = some p) (hx : X < p.2.w) (hy : Y < p.2.h) (z' : NodeM) (f : Nat) (v : Value)
    (hv : (f = 1 ∧ z' = { z with low := z'.low } ∧ v = .int .i64 z'.low) ∨ (f = 2 ∧ z' = { z with said := z'.said } ∧ v = .bool z'.said)) :
    Sta w0 H0 (w.setCell ⟨p.1, 3 * (Y * p.2.w + X) + f, none⟩ v) tb wb T m p X Y z' bs Hn := by
  obtain ⟨HT, HW, h1, h2, h3⟩ := h
  have hm := (List.getElem?_eq_some_iff.1 hp).1
  have ha := LevM.at_set p.2 X Y z (by rw [(hd.get hp).1]; exact place_lt hx hy)
  obtain ⟨HT', k1, k2⟩ := tree_setZ h1 h3.sat.right.left (hd.congr (setT_shape hp z)) (i := m) (p := (p.1, p.2.set_ X Y z)) (by rw [List.getElem?_set, if_pos rfl, if_pos hm]) (x := X) (y := Y) hx hy z' f v (by rw [ha]; exact hv)
  rw [List.set_set, LevM.set_set] at k1
  exact ⟨HT', HW, k1, h2, Mv.mv1 (A := HT') (B := HW) (R := Hn) (Mv.call (Mv.mv1 (A := HW) (B := HT) (R := Hn) h3) k2)⟩
theorem Sta.bit (h : Sta w0 H0 w tb wb T m p X Y z bs Hn) (b : Int) (hl : bs.length ≤ 80000000) :
    Calls Try.prog 58 #[.pointer (some ⟨wb, 0, none⟩), .int .i64 b] w fun e w' => e = .returned (.tuple #[]) ∧ Sta w0 H0 w' tb wb T m p X Y z (bs ++ [decide (b % 2 = 1)]) Hn := by
  obtain ⟨HT, HW, h1, h2, h3⟩ := h
  refine (bit_any wb bs b w HW h2 h3.sat.left hl).mono ?_
  rintro e w' ⟨rfl, HW', k1, k2⟩
  exact ⟨rfl, HT, HW', h1, k1, Mv.call h3 k2⟩
theorem Sta.drew (h : Sta w0 H0 w tb wb T m p X Y z bs Hn) : Sta w0 H0 w.drew tb wb T m p X Y z bs Hn := by
  obtain ⟨HT, HW, h1, h2, h3⟩ := h
  exact ⟨HT, HW, h1, h2, h3.drew⟩
theorem Sta.sat (h : Sta w0 H0 w tb wb T m p X Y z bs Hn) : Sat w Hn := by
  obtain ⟨HT, HW, h1, h2, h3⟩ := h
  exact h3.sat.right.right
end
theorem encL_inv : ∀ (f : Nat) (x : NodeM) (b : Int), (encL f x b).2.length ≤ f ∧ x.low ≤ (encL f x b).1.low
  | 0, x, b => ⟨by simp [encL], Int.le_refl _⟩
  | f + 1, x, b => by
    unfold encL
    split
    · split
      · exact ⟨by simp, Int.le_refl _⟩
      · obtain ⟨h1, h2⟩ := encL_inv f { x with low := x.low + 1, said := false } b
        refine ⟨by simp only [List.length_cons]; omega, ?_⟩
        simp only at h2 ⊢
        omega
    · exact ⟨by simp, Int.le_refl _⟩
theorem encP_inv (P : List LvG) (x y : Nat) (b : Int) : 0 ≤ (encP P x y b).low ∧ (encP P x y b).bs.length ≤ P.length * b.toNat := by
  induction P generalizing x y with
  | nil => exact ⟨Int.le_refl _, by simp [encP]⟩
  | cons q R ih =>
    obtain ⟨h1, h2⟩ := ih (x / 2) (y / 2)
    obtain ⟨k1, k2⟩ := encL_inv (b - max (q.2.at_ x y).low (encP R (x / 2) (y / 2) b).low).toNat { q.2.at_ x y with low := max (q.2.at_ x y).low (encP R (x / 2) (y / 2) b).low } b
    simp only [encP, encNode]
    refine ⟨?_, ?_⟩
    · simp only at k2
      omega
    · rw [List.length_append, List.length_cons, Nat.succ_mul]
      exact Nat.add_le_add h2 (Nat.le_trans k1 (by omega))
/-- while nothing was said: the two ways on -/
theorem encL_said (f : Nat) (x : NodeM) (b : Int) (h : ¬ (x.low < b ∧ x.said = false)) : encL f x b = (x, []) := by
  cases f with
  | zero => rfl
  | succ f => unfold encL; rw [if_neg h]
theorem encL_one (f : Nat) (x : NodeM) (b : Int) (h : x.low < b ∧ x.said = false) (hn : x.n ≤ x.low) (hf : f = (b - x.low).toNat) : encL f x b = ({ x with said := true }, [true]) := by
  cases f with
  | zero => omega
  | succ f => unfold encL; rw [if_pos h, if_pos hn]
theorem encL_zero (f : Nat) (x : NodeM) (b : Int) (h : x.low < b ∧ x.said = false) (hn : ¬ x.n ≤ x.low) (hf : f = (b - x.low).toNat) : f = (b - (x.low + 1)).toNat + 1 ∧ encL f x b = ((encL (b - (x.low + 1)).toNat { x with low := x.low + 1, said := false } b).1, false :: (encL (b - (x.low + 1)).toNat { x with low := x.low + 1, said := false } b).2) := by
  obtain ⟨f', rfl⟩ : ∃ f', f = f' + 1 := ⟨f - 1, by omega⟩
  have e : f' = (b - (x.low + 1)).toNat := by omega
  refine ⟨by omega, ?_⟩
  rw [← e]
  conv => lhs; unfold encL
  rw [if_pos h, if_neg hn]
end Go.Proofs.Ytnpoakabheeoeaa
