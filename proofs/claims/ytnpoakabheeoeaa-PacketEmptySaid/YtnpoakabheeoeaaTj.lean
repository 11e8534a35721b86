/- Tag trees: what is said of a leaf; the program's Encode. -/
import Derived.Test.YtnpoakabheeoeaaTi
import Derived.Test.YtnpoakabheeoeaaBu
namespace Go.Proofs.Ytnpoakabheeoeaa
open Go.RowKit

def encL : Nat → NodeM → Int → NodeM × List Bool
  | 0, x, _ => (x, [])
  | f + 1, x, b => if x.low < b ∧ x.said = false then (if x.n ≤ x.low then ({ x with said := true }, [true]) else ((encL f { x with low := x.low + 1, said := false } b).1, false :: (encL f { x with low := x.low + 1, said := false } b).2)) else (x, [])
/-- what is said of a node; the node then -/
def encNode (x : NodeM) (low b : Int) : NodeM × List Bool := encL (b - max x.low low).toNat { x with low := max x.low low } b
structure EncR where
  t : List LvG
  low : Int
  bs : List Bool
def encP : List LvG → Nat → Nat → Int → EncR
  | [], _, _, _ => ⟨[], 0, []⟩
  | p :: R, x, y, b =>
    let r := encP R (x / 2) (y / 2) b
    let e := encNode (p.2.at_ x y) r.low b
    ⟨(p.1, p.2.set_ x y e.1) :: r.t, e.1.low, r.bs ++ e.2⟩
theorem LevM.set_set (L : LevM) (x y : Nat) (a b : NodeM) : (L.set_ x y a).set_ x y b = L.set_ x y b := by simp [LevM.set_]
theorem LevM.at_set (L : LevM) (x y : Nat) (a : NodeM) (h : y * L.w + x < L.l.length) : (L.set_ x y a).at_ x y = a := by
  unfold LevM.at_ LevM.set_
  simp only
  rw [List.getD_eq_getElem?_getD, List.getElem?_set, if_pos rfl, if_pos h]
  rfl
theorem LevM.set_at (L : LevM) (x y : Nat) (h : y * L.w + x < L.l.length) : L.set_ x y (L.at_ x y) = L := by
  have hg : L.l[y * L.w + x]? = some (L.at_ x y) := by
    unfold LevM.at_
    rw [List.getD_eq_getElem?_getD, List.getElem?_eq_getElem h]
    rfl
  have : L.l.set (y * L.w + x) (L.at_ x y) = L.l := by
    obtain ⟨h1, h2⟩ := List.getElem?_eq_some_iff.1 hg
    rw [← h2]
    exact List.set_getElem_self h1
  unfold LevM.set_
  rw [this]
theorem encP_shape (P : List LvG) (x y : Nat) (b : Int) : (encP P x y b).t.map (fun p => shapeL p.2) = P.map (fun p => shapeL p.2) ∧ (encP P x y b).t.map (·.1) = P.map (·.1) := by
  induction P generalizing x y with
  | nil => exact ⟨rfl, rfl⟩
  | cons q R ih =>
    obtain ⟨h1, h2⟩ := ih (x / 2) (y / 2)
    simp only [encP, List.map_cons, h1, h2, List.cons.injEq, and_true]
    exact LevM.set_shape _ _ _ _
theorem nodes_setZ (L : LevM) (x y : Nat) (z : NodeM) (hl : y * L.w + x < L.l.length) (f : Nat) (v : Value) (hv : (f = 1 ∧ z = { L.at_ x y with low := z.low } ∧ v = .int .i64 z.low) ∨ (f = 2 ∧ z = { L.at_ x y with said := z.said } ∧ v = .bool z.said)) :
    nodesV (L.set_ x y z).l = (nodesV L.l).set (3 * (y * L.w + x) + f) v := by
  have hg : L.l[y * L.w + x]? = some (L.at_ x y) := by
    unfold LevM.at_
    rw [List.getD_eq_getElem?_getD, List.getElem?_eq_getElem hl]
    rfl
  have h := nodesV_set L.l _ _ hg z
  obtain ⟨k1, k2, k3⟩ := nodesV_get _ _ _ hg
  show nodesV (L.l.set _ _) = _
  rw [h]
  generalize L.at_ x y = a at *
  generalize y * L.w + x = k at *
  apply List.ext_getElem?
  intro q
  simp only [List.getElem?_set, List.length_set, nodesV_length]
  rcases hv with ⟨rfl, hz, rfl⟩ | ⟨rfl, hz, rfl⟩
  · have z1 : z.n = a.n := by rw [hz]
    have z3 : z.said = a.said := by rw [hz]
    by_cases e2 : 3 * k + 2 = q
    · subst e2
      rw [if_pos rfl, if_pos (by omega), if_neg (by omega), k3, z3]
    · rw [if_neg e2]
      by_cases e1 : 3 * k + 1 = q
      · subst e1
        rw [if_pos rfl, if_pos rfl]
      · rw [if_neg e1, if_neg e1]
        by_cases e0 : 3 * k = q
        · subst e0
          rw [if_pos rfl, if_pos (by omega), k1, z1]
        · rw [if_neg e0]
  · have z1 : z.n = a.n := by rw [hz]
    have z2 : z.low = a.low := by rw [hz]
    by_cases e2 : 3 * k + 2 = q
    · subst e2
      rw [if_pos rfl, if_pos rfl]
    · rw [if_neg e2, if_neg e2]
      by_cases e1 : 3 * k + 1 = q
      · subst e1
        rw [if_pos rfl, if_pos (by omega), k2, z2]
      · rw [if_neg e1]
        by_cases e0 : 3 * k = q
        · subst e0
          rw [if_pos rfl, if_pos (by omega), k1, z1]
        · rw [if_neg e0]
theorem node_cellS {tb : Nat} {P : List LvG} {H : List HB} {w : World} (h : TreeH tb P H) (hs : Sat w H) (hd : PDims P) {i : Nat} {p : LvG} (hp : P[i]? = some p) {x y : Nat} (hx : x < p.2.w) (hy : y < p.2.h) :
    w.cell? ⟨p.1, 3 * (y * p.2.w + x), none⟩ = some (.int .i64 (p.2.at_ x y).n) ∧ w.cell? ⟨p.1, 3 * (y * p.2.w + x) + 1, none⟩ = some (.int .i64 (p.2.at_ x y).low) ∧ w.cell? ⟨p.1, 3 * (y * p.2.w + x) + 2, none⟩ = some (.bool (p.2.at_ x y).said) ∧ ∀ k, w.frozen? ⟨p.1, k, none⟩ = false :=
  node_cell (R := []) h (Mv.refl hs) hd hp hx hy
/-- a node's low, or whether it was said, is written -/
theorem tree_setZ {tb : Nat} {P : List LvG} {H : List HB} {w : World} (h : TreeH tb P H) (hs : Sat w H) (hd : PDims P) {i : Nat} {p : LvG} (hp : P[i]? = some p) {x y : Nat} (hx : x < p.2.w) (hy : y < p.2.h) (z : NodeM) (f : Nat) (v : Value)
    (hv : (f = 1 ∧ z = { p.2.at_ x y with low := z.low } ∧ v = .int .i64 z.low) ∨ (f = 2 ∧ z = { p.2.at_ x y with said := z.said } ∧ v = .bool z.said)) :
    ∃ H', TreeH tb (P.set i (p.1, p.2.set_ x y z)) H' ∧ Mv w H (w.setCell ⟨p.1, 3 * (y * p.2.w + x) + f, none⟩ v) H' :=
  tree_set h hs hp _ (LevM.set_shape _ _ _ _) _ v (nodes_setZ _ _ _ _ (by rw [(hd.get hp).1]; exact place_lt hx hy) f v hv)
end Go.Proofs.Ytnpoakabheeoeaa
