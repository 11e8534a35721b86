/- Tag trees: a leaf's number is laid: what becomes of the tree; a node's cell is written. -/
import Derived.Test.YtnpoakabheeoeaaTg
namespace Go.Proofs.Ytnpoakabheeoeaa
open Go.RowKit

def shapeL (L : LevM) : Nat × Nat × Nat := (L.w, L.h, L.l.length)
theorem Dims.congr {T U : List LevM} (h : Dims T) (e : U.map shapeL = T.map shapeL) : Dims U := by
  induction T generalizing U with
  | nil => rw [List.map_nil, List.map_eq_nil_iff] at e; subst e; trivial
  | cons L T ih =>
    cases U with
    | nil => simp at e
    | cons K U =>
      simp only [List.map_cons, List.cons.injEq] at e
      obtain ⟨e1, e2⟩ := e
      simp only [shapeL, Prod.mk.injEq] at e1
      obtain ⟨a1, a2, a3⟩ := e1
      cases T with
      | nil =>
        rw [List.map_nil, List.map_eq_nil_iff] at e2
        subst e2
        obtain ⟨b1, b2, b3⟩ := h
        exact ⟨a1.trans b1, a2.trans b2, by rw [a3, a1, a2]; exact b3⟩
      | cons M T =>
        cases U with
        | nil => simp at e2
        | cons N U =>
          obtain ⟨b1, b2, b3, b4, b5, b6⟩ := h
          have e3 := e2
          simp only [List.map_cons, List.cons.injEq] at e3
          obtain ⟨c1, -⟩ := e3
          simp only [shapeL, Prod.mk.injEq] at c1
          exact ⟨by omega, by omega, by rw [a3, a1, a2]; exact b3, by omega, by omega, ih b6 e2⟩
theorem PDims.congr {P Q : List LvG} (h : PDims P) (e : Q.map (fun p => shapeL p.2) = P.map (fun p => shapeL p.2)) : PDims Q := by
  refine ⟨h.1.congr (by simpa [List.map_map, Function.comp_def] using e), fun q hq => ?_⟩
  have hm : shapeL q.2 ∈ Q.map (fun p => shapeL p.2) := List.mem_map.2 ⟨q, hq, rfl⟩
  rw [e] at hm
  obtain ⟨p, hp, hs⟩ := List.mem_map.1 hm
  have := h.2 p hp
  simp only [shapeL, Prod.mk.injEq] at hs
  omega
/-- a node is another one -/
def LevM.set_ (L : LevM) (x y : Nat) (z : NodeM) : LevM := { L with l := L.l.set (y * L.w + x) z }
theorem LevM.set_shape (L : LevM) (x y : Nat) (z : NodeM) : shapeL (L.set_ x y z) = shapeL L := by simp [shapeL, LevM.set_]
def LevM.setN (L : LevM) (x y : Nat) (n : Int) : LevM := L.set_ x y { L.at_ x y with n := n }
theorem levsV_set (P : List LvG) (i : Nat) (p : LvG) (L : LevM) (hp : P[i]? = some p) (hs : shapeL L = shapeL p.2) : levsV (P.set i (p.1, L)) = levsV P := by
  induction P generalizing i with
  | nil => simp at hp
  | cons q P ih =>
    have e : ∀ (a : LvG) (M : List LvG), levsV (a :: M) = levV a ++ levsV M := by intro a M; simp [levsV]
    cases i with
    | zero =>
      simp at hp
      subst hp
      simp only [shapeL, Prod.mk.injEq] at hs
      rw [List.set_cons_zero, e, e]
      simp [levV, hs.1, hs.2.1, hs.2.2]
    | succ i => rw [List.set_cons_succ, e, e, ih i (by simpa using hp)]
theorem Mv.upd {w0 w w' : World} {H0 : List HB} {a b b' : HB} {X Y Z : List HB} (h : Mv w0 H0 w (a :: (X ++ (Y ++ b :: Z)))) (m : Mv w [b] w' [b']) : Mv w0 H0 w' (a :: (X ++ (Y ++ b' :: Z))) := by
  have h1 : Mv w0 H0 w ([b] ++ (a :: (X ++ (Y ++ Z)))) :=
    h.sub (fun g => by simp only [cnt_append, cnt_cons, cnt_nil]; omega) (fun c hc => by simp only [List.mem_append, List.mem_cons, List.not_mem_nil, or_false] at hc ⊢; grind)
  have h2 := Mv.call h1 m
  exact h2.sub (fun g => by simp only [cnt_append, cnt_cons, cnt_nil]; omega) (fun c hc => by simp only [List.mem_append, List.mem_cons, List.not_mem_nil, or_false] at hc ⊢; grind)
/-- a node's cell is written -/
theorem tree_set {tb : Nat} {P : List LvG} {H : List HB} {w : World} (h : TreeH tb P H) (hs : Sat w H) {i : Nat} {p : LvG} (hp : P[i]? = some p) (L : LevM) (hL : shapeL L = shapeL p.2) (j : Nat) (v : Value) (hv : nodesV L.l = (nodesV p.2.l).set j v) :
    ∃ H', TreeH tb (P.set i (p.1, L)) H' ∧ Mv w H (w.setCell ⟨p.1, j, none⟩ v) H' := by
  obtain ⟨va, Hl, rfl, hr⟩ := h
  have hi := (List.getElem?_eq_some_iff.1 hp).1
  have e1 : P = P.take i ++ p :: P.drop (i + 1) := by
    have := List.getElem?_eq_some_iff.1 hp
    rw [← this.2]
    simp
  have e2 : P.map levB = (P.take i).map levB ++ levB p :: (P.drop (i + 1)).map levB := by
    conv => lhs; rw [e1]
    simp
  have e3 : (P.set i (p.1, L)).map levB = (P.take i).map levB ++ levB (p.1, L) :: (P.drop (i + 1)).map levB := by
    rw [List.set_eq_take_append_cons_drop, if_pos hi]
    simp
  have m := Mv.refl hs
  rw [e2] at hs m ⊢
  have hb : Blk w p.1 145 (nodesV p.2.l).toArray := hs.2 (levB p) (by simp)
  have m2 := mv_set hb j v
  have e4 : (nodesV p.2.l).toArray.setIfInBounds j v = (nodesV L.l).toArray := by rw [hv]; simp
  rw [e4] at m2
  refine ⟨_, ⟨va, Hl, rfl, by rw [List.length_set, levsV_set P i p L hp hL]; exact hr⟩, ?_⟩
  rw [e3]
  exact Mv.upd m m2
theorem nodes_setN (L : LevM) (x y : Nat) (n : Int) (hl : y * L.w + x < L.l.length) : nodesV (L.setN x y n).l = (nodesV L.l).set (3 * (y * L.w + x)) (.int .i64 n) := by
  have hg : L.l[y * L.w + x]? = some (L.at_ x y) := by
    unfold LevM.at_
    rw [List.getD_eq_getElem?_getD, List.getElem?_eq_getElem hl]
    rfl
  have h := nodesV_set L.l _ _ hg { L.at_ x y with n := n }
  obtain ⟨k1, k2, k3⟩ := nodesV_get _ _ _ hg
  show nodesV (L.l.set _ _) = _
  rw [h]
  simp only
  apply List.ext_getElem?
  intro q
  simp only [List.getElem?_set, List.length_set, nodesV_length]
  by_cases e2 : 3 * (y * L.w + x) + 2 = q
  · subst e2
    rw [if_pos rfl, if_pos (by omega), if_neg (by omega), k3]
  · rw [if_neg e2]
    by_cases e1 : 3 * (y * L.w + x) + 1 = q
    · subst e1
      rw [if_pos rfl, if_pos (by omega), if_neg (by omega), k2]
    · rw [if_neg e1]

def setUpP : LevM → List LvG → Nat → Nat → List LvG
  | _, [], _, _ => []
  | B, p :: R, x, y => (p.1, p.2.setN (x / 2) (y / 2) (leastM B (x / 2) (y / 2))) :: setUpP (p.2.setN (x / 2) (y / 2) (leastM B (x / 2) (y / 2))) R (x / 2) (y / 2)
/-- the tree, a leaf's number laid -/
def setP (P : List LvG) (x y : Nat) (n : Int) : List LvG :=
  match P with
  | [] => []
  | p :: R => (p.1, p.2.setN x y n) :: setUpP (p.2.setN x y n) R x y
theorem setUpP_get (B : LevM) (R : List LvG) (x y i : Nat) (p : LvG) (h : R[i]? = some p) :
    ∃ B', ((i = 0 ∧ B' = B) ∨ (0 < i ∧ ∃ g, (setUpP B R x y)[i - 1]? = some (g, B'))) ∧ (setUpP B R x y)[i]? = some (p.1, p.2.setN (x / 2 ^ (i + 1)) (y / 2 ^ (i + 1)) (leastM B' (x / 2 ^ (i + 1)) (y / 2 ^ (i + 1)))) := by
  induction R generalizing B x y i with
  | nil => simp at h
  | cons q R ih =>
    cases i with
    | zero => simp at h; subst h; exact ⟨B, .inl ⟨rfl, rfl⟩, by simp [setUpP]⟩
    | succ i =>
      obtain ⟨B', h1, h2⟩ := ih (q.2.setN (x / 2) (y / 2) (leastM B (x / 2) (y / 2))) (x / 2) (y / 2) i (by simpa using h)
      refine ⟨B', .inr ⟨by omega, ?_⟩, ?_⟩
      · rcases h1 with ⟨rfl, rfl⟩ | ⟨h0, g, hg⟩
        · exact ⟨q.1, by simp [setUpP]⟩
        · refine ⟨g, ?_⟩
          rw [Nat.add_sub_cancel]
          obtain ⟨k, rfl⟩ : ∃ k, i = k + 1 := ⟨i - 1, by omega⟩
          simpa [setUpP] using hg
      · have e : ∀ z : Nat, z / 2 / 2 ^ (i + 1) = z / 2 ^ (i + 1 + 1) := fun z => by rw [Nat.div_div_eq_div_mul, Nat.pow_succ 2 (i + 1), Nat.mul_comm (2 ^ (i + 1)) 2]
        rw [e, e] at h2
        simpa [setUpP] using h2
theorem setUpP_shape (B : LevM) (R : List LvG) (x y : Nat) : (setUpP B R x y).map (fun p => shapeL p.2) = R.map (fun p => shapeL p.2) ∧ (setUpP B R x y).map (·.1) = R.map (·.1) := by
  induction R generalizing B x y with
  | nil => exact ⟨rfl, rfl⟩
  | cons q R ih =>
    obtain ⟨h1, h2⟩ := ih (q.2.setN (x / 2) (y / 2) (leastM B (x / 2) (y / 2))) (x / 2) (y / 2)
    simp only [setUpP, List.map_cons, h1, h2, List.cons.injEq, and_true]
    exact LevM.set_shape _ _ _ _
theorem setP_shape (P : List LvG) (x y : Nat) (n : Int) : (setP P x y n).map (fun p => shapeL p.2) = P.map (fun p => shapeL p.2) ∧ (setP P x y n).map (·.1) = P.map (·.1) := by
  cases P with
  | nil => exact ⟨rfl, rfl⟩
  | cons q R =>
    obtain ⟨h1, h2⟩ := setUpP_shape (q.2.setN x y n) R x y
    simp only [setP, List.map_cons, h1, h2, List.cons.injEq, and_true]
    exact LevM.set_shape _ _ _ _
theorem setP_length (P : List LvG) (x y : Nat) (n : Int) : (setP P x y n).length = P.length := by
  have := congrArg List.length (setP_shape P x y n).2
  simpa using this
/-- each level above the leaves has the least of the one beneath -/
theorem setP_get (P : List LvG) (x y : Nat) (n : Int) (i : Nat) (p : LvG) (h : P[i + 1]? = some p) :
    ∃ g B, (setP P x y n)[i]? = some (g, B) ∧ (setP P x y n)[i + 1]? = some (p.1, p.2.setN (x / 2 ^ (i + 1)) (y / 2 ^ (i + 1)) (leastM B (x / 2 ^ (i + 1)) (y / 2 ^ (i + 1)))) := by
  cases P with
  | nil => simp at h
  | cons q R =>
    obtain ⟨B', h1, h2⟩ := setUpP_get (q.2.setN x y n) R x y i p (by simpa using h)
    rcases h1 with ⟨rfl, rfl⟩ | ⟨h0, g, hg⟩
    · exact ⟨q.1, q.2.setN x y n, by simp [setP], by simpa [setP] using h2⟩
    · obtain ⟨k, rfl⟩ : ∃ k, i = k + 1 := ⟨i - 1, by omega⟩
      exact ⟨g, B', by simpa [setP] using hg, by simpa [setP] using h2⟩
end Go.Proofs.Ytnpoakabheeoeaa
