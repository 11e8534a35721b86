/- A band's trees are laid: what that is; a band's cells. -/
import Derived.Test.YtnpoakabheeoeaaPc
namespace Go.Proofs.Ytnpoakabheeoeaa
open Go.RowKit

def setUpL : LevM → List LevM → Nat → Nat → List LevM
  | _, [], _, _ => []
  | B, L :: R, x, y => L.setN (x / 2) (y / 2) (leastM B (x / 2) (y / 2)) :: setUpL (L.setN (x / 2) (y / 2) (leastM B (x / 2) (y / 2))) R (x / 2) (y / 2)
/-- a tree, a leaf's number laid -/
def setT (T : List LevM) (k : Nat) (n : Int) : List LevM :=
  match T with
  | [] => []
  | L :: R => L.setN (k % L.w) (k / L.w) n :: setUpL (L.setN (k % L.w) (k / L.w) n) R (k % L.w) (k / L.w)
theorem setUpP_map (B : LevM) (R : List LvG) (x y : Nat) : (setUpP B R x y).map (·.2) = setUpL B (R.map (·.2)) x y := by
  induction R generalizing B x y with
  | nil => rfl
  | cons p R ih =>
    show _ :: _ = _ :: _
    rw [ih]
theorem setP_map (P : List LvG) (k : Nat) (n : Int) (p0 : LvG) (h : P[0]? = some p0) : (setP P (k % p0.2.w) (k / p0.2.w) n).map (·.2) = setT (P.map (·.2)) k n := by
  cases P with
  | nil => simp at h
  | cons p R =>
    simp at h
    subst h
    show _ :: _ = _ :: _
    rw [setUpP_map]
/-- the first layer that brings passes of a block -/
def frGo (count np : Int) : Nat → Nat → Nat
  | 0, n => n
  | f + 1, n => if passN np count ((n : Int) + 1) = 0 then frGo count np f (n + 1) else n
def frN (count : Nat) (np : Nat) : Nat := frGo count np count 0
def plantStep (count : Nat) (m : BandM) (k : Nat) : BandM :=
  match m.ss[k]? with
  | none => m
  | some s => { m with first := setT m.first k (frN count s.ps.length), zeros := setT m.zeros k (max (m.planes - s.pl) 0) }
def plantM (count : Nat) (m : BandM) : BandM := if m.set then m else (List.range m.ss.length).foldl (plantStep count) { m with set := true }

/-- a block's cells -/
theorem state_cells {w : World} {lb : Nat} {G : List StG} (h : Blk w lb 70 (G.flatMap StG.v).toArray) {k : Nat} {s : StG} (hs : G[k]? = some s) :
    w.cell? ⟨lb, k * 5, none⟩ = some (.int .i64 s.m.pl) ∧ w.cell? ⟨lb, k * 5 + 1, none⟩ = some s.vp ∧ w.cell? ⟨lb, k * 5 + 2, none⟩ = some s.vb ∧ w.cell? ⟨lb, k * 5 + 3, none⟩ = some (.int .i64 s.m.said) ∧ w.cell? ⟨lb, k * 5 + 4, none⟩ = some (.int .i64 s.m.lb) ∧ ∀ i, w.frozen? ⟨lb, i, none⟩ = false := by
  have g := fun j (hj : j < 5) => flat_get StG.v 5 StG.v_length G k s hs j hj
  have c := fun i => h.cell i
  simp only [List.getElem?_toArray] at c
  refine ⟨?_, ?_, ?_, ?_, ?_, fun i => h.frozen i⟩
  · rw [c]; exact g 0 (by omega)
  · rw [c]; exact g 1 (by omega)
  · rw [c]; exact g 2 (by omega)
  · rw [c]; exact g 3 (by omega)
  · rw [c]; exact g 4 (by omega)
theorem BandG.mem_band (b : BandG) (d : BandA) : bandB b d ∈ b.heap d := List.mem_cons_self
theorem BandG.mem_states (b : BandG) (d : BandA) : statesB b d ∈ b.heap d := List.mem_cons_of_mem _ List.mem_cons_self
theorem Mv.blkm {w0 w : World} {H0 H : List HB} (h : Mv w0 H0 w H) {x : HB} (hx : x ∈ H) : Blk w x.g x.t x.cs := h.sat.2 x hx
end Go.Proofs.Ytnpoakabheeoeaa
