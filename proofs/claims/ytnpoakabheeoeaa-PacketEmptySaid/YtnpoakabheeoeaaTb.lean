/- Tag trees of the program: what they are in memory; New. -/
import Derived.Test.YtnpoakabheeoeaaSb
import Derived.Test.YtnpoakabheeoeaaTtA
import Derived.Laws.MakeOwn
namespace Go.Proofs.Ytnpoakabheeoeaa
open Go.RowKit

theorem made_flat (z : Array Value) (n : Nat) (_hz : 0 < z.size) : madeCells z (n * z.size) = (List.replicate n z.toList).flatten.toArray := by
  apply Array.ext'
  unfold madeCells
  rw [Array.toList_map, Array.toList_range]
  simp only []
  induction n with
  | zero => simp
  | succ n ih =>
    rw [Nat.succ_mul, List.range_add, List.map_append, ih, List.replicate_succ', List.flatten_append]
    congr 1
    rw [List.map_map]
    apply List.ext_getElem
    · simp
    · intro i h1 h2
      have hi : i < z.size := by simpa using h1
      simp only [List.getElem_map, List.getElem_range, Function.comp, List.flatten_cons, List.flatten_nil, List.append_nil, Nat.mul_add_mod_of_lt hi]
      simp [hi]
theorem run_made {P : Program} (t e : TypeId) (i : TypeInfo) (z : Value) (size bytes n : Nat) (ht : P.underlying t = some (.slice e)) (hi : P.info? e = some i) (hz : i.zero = some z) (hs : i.size = size) (hby : i.bytes = bytes) (hzs : z.cells.size = size) (h0 : 0 < size) (hb : bytes * n ≤ 281474976710656) (h63 : n ≤ 9223372036854775807) (W : World) :
    (Instr.makeSlice t (.int .i64 (n : Int)) (.int .i64 (n : Int))).run P W = .ok (.slice (some ⟨W.heap.size, 0, none⟩) n n) (W.alloc (.cells (List.replicate n z.cells.toList).flatten.toArray e)) := by
  subst hs hby
  have hb2 : (i.bytes : Int) * (n : Int) ≤ 281474976710656 := by
    have : ((i.bytes * n : Nat) : Int) ≤ 281474976710656 := by omega
    rwa [Int.natCast_mul] at this
  have h := run_make (P := P) W t e i z ht hi hz .i64 .i64 (n : Int) (n : Int) (by omega) (Int.le_refl _) hb2 (by omega)
  rw [h, Int.toNat_natCast, ← hzs, made_flat _ _ (by omega)]

/-! ### a tree in memory -/
def nodeV (x : NodeM) : List Value := [.int .i64 x.n, .int .i64 x.low, .bool x.said]
def nodesV (l : List NodeM) : List Value := l.flatMap nodeV
theorem nodesV_length (l : List NodeM) : (nodesV l).length = 3 * l.length := by
  induction l with
  | nil => rfl
  | cons x l ih => simp only [nodesV, List.flatMap_cons, List.length_append] at ih ⊢; rw [ih]; simp [nodeV]; omega
theorem nodesV_get (l : List NodeM) (i : Nat) (x : NodeM) (h : l[i]? = some x) : (nodesV l)[3 * i]? = some (.int .i64 x.n) ∧ (nodesV l)[3 * i + 1]? = some (.int .i64 x.low) ∧ (nodesV l)[3 * i + 2]? = some (.bool x.said) := by
  induction l generalizing i with
  | nil => simp at h
  | cons y l ih =>
    have e : nodesV (y :: l) = [.int .i64 y.n, .int .i64 y.low, .bool y.said] ++ nodesV l := by simp [nodesV, nodeV]
    rw [e]
    cases i with
    | zero => simp at h; subst h; simp
    | succ i =>
      have := ih i (by simpa using h)
      refine ⟨?_, ?_, ?_⟩
      · rw [List.getElem?_append_right (by simp; omega)]; simpa [Nat.mul_succ] using this.1
      · rw [List.getElem?_append_right (by simp; omega)]; simpa [Nat.mul_succ, Nat.add_right_comm _ 3 1] using this.2.1
      · rw [List.getElem?_append_right (by simp; omega)]; simpa [Nat.mul_succ, Nat.add_right_comm _ 3 2] using this.2.2
theorem nodesV_set (l : List NodeM) (i : Nat) (x : NodeM) (h : l[i]? = some x) (y : NodeM) :
    (nodesV (l.set i y)) = (((nodesV l).set (3 * i) (.int .i64 y.n)).set (3 * i + 1) (.int .i64 y.low)).set (3 * i + 2) (.bool y.said) := by
  induction l generalizing i with
  | nil => simp at h
  | cons z l ih =>
    have e : ∀ (q : NodeM) (m : List NodeM), nodesV (q :: m) = .int .i64 q.n :: .int .i64 q.low :: .bool q.said :: nodesV m := by intro q m; simp [nodesV, nodeV]
    cases i with
    | zero => simp [e]
    | succ i =>
      rw [List.set_cons_succ, e, e, ih i (by simpa using h)]
      simp [Nat.mul_succ]
/-- a level's node block, and the level -/
abbrev LvG := Nat × LevM
def levV (p : LvG) : List Value := [.int .i64 (p.2.w : Int), .int .i64 (p.2.h : Int), .slice (some ⟨p.1, 0, none⟩) p.2.l.length p.2.l.length]
def levsV (P : List LvG) : List Value := P.flatMap levV
theorem levsV_length (P : List LvG) : (levsV P).length = P.length * 3 := by
  induction P with
  | nil => rfl
  | cons x l ih => simp only [levsV, List.flatMap_cons, List.length_append] at ih ⊢; rw [ih]; simp [levV]; omega
theorem levsV_get (P : List LvG) (i : Nat) (p : LvG) (h : P[i]? = some p) : (levsV P)[3 * i]? = some (.int .i64 (p.2.w : Int)) ∧ (levsV P)[3 * i + 1]? = some (.int .i64 (p.2.h : Int)) ∧ (levsV P)[3 * i + 2]? = some (.slice (some ⟨p.1, 0, none⟩) p.2.l.length p.2.l.length) := by
  induction P generalizing i with
  | nil => simp at h
  | cons y l ih =>
    have e : levsV (y :: l) = [.int .i64 (y.2.w : Int), .int .i64 (y.2.h : Int), .slice (some ⟨y.1, 0, none⟩) y.2.l.length y.2.l.length] ++ levsV l := by simp [levsV, levV]
    rw [e]
    cases i with
    | zero => simp at h; subst h; simp
    | succ i =>
      have := ih i (by simpa using h)
      refine ⟨?_, ?_, ?_⟩
      · rw [List.getElem?_append_right (by simp; omega)]; simpa [Nat.mul_succ] using this.1
      · rw [List.getElem?_append_right (by simp; omega)]; simpa [Nat.mul_succ, Nat.add_right_comm _ 3 1] using this.2.1
      · rw [List.getElem?_append_right (by simp; omega)]; simpa [Nat.mul_succ, Nat.add_right_comm _ 3 2] using this.2.2
theorem levsV_one (P : List LvG) : ∀ u ∈ levsV P, u.oneCell' = true := by
  intro u hu
  simp only [levsV, List.mem_flatMap] at hu
  obtain ⟨p, -, hu⟩ := hu
  simp only [levV, List.mem_cons, List.not_mem_nil, or_false] at hu
  rcases hu with rfl | rfl | rfl <;> rfl
/-- the levels' node blocks -/
def levB (p : LvG) : HB := ⟨p.1, 145, (nodesV p.2.l).toArray⟩
def TreeH (tb : Nat) (P : List LvG) (H : List HB) : Prop := ∃ v Hl, H = ⟨tb, 139, #[v]⟩ :: (Hl ++ P.map levB) ∧ RowH 142 3 v P.length (levsV P) Hl
def levNew (w h : Nat) : LevM := ⟨w, h, List.replicate (w * h) ⟨0, 0, false⟩⟩
/-- the levels of a new tree -/
def treeNew : Nat → Nat → Nat → List LevM
  | 0, _, _ => []
  | k + 1, w, h => if w = 1 ∧ h = 1 then [levNew w h] else levNew w h :: treeNew k ((w + 1) / 2) ((h + 1) / 2)
def treeOf (w h : Int) : List LevM := if w < 1 ∨ h < 1 ∨ 64 < w ∨ 64 < h then [] else treeNew 7 w.toNat h.toNat
end Go.Proofs.Ytnpoakabheeoeaa
