/- Tag trees: what they are. Tag trees of the program: what they are in memory; New. Tag trees of the program: a level's places; a new level; New. -/
import Derived.Test.YtnpoakabheeoeaaLib
import Derived.Test.YtnpoakabheeoeaaSb
import Derived.Laws.MakeOwn
namespace Go.Proofs.Ytnpoakabheeoeaa

structure NodeM where
  n : Int
  low : Int
  said : Bool
structure LevM where
  w : Nat
  h : Nat
  l : List NodeM
/-- levels, the leaves first: each is half as wide and high as the one beneath, the last has one node -/
def Dims : List LevM → Prop
  | [] => True
  | [L] => L.w = 1 ∧ L.h = 1 ∧ L.l.length = L.w * L.h
  | L :: M :: T => 1 ≤ L.w ∧ 1 ≤ L.h ∧ L.l.length = L.w * L.h ∧ M.w = (L.w + 1) / 2 ∧ M.h = (L.h + 1) / 2 ∧ Dims (M :: T)
theorem Dims.len {T : List LevM} (h : Dims T) {i : Nat} {L : LevM} (hL : T[i]? = some L) : L.l.length = L.w * L.h := by
  induction T generalizing i with
  | nil => simp at hL
  | cons L0 T ih =>
    cases T with
    | nil =>
      cases i with
      | zero => simp at hL; subst hL; exact h.2.2
      | succ i => simp at hL
    | cons M T =>
      cases i with
      | zero => simp at hL; subst hL; exact h.2.2.1
      | succ i => exact ih h.2.2.2.2.2 (by simpa using hL)
/-- a place, seen from level i -/
theorem Dims.at_ {T : List LevM} (h : Dims T) {L0 : LevM} {x y : Nat} (h0 : T[0]? = some L0) (hx : x < L0.w) (hy : y < L0.h) {i : Nat} {L : LevM} (hL : T[i]? = some L) : x / 2 ^ i < L.w ∧ y / 2 ^ i < L.h := by
  induction T generalizing i L0 x y with
  | nil => simp at hL
  | cons K T ih =>
    simp at h0
    subst h0
    cases i with
    | zero => simp at hL; subst hL; simpa using ⟨hx, hy⟩
    | succ i =>
      cases T with
      | nil => simp at hL
      | cons M T =>
        obtain ⟨-, -, -, hw, hh, hd⟩ := h
        have := ih (L0 := M) (x := x / 2) (y := y / 2) hd (by simp) (by omega) (by omega) (i := i) (by simpa using hL)
        rw [Nat.div_div_eq_div_mul, Nat.div_div_eq_div_mul] at this
        rw [Nat.pow_succ, Nat.mul_comm (2 ^ i) 2]
        exact this
theorem place_lt {x y w h : Nat} (hx : x < w) (hy : y < h) : y * w + x < w * h := by
  have : (y + 1) * w ≤ h * w := Nat.mul_le_mul_right w hy
  rw [Nat.add_mul, Nat.one_mul] at this
  rw [Nat.mul_comm w h]
  omega
end Go.Proofs.Ytnpoakabheeoeaa
namespace Go.Proofs.Ytnpoakabheeoeaa
open Go.RowKit

theorem made_flat (z : Array Value) (n : Nat) (_hz : 0 < z.size) : madeCells z (n * z.size) = (List.replicate n z.toList).flatten.toArray := by
  apply Array.ext'
  unfold madeCells
  rw [Array.toList_map, Array.toList_range]
  simp only []
  induction n with
  | zero => simp
  | succ n ih =>
    rw [Nat.succ_mul, List.range_add, List.map_append, ih, List.replicate_succ', List.flatten_append]
    congr 1
    rw [List.map_map]
    apply List.ext_getElem
    · simp
    · intro i h1 h2
      have hi : i < z.size := by simpa using h1
      simp only [List.getElem_map, List.getElem_range, Function.comp, List.flatten_cons, List.flatten_nil, List.append_nil, Nat.mul_add_mod_of_lt hi]
      simp [hi]
theorem run_made {P : Program} (t e : TypeId) (i : TypeInfo) (z : Value) (size bytes n : Nat) (ht : P.underlying t = some (.slice e)) (hi : P.info? e = some i) (hz : i.zero = some z) (hs : i.size = size) (hby : i.bytes = bytes) (hzs : z.cells.size = size) (h0 : 0 < size) (hb : bytes * n ≤ 281474976710656) (h63 : n ≤ 9223372036854775807) (W : World) :
    (Instr.makeSlice t (.int .i64 (n : Int)) (.int .i64 (n : Int))).run P W = .ok (.slice (some ⟨W.heap.size, 0, none⟩) n n) (W.alloc (.cells (List.replicate n z.cells.toList).flatten.toArray e)) := by
  subst hs hby
  have hb2 : (i.bytes : Int) * (n : Int) ≤ 281474976710656 := by
    have : ((i.bytes * n : Nat) : Int) ≤ 281474976710656 := by omega
    rwa [Int.natCast_mul] at this
  have h := run_make (P := P) W t e i z ht hi hz .i64 .i64 (n : Int) (n : Int) (by omega) (Int.le_refl _) hb2 (by omega)
  rw [h, Int.toNat_natCast, ← hzs, made_flat _ _ (by omega)]

/-! ### a tree in memory -/
def nodeV (x : NodeM) : List Value := [.int .i64 x.n, .int .i64 x.low, .bool x.said]
def nodesV (l : List NodeM) : List Value := l.flatMap nodeV
theorem nodesV_length (l : List NodeM) : (nodesV l).length = 3 * l.length := by
  induction l with
  | nil => rfl
  | cons x l ih => simp only [nodesV, List.flatMap_cons, List.length_append] at ih ⊢; rw [ih]; simp [nodeV]; omega
theorem nodesV_get (l : List NodeM) (i : Nat) (x : NodeM) (h : l[i]? = some x) : (nodesV l)[3 * i]? = some (.int .i64 x.n) ∧ (nodesV l)[3 * i + 1]? = some (.int .i64 x.low) ∧ (nodesV l)[3 * i + 2]? = some (.bool x.said) := by
  induction l generalizing i with
  | nil => simp at h
  | cons y l ih =>
    have e : nodesV (y :: l) = [.int .i64 y.n, .int .i64 y.low, .bool y.said] ++ nodesV l := by simp [nodesV, nodeV]
    rw [e]
    cases i with
    | zero => simp at h; subst h; simp
    | succ i =>
      have := ih i (by simpa using h)
      refine ⟨?_, ?_, ?_⟩
      · rw [List.getElem?_append_right (by simp; omega)]; simpa [Nat.mul_succ] using this.1
      · rw [List.getElem?_append_right (by simp; omega)]; simpa [Nat.mul_succ, Nat.add_right_comm _ 3 1] using this.2.1
      · rw [List.getElem?_append_right (by simp; omega)]; simpa [Nat.mul_succ, Nat.add_right_comm _ 3 2] using this.2.2
theorem nodesV_set (l : List NodeM) (i : Nat) (x : NodeM) (h : l[i]? = some x) (y : NodeM) :
    (nodesV (l.set i y)) = (((nodesV l).set (3 * i) (.int .i64 y.n)).set (3 * i + 1) (.int .i64 y.low)).set (3 * i + 2) (.bool y.said) := by
  induction l generalizing i with
  | nil => simp at h
  | cons z l ih =>
    have e : ∀ (q : NodeM) (m : List NodeM), nodesV (q :: m) = .int .i64 q.n :: .int .i64 q.low :: .bool q.said :: nodesV m := by intro q m; simp [nodesV, nodeV]
    cases i with
    | zero => simp [e]
    | succ i =>
      rw [List.set_cons_succ, e, e, ih i (by simpa using h)]
      simp [Nat.mul_succ]
/-- a level's node block, and the level -/
abbrev LvG := Nat × LevM
def levV (p : LvG) : List Value := [.int .i64 (p.2.w : Int), .int .i64 (p.2.h : Int), .slice (some ⟨p.1, 0, none⟩) p.2.l.length p.2.l.length]
def levsV (P : List LvG) : List Value := P.flatMap levV
theorem levsV_length (P : List LvG) : (levsV P).length = P.length * 3 := by
  induction P with
  | nil => rfl
  | cons x l ih => simp only [levsV, List.flatMap_cons, List.length_append] at ih ⊢; rw [ih]; simp [levV]; omega
theorem levsV_get (P : List LvG) (i : Nat) (p : LvG) (h : P[i]? = some p) : (levsV P)[3 * i]? = some (.int .i64 (p.2.w : Int)) ∧ (levsV P)[3 * i + 1]? = some (.int .i64 (p.2.h : Int)) ∧ (levsV P)[3 * i + 2]? = some (.slice (some ⟨p.1, 0, none⟩) p.2.l.length p.2.l.length) := by
  induction P generalizing i with
  | nil => simp at h
  | cons y l ih =>
    have e : levsV (y :: l) = [.int .i64 (y.2.w : Int), .int .i64 (y.2.h : Int), .slice (some ⟨y.1, 0, none⟩) y.2.l.length y.2.l.length] ++ levsV l := by simp [levsV, levV]
    rw [e]
    cases i with
    | zero => simp at h; subst h; simp
    | succ i =>
      have := ih i (by simpa using h)
      refine ⟨?_, ?_, ?_⟩
      · rw [List.getElem?_append_right (by simp; omega)]; simpa [Nat.mul_succ] using this.1
      · rw [List.getElem?_append_right (by simp; omega)]; simpa [Nat.mul_succ, Nat.add_right_comm _ 3 1] using this.2.1
      · rw [List.getElem?_append_right (by simp; omega)]; simpa [Nat.mul_succ, Nat.add_right_comm _ 3 2] using this.2.2
theorem levsV_one (P : List LvG) : ∀ u ∈ levsV P, u.oneCell' = true := by
  intro u hu
  simp only [levsV, List.mem_flatMap] at hu
  obtain ⟨p, -, hu⟩ := hu
  simp only [levV, List.mem_cons, List.not_mem_nil, or_false] at hu
  rcases hu with rfl | rfl | rfl <;> rfl
/-- the levels' node blocks -/
def levB (p : LvG) : HB := ⟨p.1, 145, (nodesV p.2.l).toArray⟩
def TreeH (tb : Nat) (P : List LvG) (H : List HB) : Prop := ∃ v Hl, H = ⟨tb, 139, #[v]⟩ :: (Hl ++ P.map levB) ∧ RowH 142 3 v P.length (levsV P) Hl
def levNew (w h : Nat) : LevM := ⟨w, h, List.replicate (w * h) ⟨0, 0, false⟩⟩
/-- the levels of a new tree -/
def treeNew : Nat → Nat → Nat → List LevM
  | 0, _, _ => []
  | k + 1, w, h => if w = 1 ∧ h = 1 then [levNew w h] else levNew w h :: treeNew k ((w + 1) / 2) ((h + 1) / 2)
def treeOf (w h : Int) : List LevM := if w < 1 ∨ h < 1 ∨ 64 < w ∨ 64 < h then [] else treeNew 7 w.toNat h.toNat
end Go.Proofs.Ytnpoakabheeoeaa
namespace Go.Proofs.Ytnpoakabheeoeaa
open Go.RowKit

set_option maxRecDepth 100000 in
/-- a place's node -/
theorem grid_at (w h g n c x y : Nat) (W : World) (hxy : y * w + x < n) (hx : x ≤ 1000) (hy : y ≤ 1000) (hw : w ≤ 1000) (hn : n ≤ 100000000) :
    Calls Try.prog 81 #[.agg #[.int .i64 (w : Int), .int .i64 (h : Int), .slice (some ⟨g, 0, none⟩) n c], .int .i64 (x : Int), .int .i64 (y : Int)] W fun e W' =>
      e = .returned (.pointer (some ⟨g, 3 * (y * w + x), none⟩)) ∧ Mv W [] W' [] := by
  have hp : y * w ≤ 1000000 := by
    have := Nat.mul_le_mul hy hw
    omega
  have M := Lib.hid (mv_alloc W 142 #[.int .i64 (w : Int), .int .i64 (h : Int), .slice (some ⟨g, 0, none⟩) n c])
  have hlt : (y : Int) * (w : Int) + (x : Int) < (n : Int) := by exact_mod_cast hxy
  have hge0 : (0 : Int) ≤ (y : Int) * (w : Int) := Int.mul_nonneg (by omega) (by omega)
  have hge : (0 : Int) ≤ (y : Int) * (w : Int) + (x : Int) := by omega
  have htn : ((y : Int) * (w : Int) + (x : Int)).toNat = y * w + x := by
    rw [show (y : Int) * (w : Int) + (x : Int) = ((y * w + x : Nat) : Int) from by push_cast; rfl, Int.toNat_natCast]
  go_enter Try.func81, Try.ntmps81
  go_wp2_with fail
  go_ret
  refine ⟨?_, M.out.drop1⟩
  first | rfl | (simp [Nat.mul_comm]; done) | trace_state

theorem infoNode : (Try.prog.info? 145).map (fun i => (i.zero, i.size, i.bytes)) = some (some (.agg #[.int .i64 0, .int .i64 0, .bool false]), 3, 24) := by kernel_rfl
theorem flat_nodes (n : Nat) : (List.replicate n (Value.agg #[.int .i64 0, .int .i64 0, .bool false]).cells.toList).flatten = nodesV (List.replicate n ⟨0, 0, false⟩) := by
  induction n with
  | zero => rfl
  | succ n ih => rw [List.replicate_succ, List.replicate_succ, List.flatten_cons, ih]; rfl

set_option maxRecDepth 100000 in
/-- a new level -/
theorem grid_new (w h : Nat) (W : World) (hw : w ≤ 64) (hh : h ≤ 64) :
    Calls Try.prog 65 #[.int .i64 (w : Int), .int .i64 (h : Int)] W fun e W' =>
      ∃ g, e = .returned (.agg (levV (g, levNew w h)).toArray) ∧ Mv W [] W' [levB (g, levNew w h)] := by
  have hp : w * h ≤ 4096 := Nat.mul_le_mul hw hh
  obtain ⟨i0, hi, hz0, hz1, hz2⟩ := info_parts infoNode
  have hm := fun W => run_made (P := Try.prog) 140 145 i0 _ 3 24 (w * h) Try.underlying140 hi hz0 hz1 hz2 rfl (by decide) (by omega) (by omega) W
  rw [flat_nodes] at hm
  simp only [Int.natCast_mul] at hm
  go_enter Try.func65, Try.ntmps65
  go_wp2_with fail
  have M1 := mv_alloc W 142 #[.int .i64 (w : Int), .int .i64 (h : Int), .slice (some ⟨W.heap.size + 1, 0, none⟩) (w * h) (w * h)]
  have M2 := M1.alloc 145 (nodesV (List.replicate (w * h) ⟨0, 0, false⟩)).toArray
  refine bodyPost_ret (v := .agg #[.int .i64 (w : Int), .int .i64 (h : Int), .slice (some ⟨W.heap.size + 1, 0, none⟩) (w * h) (w * h)]) (results_cell_row Try.results65 _ _ W.heap.size 142 _ (0, 0) _ rfl (M2.blk 1 rfl) Try.underlying142 rfl (by kernel_rfl)) rfl ?_
  refine ⟨W.heap.size + 1, by simp [levV, levNew], ?_⟩
  have M3 := Mv.drop2 (A := [_]) (B := [_]) (H := []) M2
  simpa [levB, levNew] using M3

theorem infoGrid : (Try.prog.info? 142).map (fun i => (i.zero, i.size, i.bytes)) = some (some (.agg #[.int .i64 0, .int .i64 0, .slice none 0 0]), 3, 40) := by kernel_rfl
theorem run_appG {w : World} {v : Value} {P : List LvG} {p : LvG} {H : List HB} {wb : World} (h : RowH 142 3 v P.length (levsV P) H) (hs : Sat w H) (hw : w = wb.alloc (.cells (levV p).toArray 142)) (hl : P.length ≤ 1000) (ty : TypeId) :
    ∃ v' w' H', (Builtin.append_ #[137, 137] ty #[v, .slice (some ⟨wb.heap.size, 0, none⟩) 1 1]).run Try.prog w = .ok v' w' ∧ RowH 142 3 v' (P ++ [p]).length (levsV (P ++ [p])) H' ∧ Mv w H w' H' := by
  obtain ⟨i0, hti, hz0, hz1, hz2⟩ := info_parts infoGrid
  have hr : Reads w w.heap.size 3 (some ⟨wb.heap.size, 0, none⟩) 1 (levV p) := by
    refine ⟨rfl, fun _ => ⟨_, rfl, by rw [hw]; simp, fun j u hu => ?_⟩⟩
    rw [hw]
    exact news_block wb (levV p).toArray _ j u (by simpa using hu)
  obtain ⟨v', w', hrun, k1, k2, k3⟩ := run_append_any (P := Try.prog) w 0 137 ty 142 i0 _ 3 40 Try.underlying137 hti hz0 hz1 hz2 rfl (by decide) v P.length (levsV P) (RowH.owns h hs (fun _ _ => Nat.zero_le _)) w.heap.size _ 1 1 (levV p) hr (fun u hu => levsV_one [p] u (by simpa [levsV] using hu)) (by unfold maxLen; omega) (by omega) (Nat.zero_le _)
  obtain ⟨H', k4, k5⟩ := mv_owns_grown h k1 k2 k3
  refine ⟨v', w', H', hrun, ?_, k5⟩
  rw [List.length_append]
  simpa [levsV] using k4
section
variable {ops : Array Oper} {rest : List Oper} {o : Oper} {a : Act} {w : World} {K : Act → World → Prop} {Q : Exit → Act → World → Prop} {E : Prop}
theorem wp_appG {v : Value} {P : List LvG} {p : LvG} {H : List HB} {wb : World} (s x : Operand) (ho : o.op = .call { callee := .builtin .append, args := #[s, x], argTypes := #[137, 137] })
    (hsv : a.eval s = v) (hxu : a.eval x = .slice (some ⟨wb.heap.size, 0, none⟩) 1 1) (h : RowH 142 3 v P.length (levsV P) H) (hs : Sat w H) (hw : w = wb.alloc (.cells (levV p).toArray 142)) (hl : P.length ≤ 1000)
    (hK : ∀ v' w' H', RowH 142 3 v' (P ++ [p]).length (levsV (P ++ [p])) H' → Mv w H w' H' → K (a.put o.dst v') w') : o.wp Try.prog a w K Q := by
  obtain ⟨v', w', H', hrun, h1, h2⟩ := run_appG h hs hw hl o.type
  unfold Oper.wp execOp
  simp only [ho, resolve, invoke, builtin, Sem.run_bind, Sem.run_pure, Result.andThen_ok, List.map_toArray, List.map_cons, List.map_nil, hsv, hxu, hrun]
  exact hK v' w' H' h1 h2
theorem step_appG {v : Value} {P : List LvG} {p : LvG} {H : List HB} {wb : World} (hgd : o.guard = none) (s x : Operand) (ho : o.op = .call { callee := .builtin .append, args := #[s, x], argTypes := #[137, 137] })
    (hsv : a.eval s = v) (hxu : a.eval x = .slice (some ⟨wb.heap.size, 0, none⟩) 1 1) (h : RowH 142 3 v P.length (levsV P) H) (hs : Sat w H) (hw : w = wb.alloc (.cells (levV p).toArray 142)) (hl : P.length ≤ 1000)
    (hK : ∀ v' w' H', RowH 142 3 v' (P ++ [p]).length (levsV (P ++ [p])) H' → Mv w H w' H' → K (a.put o.dst v') w') : if Region.wanted o (yielded ops a.tmps) = true then Oper.wp Try.prog o a w K Q else E := by
  have hwt : Region.wanted o (yielded ops a.tmps) = true := by simp [Region.wanted, hgd]
  rw [if_pos hwt]
  exact wp_appG s x ho hsv hxu h hs hw hl hK
end
end Go.Proofs.Ytnpoakabheeoeaa
