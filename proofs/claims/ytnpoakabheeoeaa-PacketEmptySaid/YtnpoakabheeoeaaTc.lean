/- Tag trees of the program: a level's places; a new level; New. -/
import Derived.Test.YtnpoakabheeoeaaTb
namespace Go.Proofs.Ytnpoakabheeoeaa
open Go.RowKit

set_option maxRecDepth 100000 in
/-- a place's node -/
theorem grid_at (w h g n c x y : Nat) (W : World) (hxy : y * w + x < n) (hx : x ≤ 1000) (hy : y ≤ 1000) (hw : w ≤ 1000) (hn : n ≤ 100000000) :
    Calls Try.prog 81 #[.agg #[.int .i64 (w : Int), .int .i64 (h : Int), .slice (some ⟨g, 0, none⟩) n c], .int .i64 (x : Int), .int .i64 (y : Int)] W fun e W' =>
      e = .returned (.pointer (some ⟨g, 3 * (y * w + x), none⟩)) ∧ Mv W [] W' [] := by
  have hp : y * w ≤ 1000000 := by
    have := Nat.mul_le_mul hy hw
    omega
  have M := Lib.hid (mv_alloc W 142 #[.int .i64 (w : Int), .int .i64 (h : Int), .slice (some ⟨g, 0, none⟩) n c])
  have hlt : (y : Int) * (w : Int) + (x : Int) < (n : Int) := by exact_mod_cast hxy
  have hge0 : (0 : Int) ≤ (y : Int) * (w : Int) := Int.mul_nonneg (by omega) (by omega)
  have hge : (0 : Int) ≤ (y : Int) * (w : Int) + (x : Int) := by omega
  have htn : ((y : Int) * (w : Int) + (x : Int)).toNat = y * w + x := by
    rw [show (y : Int) * (w : Int) + (x : Int) = ((y * w + x : Nat) : Int) from by push_cast; rfl, Int.toNat_natCast]
  go_enter Try.func81, Try.ntmps81
  go_wp2_with fail
  go_ret
  refine ⟨?_, M.out.drop1⟩
  first | rfl | (simp [Nat.mul_comm]; done) | trace_state

theorem infoNode : (Try.prog.info? 145).map (fun i => (i.zero, i.size, i.bytes)) = some (some (.agg #[.int .i64 0, .int .i64 0, .bool false]), 3, 24) := by kernel_rfl
theorem flat_nodes (n : Nat) : (List.replicate n (Value.agg #[.int .i64 0, .int .i64 0, .bool false]).cells.toList).flatten = nodesV (List.replicate n ⟨0, 0, false⟩) := by
  induction n with
  | zero => rfl
  | succ n ih => rw [List.replicate_succ, List.replicate_succ, List.flatten_cons, ih]; rfl

set_option maxRecDepth 100000 in
/-- a new level -/
theorem grid_new (w h : Nat) (W : World) (hw : w ≤ 64) (hh : h ≤ 64) :
    Calls Try.prog 65 #[.int .i64 (w : Int), .int .i64 (h : Int)] W fun e W' =>
      ∃ g, e = .returned (.agg (levV (g, levNew w h)).toArray) ∧ Mv W [] W' [levB (g, levNew w h)] := by
  have hp : w * h ≤ 4096 := Nat.mul_le_mul hw hh
  obtain ⟨i0, hi, hz0, hz1, hz2⟩ := info_parts infoNode
  have hm := fun W => run_made (P := Try.prog) 140 145 i0 _ 3 24 (w * h) Try.underlying140 hi hz0 hz1 hz2 rfl (by decide) (by omega) (by omega) W
  rw [flat_nodes] at hm
  simp only [Int.natCast_mul] at hm
  go_enter Try.func65, Try.ntmps65
  go_wp2_with fail
  have M1 := mv_alloc W 142 #[.int .i64 (w : Int), .int .i64 (h : Int), .slice (some ⟨W.heap.size + 1, 0, none⟩) (w * h) (w * h)]
  have M2 := M1.alloc 145 (nodesV (List.replicate (w * h) ⟨0, 0, false⟩)).toArray
  refine bodyPost_ret (v := .agg #[.int .i64 (w : Int), .int .i64 (h : Int), .slice (some ⟨W.heap.size + 1, 0, none⟩) (w * h) (w * h)]) (results_cell_row Try.results65 _ _ W.heap.size 142 _ (0, 0) _ rfl (M2.blk 1 rfl) Try.underlying142 rfl (by kernel_rfl)) rfl ?_
  refine ⟨W.heap.size + 1, by simp [levV, levNew], ?_⟩
  have M3 := Mv.drop2 (A := [_]) (B := [_]) (H := []) M2
  simpa [levB, levNew] using M3

theorem infoGrid : (Try.prog.info? 142).map (fun i => (i.zero, i.size, i.bytes)) = some (some (.agg #[.int .i64 0, .int .i64 0, .slice none 0 0]), 3, 40) := by kernel_rfl
theorem run_appG {w : World} {v : Value} {P : List LvG} {p : LvG} {H : List HB} {wb : World} (h : RowH 142 3 v P.length (levsV P) H) (hs : Sat w H) (hw : w = wb.alloc (.cells (levV p).toArray 142)) (hl : P.length ≤ 1000) (ty : TypeId) :
    ∃ v' w' H', (Builtin.append_ #[137, 137] ty #[v, .slice (some ⟨wb.heap.size, 0, none⟩) 1 1]).run Try.prog w = .ok v' w' ∧ RowH 142 3 v' (P ++ [p]).length (levsV (P ++ [p])) H' ∧ Mv w H w' H' := by
  obtain ⟨i0, hti, hz0, hz1, hz2⟩ := info_parts infoGrid
  have hr : Reads w w.heap.size 3 (some ⟨wb.heap.size, 0, none⟩) 1 (levV p) := by
    refine ⟨rfl, fun _ => ⟨_, rfl, by rw [hw]; simp, fun j u hu => ?_⟩⟩
    rw [hw]
    exact news_block wb (levV p).toArray _ j u (by simpa using hu)
  obtain ⟨v', w', hrun, k1, k2, k3⟩ := run_append_any (P := Try.prog) w 0 137 ty 142 i0 _ 3 40 Try.underlying137 hti hz0 hz1 hz2 rfl (by decide) v P.length (levsV P) (RowH.owns h hs (fun _ _ => Nat.zero_le _)) w.heap.size _ 1 1 (levV p) hr (fun u hu => levsV_one [p] u (by simpa [levsV] using hu)) (by unfold maxLen; omega) (by omega) (Nat.zero_le _)
  obtain ⟨H', k4, k5⟩ := mv_owns_grown h k1 k2 k3
  refine ⟨v', w', H', hrun, ?_, k5⟩
  rw [List.length_append]
  simpa [levsV] using k4
section
variable {ops : Array Oper} {rest : List Oper} {o : Oper} {a : Act} {w : World} {K : Act → World → Prop} {Q : Exit → Act → World → Prop} {E : Prop}
theorem wp_appG {v : Value} {P : List LvG} {p : LvG} {H : List HB} {wb : World} (s x : Operand) (ho : o.op = .call { callee := .builtin .append, args := #[s, x], argTypes := #[137, 137] })
    (hsv : a.eval s = v) (hxu : a.eval x = .slice (some ⟨wb.heap.size, 0, none⟩) 1 1) (h : RowH 142 3 v P.length (levsV P) H) (hs : Sat w H) (hw : w = wb.alloc (.cells (levV p).toArray 142)) (hl : P.length ≤ 1000)
    (hK : ∀ v' w' H', RowH 142 3 v' (P ++ [p]).length (levsV (P ++ [p])) H' → Mv w H w' H' → K (a.put o.dst v') w') : o.wp Try.prog a w K Q := by
  obtain ⟨v', w', H', hrun, h1, h2⟩ := run_appG h hs hw hl o.type
  unfold Oper.wp execOp
  simp only [ho, resolve, invoke, builtin, Sem.run_bind, Sem.run_pure, Result.andThen_ok, List.map_toArray, List.map_cons, List.map_nil, hsv, hxu, hrun]
  exact hK v' w' H' h1 h2
theorem step_appG {v : Value} {P : List LvG} {p : LvG} {H : List HB} {wb : World} (hgd : o.guard = none) (s x : Operand) (ho : o.op = .call { callee := .builtin .append, args := #[s, x], argTypes := #[137, 137] })
    (hsv : a.eval s = v) (hxu : a.eval x = .slice (some ⟨wb.heap.size, 0, none⟩) 1 1) (h : RowH 142 3 v P.length (levsV P) H) (hs : Sat w H) (hw : w = wb.alloc (.cells (levV p).toArray 142)) (hl : P.length ≤ 1000)
    (hK : ∀ v' w' H', RowH 142 3 v' (P ++ [p]).length (levsV (P ++ [p])) H' → Mv w H w' H' → K (a.put o.dst v') w') : if Region.wanted o (yielded ops a.tmps) = true then Oper.wp Try.prog o a w K Q else E := by
  have hwt : Region.wanted o (yielded ops a.tmps) = true := by simp [Region.wanted, hgd]
  rw [if_pos hwt]
  exact wp_appG s x ho hsv hxu h hs hw hl hK
end
end Go.Proofs.Ytnpoakabheeoeaa
