/- waveletref3: the coder's states. -/
import Derived.Test.YtnpoakabheeoeaaProg
import Derived.Test.YtnpoakabheeoeaaSb
import Derived.Test.YtnpoakabheeoeaaMqs
import Derived.Laws.Rows
import Derived.Laws.Tables
import Derived.RegionTactic
import Derived.BigRegion
import Derived.OwnWalk
namespace Go.Proofs.Ytnpoakabheeoeaa
open Go.RowKit

def rowsV : List Value := qeT.flatMap fun s => [.int .i64 s.qe, .int .i64 s.mps, .int .i64 s.lps, .int .i64 (if s.swap then 1 else 0)]
/-- builds, one after the other -/
def buildAll (P : Program) : List Oper → Act → Option Act
  | [], a => some a
  | o :: l, a =>
    match o.guard, o.op with
    | none, .build t parts => match P.built t (parts.map fun (i, x) => (i, a.eval x)).toList with
      | some c => buildAll P l (a.put o.dst (.agg c))
      | none => none
    | _, _ => none
theorem wpList_buildAll {P : Program} {ops : Array Oper} {rest : List Oper} {w : World} {Q : Exit → Act → World → Prop} : ∀ (l : List Oper) (a a' : Act), buildAll P l a = some a' → wpList P ops Q rest a' w → wpList P ops Q (l ++ rest) a w
  | [], a, a', h, k => by
    simp only [buildAll, Option.some.injEq] at h
    subst h
    exact k
  | o :: l, a, a', h, k => by
    unfold buildAll at h
    split at h
    · rename_i t parts hg ho
      split at h
      · rename_i c hc
        refine wpList_build hg t parts ho (by rw [hc]; rfl) ?_
        rw [hc]
        exact wpList_buildAll l _ a' h k
      · cases h
    · cases h
theorem setRow_eq {w : World} {g : Nat} {t : TypeId} {old cs : Array Value} (hb : Blk w g t old) : Mv w [⟨g, t, old⟩] (w.setRow g cs) [⟨g, t, cs⟩] :=
  Mv.of_grown ⟨rfl, rfl, rfl, by simp, fun k hk hn => setRow_other w g k cs (fun e => hn (by rw [e]))⟩ (setRow_heap w g old cs t (0, 0) hb)
theorem buildAll_defers {P : Program} : ∀ (l : List Oper) (a a' : Act), buildAll P l a = some a' → a'.defers = a.defers
  | [], a, a', h => by
    simp only [buildAll, Option.some.injEq] at h
    rw [h]
  | o :: l, a, a', h => by
    unfold buildAll at h
    split at h
    · split at h
      · have := buildAll_defers l _ a' h
        rw [this]
        cases o.dst <;> rfl
      · cases h
    · cases h
theorem wpList_table {P : Program} {ops : Array Oper} {L : List Oper} {o : Oper} {a : Act} {w : World} {Q : Exit → Act → World → Prop} (n g : Nat) (ty t : TypeId) (x y : Operand) (cells old : Array Value)
    (h : (buildAll P (L.take n) a).map (fun a' => (a'.eval x, a'.eval y)) = some (.pointer (some ⟨g, 0, none⟩), .agg cells)) (hd : L.drop n = [o]) (ho : o.op = .store ty x y) (hgd : o.guard = none) (hds : o.dst = none)
    (hb : Blk w g t old) (hi : (P.info? ty).map (·.size) = some cells.size) (hold : old.size = cells.size) (h1 : cells.all (·.oneCell') = true)
    (hQ : ∀ a' : Act, a'.eval x = .pointer (some ⟨g, 0, none⟩) → a'.defers = a.defers → Q .normal (a'.put none undef) (w.setRow g cells)) : wpList P ops Q L a w := by
  obtain ⟨a', h2, h3⟩ := Option.map_eq_some_iff.1 h
  simp only [Prod.mk.injEq] at h3
  rw [← List.take_append_drop n L, hd]
  refine wpList_buildAll _ _ _ h2 (wpList_store_row hgd ty x y ho g cells h3.1 h3.2 t old hb hi hold h1 ?_)
  rw [hds]
  exact hQ a' h3.1 (buildAll_defers _ _ _ h2)
set_option maxRecDepth 100000 in
set_option maxHeartbeats 4000000 in
theorem rows3_any (w : World) : Calls Try.prog 112 #[] w fun e w' => e = .returned (.agg rowsV.toArray) ∧ Mv w [] w' [] := by
  obtain ⟨w1, hw1⟩ : ∃ w1, w1 = w.alloc (.cells Try.zeroCells198 198) := ⟨_, rfl⟩
  have M1 := mv_alloc w 198 Try.zeroCells198
  rw [← hw1] at M1
  have M2 := M1.trans (setRow_eq (cs := rowsV.toArray) (M1.sat.2 _ List.mem_cons_self))
  have HB : Blk w1 w.heap.size 198 Try.zeroCells198 := M1.sat.2 _ List.mem_cons_self
  go_enter Try.func112, Try.ntmps112
  go_upto_region 1 with fail
  rw [← hw1]
  refine wp_region_list ?_
  refine wpList_table 48 w.heap.size 198 198 (.tmp 0) (.tmp 48) rowsV.toArray Try.zeroCells198 (by kernel_rfl) rfl rfl rfl rfl HB (by kernel_rfl) (by kernel_rfl) (by kernel_rfl) ?_
  intro a' e1 e2
  rename_i K hK
  refine hK _ _ ?_
  refine wp_ret ?_
  refine bodyPost_ret (v := .agg rowsV.toArray) (results_cell_row Try.results112 _ _ w.heap.size 198 _ (0, 0) _ (by simpa [Act.put, Act.eval] using e1) (M2.sat.2 _ List.mem_cons_self) Try.underlying198 rfl (by kernel_rfl)) (e2.trans rfl) (And.intro rfl M2.drop1)
end Go.Proofs.Ytnpoakabheeoeaa
