/- waveletref3: a state by its number. -/
import Derived.Test.YtnpoakabheeoeaaQa
import Derived.Test.YtnpoakabheeoeaaMpb
import Derived.StillTailTactics
namespace Go.Proofs.Ytnpoakabheeoeaa
open Go.RowKit

theorem store_tab {R : Array Value} (h : R.size = 188) (h1 : ∀ v ∈ R.toList, v.oneCell' = true) (W : World) :
    (storeCells ⟨W.heap.size, 0, none⟩ R.toList).run Try.prog (W.alloc (.cells Try.zeroCells198 198)) = .ok () ((W.alloc (.cells Try.zeroCells198 198)).setRow W.heap.size R) := by
  have := run_storeCells_from (P := Try.prog) W.heap.size 198 R.toList 0 Try.zeroCells198 (W.alloc (.cells Try.zeroCells198 198)) (Blk.new W _ _) (by rw [Nat.zero_add, Array.length_toList, h]; kernel_rfl) h1
  rw [this]
  simp
theorem newTab_blk (W : World) (R : Array Value) : Mv W [] ((W.alloc (.cells Try.zeroCells198 198)).setRow W.heap.size R) [⟨W.heap.size, 198, R⟩] :=
  (mv_alloc W _ _).trans (setRow_eq (Blk.new W _ _))
theorem rowsV_size : rowsV.toArray.size = 188 := by kernel_rfl
theorem rowsV_one : ∀ v ∈ rowsV.toArray.toList, v.oneCell' = true := by
  intro v hv
  simp only [rowsV, List.mem_flatMap, List.mem_cons, List.not_mem_nil, or_false] at hv
  obtain ⟨s, -, rfl | rfl | rfl | rfl⟩ := hv <;> rfl
theorem rowsV_at (i : Nat) (hi : i < 47) : rowsV.toArray[i * 4]? = some (.int .i64 (qeAt i).qe) ∧ rowsV.toArray[i * 4 + 1]? = some (.int .i64 (qeAt i).mps) ∧ rowsV.toArray[i * 4 + 2]? = some (.int .i64 (qeAt i).lps) ∧ rowsV.toArray[i * 4 + 3]? = some (.int .i64 (if (qeAt i).swap then 1 else 0)) := by
  have hl : qeT.length = 47 := rfl
  have hg : qeT[i]? = some (qeAt i) := by
    unfold qeAt
    rw [List.getD_eq_getElem?_getD, List.getElem?_eq_getElem (by omega)]
    rfl
  have g := fun j (hj : j < 4) => flat_get (fun s : QeM => [.int .i64 s.qe, .int .i64 s.mps, .int .i64 s.lps, .int .i64 (if s.swap then 1 else 0)]) 4 (fun _ => rfl) qeT i (qeAt i) hg j hj
  simp only [List.getElem?_toArray]
  exact ⟨g 0 (by omega), g 1 (by omega), g 2 (by omega), g 3 (by omega)⟩
set_option maxRecDepth 100000 in
set_option maxHeartbeats 1000000 in
theorem state_any (i : Nat) (hi : i < 47) (w : World) : Calls Try.prog 110 #[.int .i64 (i : Int)] w fun e w' => e = .returned (.agg #[.int .i64 (qeAt i).qe, .int .i64 (qeAt i).mps, .int .i64 (qeAt i).lps, .bool (qeAt i).swap]) ∧ Mv w [] w' [] := by
  have RW := Lib.hid fun W => rows3_any W
  obtain ⟨R, hR⟩ : ∃ R, rowsV.toArray = R := ⟨_, rfl⟩
  obtain ⟨q, hq⟩ : ∃ q, qeAt i = q := ⟨_, rfl⟩
  obtain ⟨r0, r1, r2, r3⟩ := rowsV_at i hi
  have hz := rowsV_size
  have ho := rowsV_one
  rw [hq] at r0 r1 r2 r3 ⊢
  rw [hR] at RW r0 r1 r2 r3 hz ho
  clear hR hq
  have M0 := Lib.hid (mv_alloc w 191 #[.int .i64 0, .int .i64 0, .int .i64 0, .bool false])
  have ST := Lib.hid (fun W => store_tab hz ho W)
  clear ho
  have d1 : decide ((i : Int) < 0) = false := by simp
  have d2 : decide ((46 : Int) < (i : Int)) = false := by simp; omega
  have d3 : (i : Int) < 47 := by omega
  go_enter Try.func110, Try.ntmps110
  go_upto_region 4 with (go_at_call 112; refine (RW.out _).mono ?_; rintro e w1 ⟨rfl, m1⟩; have hst := ST.out w1; have K1 := Lib.hid (Mv.call (H := []) (H' := []) M0.out m1); clear m1)
  obtain ⟨w2, hw2⟩ : ∃ w2, w2 = ((w1.alloc (.cells Try.zeroCells198 198)).setRow w1.heap.size R) := ⟨_, rfl⟩
  have M2 : Mv w [] w2.drew ([⟨w1.heap.size, 198, R⟩] ++ [⟨w.heap.size, 191, #[.int .i64 0, .int .i64 0, .int .i64 0, .bool false]⟩]) := by
    rw [hw2]
    exact (Mv.call (H := []) K1.out (newTab_blk w1 R)).drew
  rw [← hw2]
  clear hst hw2 K1 RW ST M0
  have B := Mv.blkm M2 (x := ⟨w1.heap.size, 198, R⟩) List.mem_cons_self
  have l0 := (B.cell (i * 4)).trans r0
  have l1 := (B.cell (i * 4 + 1)).trans r1
  have l2 := (B.cell (i * 4 + 2)).trans r2
  have l3 := (B.cell (i * 4 + 3)).trans r3
  simp only at l0 l1 l2 l3
  have S := Mv.blkm M2 (x := ⟨w.heap.size, 191, #[.int .i64 0, .int .i64 0, .int .i64 0, .bool false]⟩) (List.mem_append_right _ List.mem_cons_self)
  have s0 := S.cell 0
  have s1 := S.cell 1
  have s2 := S.cell 2
  have s3 := S.cell 3
  have z0 := S.frozen 0
  have z1 := S.frozen 1
  have z2 := S.frozen 2
  have z3 := S.frozen 3
  simp only at s0 s1 s2 s3 z0 z1 z2 z3
  have M3 : Mv w [] w2.drew (⟨w.heap.size, 191, #[.int .i64 0, .int .i64 0, .int .i64 0, .bool false]⟩ :: []) := M2.drop
  have K3 := Lib.hid M3
  clear M2 M3 B S r0 r1 r2 r3 hz
  go_still_tail 18, (by kernel_rfl)
  change wpList _ _ _ _ _ w2.drew
  generalize w2.drew = w4 at *
  go_wp2_with fail
  case inl =>
    have M9 := (((K3.out.set 0 (.int .i64 (q.qe : Int))).set 1 (.int .i64 (q.mps : Int))).set 2 (.int .i64 (q.lps : Int))).set 3 (.bool true)
    exact bodyPost_ret (v := .agg #[.int .i64 (q.qe : Int), .int .i64 (q.mps : Int), .int .i64 (q.lps : Int), .bool true]) (results_cell_row Try.results110 _ _ w.heap.size 191 _ (0, 0) _ rfl (Mv.blkm M9 List.mem_cons_self) Try.underlying191 rfl (by kernel_rfl)) rfl ⟨rfl, M9.drop1⟩
  case inr =>
    have M9 := (((K3.out.set 0 (.int .i64 (q.qe : Int))).set 1 (.int .i64 (q.mps : Int))).set 2 (.int .i64 (q.lps : Int))).set 3 (.bool false)
    exact bodyPost_ret (v := .agg #[.int .i64 (q.qe : Int), .int .i64 (q.mps : Int), .int .i64 (q.lps : Int), .bool false]) (results_cell_row Try.results110 _ _ w.heap.size 191 _ (0, 0) _ rfl (Mv.blkm M9 List.mem_cons_self) Try.underlying191 rfl (by kernel_rfl)) rfl ⟨rfl, M9.drop1⟩
end Go.Proofs.Ytnpoakabheeoeaa
