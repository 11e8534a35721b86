/- waveletref6, waveletref7, waveletref8: the small functions: contexts, a pass's kind. waveletref6, waveletref7, waveletref8: more small functions. -/
import Derived.Test.YtnpoakabheeoeaaMqs
import Derived.Test.YtnpoakabheeoeaaMba
import Derived.Laws.Bits64b
namespace Go.Proofs.Ytnpoakabheeoeaa
open Go.RowKit

set_option maxRecDepth 100000 in
set_option maxHeartbeats 4000000 in
theorem zero3 (h v d : Nat) (w : World) (h1 : h ≤ 2) (h2 : v ≤ 2) (h3 : d ≤ 4) :
    Calls Try.prog 100 #[.int .i64 3, .int .i64 (h : Int), .int .i64 (v : Int), .int .i64 (d : Int)] w fun e w' => e = .returned (.int .i64 ((zctx 3 h v d : Nat) : Int)) ∧ w' = w := by
  rcases (show h = 0 ∨ h = 1 ∨ h = 2 by omega) with rfl | rfl | rfl <;> rcases (show v = 0 ∨ v = 1 ∨ v = 2 by omega) with rfl | rfl | rfl <;> rcases (show d = 0 ∨ d = 1 ∨ d = 2 ∨ d = 3 ∨ d = 4 by omega) with rfl | rfl | rfl | rfl | rfl
  all_goals
    clear h1 h2 h3
    go_enter Try.func100, Try.ntmps100
    go_wp2_with fail
    go_ret
    exact ⟨rfl, rfl⟩
set_option maxRecDepth 100000 in
set_option maxHeartbeats 4000000 in
theorem zero1 (h v d : Nat) (w : World) (h1 : h ≤ 2) (h2 : v ≤ 2) (h3 : d ≤ 4) :
    Calls Try.prog 100 #[.int .i64 1, .int .i64 (h : Int), .int .i64 (v : Int), .int .i64 (d : Int)] w fun e w' => e = .returned (.int .i64 ((zctx 1 h v d : Nat) : Int)) ∧ w' = w := by
  rcases (show h = 0 ∨ h = 1 ∨ h = 2 by omega) with rfl | rfl | rfl <;> rcases (show v = 0 ∨ v = 1 ∨ v = 2 by omega) with rfl | rfl | rfl <;> rcases (show d = 0 ∨ d = 1 ∨ d = 2 ∨ d = 3 ∨ d = 4 by omega) with rfl | rfl | rfl | rfl | rfl
  all_goals
    clear h1 h2 h3
    go_enter Try.func100, Try.ntmps100
    go_wp2_with fail
    go_ret
    exact ⟨rfl, rfl⟩
set_option maxRecDepth 100000 in
set_option maxHeartbeats 4000000 in
theorem zero0 (band : Nat) (h v d : Nat) (w : World) (h1 : h ≤ 2) (h2 : v ≤ 2) (h3 : d ≤ 4) (n3 : band ≠ 3) (n1 : band ≠ 1) :
    Calls Try.prog 100 #[.int .i64 (band : Int), .int .i64 (h : Int), .int .i64 (v : Int), .int .i64 (d : Int)] w fun e w' => e = .returned (.int .i64 ((zctx band h v d : Nat) : Int)) ∧ w' = w := by
  have c3 : ((band : Int) == 3) = false := beq_eq_false_iff_ne.2 (by omega)
  have c1 : ((band : Int) == 1) = false := beq_eq_false_iff_ne.2 (by omega)
  have e : zctx band h v d = zctx 0 h v d := by unfold zctx; rw [if_neg n3, if_neg n1]; rfl
  rw [e]
  clear e n3 n1
  rcases (show h = 0 ∨ h = 1 ∨ h = 2 by omega) with rfl | rfl | rfl <;> rcases (show v = 0 ∨ v = 1 ∨ v = 2 by omega) with rfl | rfl | rfl <;> rcases (show d = 0 ∨ d = 1 ∨ d = 2 ∨ d = 3 ∨ d = 4 by omega) with rfl | rfl | rfl | rfl | rfl
  all_goals
    clear h1 h2 h3
    go_enter Try.func100, Try.ntmps100
    go_wp2_with fail
    go_ret
    exact ⟨rfl, rfl⟩
theorem zero_ctx (band h v d : Nat) (w : World) (h1 : h ≤ 2) (h2 : v ≤ 2) (h3 : d ≤ 4) :
    Calls Try.prog 100 #[.int .i64 (band : Int), .int .i64 (h : Int), .int .i64 (v : Int), .int .i64 (d : Int)] w fun e w' => e = .returned (.int .i64 ((zctx band h v d : Nat) : Int)) ∧ w' = w := by
  by_cases n3 : band = 3
  · subst n3; exact zero3 h v d w h1 h2 h3
  · by_cases n1 : band = 1
    · subst n1; exact zero1 h v d w h1 h2 h3
    · exact zero0 band h v d w h1 h2 h3 n3 n1
end Go.Proofs.Ytnpoakabheeoeaa
namespace Go.Proofs.Ytnpoakabheeoeaa
open Go.RowKit

set_option maxRecDepth 100000 in
theorem sign_ctx (h v : Int) (w : World) (h1 : -1 ≤ h ∧ h ≤ 1) (h2 : -1 ≤ v ∧ v ≤ 1) :
    Calls Try.prog 102 #[.int .i64 h, .int .i64 v] w fun e w' => e = .returned (.tuple #[.int .i64 (((sctx h v).k : Nat) : Int), .int .i64 (((sctx h v).turn : Nat) : Int)]) ∧ w' = w := by
  rcases (show h = -1 ∨ h = 0 ∨ h = 1 by omega) with rfl | rfl | rfl <;> rcases (show v = -1 ∨ v = 0 ∨ v = 1 by omega) with rfl | rfl | rfl
  all_goals
    clear h1 h2
    go_enter Try.func102, Try.ntmps102
    go_wp2_with fail
    go_ret2
    exact ⟨rfl, rfl⟩
set_option maxRecDepth 100000 in
theorem refine_ctx (first : Bool) (n : Nat) (w : World) : Calls Try.prog 90 #[.bool first, .int .i64 (n : Int)] w fun e w' => e = .returned (.int .i64 ((rctx first n : Nat) : Int)) ∧ w' = w := by
  by_cases hn : 0 < n
  · have d1 : decide ((0 : Int) < (n : Int)) = true := by simp; omega
    have e : rctx first n = if first then 15 else 16 := by unfold rctx; rw [if_pos hn]
    rw [e]
    clear e
    cases first <;> (go_enter Try.func90, Try.ntmps90; go_wp2_with fail; go_ret; exact ⟨rfl, rfl⟩)
  · have d1 : decide ((0 : Int) < (n : Int)) = false := by simp; omega
    have e : rctx first n = if first then 14 else 16 := by unfold rctx; rw [if_neg hn]
    rw [e]
    clear e
    cases first <;> (go_enter Try.func90, Try.ntmps90; go_wp2_with fail; go_ret; exact ⟨rfl, rfl⟩)
set_option maxRecDepth 100000 in
theorem count_any (p : Nat) (w : World) (hp : p ≤ 1000) : Calls Try.prog 36 #[.int .i64 (p : Int)] w fun e w' => e = .returned (.int .i64 ((countM p : Nat) : Int)) ∧ w' = w := by
  go_enter Try.func36, Try.ntmps36
  go_wp2_with fail
  all_goals
    go_ret
    refine ⟨congrArg (fun z => Ending.returned (.int .i64 z)) ?_, rfl⟩
    unfold countM
    omega
set_option maxRecDepth 100000 in
theorem kind_any (k : Nat) (w : World) (hp : k ≤ 1000) : Calls Try.prog 67 #[.int .i64 (k : Int)] w fun e w' => e = .returned (.int .i64 ((kindM k : Nat) : Int)) ∧ w' = w := by
  by_cases h0 : k = 0
  · subst h0
    go_enter Try.func67, Try.ntmps67
    go_wp2_with fail
    go_ret
    exact ⟨rfl, rfl⟩
  · obtain ⟨j, rfl⟩ : ∃ j, k = j + 1 := ⟨k - 1, by omega⟩
    have d1 : (((j + 1 : Nat) : Int) == 0) = false := beq_eq_false_iff_ne.2 (by omega)
    have e : kindM (j + 1) = j % 3 := by unfold kindM; rw [if_neg h0, Nat.add_sub_cancel]
    rw [e]
    have d2 : ((j + 1 : Nat) : Int) - 1 = (j : Int) := by omega
    clear h0 e
    go_enter Try.func67, Try.ntmps67
    go_wp2_with fail
    go_ret
    refine ⟨congrArg (fun z => Ending.returned (.int .i64 z)) ?_, rfl⟩
    omega
set_option maxRecDepth 100000 in
theorem one_any (b : Bool) (w : World) : Calls Try.prog 35 #[.bool b] w fun e w' => e = .returned (.int .i64 ((oneN b : Nat) : Int)) ∧ w' = w := by
  cases b <;> (go_enter Try.func35, Try.ntmps35; go_wp2_with fail; go_ret; exact ⟨rfl, rfl⟩)
end Go.Proofs.Ytnpoakabheeoeaa
