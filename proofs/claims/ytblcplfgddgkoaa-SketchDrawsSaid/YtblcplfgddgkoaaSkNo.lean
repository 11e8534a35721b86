/- sketch.Draw for numbers that may not be. -/
import Derived.Test.YtblcplfgddgkoaaSkSum
namespace Go.Proofs.Ytblcplfgddgkoaa
open Go.RowKit

set_option maxRecDepth 100000 in
set_option maxHeartbeats 4000000 in
theorem draw_no (x y ox oy comps depth kind : Int) (w : World)
   (h : ox < 0 ∨ oy < 0 ∨ x ≤ ox ∨ y ≤ oy ∨ 64 < x ∨ 64 < y ∨ ¬ (1 ≤ comps ∧ comps ≤ 4) ∨ ¬ (1 ≤ depth ∧ depth ≤ 16) ∨ ¬ (0 ≤ kind ∧ kind ≤ 4)) :
    Calls Try.prog 9 #[.int .i64 x, .int .i64 y, .int .i64 ox, .int .i64 oy, .int .i64 comps, .int .i64 depth, .int .i64 kind] w fun e w' =>
      e = .returned (.tuple #[.agg #[.int .i64 0, .int .i64 0, .int .i64 0, .int .i64 0, .slice none 0 0], .int .i64 1]) ∧ Below w.heap.size w w' := by
  by_cases k1 : ox < 0
  · have d1 : decide (ox < 0) = true := by simpa using k1
    clear h
    go_enter Try.func9, Try.ntmps9
    go_wp2
    exact bodyPost_ret (v := .tuple #[.agg #[.int .i64 0, .int .i64 0, .int .i64 0, .int .i64 0, .slice none 0 0], .int .i64 1]) (by simp [results, Try.results9, go_sem]) rfl ⟨rfl, by repeat (first | exact Below.refl _ _ | exact (Below.refl _ _).alloc (Nat.le_refl _) _ | refine Below.setCell ?_ (by simp) _)⟩
  have d1 : decide (ox < 0) = false := by simpa using k1
  by_cases k2 : oy < 0
  · have d2 : decide (oy < 0) = true := by simpa using k2
    clear h
    go_enter Try.func9, Try.ntmps9
    go_wp2
    exact bodyPost_ret (v := .tuple #[.agg #[.int .i64 0, .int .i64 0, .int .i64 0, .int .i64 0, .slice none 0 0], .int .i64 1]) (by simp [results, Try.results9, go_sem]) rfl ⟨rfl, by repeat (first | exact Below.refl _ _ | exact (Below.refl _ _).alloc (Nat.le_refl _) _ | refine Below.setCell ?_ (by simp) _)⟩
  have d2 : decide (oy < 0) = false := by simpa using k2
  by_cases k3 : x ≤ ox
  · have d3 : decide (x ≤ ox) = true := by simpa using k3
    clear h
    go_enter Try.func9, Try.ntmps9
    go_wp2
    exact bodyPost_ret (v := .tuple #[.agg #[.int .i64 0, .int .i64 0, .int .i64 0, .int .i64 0, .slice none 0 0], .int .i64 1]) (by simp [results, Try.results9, go_sem]) rfl ⟨rfl, by repeat (first | exact Below.refl _ _ | exact (Below.refl _ _).alloc (Nat.le_refl _) _ | refine Below.setCell ?_ (by simp) _)⟩
  have d3 : decide (x ≤ ox) = false := by simpa using k3
  by_cases k4 : y ≤ oy
  · have d4 : decide (y ≤ oy) = true := by simpa using k4
    clear h
    go_enter Try.func9, Try.ntmps9
    go_wp2
    exact bodyPost_ret (v := .tuple #[.agg #[.int .i64 0, .int .i64 0, .int .i64 0, .int .i64 0, .slice none 0 0], .int .i64 1]) (by simp [results, Try.results9, go_sem]) rfl ⟨rfl, by repeat (first | exact Below.refl _ _ | exact (Below.refl _ _).alloc (Nat.le_refl _) _ | refine Below.setCell ?_ (by simp) _)⟩
  have d4 : decide (y ≤ oy) = false := by simpa using k4
  by_cases k5 : 64 < x
  · have d5 : decide (64 < x) = true := by simpa using k5
    clear h
    go_enter Try.func9, Try.ntmps9
    go_wp2
    exact bodyPost_ret (v := .tuple #[.agg #[.int .i64 0, .int .i64 0, .int .i64 0, .int .i64 0, .slice none 0 0], .int .i64 1]) (by simp [results, Try.results9, go_sem]) rfl ⟨rfl, by repeat (first | exact Below.refl _ _ | exact (Below.refl _ _).alloc (Nat.le_refl _) _ | refine Below.setCell ?_ (by simp) _)⟩
  have d5 : decide (64 < x) = false := by simpa using k5
  by_cases k6 : 64 < y
  · have d6 : decide (64 < y) = true := by simpa using k6
    clear h
    go_enter Try.func9, Try.ntmps9
    go_wp2
    exact bodyPost_ret (v := .tuple #[.agg #[.int .i64 0, .int .i64 0, .int .i64 0, .int .i64 0, .slice none 0 0], .int .i64 1]) (by simp [results, Try.results9, go_sem]) rfl ⟨rfl, by repeat (first | exact Below.refl _ _ | exact (Below.refl _ _).alloc (Nat.le_refl _) _ | refine Below.setCell ?_ (by simp) _)⟩
  have d6 : decide (64 < y) = false := by simpa using k6
  by_cases r7 : 1 ≤ comps ∧ comps ≤ 4
  rotate_left
  · clear h
    go_enter Try.func9, Try.ntmps9
    go_wp2_with (go_at_call 16; first | ((with_reducible refine (within16_no comps _ _ _ ?_).mono ?_); exact r7; rintro e w' ⟨rfl, rfl⟩))
    exact bodyPost_ret (v := .tuple #[.agg #[.int .i64 0, .int .i64 0, .int .i64 0, .int .i64 0, .slice none 0 0], .int .i64 1]) (by simp [results, Try.results9, go_sem]) rfl ⟨rfl, by repeat (first | exact Below.refl _ _ | exact (Below.refl _ _).alloc (Nat.le_refl _) _ | refine Below.setCell ?_ (by simp) _)⟩
  by_cases r8 : 1 ≤ depth ∧ depth ≤ 16
  rotate_left
  · clear h
    go_enter Try.func9, Try.ntmps9
    go_wp2_with (go_at_call 16; first | ((with_reducible refine (within16 comps _ _ _ ?_ ?_).mono ?_); exact r7.1; exact r7.2; rintro e w' ⟨rfl, rfl⟩) | ((with_reducible refine (within16_no depth _ _ _ ?_).mono ?_); exact r8; rintro e w' ⟨rfl, rfl⟩))
    exact bodyPost_ret (v := .tuple #[.agg #[.int .i64 0, .int .i64 0, .int .i64 0, .int .i64 0, .slice none 0 0], .int .i64 1]) (by simp [results, Try.results9, go_sem]) rfl ⟨rfl, by repeat (first | exact Below.refl _ _ | exact (Below.refl _ _).alloc (Nat.le_refl _) _ | refine Below.setCell ?_ (by simp) _)⟩
  by_cases r9 : 0 ≤ kind ∧ kind ≤ 4
  rotate_left
  · clear h
    go_enter Try.func9, Try.ntmps9
    go_wp2_with (go_at_call 16; first | ((with_reducible refine (within16 comps _ _ _ ?_ ?_).mono ?_); exact r7.1; exact r7.2; rintro e w' ⟨rfl, rfl⟩) | ((with_reducible refine (within16 depth _ _ _ ?_ ?_).mono ?_); exact r8.1; exact r8.2; rintro e w' ⟨rfl, rfl⟩) | ((with_reducible refine (within16_no kind _ _ _ ?_).mono ?_); exact r9; rintro e w' ⟨rfl, rfl⟩))
    exact bodyPost_ret (v := .tuple #[.agg #[.int .i64 0, .int .i64 0, .int .i64 0, .int .i64 0, .slice none 0 0], .int .i64 1]) (by simp [results, Try.results9, go_sem]) rfl ⟨rfl, by repeat (first | exact Below.refl _ _ | exact (Below.refl _ _).alloc (Nat.le_refl _) _ | refine Below.setCell ?_ (by simp) _)⟩
  omega
end Go.Proofs.Ytblcplfgddgkoaa
