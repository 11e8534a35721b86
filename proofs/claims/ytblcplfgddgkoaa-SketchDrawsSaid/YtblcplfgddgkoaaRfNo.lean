/- The document's chapter 21: Draw of numbers that may not be. -/
import Derived.Test.YtblcplfgddgkoaaRf21
namespace Go.Proofs.Ytblcplfgddgkoaa
open Go.RowKit

set_option maxRecDepth 100000 in
set_option maxHeartbeats 4000000 in
theorem rdraw_no (x y ox oy comps depth kind : Int) (w : World)
   (h : ox < 0 ∨ oy < 0 ∨ x ≤ ox ∨ y ≤ oy ∨ 64 < x ∨ 64 < y ∨ ¬ (1 ≤ comps ∧ comps ≤ 4) ∨ ¬ (1 ≤ depth ∧ depth ≤ 16) ∨ ¬ (0 ≤ kind ∧ kind ≤ 4)) :
    Calls Try.prog 10 #[.int .i64 x, .int .i64 y, .int .i64 ox, .int .i64 oy, .int .i64 comps, .int .i64 depth, .int .i64 kind] w fun e w' =>
      e = .returned (.tuple #[.agg #[.int .i64 0, .int .i64 0, .int .i64 0, .int .i64 0, .slice none 0 0], .int .i64 1]) ∧ Below w.heap.size w w' := by
  by_cases k1 : ox < 0
  · have d : decide (ox < 0) = true := by simpa using k1
    clear h
    go_enter Try.func10, Try.ntmps10
    go_wp2
    exact bodyPost_ret (v := .tuple #[.agg #[.int .i64 0, .int .i64 0, .int .i64 0, .int .i64 0, .slice none 0 0], .int .i64 1]) (by simp [results, Try.results10, go_sem]) rfl ⟨rfl, by repeat (first | exact Below.refl _ _ | exact (Below.refl _ _).alloc (Nat.le_refl _) _ | refine Below.setCell ?_ (by simp) _)⟩
  have d_k1 : decide (ox < 0) = false := by simpa using k1
  by_cases k2 : oy < 0
  · have d : decide (oy < 0) = true := by simpa using k2
    clear h
    go_enter Try.func10, Try.ntmps10
    go_wp2
    exact bodyPost_ret (v := .tuple #[.agg #[.int .i64 0, .int .i64 0, .int .i64 0, .int .i64 0, .slice none 0 0], .int .i64 1]) (by simp [results, Try.results10, go_sem]) rfl ⟨rfl, by repeat (first | exact Below.refl _ _ | exact (Below.refl _ _).alloc (Nat.le_refl _) _ | refine Below.setCell ?_ (by simp) _)⟩
  have d_k2 : decide (oy < 0) = false := by simpa using k2
  by_cases k3 : x ≤ ox
  · have d : decide (x ≤ ox) = true := by simpa using k3
    clear h
    go_enter Try.func10, Try.ntmps10
    go_wp2
    exact bodyPost_ret (v := .tuple #[.agg #[.int .i64 0, .int .i64 0, .int .i64 0, .int .i64 0, .slice none 0 0], .int .i64 1]) (by simp [results, Try.results10, go_sem]) rfl ⟨rfl, by repeat (first | exact Below.refl _ _ | exact (Below.refl _ _).alloc (Nat.le_refl _) _ | refine Below.setCell ?_ (by simp) _)⟩
  have d_k3 : decide (x ≤ ox) = false := by simpa using k3
  by_cases k4 : 64 < x
  · have d : decide (64 < x) = true := by simpa using k4
    clear h
    go_enter Try.func10, Try.ntmps10
    go_wp2
    exact bodyPost_ret (v := .tuple #[.agg #[.int .i64 0, .int .i64 0, .int .i64 0, .int .i64 0, .slice none 0 0], .int .i64 1]) (by simp [results, Try.results10, go_sem]) rfl ⟨rfl, by repeat (first | exact Below.refl _ _ | exact (Below.refl _ _).alloc (Nat.le_refl _) _ | refine Below.setCell ?_ (by simp) _)⟩
  have d_k4 : decide (64 < x) = false := by simpa using k4
  by_cases k5 : y ≤ oy
  · have d : decide (y ≤ oy) = true := by simpa using k5
    clear h
    go_enter Try.func10, Try.ntmps10
    go_wp2
    exact bodyPost_ret (v := .tuple #[.agg #[.int .i64 0, .int .i64 0, .int .i64 0, .int .i64 0, .slice none 0 0], .int .i64 1]) (by simp [results, Try.results10, go_sem]) rfl ⟨rfl, by repeat (first | exact Below.refl _ _ | exact (Below.refl _ _).alloc (Nat.le_refl _) _ | refine Below.setCell ?_ (by simp) _)⟩
  have d_k5 : decide (y ≤ oy) = false := by simpa using k5
  by_cases k6 : 64 < y
  · have d : decide (64 < y) = true := by simpa using k6
    clear h
    go_enter Try.func10, Try.ntmps10
    go_wp2
    exact bodyPost_ret (v := .tuple #[.agg #[.int .i64 0, .int .i64 0, .int .i64 0, .int .i64 0, .slice none 0 0], .int .i64 1]) (by simp [results, Try.results10, go_sem]) rfl ⟨rfl, by repeat (first | exact Below.refl _ _ | exact (Below.refl _ _).alloc (Nat.le_refl _) _ | refine Below.setCell ?_ (by simp) _)⟩
  have d_k6 : decide (64 < y) = false := by simpa using k6
  by_cases k7 : comps < 1
  · have d : decide (comps < 1) = true := by simpa using k7
    clear h
    go_enter Try.func10, Try.ntmps10
    go_wp2
    exact bodyPost_ret (v := .tuple #[.agg #[.int .i64 0, .int .i64 0, .int .i64 0, .int .i64 0, .slice none 0 0], .int .i64 1]) (by simp [results, Try.results10, go_sem]) rfl ⟨rfl, by repeat (first | exact Below.refl _ _ | exact (Below.refl _ _).alloc (Nat.le_refl _) _ | refine Below.setCell ?_ (by simp) _)⟩
  have d_k7 : decide (comps < 1) = false := by simpa using k7
  by_cases k8 : 4 < comps
  · have d : decide (4 < comps) = true := by simpa using k8
    clear h
    go_enter Try.func10, Try.ntmps10
    go_wp2
    exact bodyPost_ret (v := .tuple #[.agg #[.int .i64 0, .int .i64 0, .int .i64 0, .int .i64 0, .slice none 0 0], .int .i64 1]) (by simp [results, Try.results10, go_sem]) rfl ⟨rfl, by repeat (first | exact Below.refl _ _ | exact (Below.refl _ _).alloc (Nat.le_refl _) _ | refine Below.setCell ?_ (by simp) _)⟩
  have d_k8 : decide (4 < comps) = false := by simpa using k8
  by_cases k9 : depth < 1
  · have d : decide (depth < 1) = true := by simpa using k9
    clear h
    go_enter Try.func10, Try.ntmps10
    go_wp2
    exact bodyPost_ret (v := .tuple #[.agg #[.int .i64 0, .int .i64 0, .int .i64 0, .int .i64 0, .slice none 0 0], .int .i64 1]) (by simp [results, Try.results10, go_sem]) rfl ⟨rfl, by repeat (first | exact Below.refl _ _ | exact (Below.refl _ _).alloc (Nat.le_refl _) _ | refine Below.setCell ?_ (by simp) _)⟩
  have d_k9 : decide (depth < 1) = false := by simpa using k9
  by_cases k10 : 16 < depth
  · have d : decide (16 < depth) = true := by simpa using k10
    clear h
    go_enter Try.func10, Try.ntmps10
    go_wp2
    exact bodyPost_ret (v := .tuple #[.agg #[.int .i64 0, .int .i64 0, .int .i64 0, .int .i64 0, .slice none 0 0], .int .i64 1]) (by simp [results, Try.results10, go_sem]) rfl ⟨rfl, by repeat (first | exact Below.refl _ _ | exact (Below.refl _ _).alloc (Nat.le_refl _) _ | refine Below.setCell ?_ (by simp) _)⟩
  have d_k10 : decide (16 < depth) = false := by simpa using k10
  by_cases k11 : kind < 0
  · have d : decide (kind < 0) = true := by simpa using k11
    clear h
    go_enter Try.func10, Try.ntmps10
    go_wp2
    exact bodyPost_ret (v := .tuple #[.agg #[.int .i64 0, .int .i64 0, .int .i64 0, .int .i64 0, .slice none 0 0], .int .i64 1]) (by simp [results, Try.results10, go_sem]) rfl ⟨rfl, by repeat (first | exact Below.refl _ _ | exact (Below.refl _ _).alloc (Nat.le_refl _) _ | refine Below.setCell ?_ (by simp) _)⟩
  have d_k11 : decide (kind < 0) = false := by simpa using k11
  by_cases k12 : 4 < kind
  · have d : decide (4 < kind) = true := by simpa using k12
    clear h
    go_enter Try.func10, Try.ntmps10
    go_wp2
    exact bodyPost_ret (v := .tuple #[.agg #[.int .i64 0, .int .i64 0, .int .i64 0, .int .i64 0, .slice none 0 0], .int .i64 1]) (by simp [results, Try.results10, go_sem]) rfl ⟨rfl, by repeat (first | exact Below.refl _ _ | exact (Below.refl _ _).alloc (Nat.le_refl _) _ | refine Below.setCell ?_ (by simp) _)⟩
  have d_k12 : decide (4 < kind) = false := by simpa using k12
  omega
end Go.Proofs.Ytblcplfgddgkoaa
