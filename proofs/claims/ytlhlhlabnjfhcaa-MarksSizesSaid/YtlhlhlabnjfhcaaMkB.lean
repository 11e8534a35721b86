/- marks: other, the markers that are none of those read. -/
import Derived.Test.YtlhlhlabnjfhcaaMkA
namespace Go.Proofs.Ytlhlhlabnjfhcaa
open Go.RowKit Go.Maps

def isWay (m : Int) : Bool := m == 65363 || m == 65373 || m == 65374 || m == 65375 || m == 65376 || m == 65377
def isBad (m : Int) : Bool := m == 65359 || m == 65361 || m == 65425 || m == 65426 || m == 65427 || m == 65497
def otherE (m : Int) : Int := if isWay m then 13 else if isBad m then 10 else if m < 65280 then 10 else 0
def otherL (m : Int) : Bool := !isWay m && !isBad m && decide (65280 ≤ m) && (decide (m < 65328) || decide (65343 < m))

set_option maxRecDepth 100000 in
theorem other_any (m : Int) (w : World) : Calls Try.prog 64 #[.int .i64 m] w fun e w' => e = .returned (.tuple #[.int .i64 (otherE m), .bool (otherL m)]) ∧ w = w' := by
  by_cases h1 : isWay m = true
  · have e1 : otherE m = 13 := by unfold otherE; rw [if_pos h1]
    have e2 : otherL m = false := by unfold otherL; rw [h1]; rfl
    rw [e1, e2]
    unfold isWay at h1
    have h2 : m = 65363 ∨ m = 65373 ∨ m = 65374 ∨ m = 65375 ∨ m = 65376 ∨ m = 65377 := by simpa [or_assoc] using h1
    rcases h2 with rfl | rfl | rfl | rfl | rfl | rfl
    all_goals
      go_enter Try.func64, Try.ntmps64
      go_wp2_with fail
      go_ret2
      exact ⟨rfl, rfl⟩
  by_cases h2 : isBad m = true
  · have e1 : otherE m = 10 := by unfold otherE; rw [if_neg h1, if_pos h2]
    have e2 : otherL m = false := by unfold otherL; rw [h2]; simp
    rw [e1, e2]
    unfold isBad at h2
    have h3 : m = 65359 ∨ m = 65361 ∨ m = 65425 ∨ m = 65426 ∨ m = 65427 ∨ m = 65497 := by simpa [or_assoc] using h2
    clear h1
    rcases h3 with rfl | rfl | rfl | rfl | rfl | rfl
    all_goals
      go_enter Try.func64, Try.ntmps64
      go_wp2_with fail
      go_ret2
      exact ⟨rfl, rfl⟩
  have h1' : isWay m = false := by simpa using h1
  have h2' : isBad m = false := by simpa using h2
  have ee : otherE m = if m < 65280 then 10 else 0 := by unfold otherE; rw [if_neg h1, if_neg h2]
  have el : otherL m = (decide (65280 ≤ m) && (decide (m < 65328) || decide (65343 < m))) := by unfold otherL; rw [h1', h2']; simp
  rw [ee, el]
  unfold isWay at h1'
  unfold isBad at h2'
  simp only [Bool.or_eq_false_iff] at h1' h2'
  obtain ⟨⟨⟨⟨⟨a1, a2⟩, a3⟩, a4⟩, a5⟩, a6⟩ := h1'
  obtain ⟨⟨⟨⟨⟨b1, b2⟩, b3⟩, b4⟩, b5⟩, b6⟩ := h2'
  clear h1 h2 ee el
  by_cases c1 : m < 65280
  · have d1 : decide (m < 65280) = true := by simpa using c1
    have d2 : decide (65280 ≤ m) = false := by simp; omega
    rw [if_pos c1, d2]
    go_enter Try.func64, Try.ntmps64
    go_wp2_with fail
    go_ret2
    exact ⟨rfl, rfl⟩
  · have d1 : decide (m < 65280) = false := by simpa using c1
    have d2 : decide (65280 ≤ m) = true := by simp; omega
    rw [if_neg c1, d2]
    by_cases c2 : m < 65328
    · have d3 : decide (m < 65328) = true := by simpa using c2
      rw [d3]
      go_enter Try.func64, Try.ntmps64
      go_wp2_with fail
      go_ret2
      exact ⟨rfl, rfl⟩
    · have d3 : decide (m < 65328) = false := by simpa using c2
      rw [d3]
      cases d4 : decide (65343 < m)
      all_goals
        go_enter Try.func64, Try.ntmps64
        go_wp2_with fail
        go_ret2
        exact ⟨rfl, rfl⟩
end Go.Proofs.Ytlhlhlabnjfhcaa
