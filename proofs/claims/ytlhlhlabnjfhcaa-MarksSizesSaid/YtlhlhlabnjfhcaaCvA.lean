/- canvas: within, by, ways. -/
import Derived.Test.YtlhlhlabnjfhcaaFmA
namespace Go.Proofs.Ytlhlhlabnjfhcaa
open Go.RowKit

def inB (n a b : Int) : Bool := decide (a ≤ n) && decide (n ≤ b)

set_option maxRecDepth 100000 in
theorem cw_any (n a b : Int) (w : World) : Calls Try.prog 51 #[.int .i64 n, .int .i64 a, .int .i64 b] w fun e w' => e = .returned (.bool (inB n a b)) ∧ w = w' := by
  unfold inB
  rcases Bool.eq_false_or_eq_true (decide (a ≤ n)) with h1 | h1
  · rw [h1]
    go_enter Try.func51, Try.ntmps51
    go_wp2_with fail
    go_ret
    exact ⟨rfl, rfl⟩
  · rw [h1]
    go_enter Try.func51, Try.ntmps51
    go_wp2_with fail
    go_ret
    exact ⟨rfl, rfl⟩

set_option maxRecDepth 100000 in
theorem by_any (a b : Int) (w : World) (h0 : 0 ≤ a) (h1 : a ≤ 1000000) (h2 : 1 ≤ b) (h3 : b ≤ 1000000) : Calls Try.prog 52 #[.int .i64 a, .int .i64 b] w fun e w' => e = .returned (.int .i64 (ceilI a b)) ∧ w = w' := by
  have hm : max b 1 = b := by omega
  have hb0 : b ≠ 0 := by omega
  have e1 : a.tdiv b = a / b := Int.tdiv_eq_ediv_of_nonneg h0
  have e2 : a.tmod b = a % b := Int.tmod_eq_emod_of_nonneg h0
  have k1 := Int.emod_nonneg a hb0
  have k2 := Int.emod_lt_of_pos a (show 0 < b by omega)
  have k3 := Int.mul_ediv_add_emod a b
  have k4 : 0 ≤ a / b := Int.ediv_nonneg h0 (by omega)
  have k5 : a / b ≤ a := Int.ediv_le_self _ h0
  have c1 : 0 < a % b → a / b + 1 = ceilI a b := fun h => by
    unfold ceilI
    refine (((Int.ediv_emod_unique (show 0 < b by omega) (r := a % b - 1)).2 ⟨?_, by omega, by omega⟩).1).symm
    rw [Int.mul_add, Int.mul_one]
    omega
  have c2 : a % b ≤ 0 → a / b = ceilI a b := fun h => by
    unfold ceilI
    refine (((Int.ediv_emod_unique (show 0 < b by omega) (r := b - 1)).2 ⟨?_, by omega, by omega⟩).1).symm
    omega
  have C1 := Lib.hid c1
  have C2 := Lib.hid c2
  clear c1 c2 k3
  go_enter Try.func52, Try.ntmps52
  go_wp2_with fail
  all_goals go_ret
  · exact ⟨by rw [← C1.out (by assumption)]; rfl, rfl⟩
  · exact ⟨by rw [← C2.out (by assumption)]; rfl, rfl⟩

def waysB (p : ParD) : Bool := inB p.lv 0 5 && inB p.cbw 2 6 && inB p.cbh 2 6 && inB p.prec 1 15 && inB p.style 0 63 && inB p.order 0 4 && inB p.layers 1 8

set_option maxRecDepth 100000 in
set_option maxHeartbeats 2000000 in
theorem ways_any (p : ParD) (w : World) : Calls Try.prog 53 #[parV p] w fun e w' => e = .returned (.bool (waysB p)) ∧ Below w.heap.size w w' := by
  unfold waysB parV
  have B0 : Below w.heap.size w (w.alloc (.cells #[.int .i64 p.tx, .int .i64 p.ty, .int .i64 p.lv, .int .i64 p.cbw, .int .i64 p.cbh, .int .i64 p.prec, .int .i64 p.style, .int .i64 p.order, .int .i64 p.layers, .bool p.rct, .bool p.sop, .bool p.eph] 31)) := (Below.refl _ _).alloc (Nat.le_refl _) _
  have c1 := fun W => cw_any p.lv 0 5 W
  have c2 := fun W => cw_any p.cbw 2 6 W
  have c3 := fun W => cw_any p.cbh 2 6 W
  have c4 := fun W => cw_any p.prec 1 15 W
  have c5 := fun W => cw_any p.style 0 63 W
  have c6 := fun W => cw_any p.order 0 4 W
  have c7 := fun W => cw_any p.layers 1 8 W
  generalize inB p.lv 0 5 = b1 at *
  generalize inB p.cbw 2 6 = b2 at *
  generalize inB p.cbh 2 6 = b3 at *
  generalize inB p.prec 1 15 = b4 at *
  generalize inB p.style 0 63 = b5 at *
  generalize inB p.order 0 4 = b6 at *
  generalize inB p.layers 1 8 = b7 at *
  have HB := Lib.hid B0
  have C1 := Lib.hid c1
  have C2 := Lib.hid c2
  have C3 := Lib.hid c3
  have C4 := Lib.hid c4
  have C5 := Lib.hid c5
  have C6 := Lib.hid c6
  have C7 := Lib.hid c7
  clear B0 c1 c2 c3 c4 c5 c6 c7
  go_enter Try.func53, Try.ntmps53
  cases b1
  rotate_left
  cases b2
  rotate_left
  cases b3
  rotate_left
  cases b4
  rotate_left
  cases b5
  rotate_left
  cases b6
  rotate_left
  cases b7
  rotate_left
  all_goals
    go_wp2_with (first | (go_at_call 51; (with_reducible refine (C1.out _).mono ?_); rintro e w' ⟨rfl, rfl⟩) | (go_at_call 51; (with_reducible refine (C2.out _).mono ?_); rintro e w' ⟨rfl, rfl⟩) | (go_at_call 51; (with_reducible refine (C3.out _).mono ?_); rintro e w' ⟨rfl, rfl⟩) | (go_at_call 51; (with_reducible refine (C4.out _).mono ?_); rintro e w' ⟨rfl, rfl⟩) | (go_at_call 51; (with_reducible refine (C5.out _).mono ?_); rintro e w' ⟨rfl, rfl⟩) | (go_at_call 51; (with_reducible refine (C6.out _).mono ?_); rintro e w' ⟨rfl, rfl⟩) | (go_at_call 51; (with_reducible refine (C7.out _).mono ?_); rintro e w' ⟨rfl, rfl⟩))
    go_ret
    exact ⟨rfl, HB.out⟩

end Go.Proofs.Ytlhlhlabnjfhcaa
