/- How many passes a block has behind a layer; the k-th block. -/
import Derived.Test.YtnpoakabheeoeaaPb
namespace Go.Proofs.Ytnpoakabheeoeaa
open Go.RowKit

set_option maxRecDepth 100000 in
set_option maxHeartbeats 2000000 in
theorem fresh_any (x : SpotX) (count layer : Int) (w : World) (A : Option Addr) (n c : Nat) (hc : w.cell? ⟨x.d.lb, x.k * 5 + 1, none⟩ = some (.slice A n c)) (_hx : x.k ≤ 100000) (hn : n ≤ 1000000) (hct : 0 ≤ count ∧ count ≤ 100000) (hl : -1 ≤ layer ∧ layer ≤ 100000) :
    Calls Try.prog 24 #[x.v, .int .i64 count, .int .i64 layer] w fun e w' => e = .returned (.int .i64 (passN n count (layer + 1))) ∧ Mv w [] w' [] := by
  have C := Lib.hid fun W => passes_any n count (layer + 1) W ⟨by omega, by omega⟩ ⟨by omega, by omega⟩ ⟨by omega, by omega⟩
  have M := (mv_alloc w 67 x.cells).drop1
  have c1 := ((Below.refl w.heap.size w).alloc (Nat.le_refl _) (.cells x.cells 67)).cell (p := ⟨x.d.lb, x.k * 5 + 1, none⟩) (World.block_lt_of_cell? w _ hc)
  rw [hc] at c1
  have b0 := (Blk.new w 67 x.cells).cell 0
  unfold SpotX.v
  unfold SpotX.cells at M c1 b0
  have K := Lib.hid M
  clear M
  go_enter Try.func24, Try.ntmps24
  go_wp2_with (go_at_call 57; with_reducible refine (C.out _).mono ?_; rintro e w2 ⟨rfl, m2⟩; have K2 := Lib.hid m2; clear m2)
  go_ret
  exact ⟨rfl, K.out.trans K2.out⟩
theorem getT_any (tb lb n c : Nat) (k : Int) (w : World) (hc : w.cell? ⟨tb, 0, none⟩ = some (.slice (some ⟨lb, 0, none⟩) n c)) (_hn : n ≤ 100000) :
    Calls Try.prog 46 #[.pointer (some ⟨tb, 0, none⟩), .int .i64 k] w fun e w' => w' = w ∧ e = .returned (if k < 0 ∨ (n : Int) ≤ k then .tuple #[.pointer none, .bool false] else .tuple #[.pointer (some ⟨lb, k.toNat * 5, none⟩), .bool true]) := by
  by_cases h : k < 0 ∨ (n : Int) ≤ k
  · rw [if_pos h]
    go_enter Try.func46, Try.ntmps46
    go_wp2_with fail
    all_goals first
    | omega
    | (go_ret2; exact ⟨rfl, rfl⟩)
  · rw [if_neg h]
    obtain ⟨j, rfl⟩ : ∃ j : Nat, k = (j : Int) := ⟨k.toNat, by omega⟩
    have hj : j < n := by omega
    have d1 : decide ((j : Int) < 0) = false := by simp
    have d2 : decide ((n : Int) ≤ (j : Int)) = false := by simp; omega
    rw [Int.toNat_natCast]
    go_enter Try.func46, Try.ntmps46
    go_wp2_with fail
    all_goals first
    | omega
    | (go_ret2; exact ⟨rfl, rfl⟩)
end Go.Proofs.Ytnpoakabheeoeaa
