/- SketchRows: for every number and either bool, the law returns true: each number by itself, at its bound and beyond it. -/
import Derived.Test.YtblcplfgddgkoaaSkKnown
import Derived.Test.YtblcplfgddgkoaaSkNo
namespace Go.Proofs.Ytblcplfgddgkoaa
open Go.RowKit

theorem drawCs_length (x y ox oy depth kind : Int) (n : Nat) : (drawCs x y ox oy depth kind n).length = n := by simp [drawCs]

theorem draw_some (x y ox oy comps depth kind : Int) (w : World) (h1 : 0 ≤ ox) (h2 : 0 ≤ oy) (h3 : ox < x) (h4 : oy < y) (h5 : x ≤ 64) (h6 : y ≤ 64)
   (h7 : 1 ≤ comps) (h8 : comps ≤ 4) (h9 : 1 ≤ depth) (h10 : depth ≤ 16) (h11 : 0 ≤ kind) (h12 : kind ≤ 4) :
    Calls Try.prog 9 #[.int .i64 x, .int .i64 y, .int .i64 ox, .int .i64 oy, .int .i64 comps, .int .i64 depth, .int .i64 kind] w fun e w' =>
      ∃ (a : Option Addr) (n cap : Nat), e = .returned (.tuple #[.agg #[.int .i64 x, .int .i64 y, .int .i64 ox, .int .i64 oy, .slice a n cap], .int .i64 0]) ∧ 0 < n ∧ Below w.heap.size w w' := by
  refine (draw_ok x y ox oy comps depth kind w h1 h2 h3 h4 h5 h6 h7 h8 h9 h10 h11 h12).mono ?_
  rintro e w2 ⟨v, rfl, ho, hb2⟩
  obtain ⟨a, cap, rfl, hl1, hl2, hrd⟩ := CompsRd.of_owns ho
  exact ⟨a, _, cap, rfl, by rw [drawCs_length]; omega, hb2⟩

set_option maxRecDepth 100000 in
set_option maxHeartbeats 4000000 in
theorem rows_walk (n : Int) (b : Bool) (w : World) :
    Calls Try.prog 7 #[.int .i64 n, .bool b] w fun e w' => e = .returned (.bool true) ∧ Below w.heap.size w w' := by
  have hk : n % 8 = 0 ∨ n % 8 = 1 ∨ n % 8 = 2 ∨ n % 8 = 3 ∨ n % 8 = 4 ∨ n % 8 = 5 ∨ n % 8 = 6 ∨ n % 8 = 7 := by omega
  have W0 := lwithin n 8
  have W : ∃ q, n % 8 = q := ⟨_, rfl⟩
  obtain ⟨q, hq⟩ := W
  rw [hq] at hk W0
  have W1 := fun w => Lib.hid (W0 w (by omega) (by omega))
  clear W0 hq
  rcases hk with rfl | rfl | rfl | rfl | rfl | rfl | rfl | rfl <;> cases b
  all_goals
    go_enter Try.func7, Try.ntmps7
    go_wp2_with (first
      | (go_at_call 8; refine (known_any _).mono ?_; rintro e w1 ⟨rfl, hb1⟩)
      | (go_at_call 14; refine ((W1 _).out).mono ?_; rintro e w1 ⟨rfl, rfl⟩)
      | (go_at_call 9; refine (draw_no _ _ _ _ _ _ _ _ (by omega)).mono ?_; rintro e w2 ⟨rfl, hb2⟩)
      | (go_at_call 9; refine (draw_some _ _ _ _ _ _ _ _ (by omega) (by omega) (by omega) (by omega) (by omega) (by omega) (by omega) (by omega) (by omega) (by omega) (by omega) (by omega)).mono ?_; rintro e w2 ⟨a, m, cap, rfl, hm, hb2⟩))
    go_ret
    exact ⟨rfl, by have s1 := hb1.size; have s2 := hb2.size; simp at s2; exact ((hb1.alloc s1 _).trans (hb2.mono (by simp; omega))).alloc (by omega) _⟩
end Go.Proofs.Ytblcplfgddgkoaa
