/- The law's known(): the chapter's example holds. And sketch.Draw for numbers that may not be. -/
import Derived.Test.YtblcplfgddgkoaaSkSum
namespace Go.Proofs.Ytblcplfgddgkoaa
open Go.RowKit

def knownC : CompD := { depth := 8, signed := false, dx := 1, dy := 1, data := [7] }
theorem known_cs : drawCs 1 1 0 0 8 0 (Int.toNat 1) = [knownC] := by
  simp [drawCs, drawC, stepOf, wid, byI, dataD, pix, sampleD, knownC]
theorem known_sum : sumD 7 [knownC] = 224 := by decide

set_option maxHeartbeats 1000000 in
theorem known_any (w : World) : Calls Try.prog 8 #[] w fun e w' => e = .returned (.bool true) ∧ Below w.heap.size w w' := by
  go_enter Try.func8, Try.ntmps8
  go_wp2_with fail
  refine (draw_ok 1 1 0 0 1 8 0 w (by omega) (by omega) (by omega) (by omega) (by omega) (by omega) (by omega) (by omega) (by omega) (by omega) (by omega) (by omega)).mono ?_
  rintro e w1 ⟨v, rfl, ho, hb⟩
  rw [known_cs] at ho
  have hr0 := Lib.hid (CompsRd.of_owns ho)
  obtain ⟨a, cap, rfl, hl1, hl2, hrd⟩ := hr0.out
  obtain ⟨b, o, dv, rfl, c0, c1, c2, c3, c4, a', cap', rfl, hd1, hd2, hd3⟩ := hrd 0 _ rfl
  obtain ⟨b', o', rfl, e0⟩ := hd3 0 7 rfl
  simp only [Nat.zero_mul, Nat.add_zero] at c0 c1 c2 c3 c4 e0
  clear hrd hd3 ho c0 c1 c2 c3
  have e1 : ∀ q u, w1.cell? q = some u → q.block < w1.heap.size := fun q u h => World.block_lt_of_cell? w1 q h
  have e2 := e1 _ _ c4
  have e3 := e1 _ _ e0
  simp only at e2 e3
  clear e1
  simp only [knownC, List.length_singleton] at *
  go_wp2_with (go_at_call 12; refine (sum_any _ _ _ _ _ [knownC] _ ?_).mono ?_; exact CompsRd.keep hr0.out ((Below.refl _ _).alloc (Nat.le_refl _) _); rintro e w2 ⟨he, hb2⟩; rw [known_sum] at he; subst he)
  go_ret
  exact ⟨rfl, (hb.alloc hb.size _).trans (hb2.mono (by simp; have := hb.size; omega))⟩
end Go.Proofs.Ytblcplfgddgkoaa
