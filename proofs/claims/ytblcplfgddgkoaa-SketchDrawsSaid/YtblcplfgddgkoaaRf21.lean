/- The document's chapter 21 (waveletref21): sample, Sum. -/
import Derived.Test.YtblcplfgddgkoaaRf12
namespace Go.Proofs.Ytblcplfgddgkoaa
open Go.RowKit

set_option maxHeartbeats 1000000 in
theorem rsample_any (kind i j c depth : Int) (w : World) (h1 : 0 ≤ c) (h2 : c ≤ 4) (h3 : 0 ≤ i) (h4 : i ≤ 64) (h5 : 0 ≤ j) (h6 : j ≤ 64) (h7 : 1 ≤ depth) (h8 : depth ≤ 16) :
    Calls Try.prog 21 #[.int .i64 kind, .int .i64 i, .int .i64 j, .int .i64 c, .int .i64 depth] w fun e w' => e = .returned (.int .i64 (pix kind depth c i j)) ∧ w = w' := by
  obtain ⟨p1, p2⟩ := pow_bd depth h7 h8
  obtain ⟨s1, s2⟩ := sampleD_bd kind depth c i j h1 h2 h3 h4 h5 h6 h7 h8
  by_cases k0 : kind = 0
  · subst k0
    go_enter Try.func21, Try.ntmps21
    go_wp2
    go_ret
    exact ⟨by simp [pix, sampleD], rfl⟩
  by_cases k1 : kind = 1
  · subst k1
    go_enter Try.func21, Try.ntmps21
    go_wp2
    go_ret
    exact ⟨by simp [pix, sampleD], rfl⟩
  by_cases k2 : kind = 2
  · subst k2
    have hm : 0 ≤ (2 ^ depth.toNat - 1) * ((i + j + c) % 2) ∧ (2 ^ depth.toNat - 1) * ((i + j + c) % 2) ≤ 65536 := by
      have : (i + j + c) % 2 = 0 ∨ (i + j + c) % 2 = 1 := by omega
      rcases this with h | h <;> rw [h] <;> omega
    obtain ⟨hm1, hm2⟩ := hm
    go_enter Try.func21, Try.ntmps21
    go_wp2
    go_ret
    exact ⟨by simp [pix, sampleD], rfl⟩
  · have e1 := and65535 ((1103515245 * (i + 64 * j + 4096 * c) + 12345) / 65536) (by omega) (by omega)
    have e2 : sampleD kind depth c i j = (1103515245 * (i + 64 * j + 4096 * c) + 12345) / 65536 % 65536 := by simp [sampleD, k0, k1, k2]
    have E2 := Lib.hid e2
    have b0 : (kind == 0) = false := by simpa using k0
    have b1 : (kind == 1) = false := by simpa using k1
    have b2 : (kind == 2) = false := by simpa using k2
    clear e2 k0 k1 k2 s1 s2
    go_enter Try.func21, Try.ntmps21
    go_wp2
    go_ret
    exact ⟨by unfold pix; rw [E2.out]; rfl, rfl⟩
end Go.Proofs.Ytblcplfgddgkoaa
