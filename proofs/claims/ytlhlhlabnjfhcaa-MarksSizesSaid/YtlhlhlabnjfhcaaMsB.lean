/- slices.Equal on bytes; marks.Same. -/
import Derived.Test.YtlhlhlabnjfhcaaMsA
namespace Go.Proofs.Ytlhlhlabnjfhcaa
open Go.RowKit

set_option maxRecDepth 100000 in
set_option maxHeartbeats 2000000 in
theorem bytes_same (v u : Value) (a b : List UInt8) (w : World) (ha : BV w v a) (hb : BV w u b) (hl : a.length ≤ 1000000000) :
    Calls Try.prog 31 #[v, u] w fun e w' => ∃ (r : Bool) (n : Nat), e = .returned (.bool r) ∧ (r = true ↔ a = b) ∧ w' = w.drewN n := by
  obtain ⟨va, vc, rfl, g1, g2, g3⟩ := ha
  obtain ⟨ua, uc, rfl, k1, k2, k3⟩ := hb
  have G3 := Lib.hid g3
  have K3 := Lib.hid k3
  clear g3 k3
  by_cases hlen : a.length = b.length
  case neg =>
    have hne : ((a.length : Int) != (b.length : Int)) = true := by simp; omega
    go_enter Try.func31, Try.ntmps31
    go_wp2_with fail
    go_ret
    exact ⟨false, 0, rfl, by simp; rintro rfl; exact hlen rfl, rfl⟩
  have hne : ((a.length : Int) != (b.length : Int)) = false := by simp; omega
  have HL := Lib.hid hlen
  clear hlen
  go_enter Try.func31, Try.ntmps31
  go_wp2_with fail
  go_loopg [5, 13] a.length (fun g s5 s13 wx => ∃ j n : Nat, j ≤ a.length ∧ g = a.length - j ∧ s13 = .int .i64 j ∧ a.take j = b.take j ∧ wx = w.drewN n)
  case atStart => exact ⟨0, 0, Nat.zero_le _, rfl, rfl, rfl, rfl⟩
  case round =>
    obtain ⟨j, n, hj, rfl, rfl, hall, rfl⟩ := hrel
    have HA := Lib.hid hall
    clear hall
    by_cases hjl : j < a.length
    · obtain ⟨c, hc⟩ : ∃ c, a[j]? = some c := ⟨_, List.getElem?_eq_getElem hjl⟩
      obtain ⟨d, hd⟩ : ∃ d, b[j]? = some d := ⟨_, List.getElem?_eq_getElem (by have := HL.out; omega)⟩
      have hjb : j < b.length := by have := HL.out; omega
      obtain ⟨ad, rfl, -, h0⟩ := G3.out.cell hc
      obtain ⟨ad', rfl, -, h1⟩ := K3.out.cell hd
      replace h0 : (w.drewN n).cell? (ad.add j) = some (.int .u8 (c.toNat : Int)) := h0
      replace h1 : (w.drewN n).cell? (ad'.add j) = some (.int .u8 (d.toNat : Int)) := h1
      have hlt : decide ((j : Int) < (a.length : Int)) = true := by simp; omega
      have HC := Lib.hid (And.intro hc hd)
      clear hc hd
      have hBn : Below w.heap.size w (w.drewN n) := below_drewN (Below.refl _ _) n
      obtain ⟨wz, hz⟩ : ∃ wz, w.drewN n = wz := ⟨_, rfl⟩
      have HZ := Lib.hid hz
      rw [hz] at h0 h1 ⊢
      clear hz
      by_cases he : c = d
      · have hne : ((c.toNat : Int) != (d.toNat : Int)) = false := by simp [he]
        have HE := Lib.hid he
        clear he
        go_wp2_with fail
        go_region
        go_wp2_with fail
        go_roundg (a.length - (j + 1))
        case measure => omega
        case rel =>
          refine ⟨j + 1, n + 1, by omega, rfl, by go_num, ?_, by rw [← HZ.out]; rfl⟩
          rw [List.take_add_one, List.take_add_one, HC.out.1, HC.out.2, HA.out, HE.out]
      · have hne : ((c.toNat : Int) != (d.toNat : Int)) = true := by simp only [bne_iff_ne, ne_eq]; exact fun h => he (UInt8.toNat_inj.1 (by omega))
        go_wp2_with fail
        go_region
        go_wp2_with fail
        go_ret
        refine ⟨false, n + 1, rfl, ?_, by rw [← HZ.out]; rfl⟩
        simp only [Bool.false_eq_true, false_iff]
        rintro rfl
        have h2 := HC.out.2
        rw [HC.out.1] at h2
        cases h2
        exact he rfl
    · obtain rfl : j = a.length := by omega
      have hlt : decide (((a.length : Nat) : Int) < (a.length : Int)) = false := by simp
      go_wp2_with fail
      go_ret
      refine ⟨true, _, rfl, ?_, rfl⟩
      simp only [true_iff]
      have h1 := HA.out
      have h2 := HL.out
      rw [List.take_length, h2, List.take_length] at h1
      exact h1
end Go.Proofs.Ytlhlhlabnjfhcaa
