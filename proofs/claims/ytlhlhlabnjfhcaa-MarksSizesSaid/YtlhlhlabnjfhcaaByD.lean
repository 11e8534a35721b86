/- wavelet/bytes: Put. -/
import Derived.Test.YtlhlhlabnjfhcaaByC
namespace Go.Proofs.Ytlhlhlabnjfhcaa
open Go.RowKit

/-- the first i bytes of a field of k bytes -/
def putTo (k : Nat) (n : Int) (i : Nat) : List UInt8 := (List.range i).map fun t => UInt8.ofNat ((n % 18446744073709551616).toNat / 256 ^ (k - 1 - t))
def putB (k : Nat) (n : Int) : List UInt8 := putTo k n k
theorem putTo_length (k : Nat) (n : Int) (i : Nat) : (putTo k n i).length = i := by simp [putTo]
theorem putB_length (k : Nat) (n : Int) : (putB k n).length = k := putTo_length k n k
theorem putTo_succ (k : Nat) (n : Int) (i : Nat) : putTo k n (i + 1) = putTo k n i ++ [UInt8.ofNat ((n % 18446744073709551616).toNat / 256 ^ (k - 1 - i))] := by
  simp [putTo, List.range_succ]

theorem byte_eq (n : Int) (m : Nat) : IntKind.u64.wrap n / 2 ^ (8 * m) % 256 = ((UInt8.ofNat ((n % 18446744073709551616).toNat / 256 ^ m)).toNat : Int) := by
  rw [IntKind.wrap_u64]
  have h0 : 0 ≤ n % 18446744073709551616 := Int.emod_nonneg _ (by decide)
  obtain ⟨u, hu⟩ := Int.eq_ofNat_of_zero_le h0
  have e : (2 : Int) ^ (8 * m) = ((256 ^ m : Nat) : Int) := by
    rw [show (256 : Nat) = 2 ^ 8 from rfl, ← Nat.pow_mul]
    simp
  rw [hu, UInt8.toNat_ofNat', Int.toNat_natCast, e, Int.natCast_emod, Int.natCast_ediv]
  rfl

theorem put_any (v : Value) (l : List UInt8) (k : Nat) (n : Int) (w : World) (hv : BV w v l) (h1 : 1 ≤ k) (h8 : k ≤ 8) (hl : l.length ≤ 70368744177664) :
    Calls Try.prog 55 #[v, .int .i64 k, .int .i64 n] w fun e w' => ∃ v', e = .returned v' ∧ w'.ownsRow w.heap.size 5 1 v' (l.length + k) (cellsB (l ++ putB k n)) ∧ Below w.heap.size w w' := by
  obtain ⟨A, c, rfl, g1, g2, g3⟩ := hv
  have d1 : (decide (1 ≤ (k : Int)) && decide ((k : Int) ≤ 8)) = true := by simp; omega
  obtain ⟨i0, hi, hz0, hz1, hz2⟩ := info_parts infoU8
  go_enter Try.func55, Try.ntmps55
  go_wp2_with fail
  refine (cloneB A l.length c (cellsB l) _ g3 (cellsB_one l) (by omega)).mono ?_
  rintro e w1 ⟨v1, rfl, ho, hb⟩
  obtain ⟨a1, c1, rfl⟩ := owns_slice ho
  go_wp2_with fail
  refine (fits_any _ _).mono ?_
  rintro e w' ⟨rfl, rfl⟩
  rw [d1]
  go_wp2_with fail
  go_loopg [7, 8] k (fun g s7 s8 wx => ∃ i : Nat, i ≤ k ∧ g = k - i ∧ s8 = .int .i64 ((k : Int) - 1 - i) ∧ wx.ownsRow w.heap.size 5 1 s7 (l.length + i) (cellsB (l ++ putTo k n i)) ∧ Below w.heap.size w wx)
  case atStart => exact ⟨0, Nat.zero_le _, rfl, by go_num, by simpa [putTo] using ho, hb⟩
  case round =>
    obtain ⟨wa, rfl⟩ : ∃ wa : World, wa = wr := ⟨_, rfl⟩
    obtain ⟨i, hik, rfl, rfl, ho2, hb2⟩ := hrel
    obtain ⟨a2, c2, rfl⟩ := owns_slice ho2
    by_cases hlt : i < k
    · have d2 : decide ((i : Int) ≤ (k : Int) - 1) = true := by simp; omega
      have HB := Lib.hid (byte_eq n (k - 1 - i))
      go_wp2_with (at_builtin; go_must (refine wpList_append_own _ rfl _ _ 25 rfl w.heap.size 5 i0 (.int .u8 0) 1 1 Try.underlying25 hi hz0 hz1 hz2 rfl (by decide) _ _ _ rfl (ho2.alloc _) ⟨wa.heap.size, 0, none⟩ 1 1 [.int .u8 (IntKind.u64.wrap n / 2 ^ (8 * (k - 1 - i)) % 256)] rfl rfl (news_block _ _ _) (by simp [Value.oneCell']) (by unfold maxLen; omega) (by omega) (by have := hb2.size; simp; omega) ?_; intro v' w7 hown7 hg7 hn7; obtain ⟨a7, p7, rfl⟩ := owns_slice hown7))
      go_roundg (k - (i + 1))
      case measure => omega
      case rel =>
        refine ⟨i + 1, hlt, rfl, by go_num, ?_, ((hb2.alloc hb2.size _).trans (below_grown hg7 (by have := hb2.size; simp; omega) (fun j hj => (ho2.lt j hj).1)))⟩
        rw [putTo_succ, ← List.append_assoc, cellsB_append, ← Nat.add_assoc]
        have e : cellsB [UInt8.ofNat ((n % 18446744073709551616).toNat / 256 ^ (k - 1 - i))] = [.int .u8 (IntKind.u64.wrap n / 2 ^ (8 * (k - 1 - i)) % 256)] := by rw [HB.out]; rfl
        rw [e]
        exact hown7
    · obtain rfl : i = k := by omega
      have d2 : decide ((i : Int) ≤ (i : Int) - 1) = false := by simp; omega
      have hr := Reads.of_own ho2
      go_wp2_with fail
      refine (cloneB a2 (l.length + i) c2 _ _ hr (cellsB_one _) (by omega)).mono ?_
      rintro e w3 ⟨v3, rfl, ho3, hb3⟩
      obtain ⟨a3, c3, rfl⟩ := owns_slice ho3
      go_wp2_with fail
      go_ret
      exact ⟨_, rfl, owns_base ho3 hb2.size, hb2.trans (hb3.mono hb2.size)⟩
end Go.Proofs.Ytlhlhlabnjfhcaa
