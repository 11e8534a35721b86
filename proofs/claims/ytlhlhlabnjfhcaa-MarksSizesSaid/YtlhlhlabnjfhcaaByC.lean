/- wavelet/bytes: Get. -/
import Derived.Test.YtlhlhlabnjfhcaaByB
import Derived.Laws.Bits64b
namespace Go.Proofs.Ytlhlhlabnjfhcaa
open Go.RowKit

/-- bytes as a number, the first one the most significant -/
def beN (l : List UInt8) : Nat := l.foldl (fun u c => u * 256 + c.toNat) 0

theorem beN_snoc (l : List UInt8) (c : UInt8) : beN (l ++ [c]) = beN l * 256 + c.toNat := by simp [beN]
theorem beN_lt_go : ∀ (l : List UInt8) (u : Nat), l.foldl (fun u c => u * 256 + c.toNat) u < (u + 1) * 256 ^ l.length
  | [], u => by simp
  | c :: l, u => by
    have h := beN_lt_go l (u * 256 + c.toNat)
    have hc := c.toNat_lt
    rw [List.foldl_cons, List.length_cons, Nat.pow_succ, ← Nat.mul_assoc, Nat.mul_right_comm]
    exact Nat.lt_of_lt_of_le h (Nat.mul_le_mul_right _ (by omega))
theorem beN_lt (l : List UInt8) : beN l < 256 ^ l.length := by simpa [beN] using beN_lt_go l 0
theorem beN_lt8 (l : List UInt8) (k : Nat) (h : l.length ≤ k) : beN l < 256 ^ k := Nat.lt_of_lt_of_le (beN_lt l) (Nat.pow_le_pow_right (by decide) h)

/-- what Get answers -/
def getI (l : List UInt8) : Int := IntKind.i64.wrap (beN l : Int)

theorem wrapEq (x : Int) : IntKind.i64.wrap x = wrap64 x := IntWalk.i64_left x
theorem ret_int {k : IntKind} {a b : Int} (h : a = b) : Ending.returned (.int k a) = .returned (.int k b) := by rw [h]
theorem getI_eq (l : List UInt8) : wrap64 (beN l : Int) = getI l := by unfold getI; exact (wrapEq _).symm

theorem or_byte (u : Nat) (c : UInt8) : u * 256 ||| c.toNat = u * 256 + c.toNat := by
  have := c.toNat_lt
  rw [show u * 256 = 256 * u from Nat.mul_comm _ _]
  exact (Nat.two_pow_add_eq_or_of_lt (i := 8) (by simpa using this) u).symm

theorem or_u64 (u : Nat) (c : UInt8) (h : u < 256 ^ 7) : bits .or .u64 ((u : Int) * 256) (c.toNat : Int) = ((u * 256 + c.toNat : Nat) : Int) := by
  have := c.toNat_lt
  have e := bits_or_u64_nat (u * 256) c.toNat (by omega) (by omega)
  rw [or_byte] at e
  rw [← e]
  simp

theorem get_ok (rb : Nat) (l : List UInt8) (k : Nat) (w : World) (hr : Rdr w rb l 0) (hl : l.length ≤ 140737488355328) (h1 : 1 ≤ k) (h8 : k ≤ 8) (hk : k ≤ l.length) :
    Calls Try.prog 45 #[.pointer (some ⟨rb, 0, none⟩), .int .i64 k] w fun e w' => e = .returned (.int .i64 (getI (l.take k))) ∧ Rdr w' rb (l.drop k) 0 ∧ w.grownBy w' (some rb) := by
  have d1 : (decide (1 ≤ (k : Int)) && decide ((k : Int) ≤ 8)) = true := by simp; omega
  have HR := Lib.hid hr
  clear hr
  go_enter Try.func45, Try.ntmps45
  go_wp2_with fail
  refine (fits_any _ _).mono ?_
  rintro e w' ⟨rfl, rfl⟩
  rw [d1]
  go_wp2_with fail
  refine (take_ok rb l k _ HR.out hl hk).mono ?_
  rintro e w1 ⟨v, rfl, ho, hr1, hg⟩
  have hlen : (l.take k).length = k := by rw [List.length_take]; omega
  obtain ⟨m, hm⟩ : ∃ m, m = l.take k := ⟨_, rfl⟩
  rw [← hm] at hlen ho
  have HM := Lib.hid hm
  clear hm
  have hv := BV.of_owns (l := m) (by rw [hlen]; exact ho)
  obtain ⟨A, c, rfl, g1, g2, g3⟩ := hv
  have HR1 := Lib.hid hr1
  have G3 := Lib.hid g3
  clear ho hr1 g3
  rw [hlen] at g1 ⊢
  go_wp2_with fail
  have HL := Lib.hid hlen
  clear hlen
  unfold maxLen at g2
  go_loopg [5, 17] k (fun g s5 s17 wx => ∃ j : Nat, j ≤ k ∧ g = k - j ∧ s17 = .int .i64 j ∧ s5 = .int .u64 (beN (m.take j) : Nat) ∧ w1 = wx)
  case atStart => exact ⟨0, Nat.zero_le _, rfl, rfl, rfl, rfl⟩
  case round =>
    obtain ⟨j, hj, rfl, rfl, rfl, rfl⟩ := hrel
    by_cases hjl : j < k
    · obtain ⟨x, hx⟩ : ∃ x, m[j]? = some x := ⟨_, List.getElem?_eq_getElem (by rw [HL.out]; exact hjl)⟩
      obtain ⟨ad, rfl, -, hc⟩ := G3.out.cell hx
      have hu := beN_lt8 (m.take j) 7 (by rw [List.length_take]; omega)
      have hx8 := x.toNat_lt
      have hsn : beN (m.take (j + 1)) = beN (m.take j) * 256 + x.toNat := by rw [List.take_add_one, hx]; exact beN_snoc _ _
      have HS := Lib.hid hsn
      generalize beN (m.take j) = u at *
      clear hx hsn
      have HO := Lib.hid (or_u64 u x hu)
      go_wp2_with fail
      go_roundg (k - (j + 1))
      case measure => omega
      case rel => exact ⟨j + 1, by omega, rfl, by go_num, by rw [HS.out, HO.out], rfl⟩
    · obtain rfl : j = k := by omega
      go_wp2_with fail
      go_ret
      have e : m.take j = m := List.take_of_length_le (by rw [HL.out]; exact Nat.le_refl _)
      refine ⟨?_, HR1.out, hg⟩
      rw [← HM.out]
      exact ret_int (by rw [e]; exact getI_eq m)

theorem get_bad (rb : Nat) (l : List UInt8) (er : Int) (k : Nat) (w : World) (hr : Rdr w rb l er) (hl : l.length ≤ 140737488355328) (h1 : 1 ≤ k) (h8 : k ≤ 8) (hk : er ≠ 0 ∨ l.length < k) :
    Calls Try.prog 45 #[.pointer (some ⟨rb, 0, none⟩), .int .i64 k] w fun e w' => e = .returned (.int .i64 0) ∧ Rdr w' rb l (failE er 8) ∧ w.grownBy w' (some rb) := by
  have d1 : (decide (1 ≤ (k : Int)) && decide ((k : Int) ≤ 8)) = true := by simp; omega
  have HR := Lib.hid hr
  clear hr
  have HK := Lib.hid hk
  clear hk
  go_enter Try.func45, Try.ntmps45
  go_wp2_with fail
  refine (fits_any _ _).mono ?_
  rintro e w' ⟨rfl, rfl⟩
  rw [d1]
  go_wp2_with fail
  refine (take_bad rb l er k _ HR.out hl (by rcases HK.out with h | h; exact .inl h; exact .inr (.inr (by omega)))).mono ?_
  rintro e w1 ⟨rfl, hr1, hg⟩
  rw [takeE_pos (by omega)] at hr1
  have HR1 := Lib.hid hr1
  clear hr1
  go_wp2_with fail
  go_loopg [5, 17] 0 (fun g s5 s17 wx => s17 = .int .i64 0 ∧ s5 = .int .u64 0 ∧ w1 = wx)
  case atStart => exact ⟨rfl, rfl, rfl⟩
  case round =>
    obtain ⟨rfl, rfl, rfl⟩ := hrel
    go_wp2_with fail
    go_ret
    exact ⟨rfl, HR1.out, hg⟩
end Go.Proofs.Ytlhlhlabnjfhcaa
