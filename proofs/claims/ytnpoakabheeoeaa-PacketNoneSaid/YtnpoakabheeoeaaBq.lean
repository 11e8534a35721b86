/- Bits of packets' heads: the program's reader: numbers, the end. -/
import Derived.Test.YtnpoakabheeoeaaBr
namespace Go.Proofs.Ytnpoakabheeoeaa
open Go.RowKit

/-- so many bits, read -/
def rdB (l : List UInt8) : Nat → RdM → Nat × RdM
  | 0, s => (0, s)
  | k + 1, s => (2 * (rdB l k s).1 + (rdBit l (rdB l k s).2).1, (rdBit l (rdB l k s).2).2)
theorem rdBit_inv (l : List UInt8) (s : RdM) (h : s.left ≤ 8) : (rdBit l s).1 ≤ 1 ∧ (rdBit l s).2.left ≤ 8 ∧ (rdBit l s).2.begun ≤ s.begun + 1 := by
  unfold rdBit rdNext
  refine ⟨by simp only; omega, ?_, ?_⟩
  · split
    · split <;> simp only <;> omega
    · simp only; omega
  · split
    · split <;> simp only <;> omega
    · simp only; omega
theorem rdB_inv (l : List UInt8) (s : RdM) (h : s.left ≤ 8) : ∀ k, (rdB l k s).1 < 2 ^ k ∧ (rdB l k s).2.left ≤ 8 ∧ (rdB l k s).2.begun ≤ s.begun + k
  | 0 => ⟨by simp [rdB], h, Nat.le_refl _⟩
  | k + 1 => by
    obtain ⟨h1, h2, h3⟩ := rdB_inv l s h k
    obtain ⟨k1, k2, k3⟩ := rdBit_inv l (rdB l k s).2 h2
    refine ⟨?_, k2, ?_⟩
    · simp only [rdB, Nat.pow_succ]; omega
    · simp only [rdB]; omega
def rdG (l : List UInt8) (size : Int) (s : RdM) : Nat × RdM := if 1 ≤ size ∧ size ≤ 32 then rdB l size.toNat s else (0, s)
theorem or_bit (n b : Nat) (hb : b ≤ 1) (hn : n < 4294967296) : bits .or .i64 (2 * (n : Int)) (b : Int) = ((2 * n + b : Nat) : Int) := by
  have h := i64_or_nat (2 * n) b (by omega) (by omega)
  rw [show ((2 * n : Nat) : Int) = 2 * (n : Int) from by push_cast; rfl] at h
  rw [h]
  have := (Nat.two_pow_add_eq_or_of_lt (i := 1) (b := b) (by omega) n).symm
  simp only [Nat.pow_one] at this
  rw [this]
theorem or_bit' (n b : Nat) (hb : b ≤ 1) (hn : n < 4294967296) : bits .or .i64 ((n : Int) * 2) (b : Int) = ((2 * n + b : Nat) : Int) := by rw [Int.mul_comm]; exact or_bit n b hb hn

set_option maxRecDepth 100000 in
set_option maxHeartbeats 1000000 in
theorem bits_rd (rb : Nat) (l : List UInt8) (s : RdM) (size : Int) (w : World) (H : List HB) (h : ReadH rb l s H) (hs : Sat w H) (hl : l.length ≤ 90000000) (hb : s.begun ≤ 80000000) (h8 : s.left ≤ 8) :
    Calls Try.prog 97 #[.pointer (some ⟨rb, 0, none⟩), .int .i64 size] w fun e w' => e = .returned (.int .i64 ((rdG l size s).1 : Int)) ∧ ∃ H', ReadH rb l (rdG l size s).2 H' ∧ Mv w H w' H' := by
  by_cases hz : 1 ≤ size ∧ size ≤ 32
  · obtain ⟨z, rfl⟩ := Int.eq_ofNat_of_zero_le (a := size) (by omega)
    have d1 : decide ((z : Int) < 1) = false := by simp; omega
    have d2 : decide ((32 : Int) < (z : Int)) = false := by simp; omega
    have hz2 : 1 ≤ z ∧ z ≤ 32 := by omega
    have HG : Hid (rdG l (z : Int) s = rdB l z s) := Lib.hid (by unfold rdG; rw [if_pos hz]; simp)
    rw [HG.out]
    have K := Lib.hid (And.intro h (And.intro hs h8))
    clear h hs hz HG
    go_enter Try.func97, Try.ntmps97
    go_wp2_with fail
    go_loopg [5, 13] z (fun g s5 s13 wx => ∃ i : Nat, i ≤ z ∧ g = z - i ∧ s13 = .int .i64 (i : Int) ∧ s5 = .int .i64 ((rdB l i s).1 : Int) ∧ ∃ H', ReadH rb l (rdB l i s).2 H' ∧ Mv w H wx H')
    case atStart => exact ⟨0, Nat.zero_le _, rfl, rfl, rfl, H, K.out.1, Mv.refl K.out.2.1⟩
    case round =>
      obtain ⟨wa, rfl⟩ : ∃ wa : World, wa = wr := ⟨_, rfl⟩
      obtain ⟨i, hik, rfl, rfl, rfl, H1, h1, m1⟩ := hrel
      by_cases hlt : i < z
      · have d3 : decide ((i : Int) < (z : Int)) = true := by simp; omega
        obtain ⟨q1, q2, q3⟩ := rdB_inv l s K.out.2.2 i
        obtain ⟨p1, p2, p3⟩ := rdBit_inv l (rdB l i s).2 q2
        have B1 := Lib.hid (bit_rd rb l (rdB l i s).2 wa H1 h1 m1.sat hl (by omega) q2)
        have q4 : (rdB l i s).1 < 4294967296 := Nat.lt_of_lt_of_le q1 (Nat.pow_le_pow_right (n := 2) (by decide) (show i ≤ 32 by omega))
        have E1 : Hid (rdB l (i + 1) s = (2 * (rdB l i s).1 + (rdBit l (rdB l i s).2).1, (rdBit l (rdB l i s).2).2)) := Lib.hid rfl
        generalize (rdB l i s).1 = n at *
        generalize (rdBit l (rdB l i s).2).1 = b at *
        have M1 := Lib.hid m1
        have OB := Lib.hid (And.intro (or_bit n b p1 q4) (or_bit' n b p1 q4))
        clear h1 m1 q1 p1
        go_wp2_with (go_at_call 74; refine B1.out.mono ?_; rintro e w2 ⟨rfl, H2, h2, m2⟩; have K2 := Lib.hid (And.intro h2 (M1.out.trans m2)); clear h2 m2)
        go_roundg (z - (i + 1))
        case measure => omega
        case rel =>
          refine ⟨i + 1, hlt, rfl, by go_num, ?_, H2, by rw [E1.out]; exact K2.out.1, K2.out.2⟩
          rw [E1.out]
          first | rw [OB.out.1] | rw [OB.out.2] | exact congrArg (Value.int IntKind.i64) OB.out.1 | exact congrArg (Value.int IntKind.i64) OB.out.2
      · obtain rfl : i = z := by omega
        have d3 : decide ((i : Int) < (i : Int)) = false := by simp
        go_wp2_with fail
        go_ret
        exact ⟨rfl, H1, h1, m1⟩
  · have hG : rdG l size s = (0, s) := by unfold rdG; rw [if_neg hz]
    rw [hG]
    by_cases h1 : size < 1
    · have d1 : decide (size < 1) = true := by simpa using h1
      have K := Lib.hid (And.intro h hs)
      clear h hs hz h1
      go_enter Try.func97, Try.ntmps97
      go_wp2_with fail
      go_ret
      exact ⟨rfl, H, K.out.1, Mv.refl K.out.2⟩
    · have d1 : decide (size < 1) = false := by simpa using h1
      have d2 : decide (32 < size) = true := by simp; omega
      have K := Lib.hid (And.intro h hs)
      clear h hs hz h1
      go_enter Try.func97, Try.ntmps97
      go_wp2_with fail
      go_ret
      exact ⟨rfl, H, K.out.1, Mv.refl K.out.2⟩

/-- where a head ends: how many bytes, what is wrong -/
def endM (l : List UInt8) (s : RdM) : Nat × Nat :=
  let n := if prevB l s.begun = 255 then s.begun + 1 else s.begun
  let bad := if prevB l s.begun = 255 then s.bad || decide (128 ≤ (l.getD s.begun 0).toNat) else s.bad
  if l.length < n then (0, 8) else if bad then (0, 10) else (n, 0)
set_option maxRecDepth 100000 in
set_option maxHeartbeats 1000000 in
theorem end_rd (rb : Nat) (l : List UInt8) (s : RdM) (w : World) (H : List HB) (h : ReadH rb l s H) (hs : Sat w H) (hl : l.length ≤ 90000000) (hb : s.begun ≤ 80000000) :
    Calls Try.prog 77 #[.pointer (some ⟨rb, 0, none⟩)] w fun e w' => e = .returned (.tuple #[.int .i64 ((endM l s).1 : Int), .int .i64 ((endM l s).2 : Int)]) ∧ ∃ n, w' = w.drewN n := by
  obtain ⟨bg, lf, bd⟩ := s
  obtain ⟨v, Hr, rfl, hr⟩ := h
  simp only at hb
  obtain ⟨va, vc, rfl⟩ := hr.slice
  have c0 : w.cell? ⟨rb, 0, none⟩ = some (.slice va l.length vc) := (hs.at_ 0 rfl).cell 0
  have c1 : w.cell? ⟨rb, 1, none⟩ = some (.int .i64 (bg : Int)) := (hs.at_ 0 rfl).cell 1
  have c3 : w.cell? ⟨rb, 3, none⟩ = some (.bool bd) := (hs.at_ 0 rfl).cell 3
  have AP := fun k => at_any rb l (.slice va l.length vc) Hr ((bg : Int) - 1) (w.drewN k) c0 hr (hs.right (A := [_])) (by omega)
  have AH := fun k => at_any rb l (.slice va l.length vc) Hr (bg : Int) (w.drewN k) c0 hr (hs.right (A := [_])) (by omega)
  simp only [at_prev] at AP
  simp only [at_here] at AH
  obtain ⟨q, hq⟩ : ∃ q, prevB l bg = q := ⟨_, rfl⟩
  obtain ⟨q2, hq2⟩ : ∃ q, l.getD bg 0 = q := ⟨_, rfl⟩
  have E0 : endM l ⟨bg, lf, bd⟩ = (if l.length < (if q = 255 then bg + 1 else bg) then (0, 8) else if (if q = 255 then bd || decide (128 ≤ q2.toNat) else bd) then (0, 10) else ((if q = 255 then bg + 1 else bg), 0)) := by
    simp only [endM, hq, hq2]
  rw [E0]
  simp only [hq] at AP
  simp only [hq2] at AH
  have AP := Lib.hid AP
  have AH := Lib.hid AH
  generalize l.length = n at *
  clear hr hs hq hq2 E0
  by_cases h255 : q = 255
  · have d0 : ((q.toNat : Int) == 255) = true := by rw [h255]; rfl
    simp only [h255, if_true]
    have c128 : (if (bd || decide (128 ≤ q2.toNat)) = true then ((0, 10) : Nat × Nat) else (bg + 1, 0)) = if bd = true then (0, 10) else if (128 : Int) ≤ (q2.toNat : Int) then (0, 10) else (bg + 1, 0) := by
      cases bd
      · simp only [Bool.false_or, decide_eq_true_eq, Bool.false_eq_true, if_false]
        by_cases h : 128 ≤ q2.toNat
        · rw [if_pos h, if_pos (by omega)]
        · rw [if_neg h, if_neg (by omega)]
      · rfl
    rw [c128]
    have E := Lib.hid (Eq.refl (if n < bg + 1 then ((0, 8) : Nat × Nat) else if bd = true then (0, 10) else if (128 : Int) ≤ (q2.toNat : Int) then (0, 10) else (bg + 1, 0)))
    obtain ⟨R, hR⟩ : ∃ R, (if n < bg + 1 then ((0, 8) : Nat × Nat) else if bd = true then (0, 10) else if (128 : Int) ≤ (q2.toNat : Int) then (0, 10) else (bg + 1, 0)) = R := ⟨_, rfl⟩
    rw [hR]
    have HR := Lib.hid hR
    clear h255 c128 E hR
    go_enter Try.func77, Try.ntmps77
    go_upto_region 1 with fail
    go_quiet (fail)
    go_wp2_with (first | (go_at_call 93; with_reducible refine (AP.out _).mono ?_; rintro e w' ⟨rfl, rfl⟩) | (go_at_call 93; with_reducible refine (AH.out _).mono ?_; rintro e w' ⟨rfl, rfl⟩))
    all_goals
      go_ret2
      refine ⟨?_, _, rfl⟩
      rw [← HR.out]
      first
        | (rw [if_pos (by omega)]; rfl)
        | (rw [if_neg (by omega), if_pos (by assumption)]; rfl)
        | (rw [if_neg (by omega), if_neg (by simp [*]), if_pos (by omega)]; rfl)
        | (rw [if_neg (by omega), if_neg (by simp [*]), if_neg (by omega)]; go_num)
        | (rw [if_neg (by omega), if_neg (by simp [*]), if_neg (by omega)]; rfl)
  · have d0 : ((q.toNat : Int) == 255) = false := by
      have : q.toNat ≠ 255 := fun e => h255 (UInt8.toNat_inj.1 (by rw [e]; rfl))
      exact beq_eq_false_iff_ne.2 (by omega)
    simp only [h255, if_false]
    obtain ⟨R, hR⟩ : ∃ R, (if n < bg then ((0, 8) : Nat × Nat) else if bd = true then (0, 10) else (bg, 0)) = R := ⟨_, rfl⟩
    rw [hR]
    have HR := Lib.hid hR
    clear h255 hR
    go_enter Try.func77, Try.ntmps77
    go_upto_region 1 with fail
    go_quiet (fail)
    go_wp2_with (first | (go_at_call 93; with_reducible refine (AP.out _).mono ?_; rintro e w' ⟨rfl, rfl⟩) | (go_at_call 93; with_reducible refine (AH.out _).mono ?_; rintro e w' ⟨rfl, rfl⟩))
    all_goals
      go_ret2
      refine ⟨?_, _, rfl⟩
      rw [← HR.out]
      first
        | (rw [if_pos (by omega)]; rfl)
        | (rw [if_neg (by omega), if_pos (by assumption)]; rfl)
        | (rw [if_neg (by omega), if_neg (by simp [*])]; rfl)
end Go.Proofs.Ytnpoakabheeoeaa
