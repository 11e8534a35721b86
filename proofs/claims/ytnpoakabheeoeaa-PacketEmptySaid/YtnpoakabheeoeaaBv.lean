/- Bits of packets' heads: the program's writer by what was written; slices.Clone of bytes. -/
import Derived.Test.YtnpoakabheeoeaaBw
import Derived.WalkLawsBesides
namespace Go.Proofs.Ytnpoakabheeoeaa
open Go.RowKit

set_option maxRecDepth 100000 in
/-- a copy of bytes that read -/
theorem clone_any (v : Value) (l : List UInt8) (w : World) (hv : BV w v l) (hn : l.length ≤ 100000000) :
    Calls Try.prog 31 #[v] w fun e w' => ∃ v' H', e = .returned v' ∧ RowB v' l H' ∧ Mv w [] w' H' := by
  obtain ⟨A, c, rfl, h1, h2, hr⟩ := hv
  have HV := Lib.hid hr
  have hq : ∀ W, (binOp .eql 30 (.slice A l.length c) (.slice none 0 0)).run Try.prog W = .ok (.bool A.isNone) W := fun W => Lib.run_eql_slice_nil W 30 5 A l.length c 0 0 Try.underlying30
  rcases A with _ | ad
  · have h0 : l.length = 0 := by
      rcases Nat.eq_zero_or_pos l.length with h | h
      · exact h
      · obtain ⟨_, h, _⟩ := hr.2 h; cases h
    have hl : l = [] := List.eq_nil_of_length_eq_zero h0
    subst hl
    clear hr HV hn h1 h0
    simp only [List.length_nil] at hq ⊢
    go_enter Try.func31, Try.ntmps31
    go_wp2
    go_ret
    exact ⟨_, [], rfl, RowH.nil _ _, Mv.refl (Sat.nil w)⟩
  · have M0 := mv_alloc w 5 #[]
    have B0 : BV (w.alloc (.cells #[] 5)) (.slice (some ad) l.length c) l := ⟨some ad, c, rfl, h1, h2, (hr.alloc (Nat.le_refl _) _).more (by simp)⟩
    have R0 : RowB (.slice (some ⟨w.heap.size, 0, none⟩) 0 0) [] [⟨w.heap.size, 5, #[]⟩] := RowB.lit w.heap.size [] 0 rfl (by decide)
    have K := Lib.hid (And.intro M0 (And.intro B0 R0))
    obtain ⟨n, hnn⟩ : ∃ n, l.length = n := ⟨_, rfl⟩
    have HN := Lib.hid hnn
    rw [hnn] at hq hn h1 K
    rw [hnn]
    clear hr HV M0 B0 R0 hnn
    go_enter Try.func31, Try.ntmps31
    go_wp2_with (at_builtin; go_must (refine wpList_appB rfl (.tmp 5) (.tmp 6) rfl _ _ [] l _ rfl rfl K.out.2.2 K.out.1.sat K.out.2.1 (by rw [HN.out]; simp; omega) ?_; intro v' w1 H1 hr1 m1; obtain ⟨a1, c1, rfl⟩ := hr1.slice; have K1 := Lib.hid (And.intro hr1 m1); clear hr1 m1))
    go_ret
    exact ⟨_, H1, rfl, by simpa using K1.out.1, K.out.1.trans K1.out.2⟩

theorem wbits_inv (bs : List Bool) : (wbits bs).2 ≤ 8 ∧ ((wbits bs).2 ≠ 0 → (wbits bs).1 ≠ []) ∧ (wbits bs).1.length ≤ bs.length := by
  have h := wr_bits bs
  refine ⟨?_, ?_, ?_⟩
  · rcases h with ⟨h1, -⟩ | ⟨-, h2, -⟩
    · omega
    · split at h2 <;> omega
  · rcases h with ⟨h1, -⟩ | ⟨-, -, h3, -⟩
    · intro e; exact absurd h1 e
    · intro _; rw [h3]; simp
  · clear h
    have key : ∀ (l : List Bool) (s : List UInt8 × Nat), (l.foldl wbit s).1.length ≤ s.1.length + l.length := by
      intro l
      induction l with
      | nil => intro s; simp
      | cons b l ih =>
        intro s
        have h1 := ih (wbit s b)
        have h2 : (wbit s b).1.length ≤ s.1.length + 1 := by
          simp only [wbit]
          split <;> simp <;> omega
        simp only [List.foldl_cons, List.length_cons]
        omega
    simpa [wbits] using key bs ([], 0)
/-- the writer in block wb: these bits were written -/
def WrB (wb : Nat) (bs : List Bool) (H : List HB) : Prop := WrH wb (wbits bs).1 (wbits bs).2 H
/-- a number's bit, as written -/
def bitI (n : Int) (k : Nat) : Bool := decide (n / 2 ^ k % 2 = 1)
def bitsN (n : Int) (size : Nat) : List Bool := (List.range size).map fun i => bitI n (size - 1 - i)
def bitsG (n size : Int) : List Bool := if 1 ≤ size ∧ size ≤ 32 then bitsN n size.toNat else []
theorem bitsN_length (n : Int) (size : Nat) : (bitsN n size).length = size := by simp [bitsN]
theorem bitsG_length (n size : Int) : (bitsG n size).length ≤ 32 := by
  unfold bitsG
  split
  · rw [bitsN_length]; omega
  · simp

theorem bit_any (wb : Nat) (bs : List Bool) (b : Int) (w : World) (H : List HB) (h : WrB wb bs H) (hs : Sat w H) (hl : bs.length ≤ 80000000) :
    Calls Try.prog 58 #[.pointer (some ⟨wb, 0, none⟩), .int .i64 b] w fun e w' => e = .returned (.tuple #[]) ∧ ∃ H', WrB wb (bs ++ [decide (b % 2 = 1)]) H' ∧ Mv w H w' H' := by
  obtain ⟨i1, i2, i3⟩ := wbits_inv bs
  have := bit_wr wb (wbits bs).1 (wbits bs).2 b w H h hs (by omega) i1 i2
  unfold WrB
  rw [wbits_snoc]
  exact this

theorem new_writer (w : World) : Calls Try.prog 25 #[] w fun e w' => ∃ wb H', e = .returned (.pointer (some ⟨wb, 0, none⟩)) ∧ WrB wb [] H' ∧ Mv w [] w' H' := by
  go_enter Try.func25, Try.ntmps25
  go_wp2_with fail
  go_ret
  exact ⟨_, _, rfl, ⟨_, [], rfl, RowH.nil _ _⟩, mv_alloc w _ _⟩

set_option maxRecDepth 100000 in
set_option maxHeartbeats 1000000 in
theorem bits_any (wb : Nat) (bs : List Bool) (n size : Int) (w : World) (H : List HB) (h : WrB wb bs H) (hs : Sat w H) (hl : bs.length ≤ 70000000) :
    Calls Try.prog 26 #[.pointer (some ⟨wb, 0, none⟩), .int .i64 n, .int .i64 size] w fun e w' => e = .returned (.tuple #[]) ∧ ∃ H', WrB wb (bs ++ bitsG n size) H' ∧ Mv w H w' H' := by
  by_cases hz : 1 ≤ size ∧ size ≤ 32
  · obtain ⟨z, rfl⟩ := Int.eq_ofNat_of_zero_le (a := size) (by omega)
    have d1 : decide ((z : Int) < 1) = false := by simp; omega
    have d2 : decide ((32 : Int) < (z : Int)) = false := by simp; omega
    have K := Lib.hid (And.intro h (And.intro hs hz))
    have hz2 : 1 ≤ z ∧ z ≤ 32 := by omega
    have HG : Hid (bs ++ bitsG n (z : Int) = bs ++ bitsN n z) := Lib.hid (by unfold bitsG; rw [if_pos hz]; simp)
    rw [HG.out]
    clear h hs hz HG
    go_enter Try.func26, Try.ntmps26
    go_wp2_with fail
    go_loopg [6] z (fun g s6 wx => ∃ i : Nat, i ≤ z ∧ g = z - i ∧ s6 = .int .i64 ((z : Int) - 1 - i) ∧ ∃ H', WrB wb (bs ++ (List.range i).map fun j => bitI n (z - 1 - j)) H' ∧ Mv w H wx H')
    case atStart => exact ⟨0, Nat.zero_le _, rfl, by go_num, H, by simpa using K.out.1, Mv.refl K.out.2.1⟩
    case round =>
      obtain ⟨wa, rfl⟩ : ∃ wa : World, wa = wr := ⟨_, rfl⟩
      obtain ⟨i, hik, rfl, rfl, H1, h1, m1⟩ := hrel
      by_cases hlt : i < z
      · have d3 : decide ((0 : Int) ≤ (z : Int) - 1 - i) = true := by simp; omega
        obtain ⟨q, hq⟩ : ∃ q, z - 1 - i = q := ⟨_, rfl⟩
        have hq2 : (z : Int) - 1 - i = (q : Int) := by omega
        rw [hq2] at d3
        simp only [hq2]
        have hq3 : q ≤ 31 := by omega
        have HQ := Lib.hid (And.intro hq hq2)
        have B1 := Lib.hid (bit_any wb _ (n / 2 ^ q) wa H1 h1 m1.sat (by simp; omega))
        have M1 := Lib.hid m1
        clear hq hq2 h1 m1
        go_wp2_with (go_at_call 58; refine B1.out.mono ?_; rintro e w2 ⟨rfl, H2, h2, m2⟩; have K2 := Lib.hid (And.intro h2 (M1.out.trans m2)); clear h2 m2)
        go_roundg (z - (i + 1))
        case measure => omega
        case rel =>
          refine ⟨i + 1, hlt, rfl, ?_, _, ?_, K2.out.2⟩
          · have := HQ.out.2
            have h9 : (q : Int) - 1 = (z : Int) - 1 - ((i + 1 : Nat) : Int) := by omega
            first | rw [h9] | go_num
          · have := K2.out.1
            rw [List.range_succ, List.map_append, ← List.append_assoc]
            simpa [bitI, HQ.out.1] using this
      · obtain rfl : i = z := by omega
        have d3 : decide ((0 : Int) ≤ (i : Int) - 1 - i) = false := by simp; omega
        go_wp2_with fail
        go_end0
        exact ⟨rfl, H1, h1, m1⟩
  · have hG : bs ++ bitsG n size = bs := by unfold bitsG; rw [if_neg hz]; simp
    rw [hG]
    by_cases h1 : size < 1
    · have d1 : decide (size < 1) = true := by simpa using h1
      have K := Lib.hid (And.intro h hs)
      clear h hs hz h1
      go_enter Try.func26, Try.ntmps26
      go_wp2_with fail
      exact bodyPost_ret (results_none rfl _ _ _) rfl ⟨rfl, H, K.out.1, Mv.refl K.out.2⟩
    · have d1 : decide (size < 1) = false := by simpa using h1
      have d2 : decide (32 < size) = true := by simp; omega
      have K := Lib.hid (And.intro h hs)
      clear h hs hz h1
      go_enter Try.func26, Try.ntmps26
      go_wp2_with fail
      exact bodyPost_ret (results_none rfl _ _ _) rfl ⟨rfl, H, K.out.1, Mv.refl K.out.2⟩
end Go.Proofs.Ytnpoakabheeoeaa
