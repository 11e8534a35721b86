/- canvas: picture. -/
import Derived.Test.YtlhlhlabnjfhcaaCvA
import Derived.Test.YtlhlhlabnjfhcaaMsB
namespace Go.Proofs.Ytlhlhlabnjfhcaa
open Go.RowKit

def compB (c : CompD) : Bool := inB c.depth 1 16 && inB c.dx 1 4 && inB c.dy 1 4
/-- what is wrong with a picture's numbers -/
def picE (m : ImgD) : Int :=
  if m.ox < 0 ∨ m.oy < 0 ∨ m.x ≤ m.ox ∨ m.y ≤ m.oy then 1 else if 64 < m.x ∨ 64 < m.y then 14 else if inB m.cs.length 1 4 = false then 4 else if m.cs.all compB then 0 else 1

set_option maxRecDepth 100000 in
set_option maxHeartbeats 4000000 in
theorem picture_any (m : ImgD) (v : Value) (w : World) (hv : CompsRd w v m.cs) : Calls Try.prog 50 #[imgV m v] w fun e w' => e = .returned (.int .i64 (picE m)) ∧ Below w.heap.size w w' := by
  have HV := Lib.hid hv
  obtain ⟨va, vc, rfl, -⟩ := hv
  unfold imgV
  have B0 : Below w.heap.size w (w.alloc (.cells #[.int .i64 m.x, .int .i64 m.y, .int .i64 m.ox, .int .i64 m.oy, .slice va m.cs.length vc] 29)) := (Below.refl _ _).alloc (Nat.le_refl _) _
  have HB := Lib.hid B0
  clear B0
  go_enter Try.func50, Try.ntmps50
  by_cases h1 : m.ox < 0
  case pos =>
    have hE : picE m = 1 := by unfold picE; rw [if_pos (.inl h1)]
    have HE := Lib.hid hE
    clear hE
    go_wp2_with fail
    go_ret
    exact ⟨by rw [HE.out]; rfl, HB.out⟩
  by_cases h2 : m.oy < 0
  case pos =>
    have hE : picE m = 1 := by unfold picE; rw [if_pos (.inr (.inl h2))]
    have HE := Lib.hid hE
    clear hE
    go_wp2_with fail
    go_ret
    exact ⟨by rw [HE.out]; rfl, HB.out⟩
  by_cases h3 : m.x ≤ m.ox
  case pos =>
    have hE : picE m = 1 := by unfold picE; rw [if_pos (.inr (.inr (.inl h3)))]
    have HE := Lib.hid hE
    clear hE
    go_wp2_with fail
    go_ret
    exact ⟨by rw [HE.out]; rfl, HB.out⟩
  by_cases h4 : m.y ≤ m.oy
  case pos =>
    have hE : picE m = 1 := by unfold picE; rw [if_pos (.inr (.inr (.inr h4)))]
    have HE := Lib.hid hE
    clear hE
    go_wp2_with fail
    go_ret
    exact ⟨by rw [HE.out]; rfl, HB.out⟩
  have E1 : picE m = if 64 < m.x ∨ 64 < m.y then 14 else if inB m.cs.length 1 4 = false then 4 else if m.cs.all compB then 0 else 1 := by unfold picE; rw [if_neg (by omega)]
  by_cases h5 : 64 < m.x
  case pos =>
    have hE : picE m = 14 := by rw [E1, if_pos (.inl h5)]
    have HE := Lib.hid hE
    clear hE E1
    go_wp2_with fail
    go_ret
    exact ⟨by rw [HE.out]; rfl, HB.out⟩
  by_cases h6 : 64 < m.y
  case pos =>
    have hE : picE m = 14 := by rw [E1, if_pos (.inr h6)]
    have HE := Lib.hid hE
    clear hE E1
    go_wp2_with fail
    go_ret
    exact ⟨by rw [HE.out]; rfl, HB.out⟩
  rw [if_neg (by omega)] at E1
  have C1 := fun W => cw_any m.cs.length 1 4 W
  have hI : inB m.cs.length 1 4 = true → m.cs.length ≤ 4 := by unfold inB; simp; omega
  generalize inB m.cs.length 1 4 = b at *
  cases b
  · rw [if_pos rfl] at E1
    have HE := Lib.hid E1
    clear E1
    go_wp2_with (go_at_call 51; refine (C1 _).mono ?_; rintro e w' ⟨rfl, rfl⟩)
    go_ret
    exact ⟨by rw [HE.out]; rfl, HB.out⟩
  · rw [if_neg (by simp)] at E1
    have HE := Lib.hid E1
    have hl4 := hI rfl
    clear E1 hI
    go_wp2_with (go_at_call 51; refine (C1 _).mono ?_; rintro e w' ⟨rfl, rfl⟩)
    have HA : Hid (∀ (k : Nat) (c : CompD), m.cs[k]? = some c → compB c = false → m.cs.all compB = false) := by
      intro k c hk hc
      rw [List.all_eq_false]
      exact ⟨c, List.mem_of_getElem? hk, by simp [hc]⟩
    go_loopg [4, 46] m.cs.length (fun g s4 s46 wx => ∃ j : Nat, j ≤ m.cs.length ∧ g = m.cs.length - j ∧ s46 = .int .i64 j ∧ (∀ (k : Nat) c, k < j → m.cs[k]? = some c → compB c = true) ∧ Below w.heap.size w wx)
    case atStart => exact ⟨0, Nat.zero_le _, rfl, rfl, by omega, HB.out⟩
    case round =>
      obtain ⟨wy, rfl⟩ : ∃ wy : World, wy = wr := ⟨_, rfl⟩
      obtain ⟨j, hj, rfl, rfl, hall, hB⟩ := hrel
      by_cases hjl : j < m.cs.length
      · obtain ⟨c, hc⟩ : ∃ c, m.cs[j]? = some c := ⟨_, List.getElem?_eq_getElem hjl⟩
        obtain ⟨_, _, he, -, -, q⟩ := HV.out
        cases he
        obtain ⟨bl, o, dv, rfl, c0, c1, c2, c3, c4, ⟨dsa, dsc, rfl, -⟩⟩ := q j c hc
        have l1 := World.block_lt_of_cell? w _ c0
        have hsz := hB.size
        replace c0 := bcellC hB c0 l1
        replace c1 := bcellC hB c1 l1
        replace c2 := bcellC hB c2 l1
        replace c3 := bcellC hB c3 l1
        replace c4 := bcellC hB c4 l1
        have l3 : bl < wy.heap.size := Nat.lt_of_lt_of_le l1 hsz
        have hlt : decide ((j : Int) < (m.cs.length : Int)) = true := by simp; omega
        have hcB : compB c = (inB c.depth 1 16 && inB c.dx 1 4 && inB c.dy 1 4) := rfl
        have k1 := fun W => cw_any c.depth 1 16 W
        have k2 := fun W => cw_any c.dx 1 4 W
        have k3 := fun W => cw_any c.dy 1 4 W
        generalize inB c.depth 1 16 = b1 at *
        generalize inB c.dx 1 4 = b2 at *
        generalize inB c.dy 1 4 = b3 at *
        have K1 := Lib.hid k1
        have K2 := Lib.hid k2
        have K3 := Lib.hid k3
        have HH := Lib.hid (And.intro hall (And.intro hB (And.intro hc hcB)))
        clear hall hB hc hcB q HV k1 k2 k3 C1
        cases b1
        rotate_left
        cases b2
        rotate_left
        cases b3
        rotate_left
        · go_wp2_with (first | (go_at_call 51; (with_reducible refine (K1.out _).mono ?_); rintro e w' ⟨rfl, rfl⟩) | (go_at_call 51; (with_reducible refine (K2.out _).mono ?_); rintro e w' ⟨rfl, rfl⟩) | (go_at_call 51; (with_reducible refine (K3.out _).mono ?_); rintro e w' ⟨rfl, rfl⟩))
          go_roundg (m.cs.length - (j + 1))
          case measure => omega
          case rel =>
            obtain ⟨hall, hB, hc, hcB⟩ := HH.out
            refine ⟨j + 1, by omega, rfl, by go_num, ?_, hB.alloc hsz _⟩
            intro k c' hk hc'
            by_cases hkj : k < j
            · exact hall k c' hkj hc'
            · obtain rfl : k = j := by omega
              rw [hc] at hc'
              cases hc'
              exact hcB
        all_goals
          go_wp2_with (first | (go_at_call 51; (with_reducible refine (K1.out _).mono ?_); rintro e w' ⟨rfl, rfl⟩) | (go_at_call 51; (with_reducible refine (K2.out _).mono ?_); rintro e w' ⟨rfl, rfl⟩) | (go_at_call 51; (with_reducible refine (K3.out _).mono ?_); rintro e w' ⟨rfl, rfl⟩))
          go_ret
          obtain ⟨hall, hB, hc, hcB⟩ := HH.out
          exact ⟨by rw [HE.out, HA.out j c hc hcB]; rfl, hB.alloc hsz _⟩
      · obtain rfl : j = m.cs.length := by omega
        have hlt : decide (((m.cs.length : Nat) : Int) < (m.cs.length : Int)) = false := by simp
        have HH := Lib.hid (And.intro hall hB)
        clear hall hB
        go_wp2_with fail
        go_ret
        refine ⟨?_, HH.out.2⟩
        have : m.cs.all compB = true := by
          rw [List.all_eq_true]
          intro c hc
          obtain ⟨k, hk⟩ := List.mem_iff_getElem?.1 hc
          exact HH.out.1 k c (List.getElem?_eq_some_iff.1 hk).1 hk
        rw [HE.out, this]
        rfl
end Go.Proofs.Ytlhlhlabnjfhcaa
