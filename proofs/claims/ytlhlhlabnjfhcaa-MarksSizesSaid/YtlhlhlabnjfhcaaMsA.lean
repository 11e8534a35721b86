/- marks.Same: the closure, EqualFunc, Equal. -/
import Derived.Test.YtlhlhlabnjfhcaaFmC
import Derived.Test.YtlhlhlabnjfhcaaByD
import Derived.Test.YtlhlhlabnjfhcaaFmA
namespace Go.Proofs.Ytlhlhlabnjfhcaa
open Go.RowKit

def sameC (c d : CompD) : Bool := c.depth == d.depth && c.signed == d.signed && c.dx == d.dx && c.dy == d.dy
def compA (c : CompD) (dv : Value) : Array Value := #[.int .i64 c.depth, .bool c.signed, .int .i64 c.dx, .int .i64 c.dy, dv]

set_option maxRecDepth 100000 in
theorem same1_any (c d : CompD) (dv ev : Value) (w : World) :
    Calls Try.prog 30 #[.agg (compA c dv), .agg (compA d ev)] w fun e w' => e = .returned (.bool (sameC c d)) ∧ Below w.heap.size w w' := by
  unfold sameC compA
  go_enter Try.func30, Try.ntmps30
  go_wp2_with fail
  all_goals
    go_ret
    refine ⟨?_, ((Below.refl _ _).alloc (Nat.le_refl _) _).alloc (by simp) _⟩
    refine (congrArg (fun b => Ending.returned (Value.bool b)) (?_ : _ = _))
    simp_all

/-- all components are the same, but for their samples -/
def SameCs (a b : List CompD) : Prop := a.length = b.length ∧ ∀ (k : Nat) c d, a[k]? = some c → b[k]? = some d → sameC c d = true

set_option maxRecDepth 100000 in
set_option maxHeartbeats 2000000 in
theorem comps_same (v u : Value) (a b : List CompD) (w : World) (ha : CompsRd w v a) (hb : CompsRd w u b) (hl : a.length ≤ 1000000000) :
    Calls Try.prog 29 #[v, u, .func (.func 30) #[] #[]] w fun e w' => ∃ r : Bool, e = .returned (.bool r) ∧ (r = true ↔ SameCs a b) ∧ Below w.heap.size w w' := by
  have S := Lib.hid same1_any
  obtain ⟨va, vc, rfl, g1, g2, g3⟩ := ha
  obtain ⟨ua, uc, rfl, k1, k2, k3⟩ := hb
  have HA : Hid (CompsRd w (.slice va a.length vc) a) := ⟨va, vc, rfl, g1, g2, g3⟩
  have HU : Hid (CompsRd w (.slice ua b.length uc) b) := ⟨ua, uc, rfl, k1, k2, k3⟩
  clear g3 k3
  by_cases hlen : a.length = b.length
  case neg =>
    have hne : ((a.length : Int) != (b.length : Int)) = true := by simp; omega
    go_enter Try.func29, Try.ntmps29
    go_wp2_with fail
    go_ret
    exact ⟨false, rfl, by simp [SameCs, hlen], Below.refl _ _⟩
  have hne : ((a.length : Int) != (b.length : Int)) = false := by simp; omega
  have HL := Lib.hid hlen
  clear hlen
  go_enter Try.func29, Try.ntmps29
  go_wp2_with fail
  go_loopg [7, 8, 9, 17] a.length (fun g s7 s8 s9 s17 wx => ∃ j : Nat, j ≤ a.length ∧ g = a.length - j ∧ s17 = .int .i64 j ∧ (∀ (k : Nat) c d, k < j → a[k]? = some c → b[k]? = some d → sameC c d = true) ∧ Below w.heap.size w wx)
  case atStart => exact ⟨0, Nat.zero_le _, rfl, rfl, by omega, Below.refl _ _⟩
  case round =>
    obtain ⟨wy, rfl⟩ : ∃ wy : World, wy = wr := ⟨_, rfl⟩
    obtain ⟨j, hj, rfl, rfl, hall, hB⟩ := hrel
    by_cases hjl : j < a.length
    · obtain ⟨c, hc⟩ : ∃ c, a[j]? = some c := ⟨_, List.getElem?_eq_getElem hjl⟩
      obtain ⟨d, hd⟩ : ∃ d, b[j]? = some d := ⟨_, List.getElem?_eq_getElem (by have := HL.out; omega)⟩
      obtain ⟨_, _, he, -, -, q⟩ := HA.out
      cases he
      obtain ⟨bl, o, dv, rfl, c0, c1, c2, c3, c4, ⟨dsa, dsc, rfl, -⟩⟩ := q j c hc
      obtain ⟨_, _, he', -, -, q'⟩ := HU.out
      cases he'
      obtain ⟨bl', o', dv', rfl, d0, d1, d2, d3, d4, ⟨dta, dtc, rfl, -⟩⟩ := q' j d hd
      have l1 := World.block_lt_of_cell? w _ c0
      have l2 := World.block_lt_of_cell? w _ d0
      have hsz := hB.size
      replace c0 := bcellC hB c0 l1
      replace c1 := bcellC hB c1 l1
      replace c2 := bcellC hB c2 l1
      replace c3 := bcellC hB c3 l1
      replace c4 := bcellC hB c4 l1
      replace d0 := bcellC hB d0 l2
      replace d1 := bcellC hB d1 l2
      replace d2 := bcellC hB d2 l2
      replace d3 := bcellC hB d3 l2
      replace d4 := bcellC hB d4 l2
      have l3 : bl < wy.heap.size := Nat.lt_of_lt_of_le l1 hsz
      have l4 : bl' < wy.heap.size := Nat.lt_of_lt_of_le l2 hsz
      have HH := Lib.hid (And.intro hall (And.intro hB (And.intro hc hd)))
      have hlt : decide ((j : Int) < (a.length : Int)) = true := by simp; omega
      have hjb : j < b.length := by have := HL.out; omega
      have S1 := S.out c d (.slice dsa c.data.length dsc) (.slice dta d.data.length dtc)
      unfold compA at S1
      clear hall hB hc hd q q' HA HU g1 g2 k1 k2
      cases hs : sameC c d
      · rw [hs] at S1
        go_wp2_with (go_at_call 30; (with_reducible refine (S1 _).mono ?_); rintro e w' ⟨rfl, hBs⟩)
        go_wp2_with fail
        go_ret
        obtain ⟨hall, hB, hc, hd⟩ := HH.out
        refine ⟨false, rfl, ?_, ?_⟩
        · simp only [Bool.false_eq_true, false_iff]
          exact fun h => by have := h.2 j c d hc hd; rw [hs] at this; cases this
        · exact ((hB.alloc hsz _).alloc (by simp; omega) _).trans (hBs.mono (by simp; omega))
      · rw [hs] at S1
        go_wp2_with (go_at_call 30; (with_reducible refine (S1 _).mono ?_); rintro e w' ⟨rfl, hBs⟩)
        go_roundg (a.length - (j + 1))
        case measure => omega
        case rel =>
          obtain ⟨hall, hB, hc, hd⟩ := HH.out
          refine ⟨j + 1, by omega, rfl, by go_num, ?_, ((hB.alloc hsz _).alloc (by simp; omega) _).trans (hBs.mono (by simp; omega))⟩
          intro k c' d' hk hc' hd'
          by_cases hkj : k < j
          · exact hall k c' d' hkj hc' hd'
          · obtain rfl : k = j := by omega
            rw [hc] at hc'
            rw [hd] at hd'
            cases hc'
            cases hd'
            exact hs
    · obtain rfl : j = a.length := by omega
      have hlt : decide (((a.length : Nat) : Int) < (a.length : Int)) = false := by simp
      have HB := Lib.hid (And.intro hall hB)
      clear hall hB
      go_wp2_with fail
      go_ret
      refine ⟨true, rfl, ?_, HB.out.2⟩
      simp only [true_iff]
      exact ⟨HL.out, fun k c d hc hd => HB.out.1 k c d (List.getElem?_eq_some_iff.1 hc).1 hc hd⟩
end Go.Proofs.Ytlhlhlabnjfhcaa
