/- canvas: within, by, ways. canvas: picture. canvas: alike. canvas: Frame. -/
import Derived.Test.YtlhlhlabnjfhcaaFmA
import Derived.Test.YtlhlhlabnjfhcaaMs
import Derived.BigQuiet
namespace Go.Proofs.Ytlhlhlabnjfhcaa
open Go.RowKit

def inB (n a b : Int) : Bool := decide (a ≤ n) && decide (n ≤ b)

set_option maxRecDepth 100000 in
theorem cw_any (n a b : Int) (w : World) : Calls Try.prog 51 #[.int .i64 n, .int .i64 a, .int .i64 b] w fun e w' => e = .returned (.bool (inB n a b)) ∧ w = w' := by
  unfold inB
  rcases Bool.eq_false_or_eq_true (decide (a ≤ n)) with h1 | h1
  · rw [h1]
    go_enter Try.func51, Try.ntmps51
    go_wp2_with fail
    go_ret
    exact ⟨rfl, rfl⟩
  · rw [h1]
    go_enter Try.func51, Try.ntmps51
    go_wp2_with fail
    go_ret
    exact ⟨rfl, rfl⟩

set_option maxRecDepth 100000 in
theorem by_any (a b : Int) (w : World) (h0 : 0 ≤ a) (h1 : a ≤ 1000000) (h2 : 1 ≤ b) (h3 : b ≤ 1000000) : Calls Try.prog 52 #[.int .i64 a, .int .i64 b] w fun e w' => e = .returned (.int .i64 (ceilI a b)) ∧ w = w' := by
  have hm : max b 1 = b := by omega
  have hb0 : b ≠ 0 := by omega
  have e1 : a.tdiv b = a / b := Int.tdiv_eq_ediv_of_nonneg h0
  have e2 : a.tmod b = a % b := Int.tmod_eq_emod_of_nonneg h0
  have k1 := Int.emod_nonneg a hb0
  have k2 := Int.emod_lt_of_pos a (show 0 < b by omega)
  have k3 := Int.mul_ediv_add_emod a b
  have k4 : 0 ≤ a / b := Int.ediv_nonneg h0 (by omega)
  have k5 : a / b ≤ a := Int.ediv_le_self _ h0
  have c1 : 0 < a % b → a / b + 1 = ceilI a b := fun h => by
    unfold ceilI
    refine (((Int.ediv_emod_unique (show 0 < b by omega) (r := a % b - 1)).2 ⟨?_, by omega, by omega⟩).1).symm
    rw [Int.mul_add, Int.mul_one]
    omega
  have c2 : a % b ≤ 0 → a / b = ceilI a b := fun h => by
    unfold ceilI
    refine (((Int.ediv_emod_unique (show 0 < b by omega) (r := b - 1)).2 ⟨?_, by omega, by omega⟩).1).symm
    omega
  have C1 := Lib.hid c1
  have C2 := Lib.hid c2
  clear c1 c2 k3
  go_enter Try.func52, Try.ntmps52
  go_wp2_with fail
  all_goals go_ret
  · exact ⟨by rw [← C1.out (by assumption)]; rfl, rfl⟩
  · exact ⟨by rw [← C2.out (by assumption)]; rfl, rfl⟩

def waysB (p : ParD) : Bool := inB p.lv 0 5 && inB p.cbw 2 6 && inB p.cbh 2 6 && inB p.prec 1 15 && inB p.style 0 63 && inB p.order 0 4 && inB p.layers 1 8

set_option maxRecDepth 100000 in
set_option maxHeartbeats 2000000 in
theorem ways_any (p : ParD) (w : World) : Calls Try.prog 53 #[parV p] w fun e w' => e = .returned (.bool (waysB p)) ∧ Below w.heap.size w w' := by
  unfold waysB parV
  have B0 : Below w.heap.size w (w.alloc (.cells #[.int .i64 p.tx, .int .i64 p.ty, .int .i64 p.lv, .int .i64 p.cbw, .int .i64 p.cbh, .int .i64 p.prec, .int .i64 p.style, .int .i64 p.order, .int .i64 p.layers, .bool p.rct, .bool p.sop, .bool p.eph] 31)) := (Below.refl _ _).alloc (Nat.le_refl _) _
  have c1 := fun W => cw_any p.lv 0 5 W
  have c2 := fun W => cw_any p.cbw 2 6 W
  have c3 := fun W => cw_any p.cbh 2 6 W
  have c4 := fun W => cw_any p.prec 1 15 W
  have c5 := fun W => cw_any p.style 0 63 W
  have c6 := fun W => cw_any p.order 0 4 W
  have c7 := fun W => cw_any p.layers 1 8 W
  generalize inB p.lv 0 5 = b1 at *
  generalize inB p.cbw 2 6 = b2 at *
  generalize inB p.cbh 2 6 = b3 at *
  generalize inB p.prec 1 15 = b4 at *
  generalize inB p.style 0 63 = b5 at *
  generalize inB p.order 0 4 = b6 at *
  generalize inB p.layers 1 8 = b7 at *
  have HB := Lib.hid B0
  have C1 := Lib.hid c1
  have C2 := Lib.hid c2
  have C3 := Lib.hid c3
  have C4 := Lib.hid c4
  have C5 := Lib.hid c5
  have C6 := Lib.hid c6
  have C7 := Lib.hid c7
  clear B0 c1 c2 c3 c4 c5 c6 c7
  go_enter Try.func53, Try.ntmps53
  cases b1
  rotate_left
  cases b2
  rotate_left
  cases b3
  rotate_left
  cases b4
  rotate_left
  cases b5
  rotate_left
  cases b6
  rotate_left
  cases b7
  rotate_left
  all_goals
    go_wp2_with (first | (go_at_call 51; (with_reducible refine (C1.out _).mono ?_); rintro e w' ⟨rfl, rfl⟩) | (go_at_call 51; (with_reducible refine (C2.out _).mono ?_); rintro e w' ⟨rfl, rfl⟩) | (go_at_call 51; (with_reducible refine (C3.out _).mono ?_); rintro e w' ⟨rfl, rfl⟩) | (go_at_call 51; (with_reducible refine (C4.out _).mono ?_); rintro e w' ⟨rfl, rfl⟩) | (go_at_call 51; (with_reducible refine (C5.out _).mono ?_); rintro e w' ⟨rfl, rfl⟩) | (go_at_call 51; (with_reducible refine (C6.out _).mono ?_); rintro e w' ⟨rfl, rfl⟩) | (go_at_call 51; (with_reducible refine (C7.out _).mono ?_); rintro e w' ⟨rfl, rfl⟩))
    go_ret
    exact ⟨rfl, HB.out⟩

end Go.Proofs.Ytlhlhlabnjfhcaa
namespace Go.Proofs.Ytlhlhlabnjfhcaa
open Go.RowKit

def compB (c : CompD) : Bool := inB c.depth 1 16 && inB c.dx 1 4 && inB c.dy 1 4
/-- what is wrong with a picture's numbers -/
def picE (m : ImgD) : Int :=
  if m.ox < 0 ∨ m.oy < 0 ∨ m.x ≤ m.ox ∨ m.y ≤ m.oy then 1 else if 64 < m.x ∨ 64 < m.y then 14 else if inB m.cs.length 1 4 = false then 4 else if m.cs.all compB then 0 else 1

set_option maxRecDepth 100000 in
set_option maxHeartbeats 4000000 in
theorem picture_any (m : ImgD) (v : Value) (w : World) (hv : CompsRd w v m.cs) : Calls Try.prog 50 #[imgV m v] w fun e w' => e = .returned (.int .i64 (picE m)) ∧ Below w.heap.size w w' := by
  have HV := Lib.hid hv
  obtain ⟨va, vc, rfl, -⟩ := hv
  unfold imgV
  have B0 : Below w.heap.size w (w.alloc (.cells #[.int .i64 m.x, .int .i64 m.y, .int .i64 m.ox, .int .i64 m.oy, .slice va m.cs.length vc] 29)) := (Below.refl _ _).alloc (Nat.le_refl _) _
  have HB := Lib.hid B0
  clear B0
  go_enter Try.func50, Try.ntmps50
  by_cases h1 : m.ox < 0
  case pos =>
    have hE : picE m = 1 := by unfold picE; rw [if_pos (.inl h1)]
    have HE := Lib.hid hE
    clear hE
    go_wp2_with fail
    go_ret
    exact ⟨by rw [HE.out]; rfl, HB.out⟩
  by_cases h2 : m.oy < 0
  case pos =>
    have hE : picE m = 1 := by unfold picE; rw [if_pos (.inr (.inl h2))]
    have HE := Lib.hid hE
    clear hE
    go_wp2_with fail
    go_ret
    exact ⟨by rw [HE.out]; rfl, HB.out⟩
  by_cases h3 : m.x ≤ m.ox
  case pos =>
    have hE : picE m = 1 := by unfold picE; rw [if_pos (.inr (.inr (.inl h3)))]
    have HE := Lib.hid hE
    clear hE
    go_wp2_with fail
    go_ret
    exact ⟨by rw [HE.out]; rfl, HB.out⟩
  by_cases h4 : m.y ≤ m.oy
  case pos =>
    have hE : picE m = 1 := by unfold picE; rw [if_pos (.inr (.inr (.inr h4)))]
    have HE := Lib.hid hE
    clear hE
    go_wp2_with fail
    go_ret
    exact ⟨by rw [HE.out]; rfl, HB.out⟩
  have E1 : picE m = if 64 < m.x ∨ 64 < m.y then 14 else if inB m.cs.length 1 4 = false then 4 else if m.cs.all compB then 0 else 1 := by unfold picE; rw [if_neg (by omega)]
  by_cases h5 : 64 < m.x
  case pos =>
    have hE : picE m = 14 := by rw [E1, if_pos (.inl h5)]
    have HE := Lib.hid hE
    clear hE E1
    go_wp2_with fail
    go_ret
    exact ⟨by rw [HE.out]; rfl, HB.out⟩
  by_cases h6 : 64 < m.y
  case pos =>
    have hE : picE m = 14 := by rw [E1, if_pos (.inr h6)]
    have HE := Lib.hid hE
    clear hE E1
    go_wp2_with fail
    go_ret
    exact ⟨by rw [HE.out]; rfl, HB.out⟩
  rw [if_neg (by omega)] at E1
  have C1 := fun W => cw_any m.cs.length 1 4 W
  have hI : inB m.cs.length 1 4 = true → m.cs.length ≤ 4 := by unfold inB; simp; omega
  generalize inB m.cs.length 1 4 = b at *
  cases b
  · rw [if_pos rfl] at E1
    have HE := Lib.hid E1
    clear E1
    go_wp2_with (go_at_call 51; refine (C1 _).mono ?_; rintro e w' ⟨rfl, rfl⟩)
    go_ret
    exact ⟨by rw [HE.out]; rfl, HB.out⟩
  · rw [if_neg (by simp)] at E1
    have HE := Lib.hid E1
    have hl4 := hI rfl
    clear E1 hI
    go_wp2_with (go_at_call 51; refine (C1 _).mono ?_; rintro e w' ⟨rfl, rfl⟩)
    have HA : Hid (∀ (k : Nat) (c : CompD), m.cs[k]? = some c → compB c = false → m.cs.all compB = false) := by
      intro k c hk hc
      rw [List.all_eq_false]
      exact ⟨c, List.mem_of_getElem? hk, by simp [hc]⟩
    go_loopg [4, 46] m.cs.length (fun g s4 s46 wx => ∃ j : Nat, j ≤ m.cs.length ∧ g = m.cs.length - j ∧ s46 = .int .i64 j ∧ (∀ (k : Nat) c, k < j → m.cs[k]? = some c → compB c = true) ∧ Below w.heap.size w wx)
    case atStart => exact ⟨0, Nat.zero_le _, rfl, rfl, by omega, HB.out⟩
    case round =>
      obtain ⟨wy, rfl⟩ : ∃ wy : World, wy = wr := ⟨_, rfl⟩
      obtain ⟨j, hj, rfl, rfl, hall, hB⟩ := hrel
      by_cases hjl : j < m.cs.length
      · obtain ⟨c, hc⟩ : ∃ c, m.cs[j]? = some c := ⟨_, List.getElem?_eq_getElem hjl⟩
        obtain ⟨_, _, he, -, -, q⟩ := HV.out
        cases he
        obtain ⟨bl, o, dv, rfl, c0, c1, c2, c3, c4, ⟨dsa, dsc, rfl, -⟩⟩ := q j c hc
        have l1 := World.block_lt_of_cell? w _ c0
        have hsz := hB.size
        replace c0 := bcellC hB c0 l1
        replace c1 := bcellC hB c1 l1
        replace c2 := bcellC hB c2 l1
        replace c3 := bcellC hB c3 l1
        replace c4 := bcellC hB c4 l1
        have l3 : bl < wy.heap.size := Nat.lt_of_lt_of_le l1 hsz
        have hlt : decide ((j : Int) < (m.cs.length : Int)) = true := by simp; omega
        have hcB : compB c = (inB c.depth 1 16 && inB c.dx 1 4 && inB c.dy 1 4) := rfl
        have k1 := fun W => cw_any c.depth 1 16 W
        have k2 := fun W => cw_any c.dx 1 4 W
        have k3 := fun W => cw_any c.dy 1 4 W
        generalize inB c.depth 1 16 = b1 at *
        generalize inB c.dx 1 4 = b2 at *
        generalize inB c.dy 1 4 = b3 at *
        have K1 := Lib.hid k1
        have K2 := Lib.hid k2
        have K3 := Lib.hid k3
        have HH := Lib.hid (And.intro hall (And.intro hB (And.intro hc hcB)))
        clear hall hB hc hcB q HV k1 k2 k3 C1
        cases b1
        rotate_left
        cases b2
        rotate_left
        cases b3
        rotate_left
        · go_wp2_with (first | (go_at_call 51; (with_reducible refine (K1.out _).mono ?_); rintro e w' ⟨rfl, rfl⟩) | (go_at_call 51; (with_reducible refine (K2.out _).mono ?_); rintro e w' ⟨rfl, rfl⟩) | (go_at_call 51; (with_reducible refine (K3.out _).mono ?_); rintro e w' ⟨rfl, rfl⟩))
          go_roundg (m.cs.length - (j + 1))
          case measure => omega
          case rel =>
            obtain ⟨hall, hB, hc, hcB⟩ := HH.out
            refine ⟨j + 1, by omega, rfl, by go_num, ?_, hB.alloc hsz _⟩
            intro k c' hk hc'
            by_cases hkj : k < j
            · exact hall k c' hkj hc'
            · obtain rfl : k = j := by omega
              rw [hc] at hc'
              cases hc'
              exact hcB
        all_goals
          go_wp2_with (first | (go_at_call 51; (with_reducible refine (K1.out _).mono ?_); rintro e w' ⟨rfl, rfl⟩) | (go_at_call 51; (with_reducible refine (K2.out _).mono ?_); rintro e w' ⟨rfl, rfl⟩) | (go_at_call 51; (with_reducible refine (K3.out _).mono ?_); rintro e w' ⟨rfl, rfl⟩))
          go_ret
          obtain ⟨hall, hB, hc, hcB⟩ := HH.out
          exact ⟨by rw [HE.out, HA.out j c hc hcB]; rfl, hB.alloc hsz _⟩
      · obtain rfl : j = m.cs.length := by omega
        have hlt : decide (((m.cs.length : Nat) : Int) < (m.cs.length : Int)) = false := by simp
        have HH := Lib.hid (And.intro hall hB)
        clear hall hB
        go_wp2_with fail
        go_ret
        refine ⟨?_, HH.out.2⟩
        have : m.cs.all compB = true := by
          rw [List.all_eq_true]
          intro c hc
          obtain ⟨k, hk⟩ := List.mem_iff_getElem?.1 hc
          exact HH.out.1 k c (List.getElem?_eq_some_iff.1 hk).1 hk
        rw [HE.out, this]
        rfl
end Go.Proofs.Ytlhlhlabnjfhcaa
namespace Go.Proofs.Ytlhlhlabnjfhcaa
open Go.RowKit

/-- can the components be turned -/
def alikeB : List CompD → Bool
  | a :: b :: c :: _ => sameC b a && sameC c a
  | _ => false

set_option maxRecDepth 100000 in
set_option maxHeartbeats 4000000 in
theorem alike_any (v : Value) (cs : List CompD) (w : World) (hv : CompsRd w v cs) (hl : cs.length ≤ 1000000000) : Calls Try.prog 54 #[v] w fun e w' => e = .returned (.bool (alikeB cs)) ∧ Below w.heap.size w w' := by
  have HV := Lib.hid hv
  obtain ⟨va, vc, rfl, g1, g2, -⟩ := hv
  by_cases h3 : 3 ≤ cs.length
  case neg =>
    have hE : alikeB cs = false := by
      match cs, h3 with
      | [], _ => rfl
      | [_], _ => rfl
      | [_, _], _ => rfl
      | _ :: _ :: _ :: _, h => exact absurd (by simp) h
    have HE := Lib.hid hE
    have d3 : decide ((cs.length : Int) < 3) = true := by simp; omega
    clear hE
    go_enter Try.func54, Try.ntmps54
    go_wp2_with fail
    go_ret
    exact ⟨by rw [HE.out]; rfl, Below.refl _ _⟩
  have d3 : decide ((cs.length : Int) < 3) = false := by simp; omega
  obtain ⟨a, b, c, tl, rfl⟩ : ∃ a b c tl, cs = a :: b :: c :: tl := by
    match cs, h3 with
    | a :: b :: c :: tl, _ => exact ⟨a, b, c, tl, rfl⟩
    | [], h => simp at h
    | [_], h => simp at h
    | [_, _], h => simp at h
  obtain ⟨n, hn⟩ : ∃ n, (a :: b :: c :: tl).length = n := ⟨_, rfl⟩
  rw [hn] at h3 d3 g1 hl HV ⊢
  obtain ⟨_, _, he, -, -, q⟩ := HV.out
  rw [hn] at he
  cases he
  obtain ⟨bl, o, dv, rfl, c0, c1, c2, c3, c4, ⟨dsa, dsc, rfl, -⟩⟩ := q 0 a rfl
  obtain ⟨bl', o', dv', e1, c0', c1', c2', c3', c4', ⟨dsa', dsc', rfl, -⟩⟩ := q 1 b rfl
  cases e1
  obtain ⟨bl', o', dv', e1, c0'', c1'', c2'', c3'', c4'', ⟨dsa'', dsc'', rfl, -⟩⟩ := q 2 c rfl
  cases e1
  clear q
  have l3 := World.block_lt_of_cell? w _ c0
  simp only [Nat.zero_mul, Nat.add_zero, Nat.one_mul] at c0 c1 c2 c3 c4 c0' c1' c2' c3' c4' c0'' c1'' c2'' c3'' c4''
  have HX : ∀ j : Nat, j < 2 → ∃ (x : CompD) (xa : Option Addr) (xc : Nat), (j = 0 → x = b) ∧ (j = 1 → x = c) ∧ w.cell? ⟨bl, o + 5 + j * 5, none⟩ = some (.int .i64 x.depth) ∧ w.cell? ⟨bl, o + 5 + j * 5 + 1, none⟩ = some (.bool x.signed) ∧
      w.cell? ⟨bl, o + 5 + j * 5 + 2, none⟩ = some (.int .i64 x.dx) ∧ w.cell? ⟨bl, o + 5 + j * 5 + 3, none⟩ = some (.int .i64 x.dy) ∧ w.cell? ⟨bl, o + 5 + j * 5 + 4, none⟩ = some (.slice xa x.data.length xc) := by
    intro j hj
    by_cases h0 : j = 0
    · subst h0
      simp only [Nat.zero_mul, Nat.add_zero]
      exact ⟨b, dsa', dsc', fun _ => rfl, by omega, c0', c1', c2', c3', c4'⟩
    · obtain rfl : j = 1 := by omega
      have e : o + 5 + 1 * 5 = o + 2 * 5 := by omega
      rw [e]
      exact ⟨c, dsa'', dsc'', by omega, fun _ => rfl, c0'', c1'', c2'', c3'', c4''⟩
  have HX := Lib.hid HX
  clear c0' c1' c2' c3' c4' c0'' c1'' c2'' c3'' c4''
  have hA : alikeB (a :: b :: c :: tl) = (sameC b a && sameC c a) := rfl
  rw [hA]
  clear hA
  have HV2 := Lib.hid HV
  clear HV hn
  go_enter Try.func54, Try.ntmps54
  go_wp2_with fail
  go_loopg [4, 11] 2 (fun g s4 s11 wx => ∃ j : Nat, j ≤ 2 ∧ g = 2 - j ∧ s11 = .int .i64 j ∧ (0 < j → sameC b a = true) ∧ (1 < j → sameC c a = true) ∧ Below w.heap.size w wx)
  case atStart => exact ⟨0, by omega, rfl, rfl, by omega, by omega, Below.refl _ _⟩
  case round =>
    obtain ⟨wy, rfl⟩ : ∃ wy : World, wy = wr := ⟨_, rfl⟩
    obtain ⟨j, hj, rfl, rfl, s0, s1, hB⟩ := hrel
    by_cases hjl : j < 2
    · obtain ⟨x, xa, xc, x0, x1, y0, y1, y2, y3, y4⟩ := HX.out j hjl
      have hsz := hB.size
      replace c0 := bcellC hB c0 l3
      replace c1 := bcellC hB c1 l3
      replace c2 := bcellC hB c2 l3
      replace c3 := bcellC hB c3 l3
      replace c4 := bcellC hB c4 l3
      replace y0 := bcellC hB y0 l3
      replace y1 := bcellC hB y1 l3
      replace y2 := bcellC hB y2 l3
      replace y3 := bcellC hB y3 l3
      replace y4 := bcellC hB y4 l3
      have l4 : bl < wy.heap.size := Nat.lt_of_lt_of_le l3 hsz
      have hlt : decide ((j : Int) < 2) = true := by simp; omega
      have hs : sameC x a = (!(x.depth != a.depth) && !(x.signed != a.signed) && !(x.dx != a.dx) && !(x.dy != a.dy)) := by unfold sameC bne; simp only [Bool.not_not]
      have HH := Lib.hid (And.intro s0 (And.intro s1 (And.intro hB (And.intro x0 (And.intro x1 hs)))))
      clear s0 s1 hB x0 x1 hs HV2 HX
      have z0 : (0 : Int) < (n : Int) := by omega
      have z1 : 0 < n := by omega
      obtain ⟨b1, e1⟩ : ∃ b1, (x.depth != a.depth) = b1 := ⟨_, rfl⟩
      obtain ⟨b2, e2⟩ : ∃ b2, (x.signed != a.signed) = b2 := ⟨_, rfl⟩
      obtain ⟨b3, e3⟩ : ∃ b3, (x.dx != a.dx) = b3 := ⟨_, rfl⟩
      obtain ⟨b4, e4⟩ : ∃ b4, (x.dy != a.dy) = b4 := ⟨_, rfl⟩
      have e2' : x.signed = if b2 then !a.signed else a.signed := by
        rw [← e2]
        cases x.signed <;> cases a.signed <;> rfl
      rw [e2'] at y1
      have HE2 := Lib.hid e2
      clear e2 e2'
      cases b1
      cases b2
      cases b3
      cases b4
      all_goals try cases b2
      all_goals try simp only [Bool.false_eq_true, if_true, if_false] at y1
      · go_upto_region 6 with fail
        go_quiet (fail)
        go_wp2_with fail
        go_roundg (2 - (j + 1))
        case measure => omega
        case rel =>
          obtain ⟨s0, s1, hB, x0, x1, hs⟩ := HH.out
          have hst : sameC x a = true := by rw [hs, e1, HE2.out, e3, e4]; rfl
          refine ⟨j + 1, by omega, rfl, by go_num, fun h => ?_, fun h => ?_, below_drewN (hB.alloc hsz _) _⟩
          · by_cases hj0 : j = 0
            · rw [← x0 hj0]; exact hst
            · exact s0 (by omega)
          · rw [← x1 (by omega)]; exact hst
      all_goals
        go_upto_region 6 with fail
        go_quiet (fail)
        go_wp2_with fail
        go_ret
        obtain ⟨s0, s1, hB, x0, x1, hs⟩ := HH.out
        have hst : sameC x a = false := by have e2 := HE2.out; rw [hs]; simp [*]
        refine ⟨?_, below_drewN (hB.alloc hsz _) _⟩
        by_cases hj0 : j = 0
        · rw [← x0 hj0, hst]; rfl
        · rw [← x1 (by omega), hst, Bool.and_false]; rfl
    · obtain rfl : j = 2 := by omega
      have HH := Lib.hid (And.intro s0 (And.intro s1 hB))
      clear s0 s1 hB
      go_wp2_with fail
      go_ret
      exact ⟨by rw [HH.out.1 (by omega), HH.out.2.1 (by omega)]; rfl, HH.out.2.2⟩
end Go.Proofs.Ytlhlhlabnjfhcaa
namespace Go.Proofs.Ytlhlhlabnjfhcaa
open Go.RowKit

/-- what is wrong with a picture and params, but for samples -/
def frameE (m : ImgD) (p : ParD) : Int :=
  if picE m ≠ 0 then picE m else if (inB p.tx (m.ox + 1) 65536 && inB p.ty (m.oy + 1) 65536) = false then 1 else if 16 < ceilI m.x p.tx * ceilI m.y p.ty then 14 else
    if waysB p = false then 1 else if (p.rct && !alikeB m.cs) = true then 3 else 0

theorem picE_zero {m : ImgD} (h : picE m = 0) : 0 ≤ m.ox ∧ 0 ≤ m.oy ∧ m.ox < m.x ∧ m.oy < m.y ∧ m.x ≤ 64 ∧ m.y ≤ 64 ∧ 1 ≤ m.cs.length ∧ m.cs.length ≤ 4 ∧ m.cs.all compB = true := by
  unfold picE at h
  split at h
  · cases h
  · split at h
    · cases h
    · split at h
      · cases h
      · split at h
        · rename_i h1 h2 h3 h4
          have h5 : inB m.cs.length 1 4 = true := by simpa using h3
          unfold inB at h5
          simp at h5
          exact ⟨by omega, by omega, by omega, by omega, by omega, by omega, by omega, by omega, h4⟩
        · cases h

set_option maxRecDepth 100000 in
set_option maxHeartbeats 4000000 in
theorem frame_any (m : ImgD) (v : Value) (p : ParD) (w : World) (hv : CompsRd w v m.cs) (hl : m.cs.length ≤ 1000000000) : Calls Try.prog 32 #[imgV m v, parV p] w fun e w' => e = .returned (.int .i64 (frameE m p)) ∧ Below w.heap.size w w' := by
  have HV := Lib.hid hv
  obtain ⟨va, vc, rfl, -⟩ := hv
  obtain ⟨wA, hwA⟩ : ∃ wA, wA = (w.alloc (.cells #[.int .i64 m.x, .int .i64 m.y, .int .i64 m.ox, .int .i64 m.oy, .slice va m.cs.length vc] 29)).alloc (.cells #[.int .i64 p.tx, .int .i64 p.ty, .int .i64 p.lv, .int .i64 p.cbw, .int .i64 p.cbh, .int .i64 p.prec, .int .i64 p.style, .int .i64 p.order, .int .i64 p.layers, .bool p.rct, .bool p.sop, .bool p.eph] 31) := ⟨_, rfl⟩
  have hBA : Below w.heap.size w wA := by rw [hwA]; exact ((Below.refl _ _).alloc (Nat.le_refl _) _).alloc (by simp) _
  have hi : Blk wA w.heap.size 29 #[.int .i64 m.x, .int .i64 m.y, .int .i64 m.ox, .int .i64 m.oy, .slice va m.cs.length vc] := by rw [hwA]; exact (Blk.new _ _ _).alloc _
  have hp : Blk wA (w.heap.size + 1) 31 #[.int .i64 p.tx, .int .i64 p.ty, .int .i64 p.lv, .int .i64 p.cbw, .int .i64 p.cbh, .int .i64 p.prec, .int .i64 p.style, .int .i64 p.order, .int .i64 p.layers, .bool p.rct, .bool p.sop, .bool p.eph] := by rw [hwA]; exact Blk.snd _ _ _ _
  have HP := Lib.hid (picture_any m (.slice va m.cs.length vc) wA (HV.out.keep hBA))
  unfold imgV at HP
  have I0 := hi.cell 0
  have I1 := hi.cell 1
  have I2 := hi.cell 2
  have I3 := hi.cell 3
  have I4 := hi.cell 4
  simp only [List.getElem?_toArray, List.getElem?_cons_zero, List.getElem?_cons_succ] at I0 I1 I2 I3 I4
  have HA := Lib.hid (And.intro hi (And.intro hp hBA))
  clear hi hp hBA
  unfold imgV parV
  go_enter Try.func32, Try.ntmps32
  have HW := Lib.hid hwA
  clear hwA
  by_cases h0 : picE m = 0
  case neg =>
    have hE : frameE m p = picE m := by unfold frameE; rw [if_pos h0]
    have HE := Lib.hid hE
    have hne : (picE m != 0) = true := by simp [h0]
    clear hE h0
    go_upto_region 1 with fail
    rw [← HW.out]
    go_wp2_with (go_at_call 50; refine HP.out.mono ?_; rintro e w' ⟨rfl, hB1⟩)
    go_ret
    exact ⟨by rw [HE.out]; rfl, HA.out.2.2.trans (hB1.mono HA.out.2.2.size)⟩
  rw [h0] at HP
  obtain ⟨p1, p2, p3, p4, p5, p6, p7, p8, p9⟩ := picE_zero h0
  have hE : frameE m p = if (inB p.tx (m.ox + 1) 65536 && inB p.ty (m.oy + 1) 65536) = false then 1 else if 16 < ceilI m.x p.tx * ceilI m.y p.ty then 14 else if waysB p = false then 1 else if (p.rct && !alikeB m.cs) = true then 3 else 0 := by unfold frameE; rw [if_neg (by simp [h0])]
  have HE := Lib.hid hE
  clear hE h0 p9
  go_upto_region 1 with fail
  rw [← HW.out]
  clear HW
  go_upto_region 4 with (go_at_call 50; refine HP.out.mono ?_; rintro e w1 ⟨rfl, hB1⟩)
  obtain ⟨hi, hp, hBA⟩ := HA.out
  replace hi := hi.below hB1 hi.lt
  replace hp := hp.below hB1 hp.lt
  replace hBA := hBA.trans (hB1.mono hBA.size)
  clear HP HA I0 I1 I2 I3 I4 hB1
  have I0 := hi.cell 0
  have I1 := hi.cell 1
  have I2 := hi.cell 2
  have I3 := hi.cell 3
  have I4 := hi.cell 4
  have pc := hp.cell
  obtain ⟨P0, P1, P2, P3, P4, P5, P6, P7, P8, P9, P10, P11⟩ := And.intro (pc 0) (And.intro (pc 1) (And.intro (pc 2) (And.intro (pc 3) (And.intro (pc 4) (And.intro (pc 5) (And.intro (pc 6) (And.intro (pc 7) (And.intro (pc 8) (And.intro (pc 9) (And.intro (pc 10) (pc 11)))))))))))
  simp only [List.getElem?_toArray, List.getElem?_cons_zero, List.getElem?_cons_succ] at I0 I1 I2 I3 I4 P0 P1 P2 P3 P4 P5 P6 P7 P8 P9 P10 P11
  have HA := Lib.hid (And.intro hi (And.intro hp hBA))
  clear hi hp hBA pc
  have C1 := Lib.hid fun W => cw_any p.tx (m.ox + 1) 65536 W
  have C2 := Lib.hid fun W => cw_any p.ty (m.oy + 1) 65536 W
  have K1 : inB p.tx (m.ox + 1) 65536 = true → m.ox + 1 ≤ p.tx ∧ p.tx ≤ 65536 := by unfold inB; simp
  have K2 : inB p.ty (m.oy + 1) 65536 = true → m.oy + 1 ≤ p.ty ∧ p.ty ≤ 65536 := by unfold inB; simp
  generalize inB p.tx (m.ox + 1) 65536 = b1 at *
  generalize inB p.ty (m.oy + 1) 65536 = b2 at *
  cases b1
  case false =>
    go_wp2_with (go_at_call 51; (with_reducible refine (C1.out _).mono ?_); rintro e w' ⟨rfl, rfl⟩)
    go_ret
    exact ⟨by rw [HE.out]; rfl, HA.out.2.2⟩
  cases b2
  case false =>
    go_wp2_with (first | (go_at_call 51; (with_reducible refine (C1.out _).mono ?_); rintro e w' ⟨rfl, rfl⟩) | (go_at_call 51; (with_reducible refine (C2.out _).mono ?_); rintro e w' ⟨rfl, rfl⟩))
    go_ret
    exact ⟨by rw [HE.out]; rfl, HA.out.2.2⟩
  have K3 := K1 rfl
  have K4 := K2 rfl
  clear K1 K2
  go_upto_region 6 with (first | (go_at_call 51; (with_reducible refine (C1.out _).mono ?_); rintro e w' ⟨rfl, rfl⟩) | (go_at_call 51; (with_reducible refine (C2.out _).mono ?_); rintro e w' ⟨rfl, rfl⟩))
  have c1 : ∀ w, Calls Try.prog 52 #[.int .i64 m.x, .int .i64 p.tx] w fun e w' => e = .returned (.int .i64 (ceilI m.x p.tx)) ∧ w = w' := fun w => by_any m.x p.tx w (by omega) (by omega) (by omega) (by omega)
  have c2 : ∀ w, Calls Try.prog 52 #[.int .i64 m.y, .int .i64 p.ty] w fun e w' => e = .returned (.int .i64 (ceilI m.y p.ty)) ∧ w = w' := fun w => by_any m.y p.ty w (by omega) (by omega) (by omega) (by omega)
  obtain ⟨cx0, cx1⟩ := ceilI_bd m.x p.tx (by omega) (by omega)
  obtain ⟨cy0, cy1⟩ := ceilI_bd m.y p.ty (by omega) (by omega)
  generalize ceilI m.x p.tx = cx at *
  generalize ceilI m.y p.ty = cy at *
  have hp0 : 0 ≤ cx * cy := Int.mul_nonneg cx0 cy0
  have hp1 : cx * cy ≤ 64 * 64 := Int.mul_le_mul (by omega) (by omega) cy0 (by omega)
  have D1 := Lib.hid c1
  have D2 := Lib.hid c2
  have W1 := Lib.hid (show IntKind.i64.wrap (cx * cy) = cx * cy from IntWalk.i64_in _ (by omega))
  clear c1 c2 C1 C2
  have hv1 := HV.out.keep (HA.out.2.2)
  have HV1 := Lib.hid hv1
  have FW := Lib.hid (ways_any p)
  have FA := Lib.hid (fun W (h : CompsRd W (.slice va m.cs.length vc) m.cs) => alike_any (.slice va m.cs.length vc) m.cs W h hl)
  unfold parV at FW
  clear hv1
  by_cases hk : 16 < cx * cy
  case pos =>
    have d0 : decide (16 < cx * cy) = true := by simp [hk]
    have W2 := W1.out
    go_quiet (first | (go_at_call_of 52 m.x; exact Calls.quiet_of ((D1.out _).mono fun e w' h => ⟨h.1, 0, h.2.symm⟩)) | (go_at_call_of 52 m.y; exact Calls.quiet_of ((D2.out _).mono fun e w' h => ⟨h.1, 0, h.2.symm⟩)))
    clear W2
    go_wp2_with fail
    go_ret
    exact ⟨by rw [HE.out, if_neg (by simp), if_pos (by assumption)]; rfl, below_drewN HA.out.2.2 _⟩
  have d0 : decide (16 < cx * cy) = false := by simp; omega
  have W2 := W1.out
  go_quiet (first | (go_at_call_of 52 m.x; exact Calls.quiet_of ((D1.out _).mono fun e w' h => ⟨h.1, 0, h.2.symm⟩)) | (go_at_call_of 52 m.y; exact Calls.quiet_of ((D2.out _).mono fun e w' h => ⟨h.1, 0, h.2.symm⟩)))
  replace HE : Hid (frameE m p = if waysB p = false then 1 else if (p.rct && !alikeB m.cs) = true then 3 else 0) := Lib.hid (by rw [HE.out, if_neg (by simp), if_neg hk])
  clear W2 hp0 hp1 cx0 cx1 cy0 cy1 D1 D2 W1 hk
  obtain ⟨hi, hp, hBA⟩ := HA.out
  have hB2 : Below w.heap.size w (w1.drewN nq) := below_drewN hBA nq
  have hp2 : Blk (w1.drewN nq) (w.heap.size + 1) 31 _ := hp
  have hi2 : Blk (w1.drewN nq) w.heap.size 29 _ := hi
  clear hi hp hBA HA I0 I1 I2 I3 I4 P0 P1 P2 P3 P4 P5 P6 P7 P8 P9 P10 P11 HV1
  generalize w1.drewN nq = w2 at *
  have I4 := hi2.cell 4
  have pc := hp2.cell
  obtain ⟨P0, P1, P2, P3, P4, P5, P6, P7, P8, P9, P10, P11⟩ := And.intro (pc 0) (And.intro (pc 1) (And.intro (pc 2) (And.intro (pc 3) (And.intro (pc 4) (And.intro (pc 5) (And.intro (pc 6) (And.intro (pc 7) (And.intro (pc 8) (And.intro (pc 9) (And.intro (pc 10) (pc 11)))))))))))
  simp only [List.getElem?_toArray, List.getElem?_cons_zero, List.getElem?_cons_succ] at I4 P0 P1 P2 P3 P4 P5 P6 P7 P8 P9 P10 P11
  have HA := Lib.hid (And.intro hi2 (And.intro hp2 hB2))
  clear hi2 hp2 hB2 pc
  generalize waysB p = b at *
  cases b
  case false =>
    go_wp2_with (go_at_call 53; (with_reducible refine (FW.out _).mono ?_); rintro e w3 ⟨rfl, hB3⟩)
    go_ret
    exact ⟨by rw [HE.out]; rfl, HA.out.2.2.trans (hB3.mono HA.out.2.2.size)⟩
  replace HE : Hid (frameE m p = if (p.rct && !alikeB m.cs) = true then 3 else 0) := Lib.hid (by rw [HE.out, if_neg (by simp)])
  go_upto_region 10 with (go_at_call 53; (with_reducible refine (FW.out _).mono ?_); rintro e w3 ⟨rfl, hB3⟩)
  obtain ⟨hi, hp, hBA⟩ := HA.out
  replace hi := hi.below hB3 hi.lt
  replace hp := hp.below hB3 hp.lt
  replace hBA := hBA.trans (hB3.mono hBA.size)
  clear HA I4 P0 P1 P2 P3 P4 P5 P6 P7 P8 P9 P10 P11 hB3 FW
  have I4 := hi.cell 4
  have P9 := hp.cell 9
  simp only [List.getElem?_toArray, List.getElem?_cons_zero, List.getElem?_cons_succ] at I4 P9
  have HA := Lib.hid hBA
  have FA1 := Lib.hid (FA.out w3 (HV.out.keep hBA))
  clear hi hp hBA FA
  generalize p.rct = rc at *
  cases rc
  case false =>
    go_wp2_with fail
    go_ret
    exact ⟨by rw [HE.out]; rfl, HA.out⟩
  generalize alikeB m.cs = ba at *
  cases ba
  all_goals
    go_wp2_with (go_at_call 54; refine FA1.out.mono ?_; rintro e w4 ⟨rfl, hB4⟩)
    go_ret
    exact ⟨by rw [HE.out]; rfl, HA.out.trans (hB4.mono HA.out.size)⟩
end Go.Proofs.Ytlhlhlabnjfhcaa
