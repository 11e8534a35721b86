/- canvas: alike. -/
import Derived.Test.YtlhlhlabnjfhcaaCvB
namespace Go.Proofs.Ytlhlhlabnjfhcaa
open Go.RowKit

/-- can the components be turned -/
def alikeB : List CompD → Bool
  | a :: b :: c :: _ => sameC b a && sameC c a
  | _ => false

set_option maxRecDepth 100000 in
set_option maxHeartbeats 4000000 in
theorem alike_any (v : Value) (cs : List CompD) (w : World) (hv : CompsRd w v cs) (hl : cs.length ≤ 1000000000) : Calls Try.prog 54 #[v] w fun e w' => e = .returned (.bool (alikeB cs)) ∧ Below w.heap.size w w' := by
  have HV := Lib.hid hv
  obtain ⟨va, vc, rfl, g1, g2, -⟩ := hv
  by_cases h3 : 3 ≤ cs.length
  case neg =>
    have hE : alikeB cs = false := by
      match cs, h3 with
      | [], _ => rfl
      | [_], _ => rfl
      | [_, _], _ => rfl
      | _ :: _ :: _ :: _, h => exact absurd (by simp) h
    have HE := Lib.hid hE
    have d3 : decide ((cs.length : Int) < 3) = true := by simp; omega
    clear hE
    go_enter Try.func54, Try.ntmps54
    go_wp2_with fail
    go_ret
    exact ⟨by rw [HE.out]; rfl, Below.refl _ _⟩
  have d3 : decide ((cs.length : Int) < 3) = false := by simp; omega
  obtain ⟨a, b, c, tl, rfl⟩ : ∃ a b c tl, cs = a :: b :: c :: tl := by
    match cs, h3 with
    | a :: b :: c :: tl, _ => exact ⟨a, b, c, tl, rfl⟩
    | [], h => simp at h
    | [_], h => simp at h
    | [_, _], h => simp at h
  obtain ⟨n, hn⟩ : ∃ n, (a :: b :: c :: tl).length = n := ⟨_, rfl⟩
  rw [hn] at h3 d3 g1 hl HV ⊢
  obtain ⟨_, _, he, -, -, q⟩ := HV.out
  rw [hn] at he
  cases he
  obtain ⟨bl, o, dv, rfl, c0, c1, c2, c3, c4, ⟨dsa, dsc, rfl, -⟩⟩ := q 0 a rfl
  obtain ⟨bl', o', dv', e1, c0', c1', c2', c3', c4', ⟨dsa', dsc', rfl, -⟩⟩ := q 1 b rfl
  cases e1
  obtain ⟨bl', o', dv', e1, c0'', c1'', c2'', c3'', c4'', ⟨dsa'', dsc'', rfl, -⟩⟩ := q 2 c rfl
  cases e1
  clear q
  have l3 := World.block_lt_of_cell? w _ c0
  simp only [Nat.zero_mul, Nat.add_zero, Nat.one_mul] at c0 c1 c2 c3 c4 c0' c1' c2' c3' c4' c0'' c1'' c2'' c3'' c4''
  have HX : ∀ j : Nat, j < 2 → ∃ (x : CompD) (xa : Option Addr) (xc : Nat), (j = 0 → x = b) ∧ (j = 1 → x = c) ∧ w.cell? ⟨bl, o + 5 + j * 5, none⟩ = some (.int .i64 x.depth) ∧ w.cell? ⟨bl, o + 5 + j * 5 + 1, none⟩ = some (.bool x.signed) ∧
      w.cell? ⟨bl, o + 5 + j * 5 + 2, none⟩ = some (.int .i64 x.dx) ∧ w.cell? ⟨bl, o + 5 + j * 5 + 3, none⟩ = some (.int .i64 x.dy) ∧ w.cell? ⟨bl, o + 5 + j * 5 + 4, none⟩ = some (.slice xa x.data.length xc) := by
    intro j hj
    by_cases h0 : j = 0
    · subst h0
      simp only [Nat.zero_mul, Nat.add_zero]
      exact ⟨b, dsa', dsc', fun _ => rfl, by omega, c0', c1', c2', c3', c4'⟩
    · obtain rfl : j = 1 := by omega
      have e : o + 5 + 1 * 5 = o + 2 * 5 := by omega
      rw [e]
      exact ⟨c, dsa'', dsc'', by omega, fun _ => rfl, c0'', c1'', c2'', c3'', c4''⟩
  have HX := Lib.hid HX
  clear c0' c1' c2' c3' c4' c0'' c1'' c2'' c3'' c4''
  have hA : alikeB (a :: b :: c :: tl) = (sameC b a && sameC c a) := rfl
  rw [hA]
  clear hA
  have HV2 := Lib.hid HV
  clear HV hn
  go_enter Try.func54, Try.ntmps54
  go_wp2_with fail
  go_loopg [4, 11] 2 (fun g s4 s11 wx => ∃ j : Nat, j ≤ 2 ∧ g = 2 - j ∧ s11 = .int .i64 j ∧ (0 < j → sameC b a = true) ∧ (1 < j → sameC c a = true) ∧ Below w.heap.size w wx)
  case atStart => exact ⟨0, by omega, rfl, rfl, by omega, by omega, Below.refl _ _⟩
  case round =>
    obtain ⟨wy, rfl⟩ : ∃ wy : World, wy = wr := ⟨_, rfl⟩
    obtain ⟨j, hj, rfl, rfl, s0, s1, hB⟩ := hrel
    by_cases hjl : j < 2
    · obtain ⟨x, xa, xc, x0, x1, y0, y1, y2, y3, y4⟩ := HX.out j hjl
      have hsz := hB.size
      replace c0 := bcellC hB c0 l3
      replace c1 := bcellC hB c1 l3
      replace c2 := bcellC hB c2 l3
      replace c3 := bcellC hB c3 l3
      replace c4 := bcellC hB c4 l3
      replace y0 := bcellC hB y0 l3
      replace y1 := bcellC hB y1 l3
      replace y2 := bcellC hB y2 l3
      replace y3 := bcellC hB y3 l3
      replace y4 := bcellC hB y4 l3
      have l4 : bl < wy.heap.size := Nat.lt_of_lt_of_le l3 hsz
      have hlt : decide ((j : Int) < 2) = true := by simp; omega
      have hs : sameC x a = (!(x.depth != a.depth) && !(x.signed != a.signed) && !(x.dx != a.dx) && !(x.dy != a.dy)) := by unfold sameC bne; simp only [Bool.not_not]
      have HH := Lib.hid (And.intro s0 (And.intro s1 (And.intro hB (And.intro x0 (And.intro x1 hs)))))
      clear s0 s1 hB x0 x1 hs HV2 HX
      have z0 : (0 : Int) < (n : Int) := by omega
      have z1 : 0 < n := by omega
      obtain ⟨b1, e1⟩ : ∃ b1, (x.depth != a.depth) = b1 := ⟨_, rfl⟩
      obtain ⟨b2, e2⟩ : ∃ b2, (x.signed != a.signed) = b2 := ⟨_, rfl⟩
      obtain ⟨b3, e3⟩ : ∃ b3, (x.dx != a.dx) = b3 := ⟨_, rfl⟩
      obtain ⟨b4, e4⟩ : ∃ b4, (x.dy != a.dy) = b4 := ⟨_, rfl⟩
      have e2' : x.signed = if b2 then !a.signed else a.signed := by
        rw [← e2]
        cases x.signed <;> cases a.signed <;> rfl
      rw [e2'] at y1
      have HE2 := Lib.hid e2
      clear e2 e2'
      cases b1
      cases b2
      cases b3
      cases b4
      all_goals try cases b2
      all_goals try simp only [Bool.false_eq_true, if_true, if_false] at y1
      · go_upto_region 6 with fail
        go_quiet (fail)
        go_wp2_with fail
        go_roundg (2 - (j + 1))
        case measure => omega
        case rel =>
          obtain ⟨s0, s1, hB, x0, x1, hs⟩ := HH.out
          have hst : sameC x a = true := by rw [hs, e1, HE2.out, e3, e4]; rfl
          refine ⟨j + 1, by omega, rfl, by go_num, fun h => ?_, fun h => ?_, below_drewN (hB.alloc hsz _) _⟩
          · by_cases hj0 : j = 0
            · rw [← x0 hj0]; exact hst
            · exact s0 (by omega)
          · rw [← x1 (by omega)]; exact hst
      all_goals
        go_upto_region 6 with fail
        go_quiet (fail)
        go_wp2_with fail
        go_ret
        obtain ⟨s0, s1, hB, x0, x1, hs⟩ := HH.out
        have hst : sameC x a = false := by have e2 := HE2.out; rw [hs]; simp [*]
        refine ⟨?_, below_drewN (hB.alloc hsz _) _⟩
        by_cases hj0 : j = 0
        · rw [← x0 hj0, hst]; rfl
        · rw [← x1 (by omega), hst, Bool.and_false]; rfl
    · obtain rfl : j = 2 := by omega
      have HH := Lib.hid (And.intro s0 (And.intro s1 hB))
      clear s0 s1 hB
      go_wp2_with fail
      go_ret
      exact ⟨by rw [HH.out.1 (by omega), HH.out.2.1 (by omega)]; rfl, HH.out.2.2⟩
end Go.Proofs.Ytlhlhlabnjfhcaa
