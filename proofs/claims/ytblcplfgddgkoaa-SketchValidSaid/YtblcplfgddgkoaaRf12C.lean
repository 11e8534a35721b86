/- The document's chapters 11, 12: Bounds, Area, numbers, Frame, Check, of what may be. -/
import Derived.Test.YtblcplfgddgkoaaRfSame
namespace Go.Proofs.Ytblcplfgddgkoaa
open Go.RowKit

/-- params as a value -/
def parV (Tx Ty Levels Cbw Cbh Prec Style Order Layers : Int) (Rct Sop Eph : Bool) : Value :=
  .agg #[.int .i64 Tx, .int .i64 Ty, .int .i64 Levels, .int .i64 Cbw, .int .i64 Cbh, .int .i64 Prec, .int .i64 Style, .int .i64 Order, .int .i64 Layers, .bool Rct, .bool Sop, .bool Eph]

set_option maxRecDepth 100000 in
set_option maxHeartbeats 4000000 in
theorem rnumbers_ok (X Y Ox Oy : Int) (v : Value) (Tx Ty Levels Cbw Cbh Prec Style Order Layers : Int) (Sop Eph : Bool) (w : World) (hv : ∃ a n c, v = .slice a n c)
    (x0 : 0 ≤ X) (x1 : X ≤ 64) (y0 : 0 ≤ Y) (y1 : Y ≤ 64) (o0 : 0 ≤ Ox) (o1 : 0 ≤ Oy) (h1 : Ox < Tx) (h2 : Tx ≤ 65536) (h3 : Oy < Ty) (h4 : Ty ≤ 65536) (hp : ceilI X Tx * ceilI Y Ty ≤ 16) (h5 : 0 ≤ Levels) (h6 : Levels ≤ 5) (h7 : 2 ≤ Cbw) (h8 : Cbw ≤ 6) (h9 : 2 ≤ Cbh) (h10 : Cbh ≤ 6) (h11 : 1 ≤ Prec) (h12 : Prec ≤ 15)
    (h13 : 0 ≤ Style) (h14 : Style ≤ 63) (h15 : 0 ≤ Order) (h16 : Order ≤ 4) (h17 : 1 ≤ Layers) (h18 : Layers ≤ 8) :
    Calls Try.prog 32 #[.agg #[.int .i64 X, .int .i64 Y, .int .i64 Ox, .int .i64 Oy, v], parV Tx Ty Levels Cbw Cbh Prec Style Order Layers false Sop Eph] w fun e w' => e = .returned (.int .i64 0) ∧ Below w.heap.size w w' := by
  obtain ⟨a, n, c, rfl⟩ := hv
  have d1 : decide (Tx ≤ Ox) = false := by simp; omega
  have d2 : decide (65536 < Tx) = false := by simp; omega
  have d3 : decide (Ty ≤ Oy) = false := by simp; omega
  have d4 : decide (65536 < Ty) = false := by simp; omega
  have d5 : decide (Levels < 0) = false := by simp; omega
  have d6 : decide (5 < Levels) = false := by simp; omega
  have d7 : decide (Cbw < 2) = false := by simp; omega
  have d8 : decide (6 < Cbw) = false := by simp; omega
  have d9 : decide (Cbh < 2) = false := by simp; omega
  have d10 : decide (6 < Cbh) = false := by simp; omega
  have d11 : decide (Prec < 1) = false := by simp; omega
  have d12 : decide (15 < Prec) = false := by simp; omega
  have d13 : decide (Style < 0) = false := by simp; omega
  have d14 : decide (63 < Style) = false := by simp; omega
  have d15 : decide (Order < 0) = false := by simp; omega
  have d16 : decide (4 < Order) = false := by simp; omega
  have d17 : decide (Layers < 1) = false := by simp; omega
  have d18 : decide (8 < Layers) = false := by simp; omega
  obtain ⟨cx0, -⟩ := ceilI_bd X Tx x0 (by omega)
  obtain ⟨cy0, -⟩ := ceilI_bd Y Ty y0 (by omega)
  have hp0 : 0 ≤ ceilI X Tx * ceilI Y Ty := Int.mul_nonneg cx0 cy0
  have c1 : ∀ w, Calls Try.prog 33 #[.int .i64 X, .int .i64 Tx] w fun e w' => e = .returned (.int .i64 (ceilI X Tx)) ∧ w = w' := fun w => ceil_pos X Tx w x0 (by omega) (by omega) (by omega)
  have c2 : ∀ w, Calls Try.prog 33 #[.int .i64 Y, .int .i64 Ty] w fun e w' => e = .returned (.int .i64 (ceilI Y Ty)) ∧ w = w' := fun w => ceil_pos Y Ty w y0 (by omega) (by omega) (by omega)
  generalize ceilI X Tx = cx at *
  generalize ceilI Y Ty = cy at *
  have C1 := Lib.hid c1
  have C2 := Lib.hid c2
  have d0 : decide (16 < cx * cy) = false := by simp; omega
  have W1 := Lib.hid (show IntKind.i64.wrap (cx * cy) = cx * cy from IntWalk.i64_in _ (by omega))
  clear c1 c2 hp hp0 cx0 cy0
  unfold parV
  go_enter Try.func32, Try.ntmps32
  go_wp2_with fail
  have W2 := W1.out
  go_quiet (first | (go_at_call_of 33 X; exact Calls.quiet_of ((C1.out _).mono fun e w' h => ⟨h.1, 0, h.2.symm⟩)) | (go_at_call_of 33 Y; exact Calls.quiet_of ((C2.out _).mono fun e w' h => ⟨h.1, 0, h.2.symm⟩)))
  clear W2
  go_wp2_with fail
  go_ret
  exact ⟨rfl, ((((Below.refl _ _).alloc (Nat.le_refl _) _).alloc (by simp) _)).trans (drewN_below _ _ _)⟩

theorem rarea_any (x0 y0 x1 y1 : Int) (w : World) (a1 : 0 ≤ x0) (a2 : x0 ≤ 1000) (b1 : 0 ≤ y0) (b2 : y0 ≤ 1000) (c1 : x0 ≤ x1) (c2 : x1 ≤ 1000) (d1 : y0 ≤ y1) (d2 : y1 ≤ 1000) :
    Calls Try.prog 25 #[.agg #[.int .i64 x0, .int .i64 y0, .int .i64 x1, .int .i64 y1]] w fun e w' => e = .returned (.int .i64 ((x1 - x0) * (y1 - y0))) ∧ Below w.heap.size w w' := by
  have m0 : 0 ≤ (x1 - x0) * (y1 - y0) := Int.mul_nonneg (by omega) (by omega)
  have m1 : (x1 - x0) * (y1 - y0) ≤ 1000 * 1000 := Int.mul_le_mul (by omega) (by omega) (by omega) (by omega)
  go_enter Try.func25, Try.ntmps25
  go_wp2_with fail
  go_ret
  exact ⟨rfl, (Below.refl _ _).alloc (Nat.le_refl _) _⟩

theorem half_bd (depth : Int) (h1 : 1 ≤ depth) (h2 : depth ≤ 16) : (1 : Int) ≤ 2 ^ (depth.toNat - 1) ∧ (2 : Int) ^ (depth.toNat - 1) ≤ 32768 ∧ (2 : Int) * 2 ^ (depth.toNat - 1) - 1 = 2 ^ depth.toNat - 1 := by
  obtain ⟨n, rfl⟩ := Int.eq_ofNat_of_zero_le (a := depth) (by omega)
  simp only [Int.toNat_natCast]
  have : n = 1 ∨ n = 2 ∨ n = 3 ∨ n = 4 ∨ n = 5 ∨ n = 6 ∨ n = 7 ∨ n = 8 ∨ n = 9 ∨ n = 10 ∨ n = 11 ∨ n = 12 ∨ n = 13 ∨ n = 14 ∨ n = 15 ∨ n = 16 := by omega
  rcases this with h|h|h|h|h|h|h|h|h|h|h|h|h|h|h|h <;> subst h <;> decide

theorem rbounds_any (depth : Int) (w : World) (h1 : 1 ≤ depth) (h2 : depth ≤ 16) :
    Calls Try.prog 26 #[.int .i64 depth, .bool false] w fun e w' => e = .returned (.tuple #[.int .i64 0, .int .i64 (2 ^ depth.toNat - 1)]) ∧ w = w' := by
  obtain ⟨p1, p2, p3⟩ := half_bd depth h1 h2
  have P3 := Lib.hid p3
  clear p3
  go_enter Try.func26, Try.ntmps26
  go_wp2_with fail
  go_ret2
  exact ⟨by rw [← P3.out]; rfl, rfl⟩

/-- what a component may be -/
def CompOk (c : CompD) : Prop := 1 ≤ c.depth ∧ c.depth ≤ 16 ∧ 1 ≤ c.dx ∧ c.dx ≤ 4 ∧ 1 ≤ c.dy ∧ c.dy ≤ 4

set_option maxRecDepth 100000 in
set_option maxHeartbeats 4000000 in
theorem rframe_ok (X Y Ox Oy : Int) (v : Value) (cs : List CompD) (Tx Ty Levels Cbw Cbh Prec Style Order Layers : Int) (Sop Eph : Bool) (w : World) (hv : CompsRd w v cs) (hn1 : 1 ≤ cs.length) (hn2 : cs.length ≤ 4) (hok : ∀ (k : Nat) c, cs[k]? = some c → CompOk c)
    (x0 : Ox < X) (x1 : X ≤ 64) (y0 : Oy < Y) (y1 : Y ≤ 64) (o0 : 0 ≤ Ox) (o1 : 0 ≤ Oy) (h1 : Ox < Tx) (h2 : Tx ≤ 65536) (h3 : Oy < Ty) (h4 : Ty ≤ 65536) (hp : ceilI X Tx * ceilI Y Ty ≤ 16) (h5 : 0 ≤ Levels) (h6 : Levels ≤ 5) (h7 : 2 ≤ Cbw) (h8 : Cbw ≤ 6) (h9 : 2 ≤ Cbh) (h10 : Cbh ≤ 6) (h11 : 1 ≤ Prec) (h12 : Prec ≤ 15)
    (h13 : 0 ≤ Style) (h14 : Style ≤ 63) (h15 : 0 ≤ Order) (h16 : Order ≤ 4) (h17 : 1 ≤ Layers) (h18 : Layers ≤ 8) :
    Calls Try.prog 24 #[.agg #[.int .i64 X, .int .i64 Y, .int .i64 Ox, .int .i64 Oy, v], parV Tx Ty Levels Cbw Cbh Prec Style Order Layers false Sop Eph] w fun e w' => e = .returned (.int .i64 0) ∧ Below w.heap.size w w' := by
  have N := Lib.hid (fun a n c W => rnumbers_ok X Y Ox Oy (.slice a n c) Tx Ty Levels Cbw Cbh Prec Style Order Layers Sop Eph W ⟨a, n, c, rfl⟩ (by omega) x1 (by omega) y1 o0 o1 h1 h2 h3 h4 hp h5 h6 h7 h8 h9 h10 h11 h12 h13 h14 h15 h16 h17 h18)
  clear hp h1 h2 h3 h4 h5 h6 h7 h8 h9 h10 h11 h12 h13 h14 h15 h16 h17 h18
  obtain ⟨a, cap, rfl, hl1, hl2, hrd⟩ := hv
  have HR := Lib.hid hrd
  have HO := Lib.hid hok
  have d1 : decide (Ox < 0) = false := by simp; omega
  have d2 : decide (Oy < 0) = false := by simp; omega
  have d3 : decide (X ≤ Ox) = false := by simp; omega
  have d4 : decide (Y ≤ Oy) = false := by simp; omega
  have d5 : decide (64 < X) = false := by simp; omega
  have d6 : decide (64 < Y) = false := by simp; omega
  have d7 : decide ((cs.length : Int) < 1) = false := by simp; omega
  have d8 : decide ((4 : Int) < (cs.length : Int)) = false := by simp; omega
  unfold maxLen at hl2
  unfold parV at *
  clear hrd hok
  go_enter Try.func24, Try.ntmps24
  go_wp2_with fail
  go_loopg [5] cs.length (fun g s5 wx => ∃ k : Nat, k ≤ cs.length ∧ g = cs.length - k ∧ s5 = .int .i64 k ∧
    Below (w.heap.size + 2) ((w.alloc (.cells #[.int .i64 X, .int .i64 Y, .int .i64 Ox, .int .i64 Oy, .slice a cs.length cap] 25)).alloc (.cells #[.int .i64 Tx, .int .i64 Ty, .int .i64 Levels, .int .i64 Cbw, .int .i64 Cbh, .int .i64 Prec, .int .i64 Style, .int .i64 Order, .int .i64 Layers, .bool false, .bool Sop, .bool Eph] 37)) wx)
  case atStart => exact ⟨0, Nat.zero_le _, rfl, rfl, Below.refl _ _⟩
  case round =>
    obtain ⟨wa, rfl⟩ : ∃ wa : World, wa = wr := ⟨_, rfl⟩
    obtain ⟨k, hk, rfl, rfl, hb⟩ := hrel
    have hB : Below w.heap.size w wa := (((Below.refl _ _).alloc (Nat.le_refl _) _).alloc (by simp) _).trans (hb.mono (by omega))
    have m0 := bcellC hb (a := ⟨w.heap.size, 0, none⟩) (u := .int .i64 X) (by simp) (by simp)
    have m1 := bcellC hb (a := ⟨w.heap.size, 1, none⟩) (u := .int .i64 Y) (by simp) (by simp)
    have m2 := bcellC hb (a := ⟨w.heap.size, 2, none⟩) (u := .int .i64 Ox) (by simp) (by simp)
    have m3 := bcellC hb (a := ⟨w.heap.size, 3, none⟩) (u := .int .i64 Oy) (by simp) (by simp)
    have m4 := bcellC hb (a := ⟨w.heap.size, 4, none⟩) (u := .slice a cs.length cap) (by simp) (by simp)
    have hsz := hb.size
    simp at hsz
    by_cases hlt : k < cs.length
    · obtain ⟨c, hc⟩ : ∃ c, cs[k]? = some c := ⟨_, List.getElem?_eq_getElem hlt⟩
      obtain ⟨b1, o1, dv1, rfl, c0, c1, c2, c3, c4, e1, p1, rfl, -, -, -⟩ := HR.out k c hc
      obtain ⟨k1, k2, k3, k4, k5, k6⟩ := HO.out k c hc
      have n1 := World.block_lt_of_cell? w _ c0
      simp only at n1
      replace c0 := bcellC hB c0 n1
      replace c1 := bcellC hB c1 n1
      replace c2 := bcellC hB c2 n1
      replace c3 := bcellC hB c3 n1
      replace c4 := bcellC hB c4 n1
      have z0 : (0 : Int) ≤ k := by omega
      have z1 : (k : Int) < (cs.length : Int) := by omega
      clear hc m0 m1 m2 m3
      go_wp2_with fail
      go_roundg (cs.length - (k + 1))
      case measure => omega
      case rel => exact ⟨k + 1, by omega, rfl, by go_num, by repeat (first | exact hb | refine Below.alloc ?_ (by omega) _ | refine Below.setCell ?_ (by simp; omega) _)⟩
    · obtain rfl : k = cs.length := by omega
      have q0 := bcellC hb (a := ⟨w.heap.size + 1, 0, none⟩) (u := .int .i64 Tx) (by simp) (by simp)
      have q1 := bcellC hb (a := ⟨w.heap.size + 1, 1, none⟩) (u := .int .i64 Ty) (by simp) (by simp)
      have q2 := bcellC hb (a := ⟨w.heap.size + 1, 2, none⟩) (u := .int .i64 Levels) (by simp) (by simp)
      have q3 := bcellC hb (a := ⟨w.heap.size + 1, 3, none⟩) (u := .int .i64 Cbw) (by simp) (by simp)
      have q4 := bcellC hb (a := ⟨w.heap.size + 1, 4, none⟩) (u := .int .i64 Cbh) (by simp) (by simp)
      have q5 := bcellC hb (a := ⟨w.heap.size + 1, 5, none⟩) (u := .int .i64 Prec) (by simp) (by simp)
      have q6 := bcellC hb (a := ⟨w.heap.size + 1, 6, none⟩) (u := .int .i64 Style) (by simp) (by simp)
      have q7 := bcellC hb (a := ⟨w.heap.size + 1, 7, none⟩) (u := .int .i64 Order) (by simp) (by simp)
      have q8 := bcellC hb (a := ⟨w.heap.size + 1, 8, none⟩) (u := .int .i64 Layers) (by simp) (by simp)
      have q9 := bcellC hb (a := ⟨w.heap.size + 1, 9, none⟩) (u := .bool false) (by simp) (by simp)
      have q10 := bcellC hb (a := ⟨w.heap.size + 1, 10, none⟩) (u := .bool Sop) (by simp) (by simp)
      have q11 := bcellC hb (a := ⟨w.heap.size + 1, 11, none⟩) (u := .bool Eph) (by simp) (by simp)
      clear hb
      go_wp2_with fail
      refine (N.out _ _ _ _).mono ?_
      rintro e w1 ⟨rfl, hb1⟩
      go_wp2_with fail
      go_ret
      exact ⟨rfl, hB.trans (hb1.mono (by omega))⟩
end Go.Proofs.Ytblcplfgddgkoaa
