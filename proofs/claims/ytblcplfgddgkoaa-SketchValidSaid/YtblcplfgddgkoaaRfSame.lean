/- The document's Same (chapters 17, 18) of two pictures that read alike: true. -/
import Derived.Test.YtblcplfgddgkoaaRf12
import Derived.Deep.RegionHeld3
import Derived.Laws.BytesArg
namespace Go.Proofs.Ytblcplfgddgkoaa
open Go.RowKit

theorem bcellC {B : Nat} {W w1 : World} (hb : Below B W w1) {a : Addr} {u : Value} (h : W.cell? a = some u) (hl : a.block < B) : w1.cell? a = some u := (hb.cell (p := a) hl).trans h

def headV (X Y Ox Oy : Int) (v : Value) : Value :=
  .agg #[.int .i64 X, .int .i64 Y, .int .i64 Ox, .int .i64 Oy, v, .int .i64 0, .int .i64 0, .int .i64 0, .int .i64 0, .int .i64 0, .int .i64 0, .int .i64 0, .int .i64 0, .int .i64 0, .bool false, .bool false, .bool false, .slice none 0 0]

set_option maxRecDepth 100000 in
set_option maxHeartbeats 4000000 in
theorem rsame17 (X Y Ox Oy : Int) (va vb : Value) (cs : List CompD) (w : World) (ha : CompsRd w va cs) (hb : CompsRd w vb cs) :
    Calls Try.prog 22 #[headV X Y Ox Oy va, headV X Y Ox Oy vb] w fun e w' => e = .returned (.bool true) ∧ Below w.heap.size w w' := by
  obtain ⟨a, cap, rfl, hl1, hl2, hra⟩ := ha
  obtain ⟨b, cap', rfl, hl3, hl4, hrb⟩ := hb
  unfold maxLen at hl2 hl4
  have hcv : ∀ W : World, (convert 54 9 (.slice none 0 0)).run Try.prog W = .ok (.string ByteArray.empty) W := fun W => run_convert_bytes_nil (P := Try.prog) W 54 5 Try.underlying54 Try.underlying5 0 0 9 Try.underlying9
  unfold headV
  go_enter Try.func22, Try.ntmps22
  go_wp2_with fail
  go_loopg [5] cs.length (fun g s5 wx => ∃ k : Nat, k ≤ cs.length ∧ g = cs.length - k ∧ s5 = .int .i64 k ∧ wx.cell? ⟨w.heap.size, 4, none⟩ = some (.slice a cs.length cap) ∧ wx.cell? ⟨w.heap.size + 1, 4, none⟩ = some (.slice b cs.length cap') ∧ w.heap.size + 1 < wx.heap.size ∧ Below w.heap.size w wx)
  case atStart => exact ⟨0, Nat.zero_le _, rfl, rfl, by simp, by simp, by simp, ((Below.refl _ _).alloc (Nat.le_refl _) _).alloc (by simp) _⟩
  case round =>
    obtain ⟨wa, rfl⟩ : ∃ wa : World, wa = wr := ⟨_, rfl⟩
    obtain ⟨k, hk, rfl, rfl, m1, m2, hsz, hb⟩ := hrel
    by_cases hlt : k < cs.length
    · obtain ⟨c, hc⟩ : ∃ c, cs[k]? = some c := ⟨_, List.getElem?_eq_getElem hlt⟩
      obtain ⟨b1, o1, dv1, rfl, c0, c1, c2, c3, c4, e1, p1, rfl, -, -, -⟩ := hra k c hc
      obtain ⟨b2, o2, dv2, rfl, d0, d1, d2, d3, d4, e2, p2, rfl, -, -, -⟩ := hrb k c hc
      have n1 := World.block_lt_of_cell? w _ c0
      have n2 := World.block_lt_of_cell? w _ d0
      simp only at n1 n2
      clear hc hra hrb
      replace c0 := bcellC hb c0 n1
      replace c1 := bcellC hb c1 n1
      replace c2 := bcellC hb c2 n1
      replace c3 := bcellC hb c3 n1
      replace c4 := bcellC hb c4 n1
      replace d0 := bcellC hb d0 n2
      replace d1 := bcellC hb d1 n2
      replace d2 := bcellC hb d2 n2
      replace d3 := bcellC hb d3 n2
      replace d4 := bcellC hb d4 n2
      have z0 : (0 : Int) ≤ k := by omega
      have z1 : (k : Int) < (cs.length : Int) := by omega
      have z2 : b1 < wa.heap.size := by omega
      have z3 : b2 < wa.heap.size := by omega
      go_upto_region 6 with fail
      go_cut [6, 7] (fun s6 s7 wx => ∃ r6 r7 : Nat, s6 = .pointer (some ⟨r6, 0, none⟩) ∧ s7 = .pointer (some ⟨r7, 0, none⟩) ∧ wx.cell? ⟨r6, 0, none⟩ = some (.int .i64 c.depth) ∧ wx.cell? ⟨r6, 1, none⟩ = some (.bool c.signed) ∧ wx.cell? ⟨r6, 2, none⟩ = some (.int .i64 c.dx) ∧ wx.cell? ⟨r6, 3, none⟩ = some (.int .i64 c.dy) ∧
        wx.cell? ⟨r7, 0, none⟩ = some (.int .i64 c.depth) ∧ wx.cell? ⟨r7, 1, none⟩ = some (.bool c.signed) ∧ wx.cell? ⟨r7, 2, none⟩ = some (.int .i64 c.dx) ∧ wx.cell? ⟨r7, 3, none⟩ = some (.int .i64 c.dy) ∧ Below wa.heap.size wa wx)
      case first =>
        go_region_held3 (fun w' => w'.cell? ⟨w.heap.size, 4, none⟩ = some (.slice (some ⟨b1, o1, none⟩) cs.length cap) ∧ w'.cell? ⟨w.heap.size + 1, 4, none⟩ = some (.slice (some ⟨b2, o2, none⟩) cs.length cap') ∧
            w'.cell? ⟨b1, o1 + k * 5, none⟩ = some (.int .i64 c.depth) ∧ w'.cell? ⟨b1, o1 + k * 5 + 1, none⟩ = some (.bool c.signed) ∧ w'.cell? ⟨b1, o1 + k * 5 + 2, none⟩ = some (.int .i64 c.dx) ∧ w'.cell? ⟨b1, o1 + k * 5 + 3, none⟩ = some (.int .i64 c.dy) ∧ w'.cell? ⟨b1, o1 + k * 5 + 4, none⟩ = some (.slice e1 c.data.length p1) ∧
            w'.cell? ⟨b2, o2 + k * 5, none⟩ = some (.int .i64 c.depth) ∧ w'.cell? ⟨b2, o2 + k * 5 + 1, none⟩ = some (.bool c.signed) ∧ w'.cell? ⟨b2, o2 + k * 5 + 2, none⟩ = some (.int .i64 c.dx) ∧ w'.cell? ⟨b2, o2 + k * 5 + 3, none⟩ = some (.int .i64 c.dy) ∧ w'.cell? ⟨b2, o2 + k * 5 + 4, none⟩ = some (.slice e2 c.data.length p2))
          (first | exact ⟨m1, m2, c0, c1, c2, c3, c4, d0, d1, d2, d3, d4⟩ | (refine (fun HB : Below wa.heap.size wa _ => ⟨bcellC HB m1 (by simp; omega), bcellC HB m2 (by simp; omega), bcellC HB c0 z2, bcellC HB c1 z2, bcellC HB c2 z2, bcellC HB c3 z2, bcellC HB c4 z2, bcellC HB d0 z3, bcellC HB d1 z3, bcellC HB d2 z3, bcellC HB d3 z3, bcellC HB d4 z3⟩) ?_; repeat (first | exact Below.refl _ _ | refine Below.setCell ?_ (by first | omega | (simp; done) | (simp; omega)) _ | refine Below.alloc ?_ (by first | omega | (simp; done) | (simp; omega)) _ | refine Below.drew ?_)))
          (fail)
        all_goals
          go_wp2_with fail
          go_meet
          refine ⟨_, _, rfl, rfl, ?_, ?_, ?_, ?_, ?_, ?_, ?_, ?_, ?_⟩
          iterate 8 (rotate_left; try simp [go_sem, *])
          all_goals (try simp [go_sem, *])
          all_goals (repeat (first | exact Below.refl _ _ | refine Below.setCell ?_ (by first | omega | (simp; done) | (simp; omega)) _ | refine Below.alloc ?_ (by first | omega | (simp; done) | (simp; omega)) _ | refine Below.drew ?_))
      obtain ⟨r6, r7, rfl, rfl, e0, e1', e2', e3, f0, f1, f2, f3, hb2⟩ := hcut
      replace m1 := bcellC hb2 m1 (by simp; omega)
      replace m2 := bcellC hb2 m2 (by simp; omega)
      have hB : Below w.heap.size w wc := hb.trans (hb2.mono (by omega))
      have hS := hb2.size
      clear c0 c1 c2 c3 c4 d0 d1 d2 d3 d4 hb hb2
      go_wp2_with fail
      go_roundg (cs.length - (k + 1))
      case measure => omega
      case rel => exact ⟨k + 1, by omega, rfl, by go_num, m1, m2, by omega, hB⟩
    · obtain rfl : k = cs.length := by omega
      clear hra hrb
      go_wp2_with fail
      go_ret
      exact ⟨rfl, hb⟩

theorem rsame18 (X Y Ox Oy : Int) (va vb : Value) (cs : List CompD) (w : World) (ha : CompsRd w va cs) (hb : CompsRd w vb cs) :
    Calls Try.prog 11 #[.agg #[.int .i64 X, .int .i64 Y, .int .i64 Ox, .int .i64 Oy, va], .agg #[.int .i64 X, .int .i64 Y, .int .i64 Ox, .int .i64 Oy, vb]] w fun e w' => e = .returned (.bool true) ∧ Below w.heap.size w w' := by
  have HA := Lib.hid ha
  have HB := Lib.hid hb
  obtain ⟨a, cap, rfl, hl1, hl2, hra⟩ := ha
  obtain ⟨b, cap', rfl, hl3, hl4, hrb⟩ := hb
  have hw2 : Below w.heap.size w ((w.alloc (.cells #[.int .i64 X, .int .i64 Y, .int .i64 Ox, .int .i64 Oy, .slice a cs.length cap] 25)).alloc (.cells #[.int .i64 X, .int .i64 Y, .int .i64 Ox, .int .i64 Oy, .slice b cs.length cap'] 25)) := ((Below.refl _ _).alloc (Nat.le_refl _) _).alloc (by simp) _
  have HW := Lib.hid hw2
  have HRA := Lib.hid hra
  have HRB := Lib.hid hrb
  clear hra hrb hw2
  unfold maxLen at hl2 hl4
  go_enter Try.func11, Try.ntmps11
  go_wp2_with fail
  refine (rsame17 X Y Ox Oy _ _ cs _ (HA.out.keep HW.out) (HB.out.keep HW.out)).mono ?_
  rintro e w1 ⟨rfl, hb1⟩
  obtain ⟨hc1, hf1⟩ := bcell hb1
  have hB : Below w.heap.size w w1 := HW.out.trans (hb1.mono (by simp; omega))
  have hsz : w.heap.size + 1 < w1.heap.size := by have := hb1.size; simp at this; omega
  have m1 : w1.cell? ⟨w.heap.size, 4, none⟩ = some (.slice a cs.length cap) := by rw [hc1 _ _ (by simp; omega)]; simp
  have m2 : w1.cell? ⟨w.heap.size + 1, 4, none⟩ = some (.slice b cs.length cap') := by rw [hc1 _ _ (by simp)]; simp
  clear hb1 hc1 hf1
  go_wp2_with fail
  go_loopg [5] cs.length (fun g s5 wx => ∃ k : Nat, k ≤ cs.length ∧ g = cs.length - k ∧ s5 = .int .i64 k ∧ ∃ n, wx = w1.drewN n)
  case atStart => exact ⟨0, Nat.zero_le _, rfl, rfl, 0, rfl⟩
  case round =>
    obtain ⟨k, hk, rfl, rfl, nq, rfl⟩ := hrel
    by_cases hlt : k < cs.length
    · obtain ⟨c, hc⟩ : ∃ c, cs[k]? = some c := ⟨_, List.getElem?_eq_getElem hlt⟩
      obtain ⟨b1, o1, dv1, rfl, -, -, -, -, c4, e1, p1, rfl, q1, q2, q3⟩ := HRA.out k c hc
      obtain ⟨b2, o2, dv2, rfl, -, -, -, -, d4, e2, p2, rfl, q4, q5, q6⟩ := HRB.out k c hc
      replace c4 := bcellC hB c4 (by have := World.block_lt_of_cell? w _ c4; simpa using this)
      replace d4 := bcellC hB d4 (by have := World.block_lt_of_cell? w _ d4; simpa using this)
      unfold maxLen at q2 q5
      have Q3 := Lib.hid q3
      have Q6 := Lib.hid q6
      have z0 : (0 : Int) ≤ k := by omega
      have z1 : (k : Int) < (cs.length : Int) := by omega
      clear hc q3 q6
      go_wp2_with fail
      go_quiet (fail)
      go_wp2_with fail
      go_loopg [8] c.data.length (fun g s8 wx => ∃ i : Nat, i ≤ c.data.length ∧ g = c.data.length - i ∧ s8 = .int .i64 i ∧ ∃ n, wx = w1.drewN n)
      case atStart => exact ⟨0, Nat.zero_le _, rfl, rfl, _, rfl⟩
      case round =>
        obtain ⟨i, hi, rfl, rfl, n2, rfl⟩ := hrel
        by_cases hil : i < c.data.length
        · obtain ⟨x, hx⟩ : ∃ x, c.data[i]? = some x := ⟨_, List.getElem?_eq_getElem hil⟩
          obtain ⟨b3, o3, rfl, g3⟩ := Q3.out i x hx
          obtain ⟨b4, o4, rfl, g4⟩ := Q6.out i x hx
          replace g3 := bcellC hB g3 (by have := World.block_lt_of_cell? w _ g3; simpa using this)
          replace g4 := bcellC hB g4 (by have := World.block_lt_of_cell? w _ g4; simpa using this)
          have z2 : (0 : Int) ≤ i := by omega
          have z3 : (i : Int) < (c.data.length : Int) := by omega
          clear hx
          go_wp2_with fail
          go_quiet (fail)
          go_wp2_with fail
          go_roundg (c.data.length - (i + 1))
          case measure => omega
          case rel => exact ⟨i + 1, by omega, rfl, by go_num, _, rfl⟩
        · obtain rfl : i = c.data.length := by omega
          go_wp2_with fail
          go_roundg (cs.length - (k + 1))
          case measure => omega
          case rel => exact ⟨k + 1, by omega, rfl, by go_num, _, rfl⟩
    · obtain rfl : k = cs.length := by omega
      go_wp2_with fail
      go_ret
      exact ⟨rfl, hB.trans (drewN_below _ _ _)⟩
end Go.Proofs.Ytblcplfgddgkoaa
