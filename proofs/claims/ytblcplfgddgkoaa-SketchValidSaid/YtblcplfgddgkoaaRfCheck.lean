/- The document's chapter 12: Check of a picture that may be. -/
import Derived.Test.YtblcplfgddgkoaaRf12C
namespace Go.Proofs.Ytblcplfgddgkoaa
open Go.RowKit

theorem ceilI_mono (a b d : Int) (h : a ≤ b) (hd : 1 ≤ d) : ceilI a d ≤ ceilI b d := by
  unfold ceilI
  exact Int.ediv_le_ediv (by omega) (by omega)
theorem bnext {W W1 w1 : World} {B : Nat} (hb : Below W1.heap.size W1 w1) (h0 : Below B W W1) (hB : B ≤ W1.heap.size) : Below B W w1 := h0.trans (hb.mono hB)

set_option maxRecDepth 100000 in
set_option maxHeartbeats 4000000 in
theorem rcheck_ok (X Y Ox Oy : Int) (v : Value) (cs : List CompD) (Tx Ty Levels Cbw Cbh Prec Style Order Layers : Int) (Sop Eph : Bool) (w : World) (hv : CompsRd w v cs)
    (hF : ∀ a n c W, CompsRd W (.slice a n c) cs → Calls Try.prog 24 #[.agg #[.int .i64 X, .int .i64 Y, .int .i64 Ox, .int .i64 Oy, .slice a n c], parV Tx Ty Levels Cbw Cbh Prec Style Order Layers false Sop Eph] W fun e w' => e = .returned (.int .i64 0) ∧ Below W.heap.size W w')
    (x0 : Ox < X) (x1 : X ≤ 64) (y0 : Oy < Y) (y1 : Y ≤ 64) (o0 : 0 ≤ Ox) (o1 : 0 ≤ Oy) (hok : ∀ (k : Nat) c, cs[k]? = some c → CompOk c ∧ c.signed = false ∧
      (c.data.length : Int) = (ceilI X c.dx - ceilI Ox c.dx) * (ceilI Y c.dy - ceilI Oy c.dy) ∧ ∀ (i : Nat) x, c.data[i]? = some x → 0 ≤ x ∧ x ≤ 2 ^ c.depth.toNat - 1) :
    Calls Try.prog 15 #[.agg #[.int .i64 X, .int .i64 Y, .int .i64 Ox, .int .i64 Oy, v], parV Tx Ty Levels Cbw Cbh Prec Style Order Layers false Sop Eph] w fun e w' => e = .returned (.int .i64 0) ∧ Below w.heap.size w w' := by
  have HV := Lib.hid hv
  obtain ⟨a, cap, rfl, hl1, hl2, hrd⟩ := hv
  have HF := Lib.hid hF
  have HR := Lib.hid hrd
  have HO := Lib.hid hok
  unfold maxLen at hl2
  unfold parV at *
  clear hrd hok hF
  go_enter Try.func15, Try.ntmps15
  go_wp2_with fail
  refine (HF.out _ _ _ _ (HV.out.keep (((Below.refl _ _).alloc (Nat.le_refl _) _).alloc (by simp) _))).mono ?_
  rintro e w1 ⟨rfl, hb1⟩
  have m0 := bcellC hb1 (a := ⟨w.heap.size, 0, none⟩) (u := .int .i64 X) (by simp) (by simp; omega)
  have m1 := bcellC hb1 (a := ⟨w.heap.size, 1, none⟩) (u := .int .i64 Y) (by simp) (by simp; omega)
  have m2 := bcellC hb1 (a := ⟨w.heap.size, 2, none⟩) (u := .int .i64 Ox) (by simp) (by simp; omega)
  have m3 := bcellC hb1 (a := ⟨w.heap.size, 3, none⟩) (u := .int .i64 Oy) (by simp) (by simp; omega)
  have m4 := bcellC hb1 (a := ⟨w.heap.size, 4, none⟩) (u := .slice a cs.length cap) (by simp) (by simp; omega)
  have hB1 : Below w.heap.size w w1 := (((Below.refl _ _).alloc (Nat.le_refl _) _).alloc (by simp) _).trans (hb1.mono (by simp; omega))
  have s1 : w.heap.size < w1.heap.size := by have := hb1.size; simp at this; omega
  have M := Lib.hid (And.intro m0 (And.intro m1 (And.intro m2 (And.intro m3 m4))))
  clear hb1 m0 m1 m2 m3 m4
  go_wp2_with fail
  go_loopg [6] cs.length (fun g s6 wx => ∃ k : Nat, k ≤ cs.length ∧ g = cs.length - k ∧ s6 = .int .i64 k ∧ Below w1.heap.size w1 wx)
  case atStart => exact ⟨0, Nat.zero_le _, rfl, rfl, Below.refl _ _⟩
  case round =>
    obtain ⟨wa, rfl⟩ : ∃ wa : World, wa = wr := ⟨_, rfl⟩
    obtain ⟨k, hk, rfl, rfl, hb⟩ := hrel
    have hB : Below w.heap.size w wa := hB1.trans (hb.mono (by omega))
    obtain ⟨m0, m1, m2, m3, m4⟩ := M.out
    replace m0 := bcellC hb m0 s1
    replace m1 := bcellC hb m1 s1
    replace m2 := bcellC hb m2 s1
    replace m3 := bcellC hb m3 s1
    replace m4 := bcellC hb m4 s1
    have hsz := hb.size
    by_cases hlt : k < cs.length
    · obtain ⟨c, hc⟩ : ∃ c, cs[k]? = some c := ⟨_, List.getElem?_eq_getElem hlt⟩
      obtain ⟨b1, o1, dv1, rfl, c0, c1, c2, c3, c4, e1, p1, rfl, q1, q2, q3⟩ := HR.out k c hc
      obtain ⟨⟨k1, k2, k3, k4, k5, k6⟩, ksg, klen, kdat⟩ := HO.out k c hc
      have n1 := World.block_lt_of_cell? w _ c0
      simp only at n1
      rw [ksg] at c1
      replace c0 := bcellC hB c0 n1
      replace c1 := bcellC hB c1 n1
      replace c2 := bcellC hB c2 n1
      replace c3 := bcellC hB c3 n1
      replace c4 := bcellC hB c4 n1
      have Q3 := Lib.hid q3
      have KD := Lib.hid kdat
      unfold maxLen at q2
      have z0 : (0 : Int) ≤ k := by omega
      have z1 : (k : Int) < (cs.length : Int) := by omega
      obtain ⟨a1, a2⟩ := ceilI_bd X c.dx (by omega) k3
      obtain ⟨a3, a4⟩ := ceilI_bd Ox c.dx (by omega) k3
      obtain ⟨a5, a6⟩ := ceilI_bd Y c.dy (by omega) k5
      obtain ⟨a7, a8⟩ := ceilI_bd Oy c.dy (by omega) k5
      have a9 := ceilI_mono Ox X c.dx (by omega) k3
      have a10 := ceilI_mono Oy Y c.dy (by omega) k5
      have KL := Lib.hid (show ((c.data.length : Int) != (ceilI X c.dx - ceilI Ox c.dx) * (ceilI Y c.dy - ceilI Oy c.dy)) = false by simpa using klen)
      clear hc q3 kdat klen ksg
      go_upto_region 8 with fail
      go_cut [40] (fun s40 wx => s40 = .bool false ∧ wx.cell? ⟨wa.heap.size, 0, none⟩ = some (.int .i64 c.depth) ∧ wx.cell? ⟨wa.heap.size, 1, none⟩ = some (.bool false) ∧ wx.cell? ⟨wa.heap.size, 4, none⟩ = some (.slice e1 c.data.length p1) ∧ wa.heap.size < wx.heap.size ∧ Below wa.heap.size wa wx)
      case first =>
        clear c0 c1 c2 c3 c4
        have hK := ((Below.refl wa.heap.size wa).alloc (Nat.le_refl _) (.cells #[.int .i64 c.depth, .bool false, .int .i64 c.dx, .int .i64 c.dy, .slice e1 c.data.length p1] 41))
        generalize hq : wa.alloc (.cells #[.int .i64 c.depth, .bool false, .int .i64 c.dx, .int .i64 c.dy, .slice e1 c.data.length p1] 41) = wq at *
        have z2 : wq.cell? ⟨wa.heap.size, 2, none⟩ = some (.int .i64 c.dx) := by rw [← hq]; simp
        have z3 : wq.cell? ⟨wa.heap.size, 3, none⟩ = some (.int .i64 c.dy) := by rw [← hq]; simp
        have z4 : wq.cell? ⟨wa.heap.size, 4, none⟩ = some (.slice e1 c.data.length p1) := by rw [← hq]; simp
        have z5 : wq.cell? ⟨wa.heap.size, 0, none⟩ = some (.int .i64 c.depth) := by rw [← hq]; simp
        have z6 : wq.cell? ⟨wa.heap.size, 1, none⟩ = some (.bool false) := by rw [← hq]; simp
        have sq : wa.heap.size < wq.heap.size := by rw [← hq]; simp
        have sw : w.heap.size < wq.heap.size := by omega
        replace m0 := bcellC hK m0 (by simp; omega)
        replace m1 := bcellC hK m1 (by simp; omega)
        replace m2 := bcellC hK m2 (by simp; omega)
        replace m3 := bcellC hK m3 (by simp; omega)
        replace m4 := bcellC hK m4 (by simp; omega)
        have HK := Lib.hid hK
        have Z := Lib.hid (And.intro z5 z6)
        clear hq hK z5 z6
        go_region_held3 (fun w' => w'.cell? ⟨w.heap.size, 0, none⟩ = some (.int .i64 X) ∧ w'.cell? ⟨w.heap.size, 1, none⟩ = some (.int .i64 Y) ∧ w'.cell? ⟨w.heap.size, 2, none⟩ = some (.int .i64 Ox) ∧ w'.cell? ⟨w.heap.size, 3, none⟩ = some (.int .i64 Oy) ∧ w'.cell? ⟨w.heap.size, 4, none⟩ = some (.slice (some ⟨b1, o1, none⟩) cs.length cap) ∧
            w'.cell? ⟨wa.heap.size, 2, none⟩ = some (.int .i64 c.dx) ∧ w'.cell? ⟨wa.heap.size, 3, none⟩ = some (.int .i64 c.dy) ∧ w'.cell? ⟨wa.heap.size, 4, none⟩ = some (.slice e1 c.data.length p1))
          (first | exact ⟨m0, m1, m2, m3, m4, z2, z3, z4⟩ | (refine (fun HB : Below wq.heap.size wq _ => ⟨bcellC HB m0 sw, bcellC HB m1 sw, bcellC HB m2 sw, bcellC HB m3 sw, bcellC HB m4 sw, bcellC HB z2 sq, bcellC HB z3 sq, bcellC HB z4 sq⟩) ?_; repeat (first | exact HB7 | exact HB6 | exact HB5 | exact Below.refl _ _ | refine Below.drew ?_)))
          (first
            | (go_at_call 20; refine (whole_any _ _ _ _ _ _).mono ?_; rintro e w5 ⟨rfl, hb5⟩; have HB5 : Below wq.heap.size wq w5 := bnext hb5 (by repeat (first | exact Below.refl _ _ | refine Below.drew ?_)) (by first | omega | (simp; done) | (simp; omega)))
            | (go_at_call 19; refine (part_any _ _ _ _ _ _ _ (by omega) (by omega) (by omega) (by omega) (by omega) (by omega) (by omega) (by omega) (by omega) (by omega) (by omega) (by omega)).mono ?_; rintro e w6 ⟨rfl, hb6⟩; simp only [overV]; have HB6 : Below wq.heap.size wq w6 := bnext hb6 HB5 HB5.size)
            | (go_at_call 25; refine (rarea_any _ _ _ _ _ (by omega) (by omega) (by omega) (by omega) (by omega) (by omega) (by omega) (by omega)).mono ?_; rintro e w7 ⟨rfl, hb7⟩; have HB7 : Below wq.heap.size wq w7 := bnext hb7 HB6 HB6.size; have KL1 := KL.out))
        all_goals
          go_wp2_with fail
          go_meet
          exact ⟨rfl, bcellC HB7 Z.out.1 sq, bcellC HB7 Z.out.2 sq, bcellC HB7 z4 sq, by have := HB7.size; omega, HK.out.trans (HB7.mono (by omega))⟩
      obtain ⟨rfl, r0, r1, r4, hs2, hb2⟩ := hcut
      obtain ⟨wz, rfl⟩ : ∃ wz : World, wz = wc := ⟨_, rfl⟩
      clear c0 c1 c2 c3 c4 m0 m1 m2 m3 m4
      have hBz : Below w.heap.size w wz := hB.trans (hb2.mono (by omega))
      have hbz : Below w1.heap.size w1 wz := hb.trans (hb2.mono hsz)
      clear hB hb hb2
      go_wp2_with fail
      refine (rbounds_any c.depth _ k1 k2).mono ?_
      rintro e w2 ⟨rfl, rfl⟩
      go_wp2_with fail
      go_loopg [10] c.data.length (fun g s10 wx => ∃ i : Nat, i ≤ c.data.length ∧ g = c.data.length - i ∧ s10 = .int .i64 i ∧ wz = wx)
      case atStart => exact ⟨0, Nat.zero_le _, rfl, rfl, rfl⟩
      case round =>
        obtain ⟨i, hi, rfl, rfl, rfl⟩ := hrel
        by_cases hil : i < c.data.length
        · obtain ⟨x, hx⟩ : ∃ x, c.data[i]? = some x := ⟨_, List.getElem?_eq_getElem hil⟩
          obtain ⟨b3, o3, rfl, g3⟩ := Q3.out i x hx
          obtain ⟨x0, x1⟩ := KD.out i x hx
          replace g3 := bcellC hBz g3 (by have := World.block_lt_of_cell? w _ g3; simpa using this)
          have d1 : decide (x < 0) = false := by simp; omega
          have d2 : decide (2 ^ c.depth.toNat - 1 < x) = false := by simp; omega
          clear hx x0 x1
          go_wp2_with fail
          go_roundg (c.data.length - (i + 1))
          case measure => omega
          case rel => exact ⟨i + 1, by omega, rfl, by go_num, rfl⟩
        · obtain rfl : i = c.data.length := by omega
          go_wp2_with fail
          go_roundg (cs.length - (k + 1))
          case measure => omega
          case rel => exact ⟨k + 1, by omega, rfl, by go_num, hbz⟩
    · obtain rfl : k = cs.length := by omega
      go_wp2_with fail
      go_ret
      exact ⟨rfl, hB⟩
end Go.Proofs.Ytblcplfgddgkoaa
