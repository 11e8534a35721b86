/- SketchKinds: the law's walk: flat pictures are flat, checkers change from place to place, all samples lie within their depth. -/
import Derived.Test.YtblcplfgddgkoaaSkKnown
namespace Go.Proofs.Ytblcplfgddgkoaa
open Go.RowKit

theorem dataD_get (K D : Int) (W H i j : Nat) (hi : i < W) (hj : j < H) : (dataD K D 0 W H)[j * W + i]? = some (pix K D 0 i j) := by
  induction H with
  | zero => omega
  | succ H ih =>
    have e : dataD K D 0 W (H + 1) = dataD K D 0 W H ++ (List.range W).map fun (i : Nat) => pix K D 0 i H := by
      have := dataTo_row K D 0 W H
      rw [← this, dataTo]
    have hl : (dataD K D 0 W H).length = W * H := by have := dataTo_length K D 0 W H 0; rw [dataTo_zero] at this; simpa using this
    rw [e]
    by_cases hjH : j < H
    · rw [List.getElem?_append_left, ih hjH]
      rw [hl, Nat.mul_comm W H]
      have : (j + 1) * W ≤ H * W := Nat.mul_le_mul_right W hjH
      rw [Nat.succ_mul] at this
      omega
    · obtain rfl : j = H := by omega
      rw [List.getElem?_append_right (by rw [hl, Nat.mul_comm]; omega), hl]
      rw [show j * W + i - W * j = i by rw [Nat.mul_comm]; omega]
      simp [hi]

theorem pix_bd (K D c i j : Int) (h7 : 1 ≤ D) (h8 : D ≤ 16) : 0 ≤ pix K D c i j ∧ pix K D c i j ≤ 2 ^ D.toNat - 1 := by
  obtain ⟨p1, p2⟩ := pow_bd D h7 h8
  have a := Int.emod_nonneg (sampleD K D c i j) (b := 2 ^ D.toNat) (by omega)
  have b := Int.emod_lt_of_pos (sampleD K D c i j) (b := 2 ^ D.toNat) (by omega)
  unfold pix
  omega

theorem pix_zero (D i j : Int) : pix 0 D 0 i j = 7 % 2 ^ D.toNat := by simp [pix, sampleD]
theorem pix_one (D i j : Int) : pix 1 D 0 i j = (i + 2 * j) % 2 ^ D.toNat := by simp [pix, sampleD]
theorem pix_two (D i j : Int) (h7 : 1 ≤ D) (h8 : D ≤ 16) : pix 2 D 0 i j = (i + j) % 2 * (2 ^ D.toNat - 1) := by
  obtain ⟨p1, p2⟩ := pow_bd D h7 h8
  have e : sampleD 2 D 0 i j = (2 ^ D.toNat - 1) * ((i + j) % 2) := by simp [sampleD]
  have h : (i + j) % 2 = 0 ∨ (i + j) % 2 = 1 := by omega
  unfold pix
  rw [e]
  rcases h with h | h <;> rw [h]
  · simp
  · rw [Int.mul_one, Int.one_mul]
    exact Int.emod_eq_of_lt (by omega) (by omega)

set_option maxRecDepth 100000 in
set_option maxHeartbeats 4000000 in
theorem kinds_walk (x y depth kind : Int) (w : World) :
    Calls Try.prog 6 #[.int .i64 x, .int .i64 y, .int .i64 depth, .int .i64 kind] w fun e w' => e = .returned (.bool true) ∧ Below w.heap.size w w' := by
  go_enter Try.func6, Try.ntmps6
  go_upto_region 3 with (go_at_call 8; refine (known_any _).mono ?_; rintro e w1 ⟨rfl, hb1⟩)
  go_cut [0, 1, 2, 3] (fun s0 s1 s2 s3 wx => ∃ (X Y : Nat) (D K : Int), s0 = .int .i64 X ∧ s1 = .int .i64 Y ∧ s2 = .int .i64 D ∧ s3 = .int .i64 K ∧ 1 ≤ X ∧ X ≤ 20 ∧ 1 ≤ Y ∧ Y ≤ 20 ∧ 1 ≤ D ∧ D ≤ 16 ∧ 0 ≤ K ∧ K ≤ 4 ∧ w1 = wx)
  case first =>
    go_wp2_with (go_at_call 14; refine (lwithin _ _ _ (by omega) (by omega)).mono ?_; rintro e w2 ⟨rfl, rfl⟩)
    go_meet
    refine ⟨(1 + x % 20).toNat, (1 + y % 20).toNat, 1 + depth % 16, kind % 5, ?_, ?_, rfl, rfl, by omega, by omega, by omega, by omega, by omega, by omega, by omega, by omega, rfl⟩
    · rw [Int.toNat_of_nonneg (by omega)]
    · rw [Int.toNat_of_nonneg (by omega)]
  obtain ⟨X, Y, D, K, rfl, rfl, rfl, rfl, x1, x2, y1, y2, d1, d2, k1, k2, rfl⟩ := hcut
  go_wp2_with fail
  refine (draw_ok X Y 0 0 1 D K w1 (by omega) (by omega) (by omega) (by omega) (by omega) (by omega) (by omega) (by omega) (by omega) (by omega) (by omega) (by omega)).mono ?_
  rintro e w2 ⟨v, rfl, ho, hb2⟩
  have hcs : drawCs X Y 0 0 D K (Int.toNat 1) = [{ depth := D, signed := false, dx := 1, dy := 1, data := dataD K D 0 X Y }] := by
    simp [drawCs, drawC, stepOf, wid, byI]
  have hlen : (dataD K D 0 X Y).length = X * Y := by have := dataTo_length K D 0 X Y 0; rw [dataTo_zero] at this; simpa using this
  rw [hcs] at ho
  obtain ⟨a, cap, rfl, hl1, hl2, hrd⟩ := CompsRd.of_owns ho
  obtain ⟨b, o, dv, rfl, c0, c1, c2, c3, c4, a', cap', rfl, hd1, hd2, hd3⟩ := hrd 0 _ rfl
  simp only [Nat.zero_mul, Nat.add_zero] at c0 c1 c2 c3 c4
  have hXY : X * Y ≤ 400 := Nat.mul_le_mul x2 y2
  have hX1 : 1 ≤ X * Y := Nat.mul_le_mul x1 y1
  obtain ⟨b', o', rfl, e0⟩ := hd3 0 _ (by have := dataD_get K D X Y 0 0 x1 y1; simpa using this)
  have hcell : ∀ i j : Nat, i < X → j < Y → w2.cell? ⟨b', o' + (j * X + i), none⟩ = some (.int .i64 (pix K D 0 i j)) := fun i j hi hj => by
    obtain ⟨b2, o2, e2, e3⟩ := hd3 _ _ (dataD_get K D X Y i j hi hj)
    simp only [Option.some.injEq, Addr.mk.injEq, and_true] at e2
    obtain ⟨rfl, rfl⟩ := e2
    exact e3
  simp only [hlen] at *
  have q2 := World.block_lt_of_cell? w2 _ c4
  have q3 := World.block_lt_of_cell? w2 _ e0
  simp only at q2 q3
  have HC := Lib.hid hcell
  have hs1 := hb1.size
  have hs2 := hb2.size
  obtain ⟨p1, p2⟩ := pow_bd D d1 d2
  clear hcell hd3 hrd ho hcs hlen c0 c1 c2 c3 e0
  have HB := hb1.trans (hb2.mono hs1)
  have HB2 : Below w.heap.size w (w2.alloc (.cells #[.int .i64 X, .int .i64 Y, .int .i64 0, .int .i64 0, .slice (some ⟨b, o, none⟩) 1 cap] 25)) := HB.alloc (by omega) _
  go_wp2_with fail
  go_loopg [12] Y (fun g s12 wx => ∃ j : Nat, j ≤ Y ∧ g = Y - j ∧ s12 = .int .i64 j ∧ wx.cell? ⟨w2.heap.size, 4, none⟩ = some (.slice (some ⟨b, o, none⟩) 1 cap) ∧ wx.cell? ⟨b, o + 4, none⟩ = some (.slice (some ⟨b', o', none⟩) (X * Y) cap') ∧
    (∀ i j : Nat, i < X → j < Y → wx.cell? ⟨b', o' + (j * X + i), none⟩ = some (.int .i64 (pix K D 0 i j))) ∧ Below w.heap.size w wx)
  case atStart =>
    refine ⟨0, Nat.zero_le _, rfl, rfl, by simp, ?_, ?_, HB2⟩
    · rw [World.cell?_alloc_lt _ _ _ q2]; exact c4
    · intro i j hi hj; rw [World.cell?_alloc_lt _ _ _ q3]; exact HC.out i j hi hj
  case round =>
    obtain ⟨wa, rfl⟩ : ∃ wa : World, wa = wr := ⟨_, rfl⟩
    obtain ⟨j, hj, rfl, rfl, m1, m2, m3, m4⟩ := hrel
    clear HB2 HB HC c4
    by_cases hjl : j < Y
    · go_wp2_with fail
      go_loopg [13] X (fun g s13 wx => ∃ i : Nat, i ≤ X ∧ g = X - i ∧ s13 = .int .i64 i ∧ wa = wx)
      case atStart => exact ⟨0, Nat.zero_le _, rfl, rfl, rfl⟩
      case round =>
        obtain ⟨i, hi, rfl, rfl, rfl⟩ := hrel
        by_cases hil : i < X
        · have m5 := m3 i j hil hjl
          clear m3
          have hb : j * X + i < X * Y := by
            have := Nat.mul_le_mul_right X (show j + 1 ≤ Y by omega)
            rw [Nat.succ_mul, Nat.mul_comm Y X] at this
            omega
          obtain ⟨v1, v2⟩ := pix_bd K D 0 i j d1 d2
          have hK : K = 0 ∨ K = 1 ∨ K = 2 ∨ K = 3 ∨ K = 4 := by omega
          rcases hK with rfl | rfl | rfl | rfl | rfl
          · rw [pix_zero] at m5 v1 v2
            go_wp2_with fail
            go_roundg (X - (i + 1))
            case measure => omega
            case rel => exact ⟨i + 1, by omega, rfl, by go_num, rfl⟩
          · rw [pix_one] at m5 v1 v2
            go_wp2_with fail
            go_roundg (X - (i + 1))
            case measure => omega
            case rel => exact ⟨i + 1, by omega, rfl, by go_num, rfl⟩
          · rw [pix_two _ _ _ d1 d2] at m5 v1 v2
            go_wp2_with fail
            go_roundg (X - (i + 1))
            case measure => omega
            case rel => exact ⟨i + 1, by omega, rfl, by go_num, rfl⟩
          · go_wp2_with fail
            go_roundg (X - (i + 1))
            case measure => omega
            case rel => exact ⟨i + 1, by omega, rfl, by go_num, rfl⟩
          · go_wp2_with fail
            go_roundg (X - (i + 1))
            case measure => omega
            case rel => exact ⟨i + 1, by omega, rfl, by go_num, rfl⟩
        · have M := Lib.hid m3
          clear m3
          go_wp2_with fail
          go_roundg (Y - (j + 1))
          case measure => omega
          case rel => exact ⟨j + 1, by omega, rfl, by go_num, m1, m2, M.out, m4⟩
    · clear m3
      go_wp2_with fail
      go_ret
      exact ⟨rfl, m4⟩
end Go.Proofs.Ytblcplfgddgkoaa
