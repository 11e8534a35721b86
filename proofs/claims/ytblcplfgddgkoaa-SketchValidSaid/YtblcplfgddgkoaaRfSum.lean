/- The document's chapter 21: Sum, of samples that are not negative. -/
import Derived.Test.YtblcplfgddgkoaaSkSum
namespace Go.Proofs.Ytblcplfgddgkoaa
open Go.RowKit

set_option maxHeartbeats 1000000 in
theorem rsum_any (X Y Ox Oy : Int) (v : Value) (cs : List CompD) (w : World) (hv : CompsRd w v cs) (hnn : ∀ (k : Nat) c, cs[k]? = some c → ∀ (i : Nat) x, c.data[i]? = some x → 0 ≤ x) :
    Calls Try.prog 13 #[.agg #[.int .i64 X, .int .i64 Y, .int .i64 Ox, .int .i64 Oy, v]] w fun e w' => e = .returned (.int .i64 (sumD 7 cs)) ∧ Below w.heap.size w w' := by
  obtain ⟨a, cap, rfl, hl1, hl2, hrd⟩ := hv
  unfold maxLen at hl2
  have hNN := Lib.hid hnn
  clear hnn
  go_enter Try.func13, Try.ntmps13
  go_wp2
  go_loopg [3, 4] cs.length (fun g s3 s4 wx => ∃ k : Nat, k ≤ cs.length ∧ g = cs.length - k ∧ s4 = .int .i64 k ∧ s3 = .int .i64 (sumD 7 (cs.take k)) ∧ wx.cell? ⟨w.heap.size, 4, none⟩ = some (.slice a cs.length cap) ∧ Below w.heap.size w wx)
  case atStart => exact ⟨0, Nat.zero_le _, rfl, rfl, rfl, by simp, (Below.refl _ _).alloc (Nat.le_refl _) _⟩
  case round =>
    obtain ⟨wa, rfl⟩ : ∃ wa : World, wa = wr := ⟨_, rfl⟩
    obtain ⟨k, hk, rfl, rfl, rfl, hm4, hb⟩ := hrel
    by_cases hlt : k < cs.length
    · obtain ⟨c, hc⟩ : ∃ c, cs[k]? = some c := ⟨_, List.getElem?_eq_getElem hlt⟩
      obtain ⟨b, o, dv, rfl, c0, c1, c2, c3, c4, a', cap', rfl, hd1, hd2, hd3⟩ := hrd k c hc
      have d4 := (hb.cell (World.block_lt_of_cell? w _ c4)).trans c4
      unfold maxLen at hd2
      have hS := Lib.hid hc
      clear hrd hc c0 c1 c2 c3 c4
      obtain ⟨n1, n2⟩ := sumD_bd 7 (cs.take k) (by omega) (by omega)
      go_wp2_with fail
      go_loopg [3, 5] c.data.length (fun g s3 s5 wx => ∃ i : Nat, i ≤ c.data.length ∧ g = c.data.length - i ∧ s5 = .int .i64 i ∧ s3 = .int .i64 (sumRow (sumD 7 (cs.take k)) (c.data.take i)) ∧ wa = wx)
      case atStart => exact ⟨0, Nat.zero_le _, rfl, rfl, rfl, rfl⟩
      case round =>
        obtain ⟨i, hi, rfl, rfl, rfl, rfl⟩ := hrel
        obtain ⟨r1, r2⟩ := sumRow_bd (sumD 7 (cs.take k)) (c.data.take i) n1 n2
        by_cases hil : i < c.data.length
        · obtain ⟨x, hx⟩ : ∃ x, c.data[i]? = some x := ⟨_, List.getElem?_eq_getElem hil⟩
          obtain ⟨b', o', rfl, e0⟩ := hd3 i x hx
          have e1 := (hb.cell (World.block_lt_of_cell? w _ e0)).trans e0
          have hx0 := hNN.out k c hS.out i x hx
          have hX := Lib.hid hx
          clear hd3 e0 hx
          go_wp2_with fail
          go_roundg (c.data.length - (i + 1))
          case measure => omega
          case rel =>
            refine ⟨i + 1, hil, rfl, by go_num, ?_, rfl⟩
            rw [sumRow_take _ _ _ _ hX.out]
            congr 1
            omega
        · obtain rfl : i = c.data.length := by omega
          clear hd3
          go_wp2_with fail
          go_roundg (cs.length - (k + 1))
          case measure => omega
          case rel => exact ⟨k + 1, by omega, rfl, by go_num, by rw [sumD_take _ _ _ _ hS.out, List.take_length], hm4, hb⟩
    · obtain rfl : k = cs.length := by omega
      clear hrd
      go_wp2_with fail
      go_ret
      exact ⟨by rw [List.take_length]; rfl, hb⟩
end Go.Proofs.Ytblcplfgddgkoaa
