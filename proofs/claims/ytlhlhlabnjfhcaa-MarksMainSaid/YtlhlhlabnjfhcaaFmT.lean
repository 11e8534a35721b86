/- The document's Tiles: how many. -/
import Derived.Test.YtlhlhlabnjfhcaaFmA
namespace Go.Proofs.Ytlhlhlabnjfhcaa
open Go.RowKit

theorem Try.infoRect : (Try.prog.info? 98).map (fun i => (i.zero, i.size, i.bytes)) = some (some (.agg #[.int .i64 0, .int .i64 0, .int .i64 0, .int .i64 0]), 4, 32) := by kernel_rfl

theorem prod_bd (i n : Nat) (T : Int) (hi : i ≤ n) (hn : n ≤ 64) (h1 : 1 ≤ T) (h2 : T ≤ 65536) : 0 ≤ (i : Int) * T ∧ (i : Int) * T ≤ 4194304 := by
  constructor
  · exact Int.mul_nonneg (by omega) (by omega)
  · have : (i : Int) * T ≤ 64 * 65536 := Int.mul_le_mul (by omega) h2 (by omega) (by omega)
    omega

set_option maxRecDepth 100000 in
set_option maxHeartbeats 4000000 in
theorem rtiles_any (X Y Ox Oy : Int) (v : Value) (p : ParD) (w : World)
    (x0 : 0 ≤ X) (x1 : X ≤ 64) (y0 : 0 ≤ Y) (y1 : Y ≤ 64) (h1 : 1 ≤ p.tx) (h2 : p.tx ≤ 65536) (h3 : 1 ≤ p.ty) (h4 : p.ty ≤ 65536) :
    Calls Try.prog 57 #[.agg #[.int .i64 X, .int .i64 Y, .int .i64 Ox, .int .i64 Oy, v], parV p] w fun e w' =>
      ∃ a n c, e = .returned (.slice a n c) ∧ (n : Int) = ceilI X p.tx * ceilI Y p.ty ∧ n ≤ 4096 ∧ Below w.heap.size w w' := by
  obtain ⟨Tx, Ty, Levels, Cbw, Cbh, Prec, Style, Order, Layers, Rct, Sop, Eph⟩ := p
  simp only at h1 h2 h3 h4 ⊢
  obtain ⟨cx0, cx1⟩ := ceilI_bd X Tx x0 (by omega)
  obtain ⟨cy0, cy1⟩ := ceilI_bd Y Ty y0 (by omega)
  have c1 : ∀ w, Calls Try.prog 66 #[.int .i64 X, .int .i64 Tx] w fun e w' => e = .returned (.int .i64 (ceilI X Tx)) ∧ w = w' := fun w => ceil_pos X Tx w x0 (by omega) (by omega) (by omega)
  have c2 : ∀ w, Calls Try.prog 66 #[.int .i64 Y, .int .i64 Ty] w fun e w' => e = .returned (.int .i64 (ceilI Y Ty)) ∧ w = w' := fun w => ceil_pos Y Ty w y0 (by omega) (by omega) (by omega)
  obtain ⟨p, hp⟩ := Int.eq_ofNat_of_zero_le cx0
  obtain ⟨q, hq⟩ := Int.eq_ofNat_of_zero_le cy0
  rw [hp] at c1
  rw [hq] at c2
  rw [hp, hq]
  have hp64 : p ≤ 64 := by omega
  have hq64 : q ≤ 64 := by omega
  have C1 := Lib.hid c1
  have C2 := Lib.hid c2
  clear c1 c2 hp hq cx0 cx1 cy0 cy1
  obtain ⟨i0, hi, hz0, hz1, hz2⟩ := info_parts Try.infoRect
  unfold parV
  simp only
  go_enter Try.func57, Try.ntmps57
  go_wp2_with fail
  go_loopg [5, 6] q (fun g s5 s6 wx => ∃ j : Nat, j ≤ q ∧ g = q - j ∧ s6 = .int .i64 j ∧ (∃ xs, wx.ownsRow (w.heap.size + 2) 98 4 s5 (p * j) xs) ∧
    Below (w.heap.size + 2) ((w.alloc (.cells #[.int .i64 X, .int .i64 Y, .int .i64 Ox, .int .i64 Oy, v] 29)).alloc (.cells #[.int .i64 Tx, .int .i64 Ty, .int .i64 Levels, .int .i64 Cbw, .int .i64 Cbh, .int .i64 Prec, .int .i64 Style, .int .i64 Order, .int .i64 Layers, .bool Rct, .bool Sop, .bool Eph] 31)) wx)
  case atStart => exact ⟨0, Nat.zero_le _, rfl, rfl, ⟨[], World.ownsRow_nil _ _ _ _⟩, Below.refl _ _⟩
  case round =>
    obtain ⟨wa, rfl⟩ : ∃ wa : World, wa = wr := ⟨_, rfl⟩
    obtain ⟨j, hj, rfl, rfl, ⟨xs, ho⟩, hb⟩ := hrel
    obtain ⟨a2, n2, rfl⟩ := owns_slice ho
    have hB : Below w.heap.size w wa := (((Below.refl _ _).alloc (Nat.le_refl _) _).alloc (by simp) _).trans (hb.mono (by omega))
    have hsz := hb.size
    simp at hsz
    have m0 := bcellC hb (a := ⟨w.heap.size, 0, none⟩) (u := .int .i64 X) (by simp) (by simp)
    have m1 := bcellC hb (a := ⟨w.heap.size, 1, none⟩) (u := .int .i64 Y) (by simp) (by simp)
    have m2 := bcellC hb (a := ⟨w.heap.size, 2, none⟩) (u := .int .i64 Ox) (by simp) (by simp)
    have m3 := bcellC hb (a := ⟨w.heap.size, 3, none⟩) (u := .int .i64 Oy) (by simp) (by simp)
    have q0 := bcellC hb (a := ⟨w.heap.size + 1, 0, none⟩) (u := .int .i64 Tx) (by simp) (by simp)
    have q1 := bcellC hb (a := ⟨w.heap.size + 1, 1, none⟩) (u := .int .i64 Ty) (by simp) (by simp)
    have M := Lib.hid (And.intro m0 (And.intro m1 (And.intro m2 (And.intro m3 (And.intro q0 q1)))))
    by_cases hlt : j < q
    · have d1 : decide ((j : Int) < (q : Int)) = true := by simp; omega
      have HB := Lib.hid hb
      clear hb
      go_wp2_with (go_at_call 66; refine (C2.out _).mono ?_; rintro e w' ⟨rfl, rfl⟩)
      go_loopg [5, 7] p (fun g s5 s7 wx => ∃ i : Nat, i ≤ p ∧ g = p - i ∧ s7 = .int .i64 i ∧ (∃ xs, wx.ownsRow (w.heap.size + 2) 98 4 s5 (p * j + i) xs) ∧ Below (w.heap.size + 2) wa wx)
      case atStart => exact ⟨0, Nat.zero_le _, rfl, rfl, ⟨xs, ho⟩, Below.refl _ _⟩
      case round =>
        obtain ⟨wb, rfl⟩ : ∃ wb : World, wb = wr := ⟨_, rfl⟩
        obtain ⟨i, hi2, rfl, rfl, ⟨ys, ho2⟩, hb2⟩ := hrel
        obtain ⟨a3, n3, rfl⟩ := owns_slice ho2
        clear m0 m1 m2 m3 q0 q1
        have hsz2 := hb2.size
        have m0 := bcellC hb2 M.out.1 (by simp)
        have m1 := bcellC hb2 M.out.2.1 (by simp)
        have m2 := bcellC hb2 M.out.2.2.1 (by simp)
        have m3 := bcellC hb2 M.out.2.2.2.1 (by simp)
        have q0 := bcellC hb2 M.out.2.2.2.2.1 (by simp)
        have q1 := bcellC hb2 M.out.2.2.2.2.2 (by simp)
        by_cases hlt2 : i < p
        · have d2 : decide ((i : Int) < (p : Int)) = true := by simp; omega
          have hle : p * j + i ≤ 64 * 64 + 64 := Nat.add_le_add (Nat.mul_le_mul hp64 (by omega)) (by omega)
          obtain ⟨u1, u2⟩ := prod_bd i p Tx (by omega) hp64 h1 h2
          obtain ⟨u3, u4⟩ := prod_bd j q Ty (by omega) hq64 h3 h4
          obtain ⟨u5, u6⟩ := prod_bd (i + 1) p Tx (by omega) hp64 h1 h2
          obtain ⟨u7, u8⟩ := prod_bd (j + 1) q Ty (by omega) hq64 h3 h4
          rw [Int.natCast_add, Int.natCast_one] at u5 u6 u7 u8
          go_wp2_with (first | (go_at_call 66; refine (C1.out _).mono ?_; rintro e w' ⟨rfl, rfl⟩) | (at_builtin; go_must (refine wpList_append_own _ rfl _ _ 94 rfl (w.heap.size + 2) 98 i0 (.agg #[.int .i64 0, .int .i64 0, .int .i64 0, .int .i64 0]) 4 32 Try.underlying94 hi hz0 hz1 hz2 rfl (by decide) _ _ _ rfl (ho2.alloc _) ⟨wb.heap.size, 0, none⟩ 1 1 _ rfl rfl (news_block _ _ _) (by simp [Value.oneCell']) (by unfold maxLen; omega) (by omega) (by simp; omega) ?_; intro v' w7 hown7 hg7 hn7; obtain ⟨a7, p7, rfl⟩ := owns_slice hown7)))
          all_goals
            go_roundg (p - (i + 1))
            case measure => omega
            case rel => exact ⟨i + 1, hlt2, rfl, by go_num, ⟨_, hown7⟩, (hb2.alloc (by omega) _).trans (below_grown hg7 (by simp; omega) (fun j hj => (ho2.lt j hj).1))⟩
        · obtain rfl : i = p := by omega
          have d2 : decide ((i : Int) < (i : Int)) = false := by simp
          go_wp2_with (first | (go_at_call 66; refine (C1.out _).mono ?_; rintro e w' ⟨rfl, rfl⟩))
          go_roundg (q - (j + 1))
          case measure => omega
          case rel => exact ⟨j + 1, hlt, rfl, by go_num, ⟨ys, ho2⟩, HB.out.trans hb2⟩
    · obtain rfl : j = q := by omega
      have d1 : decide ((j : Int) < (j : Int)) = false := by simp
      go_wp2_with (go_at_call 66; refine (C2.out _).mono ?_; rintro e w' ⟨rfl, rfl⟩)
      go_ret
      exact ⟨_, _, _, rfl, by simp, by have := Nat.mul_le_mul hp64 hq64; omega, hB⟩

theorem ltiles_any (m : ImgD) (v : Value) (hv : ∃ a n c, v = .slice a n c) (p : ParD) (w : World)
    (x0 : 0 ≤ m.x) (x1 : m.x ≤ 64) (y0 : 0 ≤ m.y) (y1 : m.y ≤ 64) (h1 : 1 ≤ p.tx) (h2 : p.tx ≤ 65536) (h3 : 1 ≤ p.ty) (h4 : p.ty ≤ 65536) :
    Calls Try.prog 40 #[imgV m v, parV p] w fun e w' =>
      e = .returned (.int .i64 (ceilI m.x p.tx * ceilI m.y p.ty)) ∧ Below w.heap.size w w' := by
  have T := Lib.hid (fun W => rtiles_any m.x m.y m.ox m.oy v p W x0 x1 y0 y1 h1 h2 h3 h4)
  obtain ⟨va, vn, vc, rfl⟩ := hv
  unfold imgV parV at *
  go_enter Try.func40, Try.ntmps40
  go_wp2_with fail
  refine (T.out _).mono ?_
  rintro e w1 ⟨a, n, c, rfl, hn, hl, hb⟩
  have HN := Lib.hid hn
  clear hn
  go_wp2_with fail
  go_ret
  exact ⟨congrArg (fun z => Ending.returned (.int .i64 z)) HN.out, (((Below.refl _ _).alloc (Nat.le_refl _) _).alloc (by simp) _).trans (hb.mono (by simp; omega))⟩
end Go.Proofs.Ytlhlhlabnjfhcaa
