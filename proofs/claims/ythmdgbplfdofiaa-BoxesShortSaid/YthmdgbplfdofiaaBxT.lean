/- The walk of the law BoxesShort. -/
import Derived.Test.YthmdgbplfdofiaaBxS
namespace Go.Proofs.Ythmdgbplfdofiaa
open Go.RowKit

def okErr (N head len : Nat) (er : Int) : Prop := (N < head → er = 15) ∧ (head + len < N → er = 8) ∧ (N = head + len → er = 0)

theorem read_law (v : Value) (l : List UInt8) (w : World) (hv : BV w v l) (hl : l.length ≤ 1000000) (h0 : 0 < l.length) (N head len : Nat)
    (h1 : N < head → OneErr l 15) (h2 : head + len < N → OneErr l 8) (h3 : N = head + len → ∃ b, OneOk l b []) :
    Calls Try.prog 8 #[v] w fun e w' => ∃ v' er, e = .returned (.tuple #[v', .int .i64 er]) ∧ okErr N head len er ∧ Below w.heap.size w w' := by
  by_cases c1 : N < head
  · exact (read_first_err v l w hv hl h0 15 (h1 c1) (by decide)).mono fun e w' ⟨v', h, hb⟩ => ⟨v', 15, h, ⟨fun _ => rfl, fun _ => by omega, fun _ => by omega⟩, hb⟩
  by_cases c2 : head + len < N
  · exact (read_first_err v l w hv hl h0 8 (h2 c2) (by decide)).mono fun e w' ⟨v', h, hb⟩ => ⟨v', 8, h, ⟨fun _ => by omega, fun _ => rfl, fun _ => by omega⟩, hb⟩
  by_cases c3 : N = head + len
  · obtain ⟨b, hb⟩ := h3 c3
    exact (read_one v l b w hv hl h0 hb).mono fun e w' ⟨v', h, hb⟩ => ⟨v', 0, h, ⟨fun _ => by omega, fun _ => by omega, fun _ => rfl⟩, hb⟩
  · exact (read_total v l w hv hl).mono fun e w' ⟨v', er, h, hb⟩ => ⟨v', er, h, ⟨fun _ => by omega, fun _ => by omega, fun _ => by omega⟩, hb⟩

theorem rput_nil (k : Nat) (n : Int) (w : World) (h1 : 1 ≤ k) (h8 : k ≤ 8) :
    Calls Try.prog 10 #[.slice none 0 0, .int .i64 k, .int .i64 n] w fun e w' => ∃ v', e = .returned v' ∧ w'.ownsRow w.heap.size 5 1 v' k (cellsB (putB k n)) ∧ Below w.heap.size w w' := by
  refine (rput_own (.slice none 0 0) [] k n w ⟨rfl, .inl ⟨rfl, rfl⟩⟩ (Nat.le_refl _) h1 h8 (by simp)).mono ?_
  rintro e w' ⟨v', h1, h2, h3⟩
  exact ⟨v', h1, by simpa using h2, h3⟩

theorem BV.reads {w : World} {A : Option Addr} {c : Nat} {d : List UInt8} (h : BV w (.slice A d.length c) d) : Reads w w.heap.size 1 A d.length (cellsB d) := by
  obtain ⟨A', c', e', g1, g2, g3⟩ := h
  injection e' with e1 e2 e3
  subst e1 e3
  exact g3

theorem abcd_cells : Lib.strCells ⟨#[97, 98, 99, 100]⟩ = cellsB abcd := rfl

set_option maxRecDepth 100000 in
set_option maxHeartbeats 1000000 in
theorem short_any (x : Int) (big : Bool) (v : Value) (d : List UInt8) (w : World) (hv : BV w v d) :
    Calls Try.prog 5 #[.int .i64 x, .bool big, v] w fun e w' => e = .returned (.bool true) ∧ Below w.heap.size w w' := by
  obtain ⟨i0, hi, hz0, hz1, hz2⟩ := info_parts infoU8
  have HV := Lib.hid hv
  obtain ⟨A, c, rfl, q1, q2, q3⟩ := hv
  clear q3
  unfold maxLen at q2
  by_cases hbig : 100 < d.length
  · have d1 : decide ((100 : Int) < (d.length : Int)) = true := by simp; omega
    go_enter Try.func5, Try.ntmps5
    go_wp2_with fail
    refine (known_any _).mono ?_
    rintro e w1 ⟨rfl, hb1⟩
    go_wp2_with fail
    go_ret
    exact ⟨rfl, hb1⟩
  have d1 : decide ((100 : Int) < (d.length : Int)) = false := by simp; omega
  go_enter Try.func5, Try.ntmps5
  go_wp2_with fail
  refine (known_any _).mono ?_
  rintro e w1 ⟨rfl, hb1⟩
  go_wp2_with fail
  refine (lwithin x 300 _ (by omega) (by omega)).mono ?_
  rintro e w' ⟨rfl, rfl⟩
  obtain ⟨N, hN⟩ : ∃ N : Nat, x % 300 = (N : Int) := ⟨(x % 300).toNat, by omega⟩
  have hN1 : N < 300 := by omega
  rw [hN]
  clear hN
  cases big
  case false =>
    by_cases h2 : N < 2
    · have d2 : (decide ((N : Int) = 0) || decide ((N : Int) = 1)) = true := by simp; omega
      go_wp2_with fail
      refine (rput_nil 4 N _ (by decide) (by decide)).mono ?_
      rintro e w2 ⟨v2, rfl, ho2, hb2⟩
      obtain ⟨a2, c2, rfl⟩ := owns_slice ho2
      have E0 : (N = 0) ∨ (N = 1) := by omega
      rcases E0 with rfl | rfl
      all_goals
        go_wp2_with (at_builtin; go_must (refine Lib.wpList_append_own_string _ rfl _ _ _ _ rfl w1.heap.size 5 i0 Try.underlying22 rfl hi hz0 hz1 hz2 _ _ _ rfl ho2 _ rfl (by unfold maxLen; decide) (by decide) hb2.size ?_; intro v3 w3 ho3 hg3 _; obtain ⟨a3, c3, rfl⟩ := owns_slice ho3))
        go_ret
        exact ⟨rfl, hb1.trans ((hb2.trans (below_grown hg3 hb2.size (fun j hj => (ho2.lt j hj).1))).mono hb1.size)⟩
    · have d2 : ((N : Int) == 0) = false := by simp; omega
      have d3 : ((N : Int) == 1) = false := by simp; omega
      go_wp2_with fail
      refine (rput_nil 4 N _ (by decide) (by decide)).mono ?_
      rintro e w2 ⟨v2, rfl, ho2, hb2⟩
      obtain ⟨a2, c2, rfl⟩ := owns_slice ho2
      go_wp2_with (first | (at_builtin; (refine Lib.wpList_append_own_string _ rfl (.tmp 19) _ _ _ rfl w1.heap.size 5 i0 Try.underlying22 rfl hi hz0 hz1 hz2 _ _ _ rfl ho2 _ rfl (by unfold maxLen; decide) (by decide) hb2.size ?_; intro v3 w3 ho3' hg3 _; have ho3 : w3.ownsRow w1.heap.size 5 1 v3 8 (cellsB (putB 4 N) ++ cellsB abcd) := ho3'; clear ho3'; have hb3 := hb2.trans (below_grown hg3 hb2.size (fun j hj => (ho2.lt j hj).1)); have HR := Lib.hid (BV.reads (HV.out.keep (hb1.trans (hb3.mono hb1.size)))); obtain ⟨a3, c3, rfl⟩ := owns_slice ho3; have HO3 := Lib.hid ho3; have hs3 := hb3.size)) | (at_builtin; go_must (refine wpList_append_any _ rfl (.tmp 37) (.tmp 38) 22 rfl w1.heap.size 5 i0 (.int .u8 0) 1 1 Try.underlying22 hi hz0 hz1 hz2 rfl (by decide) _ _ _ rfl HO3.out _ A d.length c (cellsB d) rfl HR.out (cellsB_one d) (by unfold maxLen; omega) (by omega) hs3 ?_; intro v4 w4 ho4 hg4 hat; obtain ⟨a4, c4, rfl⟩ := owns_slice ho4)))
      have hb4 : Below w.heap.size w w4 := (hb1.trans ((hb3.trans (below_grown hg4 hs3 (fun j hj => (HO3.out.lt j hj).1))).mono hb1.size))
      have hbv : BV w4 (.slice a4 (8 + d.length) c4) (shortL N d) := by
        have e : cellsB (putB 4 (N : Int)) ++ cellsB abcd ++ cellsB d = cellsB (shortL N d) := by simp [shortL, cellsB_append]
        rw [e] at ho4
        rw [← shortL_len N d] at ho4 ⊢
        exact BV.of_owns ho4
      clear ho4 hat hg4
      refine (read_law _ (shortL N d) _ hbv (by rw [shortL_len]; omega) (by rw [shortL_len]; omega) N 8 d.length (fun h => short_box N d (by omega) (by omega) h) (fun h => short_cut N d (by omega) (by omega) h) (fun h => ⟨_, short_ok N d (by omega) h⟩)).mono ?_
      rintro e w5 ⟨v5, er, rfl, hok, hb5⟩
      have hb6 := hb4.trans (hb5.mono hb4.size)
      by_cases c1 : N < 8
      · have k1 : decide ((N : Int) < 8) = true := by simp; omega
        have := hok.1 c1
        subst this
        go_wp2_with fail
        go_ret
        exact ⟨rfl, hb6⟩
      have k1 : decide ((N : Int) < 8) = false := by simp; omega
      by_cases c2 : 8 + d.length < N
      · have k2 : decide ((8 : Int) + (d.length : Int) < (N : Int)) = true := by simp; omega
        have := hok.2.1 c2
        subst this
        go_wp2_with fail
        go_ret
        exact ⟨rfl, hb6⟩
      have k2 : decide ((8 : Int) + (d.length : Int) < (N : Int)) = false := by simp; omega
      by_cases c3 : N = 8 + d.length
      · have k3 : ((N : Int) == (8 : Int) + (d.length : Int)) = true := by simp; omega
        have := hok.2.2 c3
        subst this
        clear c1 c2 hok
        go_wp2_with fail
        go_ret
        exact ⟨rfl, hb6⟩
      · have k3 : ((N : Int) == (8 : Int) + (d.length : Int)) = false := by simp; omega
        go_wp2_with fail
        go_ret
        exact ⟨rfl, hb6⟩
  case true =>
      go_wp2_with fail
      refine (rput_nil 4 N _ (by decide) (by decide)).mono ?_
      rintro e w2 ⟨v2, rfl, ho2, hb2⟩
      obtain ⟨a2, c2, rfl⟩ := owns_slice ho2
      go_wp2_with (at_builtin; (refine Lib.wpList_append_own_string _ rfl (.tmp 19) _ _ _ rfl w1.heap.size 5 i0 Try.underlying22 rfl hi hz0 hz1 hz2 _ _ _ rfl ho2 _ rfl (by unfold maxLen; decide) (by decide) hb2.size ?_; intro v3 w3 ho3' hg3 _; have hb3 := hb2.trans (below_grown hg3 hb2.size (fun j hj => (ho2.lt j hj).1)); obtain ⟨a3, c3, rfl⟩ := owns_slice ho3'))
      clear ho3' hg3
      refine (rput_nil 4 1 _ (by decide) (by decide)).mono ?_
      rintro e w4 ⟨v4, rfl, ho4, hb4⟩
      obtain ⟨a4, c4, rfl⟩ := owns_slice ho4
      go_wp2_with (at_builtin; (refine Lib.wpList_append_own_string _ rfl (.tmp 22) _ _ _ rfl w3.heap.size 5 i0 Try.underlying22 rfl hi hz0 hz1 hz2 _ _ _ rfl ho4 _ rfl (by unfold maxLen; decide) (by decide) hb4.size ?_; intro v5 w5 ho5' hg5 _; have hb5 := hb4.trans (below_grown hg5 hb4.size (fun j hj => (ho4.lt j hj).1)); have ho5 : w5.ownsRow w3.heap.size 5 1 v5 (putB 4 1 ++ abcd).length (cellsB (putB 4 1 ++ abcd)) := (by rw [cellsB_append]; exact ho5'); clear ho5'; obtain ⟨a5, c5, rfl⟩ := owns_slice ho5))
      refine (rput_own _ (putB 4 1 ++ abcd) 8 N _ ho5 hb5.size (by decide) (by decide) (by simp [putB_length, abcd])).mono ?_
      rintro e w6 ⟨v6, rfl, ho6', hb6⟩
      have ho6 : w6.ownsRow w3.heap.size 5 1 v6 16 (cellsB ((putB 4 1 ++ abcd) ++ putB 8 N)) := ho6'
      clear ho6'
      have hb7 := hb5.trans hb6
      have hs7 := hb7.size
      have hb8 := hb1.trans ((hb3.trans (hb7.mono hb3.size)).mono hb1.size)
      have HR := Lib.hid (BV.reads (HV.out.keep hb8))
      obtain ⟨a6, c6, rfl⟩ := owns_slice ho6
      have HO6 := Lib.hid ho6
      clear ho6
      go_wp2_with (at_builtin; go_must (refine wpList_append_any _ rfl (.tmp 37) (.tmp 38) 22 rfl w3.heap.size 5 i0 (.int .u8 0) 1 1 Try.underlying22 hi hz0 hz1 hz2 rfl (by decide) _ _ _ rfl HO6.out _ A d.length c (cellsB d) rfl HR.out (cellsB_one d) (by unfold maxLen; omega) (by omega) hs7 ?_; intro v9 w9 ho9 hg9 hat; obtain ⟨a9, c9, rfl⟩ := owns_slice ho9))
      have hb4 : Below w.heap.size w w9 := hb1.trans ((hb3.trans ((hb7.trans (below_grown hg9 hs7 (fun j hj => (HO6.out.lt j hj).1))).mono hb3.size)).mono hb1.size)
      have hbv : BV w9 (.slice a9 (16 + d.length) c9) (longL N d) := by
        have e : cellsB ((putB 4 1 ++ abcd) ++ putB 8 (N : Int)) ++ cellsB d = cellsB (longL N d) := by simp [longL, cellsB_append, put8_val N (by omega)]
        rw [e] at ho9
        rw [← longL_len N d] at ho9 ⊢
        exact BV.of_owns ho9
      clear ho9 hat hg9
      refine (read_law _ (longL N d) _ hbv (by rw [longL_len]; omega) (by rw [longL_len]; omega) N 16 d.length (fun h => long_box N d (by omega) h) (fun h => long_cut N d (by omega) (by omega) h) (fun h => ⟨_, long_ok N d (by omega) h⟩)).mono ?_
      rintro e w10 ⟨v10, er, rfl, hok, hb10⟩
      have hb6 := hb4.trans (hb10.mono hb4.size)
      by_cases c1 : N < 16
      · have k1 : decide ((N : Int) < 16) = true := by simp; omega
        have := hok.1 c1
        subst this
        go_wp2_with fail
        go_ret
        exact ⟨rfl, hb6⟩
      have k1 : decide ((N : Int) < 16) = false := by simp; omega
      by_cases c2 : 16 + d.length < N
      · have k2 : decide ((16 : Int) + (d.length : Int) < (N : Int)) = true := by simp; omega
        have := hok.2.1 c2
        subst this
        go_wp2_with fail
        go_ret
        exact ⟨rfl, hb6⟩
      have k2 : decide ((16 : Int) + (d.length : Int) < (N : Int)) = false := by simp; omega
      by_cases c3 : N = 16 + d.length
      · have k3 : ((N : Int) == (16 : Int) + (d.length : Int)) = true := by simp; omega
        have := hok.2.2 c3
        subst this
        clear c1 c2 hok
        go_wp2_with fail
        go_ret
        exact ⟨rfl, hb6⟩
      · have k3 : ((N : Int) == (16 : Int) + (d.length : Int)) = false := by simp; omega
        go_wp2_with fail
        go_ret
        exact ⟨rfl, hb6⟩
end Go.Proofs.Ythmdgbplfdofiaa
