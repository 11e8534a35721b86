/- waveletref8: a place's bit of a plane; a place is tried. waveletref6: the n-th place of a scan. -/
import Derived.Test.YtnpoakabheeoeaaQm
import Derived.Test.YtnpoakabheeoeaaMqk
namespace Go.Proofs.Ytnpoakabheeoeaa
open Go.RowKit

theorem mag_lt {G : GeoM} (hg : G.Ok) (i : Nat) : G.mag.getD i 0 < 1073741824 := by
  rw [List.getD_eq_getElem?_getD]
  cases h : G.mag[i]? with
  | none => simp
  | some n => exact hg.magB n (List.mem_of_getElem? h)
set_option maxRecDepth 100000 in
set_option maxHeartbeats 1000000 in
theorem cod_mag (A : CodA) (G : GeoM) (q : CS) (raw : Bool) (eg rg i plane k : Nat) (H : List HB) (w : World) (hg : G.Ok) (hc : q.c.Ok G) (h : CodR A G q raw eg rg H) (hs : Sat w H) (hq : q.s.Ok) (hz : q.s.size ≤ 80000000) (hi : i < G.w * G.h) (hp : plane ≤ 40) (hk : k < 19) :
    Calls Try.prog 87 #[.pointer (some ⟨A.cb, 0, none⟩), .int .i64 (i : Int), .int .i64 (plane : Int), .int .i64 (k : Int)] w fun e w' => e = .returned (.int .i64 ((bitOf G i plane : Nat) : Int)) ∧ ∃ H', CodR A G ⟨q.c, bitW raw q.s k (bitOf G i plane)⟩ raw eg rg H' ∧ Mv w H w' H' := by
  have V := h.see hg hc hs
  have c4 := V.m_
  unfold slV at c4
  have ci := V.mag i hi
  have mb := mag_lt hg i
  have BO : bitOf G i plane = G.mag.getD i 0 / 2 ^ plane % 2 := rfl
  obtain ⟨m, hm⟩ : ∃ m, G.mag.getD i 0 = m := ⟨_, rfl⟩
  rw [hm] at ci mb BO
  obtain ⟨b, hb⟩ : ∃ b, bitOf G i plane = b := ⟨_, rfl⟩
  have bl : b ≤ 1 := by rw [← hb]; exact bitOf_le G i plane
  rw [hb] at BO ⊢
  have BT := Lib.hid (cod_bit A G q raw eg rg k b H w h hs hq hz hk bl)
  have KQ := Lib.hid hq
  have n4 : G.w * G.h ≤ 4096 := Nat.mul_le_mul hg.w2 hg.h2
  obtain ⟨n, hn⟩ : ∃ n, G.w * G.h = n := ⟨_, rfl⟩
  rw [hn] at c4 hi n4
  have i1 : (i : Int) < (n : Int) := by omega
  have EV : bits .and .i64 ((m : Int) / 2 ^ plane) 1 = (b : Int) := by
    rw [i64_and1, BO]
    push_cast
    rfl
  clear V hm hb h hs hq hz hg hc hn BO
  go_enter Try.func87, Try.ntmps87
  go_wp2_with (go_at_call 92; refine BT.out.mono ?_; rintro e w1 ⟨rfl, H1, h1, m1⟩; have t0 := (h1.tail m1.sat (bitW_ok KQ.out hk b)).1; have K1 := Lib.hid (And.intro h1 m1); clear h1 m1)
  go_ret
  exact ⟨rfl, H1, K1.out.1, K1.out.2⟩
/-- a bit's growth -/
theorem bitW_size {raw : Bool} {s : WrM} (h : s.Ok) {k : Nat} (hk : k < 19) (b : Nat) : (bitW raw s k b).size ≤ s.size + 16 := by
  have := ((Says.one raw s (k := k) b hk).grow h).2.2
  omega
end Go.Proofs.Ytnpoakabheeoeaa
namespace Go.Proofs.Ytnpoakabheeoeaa
open Go.RowKit

theorem scan_lt2 {w h n : Nat} (hw : 1 ≤ w) (hn : n < w * h) : scanX w h n < w ∧ scanY w h n < h := by
  obtain ⟨q, hq⟩ : ∃ q, n / w = q := ⟨_, rfl⟩
  obtain ⟨s, hs⟩ : ∃ s, q / 4 = s := ⟨_, rfl⟩
  have hqh : q < h := by rw [← hq]; exact (Nat.div_lt_iff_lt_mul hw).2 (by rw [Nat.mul_comm]; exact hn)
  have h4 : 4 * s ≤ q ∧ q < 4 * s + 4 := by omega
  have hq1 : q * w ≤ n := by rw [← hq]; exact Nat.div_mul_le_self n w
  have hq2 : n < (q + 1) * w := by
    have := Nat.lt_mul_div_succ n hw
    rw [hq, Nat.mul_comm] at this
    exact this
  have e1 : 4 * w * s = 4 * s * w := by rw [Nat.mul_assoc, Nat.mul_comm w s, ← Nat.mul_assoc]
  have h5 : 4 * s * w ≤ n := Nat.le_trans (Nat.mul_le_mul_right _ h4.1) hq1
  unfold scanX scanY
  rw [hq, hs, e1]
  obtain ⟨r, hr⟩ : ∃ r, min 4 (h - 4 * s) = r := ⟨_, rfl⟩
  rw [hr]
  have hr1 : 1 ≤ r := by omega
  have hrest : n - 4 * s * w < w * r := by
    by_cases h4r : h - 4 * s < 4
    · have e2 : r = h - 4 * s := by omega
      rw [e2, Nat.mul_sub, Nat.mul_comm w (4 * s)]
      exact Nat.sub_lt_sub_right h5 hn
    · have e2 : r = 4 := by omega
      rw [e2]
      have h6 : (q + 1) * w ≤ (4 * s + 4) * w := Nat.mul_le_mul_right _ (by omega)
      rw [Nat.add_mul (4 * s)] at h6
      rw [Nat.mul_comm w 4]
      exact Nat.sub_lt_left_of_lt_add h5 (Nat.lt_of_lt_of_le hq2 h6)
  refine ⟨(Nat.div_lt_iff_lt_mul hr1).2 hrest, ?_⟩
  have := Nat.mod_lt (n - 4 * s * w) hr1
  omega
theorem rest_in (n P : Nat) (h : P ≤ n) (hn : n < 4096) : wrap64 ((n : Int) - wrap64 (P : Int)) = ((n - P : Nat) : Int) := by
  rw [IntWalk.wrap64_in (P : Int) ⟨by omega, by omega⟩, IntWalk.wrap64_in _ ⟨by omega, by omega⟩]
  omega
theorem scan_wrap (r m s : Nat) (h1 : 1 ≤ m) (h2 : r ≤ 4096) (h3 : s ≤ 16) (h4 : m ≤ 4) : wrap64 ((r : Int) / (m : Int)) = ((r / m : Nat) : Int) ∧ wrap64 (4 * (s : Int) + (r : Int) % (m : Int)) = ((4 * s + r % m : Nat) : Int) := by
  have e1 : (r : Int) / (m : Int) = ((r / m : Nat) : Int) := rfl
  have e2 : 4 * (s : Int) + (r : Int) % (m : Int) = ((4 * s + r % m : Nat) : Int) := by push_cast; rfl
  have b1 : r / m ≤ r := Nat.div_le_self r m
  have b2 : r % m < m := Nat.mod_lt r h1
  rw [e1, e2]
  generalize r / m = d at *
  generalize r % m = d2 at *
  clear e1 e2
  constructor
  · exact IntWalk.wrap64_in _ ⟨by omega, by omega⟩
  · exact IntWalk.wrap64_in _ ⟨by omega, by omega⟩
set_option maxRecDepth 100000 in
set_option maxHeartbeats 1000000 in
theorem scan_any (w h n : Nat) (W : World) (hw : 1 ≤ w) (hw2 : w ≤ 64) (hh : 1 ≤ h) (hh2 : h ≤ 64) (hn : n < w * h) :
    Calls Try.prog 85 #[.int .i64 (w : Int), .int .i64 (h : Int), .int .i64 (n : Int)] W fun e w' => e = .returned (.tuple #[.int .i64 ((scanX w h n : Nat) : Int), .int .i64 ((scanY w h n : Nat) : Int)]) ∧ Drew W w' := by
  have n4 : n < 4096 := Nat.lt_of_lt_of_le hn (Nat.mul_le_mul hw2 hh2)
  obtain ⟨q, hq⟩ : ∃ q, n / w = q := ⟨_, rfl⟩
  have hqh : q < h := by rw [← hq]; exact (Nat.div_lt_iff_lt_mul hw).2 (by rw [Nat.mul_comm]; exact hn)
  have qi : (n : Int) / (w : Int) = (q : Int) := by rw [← hq]; rfl
  have HX := Lib.hid (And.intro hq hn)
  clear hq hn
  have d1 : decide ((w : Int) < 1) = false := by simp; omega
  have d2 : decide ((h : Int) < 1) = false := by simp; omega
  have d3 : decide ((n : Int) < 0) = false := by simp
  have d4 : decide ((h : Int) ≤ (q : Int)) = false := by simp; omega
  go_enter Try.func85, Try.ntmps85
  go_upto_region 5 with fail
  obtain ⟨s, hs⟩ : ∃ s, q / 4 = s := ⟨_, rfl⟩
  have si : (q : Int) / 4 = (s : Int) := by rw [← hs]; rfl
  have hq1 : q * w ≤ n := by rw [← HX.out.1]; exact Nat.div_mul_le_self n w
  have h4 : 4 * s ≤ q := by omega
  have h5 : 4 * w * s ≤ n := by
    have e1 : 4 * w * s = 4 * s * w := by rw [Nat.mul_assoc, Nat.mul_comm w s, ← Nat.mul_assoc]
    rw [e1]
    exact Nat.le_trans (Nat.mul_le_mul_right _ h4) hq1
  obtain ⟨r, hr⟩ : ∃ r, n - 4 * w * s = r := ⟨_, rfl⟩
  have hR : wrap64 ((n : Int) - wrap64 (4 * (w : Int) * (s : Int))) = (r : Int) := by
    have e1 : 4 * (w : Int) * (s : Int) = ((4 * w * s : Nat) : Int) := by push_cast; rfl
    rw [e1, ← hr]
    exact rest_in n _ h5 n4
  obtain ⟨m, hm⟩ : ∃ m, min 4 (h - 4 * s) = m := ⟨_, rfl⟩
  have hm1 : 1 ≤ m := by omega
  have hM : (if (h : Int) - 4 * (s : Int) < 4 then (h : Int) - 4 * (s : Int) else 4) = (m : Int) := by split <;> omega
  have rn : r ≤ 4096 := Nat.le_trans (by rw [← hr]; exact Nat.sub_le _ _) (Nat.le_of_lt n4)
  have ER : Hid (scanX w h n = r / m ∧ scanY w h n = 4 * s + r % m) := Lib.hid (by unfold scanX scanY; simp only [HX.out.1, hs, hr, hm, and_self])
  have s64 : s ≤ 16 := by omega
  simp only [si, hR]
  have HM := Lib.hid hM
  have m4 : m ≤ 4 := by omega
  have hs4 : 4 * s < h := by omega
  clear hs si hq1 h4 h5 hr hR hm hM HX qi hqh
  go_upto_region 6 with fail
  simp only [HM.out]
  generalize wrap64 (4 * (w : Int) * (s : Int)) = u1
  clear HM hs4
  go_quiet (fail)
  go_wp2_with fail
  go_ret2
  rw [ER.out.1, ER.out.2]
  refine ⟨?_, _, rfl⟩
  show Ending.returned (.tuple #[.int .i64 (wrap64 ((r : Int) / (m : Int))), .int .i64 (wrap64 (4 * (s : Int) + (r : Int) % (m : Int)))]) = _
  obtain ⟨w1, w2⟩ := scan_wrap r m s hm1 rn s64 m4
  rw [w1, w2]
end Go.Proofs.Ytnpoakabheeoeaa
