/- waveletref5: raw bits, over heaplets. -/
import Derived.Test.YtnpoakabheeoeaaQb
import Derived.StillTailTactics
namespace Go.Proofs.Ytnpoakabheeoeaa
open Go.RowKit

def rawB (rg cur free top : Nat) (v : Value) : HB := ⟨rg, 150, #[v, .int .i64 (cur : Int), .int .i64 (free : Int), .int .i64 (top : Int)]⟩
def RawR (rg : Nat) (r : RawM) (H : List HB) : Prop := ∃ vb Hb, H = rawB rg r.cur r.free r.top vb :: Hb ∧ RowB vb r.b Hb
set_option maxRecDepth 100000 in
theorem new_raw (w : World) : Calls Try.prog 39 #[] w fun e w' => ∃ rg H, e = .returned (.pointer (some ⟨rg, 0, none⟩)) ∧ RawR rg rawNew H ∧ Mv w [] w' H := by
  go_enter Try.func39, Try.ntmps39
  go_wp2_with fail
  go_ret
  exact ⟨_, _, rfl, ⟨_, _, rfl, RowH.nil _ _⟩, mv_alloc w _ _⟩
theorem shl_bit (b k : Nat) (hk : k ≤ 8) : IntKind.i64.wrap (((b % 2 : Nat) : Int) * 2 ^ k) = ((b % 2 * 2 ^ k : Nat) : Int) := by
  have h1 : 2 ^ k ≤ 2 ^ 8 := Nat.pow_le_pow_right (by omega) hk
  have h2 : b % 2 * 2 ^ k ≤ 1 * 2 ^ k := Nat.mul_le_mul_right _ (by omega)
  have e : ((b % 2 : Nat) : Int) * 2 ^ k = ((b % 2 * 2 ^ k : Nat) : Int) := by push_cast; rfl
  rw [e, IntWalk.i64_in _ (by omega)]
theorem raw_or (cur b k : Nat) (hk : k ≤ 8) (hc : cur < 256) : bits .or .i64 (cur : Int) (IntKind.i64.wrap (bits .and .i64 (b : Int) 1 * 2 ^ min (IntKind.u64.wrap (k : Int)).toNat 64)) = ((cur ||| b % 2 * 2 ^ k : Nat) : Int) := by
  have e1 : bits .and .i64 (b : Int) 1 = ((b % 2 : Nat) : Int) := by rw [i64_and1]; omega
  have e2 : IntKind.u64.wrap (k : Int) = (k : Int) := IntWalk.u64_in _ (by omega)
  have e3 : min (k : Int).toNat 64 = k := by omega
  have h1 : 2 ^ k ≤ 2 ^ 8 := Nat.pow_le_pow_right (by omega) hk
  have h2 : b % 2 * 2 ^ k ≤ 1 * 2 ^ k := Nat.mul_le_mul_right _ (by omega)
  rw [e1, e2, e3, shl_bit b k hk, i64_or_nat cur _ (by omega) (by omega)]
set_option maxRecDepth 100000 in
set_option maxHeartbeats 1000000 in
theorem raw_bit (rg : Nat) (r : RawM) (b : Nat) (w : World) (H : List HB) (h : RawR rg r H) (hs : Sat w H) (hok : r.Ok) (hl : r.b.length ≤ 90000000) (_hb : b ≤ 1) :
    Calls Try.prog 105 #[.pointer (some ⟨rg, 0, none⟩), .int .i64 (b : Int)] w fun e w' => e = .returned (.tuple #[]) ∧ ∃ H', RawR rg (rawBit r b) H' ∧ Mv w H w' H' := by
  obtain ⟨o1, o2, o3, o4⟩ := hok
  have hcl := rawCur_lt ⟨o1, o2, o3, o4⟩ b
  obtain ⟨bs, cur, free, top⟩ := r
  simp only at o1 o2 o3 o4 hcl hl
  obtain ⟨vb, Hb, rfl, hr⟩ := h
  simp only at hr
  obtain ⟨k, rfl⟩ : ∃ k, free = k + 1 := ⟨free - 1, by omega⟩
  simp only [Nat.add_sub_cancel] at hcl
  have EO : rawBit ⟨bs, cur, k + 1, top⟩ b = if k = 0 then (if cur ||| b % 2 * 2 ^ k = 255 then ⟨bs ++ [UInt8.ofNat (cur ||| b % 2 * 2 ^ k)], 0, 7, 7⟩ else ⟨bs ++ [UInt8.ofNat (cur ||| b % 2 * 2 ^ k)], 0, 8, 8⟩) else ⟨bs, cur ||| b % 2 * 2 ^ k, k, top⟩ := by
    unfold rawBit
    simp only [Nat.add_sub_cancel]
    by_cases hk : k = 0
    · rw [if_pos hk, if_pos (by omega)]
    · rw [if_neg hk, if_neg (by omega)]
  have VOR := raw_or cur b k (by omega) o4
  obtain ⟨c, hc⟩ : ∃ c, cur ||| b % 2 * 2 ^ k = c := ⟨_, rfl⟩
  rw [hc] at EO hcl VOR
  clear hc
  rw [EO]
  have VO := Lib.hid VOR
  clear VOR EO
  obtain ⟨n, hn⟩ : ∃ n, bs.length = n := ⟨_, rfl⟩
  obtain ⟨va, vc, rfl⟩ := hr.slice
  have M0 := Mv.refl hs
  rw [hn] at hr M0 ⊢
  simp only at M0
  have c2 : w.cell? ⟨rg, 2, none⟩ = some (.int .i64 ((k + 1 : Nat) : Int)) := M0.cell 0 rfl 2
  have f2 : w.frozen? ⟨rg, 2, none⟩ = false := M0.frozen 0 rfl 2
  have M1 := M0.set 2 (.int .i64 (k : Int))
  obtain ⟨w1, hw1⟩ : ∃ w1, w1 = w.setCell ⟨rg, 2, none⟩ (.int .i64 (k : Int)) := ⟨_, rfl⟩
  rw [← hw1] at M1
  have HW := Lib.hid hw1
  have K1 := Lib.hid (And.intro hr M1)
  have d1 : ((k + 1 : Nat) : Int) - 1 = (k : Int) := by omega
  have kb : (k : Int) ≤ 7 := by omega
  clear hw1 hr M0 M1 hs
  go_enter Try.func105, Try.ntmps105
  go_upto_region 1 with fail
  rw [← HW.out]
  clear HW c2 f2 d1
  have e1 := K1.out.2.drew.cell 0 rfl 1
  have e2 := K1.out.2.drew.cell 0 rfl 2
  have g1 := K1.out.2.drew.frozen 0 rfl 1
  go_still_tail 16, (by kernel_rfl)
  change wpList _ _ _ _ _ w1.drew
  simp only [VO.out]
  have M2 := K1.out.2.drew.set 1 (.int .i64 (c : Int))
  generalize w1.drew = w2 at *
  obtain ⟨w3, hw3⟩ : ∃ w3, w3 = w2.setCell ⟨rg, 1, none⟩ (.int .i64 (c : Int)) := ⟨_, rfl⟩
  rw [← hw3] at M2
  replace M2 : Mv w (rawB rg cur (k + 1) top (.slice va n vc) :: Hb) w3 (rawB rg c k top (.slice va n vc) :: Hb) := M2
  have K2 := Lib.hid (And.intro K1.out.1 (And.intro M2 hn))
  have HW := Lib.hid hw3
  clear M2 K1 VO hn hw3
  by_cases hk : k = 0
  case neg =>
    have d1 : decide ((0 : Int) < (k : Int)) = true := by simp; omega
    have y2 := K2.out.2.1.cell 0 rfl 2
    go_upto_region 2 with fail
    rw [← HW.out]
    clear e1 e2 g1 HW
    go_wp2_with fail
    refine bodyPost_ret (results_none rfl _ _ _) rfl ⟨rfl, _, ?_, K2.out.2.1⟩
    exact ⟨_, Hb, rfl, K2.out.1⟩
  case pos =>
    subst hk
    have y2 := K2.out.2.1.cell 0 rfl 2
    go_upto_region 2 with fail
    rw [← HW.out]
    clear e1 e2 g1 HW
    obtain ⟨x, hx⟩ : ∃ x, UInt8.ofNat c = x := ⟨_, rfl⟩
    have hx8 : IntKind.u8.wrap (c : Int) = (x.toNat : Int) := by rw [IntKind.wrap_u8, ← hx, ← u8_of_nat]
    go_upto_region 3 with fail
    have e0 := K2.out.2.1.cell 0 rfl 0
    have e1 := K2.out.2.1.cell 0 rfl 1
    have M1' := K2.out.2.1.alloc 5 #[.int .u8 (x.toNat : Int)]
    have y7 := M1'.cell 1 rfl 0
    have A1 : Hid (BV (w3.alloc (.cells #[.int .u8 (x.toNat : Int)] 5)).drew (.slice (some ⟨w3.heap.size, 0, none⟩) 1 1) [x]) := Lib.hid (bv_one w3 x _ rfl)
    have K3 := Lib.hid (Mv.behind M1'.drew)
    have HX := Lib.hid hx
    clear M1' hx
    go_region_law (first
      | ((with_reducible refine step_appB (o := ⟨some 43, _, _, _, _, _⟩) (v := .slice va n vc) (u := .slice (some ⟨w3.heap.size, 0, none⟩) 1 1) (l := bs) (r := [x]) (H := Hb) rfl (.tmp 36) (.tmp 42) rfl ?_ ?_ K2.out.1 K3.out.sat.left A1.out ?_ ?_); simp [Act.eval]; simp [Act.eval]; (simp; omega); intro v6 w6 H6 hr6 m6; obtain ⟨a6, c6, rfl⟩ := hr6.slice; have M6 := Mv.second (Mv.call K3.out m6); have y3 := M6.cell 0 rfl 0; have z3 := M6.frozen 0 rfl 0; have K6 := Lib.hid (And.intro hr6 M6); clear hr6 m6 M6))
    all_goals
      have M7 := K6.out.2.set 0 (.slice a6 (bs.length + 1) c6)
      obtain ⟨w7, hw7⟩ : ∃ w7, w7 = w6.setCell ⟨rg, 0, none⟩ (.slice a6 (bs.length + 1) c6) := ⟨_, rfl⟩
      rw [← hw7] at M7 ⊢
      replace M7 : Mv w (rawB rg cur (0 + 1) top (.slice va n vc) :: Hb) w7 (rawB rg c 0 top (.slice a6 (bs.length + 1) c6) :: H6) := M7
      have m1 := M7.cell 0 rfl 1
      have m2 := M7.cell 0 rfl 2
      have m3 := M7.cell 0 rfl 3
      have n1 := M7.frozen 0 rfl 1
      have n2 := M7.frozen 0 rfl 2
      have n3 := M7.frozen 0 rfl 3
      have K7 := Lib.hid M7
      have h6 : RowB (.slice a6 (bs.length + 1) c6) (bs ++ [x]) H6 := by
        have := K6.out.1
        simp only [List.length_append, List.length_cons, List.length_nil, Nat.zero_add] at this
        exact this
      have HR := Lib.hid h6
      clear hw7 M7 y3 z3 y2 e0 e1 y7 K6 h6 hx8
      by_cases h255 : c = 255
      · have d3 : ((c : Int) == 255) = true := by rw [h255]; rfl
        have HC := Lib.hid h255
        clear h255
        go_wp2_with fail
        have M9 : Mv w (rawB rg cur (0 + 1) top (.slice va n vc) :: Hb) _ (rawB rg 0 7 7 (.slice a6 (bs.length + 1) c6) :: H6) := ((((K7.out.set 2 (.int .i64 8)).set 3 (.int .i64 8)).set 2 (.int .i64 7)).set 3 (.int .i64 7)).set 1 (.int .i64 0)
        refine bodyPost_end (results_none rfl _ _ _) rfl ⟨rfl, _, ?_, M9⟩
        (try rw [if_pos rfl])
        (try rw [if_pos HC.out])
        have hx255 : x = 255 := by rw [← HX.out, HC.out]; rfl
        exact ⟨_, H6, rfl, by have := HR.out; rw [hx255] at this; exact this⟩
      · have d3 : ((c : Int) == 255) = false := beq_eq_false_iff_ne.2 (by omega)
        have d4 : ¬ ((c : Int) = 255) := by omega
        have HC := Lib.hid h255
        clear h255
        go_wp2_with fail
        have M9 : Mv w (rawB rg cur (0 + 1) top (.slice va n vc) :: Hb) _ (rawB rg 0 8 8 (.slice a6 (bs.length + 1) c6) :: H6) := ((K7.out.set 2 (.int .i64 8)).set 3 (.int .i64 8)).set 1 (.int .i64 0)
        refine bodyPost_end (results_none rfl _ _ _) rfl ⟨rfl, _, ?_, M9⟩
        (try rw [if_pos rfl])
        (try rw [if_neg HC.out])
        (try rw [HX.out])
        exact ⟨_, H6, rfl, HR.out⟩
end Go.Proofs.Ytnpoakabheeoeaa
