/- Small functions of packets: how many passes a layer brings; the k-th block; a flag. -/
import Derived.Test.YtnpoakabheeoeaaPa
namespace Go.Proofs.Ytnpoakabheeoeaa
open Go.RowKit

/-- how many of a block's passes are in the first layers -/
def passN (total layers l : Int) : Int := if l < 1 then 0 else if layers < 1 then 0 else if layers < l then min (max total 0) 100 else min (max total 0) 100 * min l 100 / min layers 100
theorem passN_zero (layers l : Int) : passN 0 layers l = 0 := by
  unfold passN
  split
  · rfl
  · split
    · rfl
    · have e : min (max (0 : Int) 0) 100 = 0 := by omega
      rw [e]
      split
      · rfl
      · rw [Int.zero_mul, Int.zero_ediv]
theorem passN_le (total layers l : Int) : 0 ≤ passN total layers l ∧ passN total layers l ≤ 100 := by
  unfold passN
  split
  · omega
  · split
    · omega
    · split
      · omega
      · have h1 : 1 ≤ min layers 100 := by omega
        have h2 : 0 ≤ min (max total 0) 100 ∧ min (max total 0) 100 ≤ 100 := by omega
        have h3 : 1 ≤ min l 100 ∧ min l 100 ≤ min layers 100 := by omega
        generalize min layers 100 = a at *
        generalize min (max total 0) 100 = b at *
        generalize min l 100 = c at *
        constructor
        · exact Int.ediv_nonneg (Int.mul_nonneg h2.1 (by omega)) (by omega)
        · have : b * c ≤ 100 * a := Int.mul_le_mul h2.2 h3.2 (by omega) (by omega)
          exact Int.ediv_le_of_le_mul (by omega) this
theorem pass_mid (t n l a b c : Int) (h1 : 1 ≤ l) (h2 : 1 ≤ n) (h3 : l ≤ n) (ha : a = min (max t 0) 100) (hb : b = min l 100) (hc : c = min n 100) : wrap64 ((wrap64 (a * b)).tdiv c) = passN t n l := by
  have e : passN t n l = a * b / c := by unfold passN; rw [if_neg (by omega), if_neg (by omega), if_neg (by omega), ha, hb, hc]
  have k := passN_le t n l
  have ha1 : 0 ≤ a ∧ a ≤ 100 := by omega
  have hb1 : 0 ≤ b ∧ b ≤ 100 := by omega
  have h4 : 0 ≤ a * b := Int.mul_nonneg ha1.1 hb1.1
  have h5 : a * b ≤ 100 * 100 := Int.mul_le_mul ha1.2 hb1.2 hb1.1 (by omega)
  rw [e] at k ⊢
  rw [← IntWalk.i64_left (a * b), IntWalk.i64_in _ (by omega), Int.tdiv_eq_ediv_of_nonneg h4, ← IntWalk.i64_left (a * b / c), IntWalk.i64_in _ (by omega)]
set_option maxRecDepth 100000 in
set_option maxHeartbeats 2000000 in
theorem passes_any (t n l : Int) (w : World) (ht : 0 ≤ t ∧ t ≤ 1000000) (hn : -1000000 ≤ n ∧ n ≤ 1000000) (hl : -1000000 ≤ l ∧ l ≤ 1000000) :
    Calls Try.prog 57 #[.int .i64 t, .int .i64 n, .int .i64 l] w fun e w' => e = .returned (.int .i64 (passN t n l)) ∧ Mv w [] w' [] := by
  go_enter Try.func57, Try.ntmps57
  go_wp2_with fail
  all_goals
    go_ret
    refine ⟨?_, Mv.refl (Sat.nil _)⟩
    refine congrArg Ending.returned (congrArg (Value.int .i64) ?_)
    first
    | (unfold passN; omega)
    | exact pass_mid t n l 100 100 100 (by omega) (by omega) (by omega) (by omega) (by omega) (by omega)
    | exact pass_mid t n l _ _ _ (by omega) (by omega) (by omega) (by omega) (by omega) (by omega)
set_option maxRecDepth 100000 in
theorem flag_any (b : Bool) (w : World) :
    Calls Try.prog 27 #[.bool b] w fun e w' => e = .returned (.int .i64 (if b then 1 else 0)) ∧ w' = w := by
  cases b
  all_goals
    go_enter Try.func27, Try.ntmps27
    go_wp2_with fail
    go_ret
    exact ⟨rfl, rfl⟩
end Go.Proofs.Ytnpoakabheeoeaa
