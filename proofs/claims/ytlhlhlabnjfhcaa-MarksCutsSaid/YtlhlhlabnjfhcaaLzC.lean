/- MarksCuts: the law's walk. -/
import Derived.Test.YtlhlhlabnjfhcaaLwA
import Derived.OwnWalk
namespace Go.Proofs.Ytlhlhlabnjfhcaa
open Go.RowKit Go.Maps

set_option maxRecDepth 100000 in
set_option maxHeartbeats 4000000 in
theorem cuts_law (f : FormD) (ns : Value) (nl : List Int) (cv : Value) (cl : List UInt8) (w : World) (hn : RdI w ns nl) (hc : BV w cv cl) :
    Calls Try.prog 7 #[.agg (formA f ns), cv] w fun e w' => e = .returned (.bool true) ∧ Below w.heap.size w w' := by
  have HN := Lib.hid hn
  have HC := Lib.hid hc
  obtain ⟨na, nc, rfl, -⟩ := hn
  obtain ⟨ca, cc, rfl, -⟩ := hc
  have KN := Lib.hid known_any
  unfold formA
  go_enter Try.func7, Try.ntmps7
  go_upto_region 1 with fail
  obtain ⟨wA, hwA⟩ : ∃ wA, wA = w.alloc (.cells (formA f (.slice na nl.length nc)) 24) := ⟨_, rfl⟩
  have hh : Blk wA w.heap.size 24 (formA f (.slice na nl.length nc)) := by rw [hwA]; exact Blk.new _ _ _
  have hBA : Below w.heap.size w wA := by rw [hwA]; exact (Below.refl _ _).alloc (Nat.le_refl _) _
  have hsA : w.heap.size < wA.heap.size := by rw [hwA]; simp
  unfold formA at hwA
  simp only [← hwA]
  clear hwA
  have HH := Lib.hid (And.intro hh hBA)
  clear hh hBA
  by_cases h50 : cl.length ≤ 50
  case neg =>
    have d50 : decide ((50 : Int) < (cl.length : Int)) = true := by simp; omega
    have z50 : (50 : Int) < (cl.length : Int) := by omega
    go_wp2_with (go_at_call 11; refine (KN.out _).mono ?_; rintro e w1 ⟨rfl, hB1⟩)
    go_ret
    exact ⟨rfl, HH.out.2.trans (hB1.mono HH.out.2.size)⟩
  have d50 : decide ((50 : Int) < (cl.length : Int)) = false := by simp; omega
  go_upto_region 5 with (go_at_call 11; refine (KN.out _).mono ?_; rintro e w1 ⟨rfl, hB1⟩)
  have hh1 := HH.out.1.below hB1 hsA
  have hw1 := HH.out.2.trans (hB1.mono HH.out.2.size)
  have HG : Hid (w1.heap[w.heap.size]? = some (.cells (formA f (.slice na nl.length nc)) 24 (0, 0))) := hh1
  have HD := Lib.hid (head_any f (.slice na nl.length nc) nl (.slice ca cl.length cc) w1 (HN.out.keep hw1) ⟨_, _, _, rfl⟩)
  have HC1 := Lib.hid (HC.out.keep hw1)
  have HW1 := Lib.hid hw1
  clear hh1 hw1 hB1 HH hsA KN HN HC
  go_step
  refine wpList_load_row rfl 24 (.tmp 2) rfl w.heap.size rfl 24 (formA f (.slice na nl.length nc)) (0, 0) _ HG.out Try.underlying24 rfl (by kernel_rfl) ?_
  obtain ⟨i0, hti, hz0, hz1, hz2⟩ := info_parts infoU8
  go_upto_region 6 with (first | (go_at_call 12; refine HD.out.mono ?_; rintro e w2 ⟨m, p, v, rfl, hco, hok, hb2⟩; obtain ⟨va, vc, rfl⟩ := hco.slice; have HHD := Lib.hid (And.intro hco (And.intro hok hb2)); clear hco hok hb2) | (go_at_call 18; refine (main_any m _ p _ cl _ (CompsRd.of_owns HHD.out.1) (HC1.out.keep HHD.out.2.2) (by omega) (frame_ok HHD.out.2.1) HHD.out.2.1.n4 (depth_ok HHD.out.2.1) HHD.out.2.1.par).mono ?_; rintro e w3 ⟨v3, rfl, ho3, hb3⟩; obtain ⟨a3, c3, rfl⟩ := owns_slice ho3; have HML := Lib.hid (main_small HHD.out.2.1 cl h50); have HO3 := Lib.hid (And.intro ho3 hb3); clear ho3 hb3) | (at_builtin; go_must (refine wpList_app rfl (.tmp 21) (.tmp 22) rfl w2.heap.size _ (mainM m p cl) [255, 144] rfl (World.ownsRow.alloc HO3.out.1 _) _ rfl (BV.two w3 255 144 _ rfl) HML.out (by have := HO3.out.2.size; simp; omega) ?_; intro v4 w4 ho4 hb4 hg4; obtain ⟨M, hM⟩ : ∃ M, mainM m p cl ++ [255, 144] = M := ⟨_, rfl⟩; rw [hM] at ho4; have HM := Lib.hid hM; clear hM; obtain ⟨N, hN⟩ : ∃ N, M.length = N := ⟨_, rfl⟩; rw [hN] at ho4; have HN := Lib.hid hN; clear hN; obtain ⟨a4, c4, rfl⟩ := owns_slice ho4)))
  obtain ⟨hco, hok, hb2⟩ := HHD.out
  have hb24 : Below w2.heap.size w2 w4 := (HO3.out.2.alloc HO3.out.2.size _).trans hb4
  have hw4 : Below w.heap.size w w4 := HW1.out.trans ((hb2.trans (hb24.mono hb2.size)).mono HW1.out.size)
  rw [← HN.out] at ho4
  have HBV := Lib.hid (BV.of_owns ho4)
  have hs := sizOk_of hok
  have hc' := hok.par.fit
  have FR := Lib.hid (head_front hs (by have := hok.n4; omega) hc' cl (by omega))
  have AL := head_all hs (by have := hok.n4; omega) hc' cl [] (by omega)
  rw [List.append_nil, frame_ok hok] at AL
  have HAL := Lib.hid AL
  have hMl : (mainM m p cl ++ [255, 144]).length ≤ 1000000 := by rw [List.length_append]; exact HML.out
  rw [HM.out] at FR HAL hMl
  rw [HN.out] at hMl
  have HW4 := Lib.hid hw4
  clear hco hok hb2 hb24 hw4 hs hc' AL hb4 hg4 HML HO3 HHD HC1 HW1 HG HD ho4 HM
  go_wp2_with fail
  go_loopg [6, 7, 8, 9] N (fun g s6 s7 s8 s9 wx => ∃ k : Nat, k ≤ N ∧ g = N - k ∧ s6 = .int .i64 k ∧ Below w.heap.size w wx ∧ BV wx (.slice a4 N c4) M)
  case atStart => exact ⟨0, Nat.zero_le _, rfl, rfl, HW4.out, by rw [← HN.out]; exact HBV.out⟩
  case round =>
    obtain ⟨wy, rfl⟩ : ∃ wy : World, wy = wr := ⟨_, rfl⟩
    obtain ⟨k, hk, rfl, rfl, hwy, hbv⟩ := hrel
    clear HW4 HBV
    by_cases hkn : k < N
    · have d1 : decide ((k : Int) < (N : Int)) = true := by simp; omega
      have hcap : N ≤ c4 := by obtain ⟨_, _, e, h1, _⟩ := hbv; cases e; rw [← HN.out]; exact h1
      obtain ⟨hh2, hl2, hall⟩ := FR.out k (by rw [HN.out]; exact hkn)
      have hbk : BV wy (.slice a4 k c4) (M.take k) := by rw [← HN.out] at hbv; exact hbv.front k (by rw [HN.out]; omega)
      have PE := Lib.hid (parse_err1 _ (M.take k) hl2 10 hh2 wy hbk (by rw [List.length_take]; omega) hall (by decide))
      have HY := Lib.hid (And.intro hwy hbv)
      clear hwy hbv hall hbk
      have z1 : (k : Int) ≤ (c4 : Int) := by omega
      go_upto_region 9 with fail
      go_wp2_with (go_at_call 16; refine PE.out.mono ?_; rintro e wb ⟨A, hA, rfl, hB2⟩; have hA1 := hA.1; have hst := store_head hA; have HB2 := Lib.hid (hB2.trans ((newHead_below wb A).mono hB2.size)); clear hB2)
      go_roundg (N - (k + 1))
      case measure => omega
      case rel =>
        obtain ⟨hwy, hbv⟩ := HY.out
        exact ⟨k + 1, by omega, rfl, by go_num, hwy.trans (HB2.out.mono hwy.size), hbv.keep HB2.out⟩
    · obtain rfl : k = N := by omega
      have d1 : decide ((k : Int) < (k : Int)) = false := by simp
      have hbv' : BV wy (.slice a4 M.length c4) M := by rw [HN.out]; exact hbv
      rw [HN.out] at hbv'
      have PO := Lib.hid (parse_ok1 _ M [] (headOf m p cl) wy hbv' (by rw [HN.out]; omega) HAL.out)
      have HY := Lib.hid hwy
      clear hwy hbv hbv' FR HAL
      go_wp2_with (go_at_call 16; refine PO.out.mono ?_; rintro e wb ⟨A, cv, mv, hA, -, rfl, -, -, hB2⟩; have hA1 := hA.1; have hst := store_head hA; have HB2 := Lib.hid (hB2.trans ((newHead_below wb A).mono hB2.size)); clear hB2)
      go_ret
      exact ⟨rfl, HY.out.trans (HB2.out.mono HY.out.size)⟩
end Go.Proofs.Ytlhlhlabnjfhcaa
