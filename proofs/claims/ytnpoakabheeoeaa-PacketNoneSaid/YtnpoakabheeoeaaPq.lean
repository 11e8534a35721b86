/- PacketEmpty: the walk. -/
import Derived.Test.YtnpoakabheeoeaaMpl
namespace Go.Proofs.Ytnpoakabheeoeaa
open Go.RowKit

set_option maxRecDepth 100000 in
theorem within15 (x n : Int) (w : World) (h3 : 1 ≤ n) (h4 : n ≤ 1000000) :
    Calls Try.prog 9 #[.int .i64 x, .int .i64 n] w fun e w' => e = .returned (.int .i64 (x % n)) ∧ w' = w := by
  obtain ⟨h5, h6⟩ := tmod_bd x n h3
  have E := Lib.hid (tmod_adj x n h3)
  go_enter Try.func9, Try.ntmps9
  go_wp2
  all_goals go_ret
  · exact ⟨by rw [← E.out, if_pos (by assumption)]; rfl, rfl⟩
  · exact ⟨by rw [← E.out, if_neg (by omega)]; rfl, rfl⟩
theorem withinN (x n : Int) (h3 : 1 ≤ n) (h4 : n ≤ 1000000) : ∃ k : Nat, (k : Int) < n ∧ ∀ w, Calls Try.prog 9 #[.int .i64 x, .int .i64 n] w fun e w' => e = .returned (.int .i64 (k : Int)) ∧ w' = w := by
  have h1 := Int.emod_nonneg x (show n ≠ 0 by omega)
  have h2 := Int.emod_lt_of_pos x (show 0 < n by omega)
  refine ⟨(x % n).toNat, by omega, fun w => ?_⟩
  rw [Int.toNat_of_nonneg h1]
  exact within15 x n w (by omega) (by omega)
theorem emptyR : (rdBit [0, 9] rdNew).1 = 0 ∧ endM [0, 9] (rdBit [0, 9] rdNew).2 = (1, 0) := by constructor <;> kernel_rfl
theorem stOf_new (p q : Nat) (planes : Int) (k : Int) : (stOf (newBandM p q planes) k).ps = [] ∧ (stOf (newBandM p q planes) k).bs = [] ∧ (stOf (newBandM p q planes) k).pl = 0 := by
  unfold stOf
  split
  · exact ⟨rfl, rfl, rfl⟩
  · rename_i h
    simp only [newBandM, List.length_replicate] at h
    have e : (newBandM p q planes).ss.getD k.toNat stNone = stNew.m := by
      simp only [newBandM, List.getD_eq_getElem?_getD, List.getElem?_replicate]
      rw [if_pos (by omega)]
      rfl
    rw [e]
    exact ⟨rfl, rfl, rfl⟩
set_option maxRecDepth 100000 in
set_option maxHeartbeats 1000000 in
theorem empty_any (x y z : Int) (w : World) : Calls Try.prog 5 #[.int .i64 x, .int .i64 y, .int .i64 z] w fun e w' => e = .returned (.bool true) ∧ Below w.heap.size w w' := by
  obtain ⟨p, hp, W1⟩ := withinN x 5 (by decide) (by decide)
  obtain ⟨q, hq, W2⟩ := withinN y 5 (by decide) (by decide)
  obtain ⟨r, hr, W3⟩ := withinN z 8 (by decide) (by decide)
  replace W1 := Lib.hid W1
  replace W2 := Lib.hid W2
  replace W3 := Lib.hid W3
  have KN := Lib.hid (known_any w)
  have NB := Lib.hid fun W => band_new p q 9 W (by omega) (by omega) (by decide)
  go_enter Try.func5, Try.ntmps5
  go_upto_region 5 with (first
    | (go_at_call 7; refine KN.out.mono ?_; rintro e w1 ⟨rfl, m1⟩; have K1 := Lib.hid m1; clear m1)
    | (go_at_call 9; (with_reducible refine (W1.out _).mono ?_); rintro e w' ⟨rfl, rfl⟩)
    | (go_at_call 9; (with_reducible refine (W2.out _).mono ?_); rintro e w' ⟨rfl, rfl⟩)
    | (go_at_call 9; (with_reducible refine (W3.out _).mono ?_); rintro e w' ⟨rfl, rfl⟩)
    | (go_at_call 12; refine (NB.out _).mono ?_; rintro e wa ⟨d, H, rfl, -, hB, m2⟩; have K2 := Lib.hid (And.intro hB m2); clear hB m2))
  rename_i w2 da HA KA kk1 kk2 kk3 kk4
  obtain ⟨HB, hHB⟩ : ∃ HB, HB = H := ⟨_, rfl⟩
  have M2 : Mv w [] wa (HA ++ HB) := by
    have h1 : Mv w [] w2 HA := K1.out.trans KA.out.2
    have h2 : Mv w [] wa (H ++ HA) := Mv.call (H := []) h1 K2.out.2
    rw [hHB]
    exact h2.sub (fun g => by simp only [cnt_append]; omega) (fun c hc => by simp only [List.mem_append] at hc ⊢; grind)
  have KB := Lib.hid K2.out.1
  have KI := Lib.hid (And.intro KA.out.1 M2)
  clear K1 KA K2 M2 KN NB W1 W2 W3
  go_wp2_with fail
  go_loopg [9] (1 + r) (fun m s9 wx => ∃ k : Nat, k ≤ 1 + r ∧ m = 1 + r - k ∧ s9 = .int .i64 (k : Int) ∧ ∃ ma HA', BandR da ma HA' ∧ ma.ss = (newBandM p q 9).ss ∧ Mv w [] wx (HA' ++ HB))
  case atStart => exact ⟨0, by omega, rfl, rfl, _, _, KI.out.1, rfl, KI.out.2⟩
  case round =>
    obtain ⟨k, hk, rfl, rfl, ma, HA', h1, h2, h3⟩ := hrel
    have KM := Lib.hid (And.intro h1 (And.intro h2 h3))
    clear h1 h2 h3
    by_cases hlt : k < 1 + r
    · have d1 : decide ((k : Int) < 1 + (r : Int)) = true := by simp; omega
      have M1 : Mv w [] (wr.alloc (.cells #[.pointer (some ⟨da.bb, 0, none⟩)] 34)) ((listB wr.heap.size da.bb :: HA') ++ HB) := KM.out.2.2.alloc 34 #[.pointer (some ⟨da.bb, 0, none⟩)]
      have EN := Lib.hid (enc_one da ma HA' wr.heap.size (wr.alloc (.cells #[.pointer (some ⟨da.bb, 0, none⟩)] 34)) 0 k (1 + r) KM.out.1 M1.sat.left (by omega) ⟨by omega, by omega⟩ (by rw [KM.out.2.1]; exact new_none p q 9 (1 + r) k))
      have hc : ((1 + r : Nat) : Int) = 1 + (r : Int) := by push_cast; rfl
      rw [hc] at EN
      have KM1 := Lib.hid M1
      clear M1 hc
      go_upto_region 9 with (go_at_call 11; refine EN.out.mono ?_; rintro e w3 ⟨a3, c3, H1, m', H', rfl, hv, cv, hcv, hbm, hss, m2⟩; have K3 := Lib.hid (And.intro hv (And.intro hbm (And.intro hss (Mv.call (H := listB wr.heap.size da.bb :: HA') (R := HB) KM1.out m2)))); clear hv hbm hss m2)
      rename_i q1 q2 q3 q4
      have M3 := (K3.out.2.2.2.alloc 34 #[.pointer (some ⟨d.bb, 0, none⟩)]).alloc 5 #[]
      simp only [World.size_alloc] at M3
      obtain ⟨w5, hw5⟩ : ∃ w5, w5 = (w3.alloc (.cells #[.pointer (some ⟨d.bb, 0, none⟩)] 34)).alloc (.cells #[] 5) := ⟨_, rfl⟩
      rw [← hw5] at M3
      obtain ⟨RR, hRR⟩ : ∃ RR, (⟨w3.heap.size, 34, #[.pointer (some ⟨d.bb, 0, none⟩)]⟩ : Ytnpoakabheeoeaa.HB) :: (H1 ++ listB wr.heap.size da.bb :: H' ++ HB) = RR := ⟨_, rfl⟩
      rw [hRR] at M3
      have R5 : RowB (.slice (some ⟨w3.heap.size + 1, 0, none⟩) 0 0) [] [⟨w3.heap.size + 1, 5, #[]⟩] := RowB.lit _ [] 0 rfl (by decide)
      have X5 : BV w5 (.slice (some ⟨a3, 0, none⟩) 1 c3) [0] := by
        refine RowB.bv K3.out.1 (M3.sat.sub (fun g => ?_) (fun c hc => ?_))
        · rw [← hRR]; simp only [cnt_append, cnt_cons]; omega
        · rw [← hRR]; simp only [List.mem_append, List.mem_cons] at hc ⊢; grind
      have K5 := Lib.hid (And.intro R5 (And.intro X5 M3))
      have A9 : Hid (∀ W : World, BV (W.alloc (.cells #[.int .u8 9] 5)) (.slice (some ⟨W.heap.size, 0, none⟩) 1 1) [9]) := Lib.hid fun W => bv_one W 9 _ rfl
      have hz5 : (w3.alloc (.cells #[.pointer (some ⟨d.bb, 0, none⟩)] 34)).heap.size = w3.heap.size + 1 := by simp
      clear M3 R5 X5
      have KW := Lib.hid hw5
      clear hw5 cv
      go_wp2_with (first
        | (at_builtin; (try rw [hz5]); rw [← KW.out]; refine wpList_appB rfl (.tmp 46) (.tmp 47) rfl _ _ [] [0] _ rfl rfl K5.out.1 K5.out.2.2.sat.left K5.out.2.1 (by decide) ?_; intro v6 w6 H6 hr6 m6; replace hr6 : RowB v6 [0] H6 := hr6; obtain ⟨a6, c6, rfl⟩ : ∃ a6 c6, v6 = .slice a6 1 c6 := hr6.slice; have K6 := Lib.hid (And.intro hr6 (Mv.call (H := [_]) (R := RR) K5.out.2.2 m6)); clear hr6 m6)
        | (at_builtin; refine wpList_appB rfl (.tmp 48) (.tmp 49) rfl _ _ [0] [9] H6 rfl rfl K6.out.1 (K6.out.2.alloc _ _).drop1.sat.left (A9.out _) (by decide) ?_; intro v8 w8 H8 hr8 m8; replace hr8 : RowB v8 [0, 9] H8 := hr8; obtain ⟨a8, c8, rfl⟩ : ∃ a8 c8, v8 = .slice a8 2 c8 := hr8.slice; have K8 := Lib.hid (And.intro hr8 (Mv.call (H := H6) (R := RR) (K6.out.2.alloc _ _).drop1 m8)); clear hr8 m8)
        | (go_at_call 18; refine (decode_none _ 1 1 0 k _ [0, 9] 1 w8 (K8.out.1.bv K8.out.2.sat.left) (by decide) emptyR.1 emptyR.2 (by decide)).mono ?_; rintro e w9 ⟨rfl, m9⟩; have M9 : Mv w [] w9 (H8 ++ RR) := Mv.call (H := []) (H' := []) K8.out.2 m9; have M9' : Mv w [] w9 (H1 ++ (H' ++ HB)) := M9.sub (fun g => by rw [← hRR]; simp only [cnt_append, cnt_cons]; omega) (fun c hc => by rw [← hRR]; simp only [List.mem_append, List.mem_cons] at hc ⊢; grind); have cv := (RowH.cell K3.out.1 M9'.sat.left rfl 0 (by decide)).1; simp only [cellsB, List.map_cons, List.getElem?_cons_zero] at cv; have K9 := Lib.hid M9'.drop; clear m9 M9 M9'))
      go_roundg (1 + r - (k + 1))
      case measure => omega
      case rel => exact ⟨k + 1, by omega, rfl, by push_cast; rfl, m', H', K3.out.2.1, K3.out.2.2.1.trans KM.out.2.1, K9.out⟩
    · have d1 : decide ((k : Int) < 1 + (r : Int)) = false := by simp; omega
      have BK : Hid (Calls Try.prog 16 #[.pointer (some ⟨d.bb, 0, none⟩), .int .i64 0] wr fun e w' => ∃ a c a' c', e = .returned (.agg #[.int .i64 0, .slice a 0 c, .slice a' 0 c']) ∧ Mv wr [] w' []) := Lib.hid (by
        have hs : Sat wr H := by rw [← hHB]; exact KM.out.2.2.sat.right
        refine (block_any d _ H wr KB.out hs 0).mono ?_
        rintro e w4 ⟨vp', vb', Hp, Hb, rfl, r1, r2, m4⟩
        obtain ⟨s1, s2, s3⟩ := stOf_new p q 9 0
        rw [s1] at r1
        rw [s2] at r2
        rw [s3]
        obtain ⟨a, c, rfl⟩ := r1.slice
        obtain ⟨a', c', rfl⟩ := RowH.slice r2
        exact ⟨a, c, a', c', rfl, m4.sub (fun g => by rw [cnt_nil]; omega) (fun c hc => by cases hc)⟩)
      have hfd : ∀ (a : Option Addr) (c : Nat) (a' : Option Addr) (c' : Nat) (W : World), (Instr.field 45 (.agg #[.int .i64 0, .slice a 0 c, .slice a' 0 c']) 1).run Try.prog W = .ok (.slice a 0 c) W := fun _ _ _ _ _ => by kernel_rfl
      go_wp2_with (go_at_call 16; refine BK.out.mono ?_; rintro e w4 ⟨a, c, a', c', rfl, m4⟩; have K4 := Lib.hid (Mv.call (H := []) KM.out.2.2 m4); clear m4)
      go_ret
      exact ⟨rfl, K4.out.below0⟩
end Go.Proofs.Ytnpoakabheeoeaa
