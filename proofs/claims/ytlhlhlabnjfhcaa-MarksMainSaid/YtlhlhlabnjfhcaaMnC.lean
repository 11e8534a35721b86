/- marks: COD's bytes. -/
import Derived.Test.YtlhlhlabnjfhcaaMnB
namespace Go.Proofs.Ytlhlhlabnjfhcaa
open Go.RowKit

theorem puts_pack (L0 : List UInt8) (k : Nat) (kk : Int) (ns ns' : List Int) (hk : (k : Int) = kk) (hns : ns' = ns) (h1 : 1 ≤ k) (h8 : k ≤ 8) (hl : L0.length ≤ 1000000) (hn : ns.length ≤ 100000) (hne : ns ≠ []) :
    ∃ L, L0 ++ putsB k ns = L ∧ L.length = L0.length + k * ns.length ∧ Hid (∀ (v nv : Value) (W : World), BV W v L0 → RdI W nv ns' → Calls Try.prog 33 #[v, .int .i64 kk, nv] W fun e w' => ∃ v', e = .returned v' ∧ w'.ownsRow W.heap.size 5 1 v' L.length (cellsB L) ∧ Below W.heap.size W w') := by
  subst hk hns
  exact ⟨_, rfl, by rw [List.length_append, putsB_length], Lib.hid fun v nv W h h2 => puts_any v nv L0 k ns' W h h2 h1 h8 hl hn hne⟩

def codM (p : ParD) : List UInt8 := putsB 1 [1 + flagI p.sop 2 + flagI p.eph 4, p.order] ++ putsB 2 [p.layers] ++ putsB 1 [flagI p.rct 1, p.lv, p.cbw - 2, p.cbh - 2, p.style, 1] ++ (List.replicate (p.lv + 1).toNat (putsB 1 [17 * p.prec])).flatten

theorem flagI_bd (b : Bool) (n : Int) (h : 0 ≤ n) : 0 ≤ flagI b n ∧ flagI b n ≤ n := by unfold flagI; split <;> omega

set_option maxRecDepth 100000 in
set_option maxHeartbeats 4000000 in
theorem coding_any (m : ImgD) (v : Value) (p : ParD) (cv : Value) (w : World) (hv : ∃ a n c, v = .slice a n c) (hc : ∃ a n c, cv = .slice a n c) (l0 : 0 ≤ p.lv) (l5 : p.lv ≤ 5) (b0 : 0 ≤ p.cbw) (b1 : p.cbw ≤ 100) (b2 : 0 ≤ p.cbh) (b3 : p.cbh ≤ 100) (b4 : 0 ≤ p.prec) (b5 : p.prec ≤ 100) :
    Calls Try.prog 36 #[.agg (headA m v p cv)] w fun e w' => ∃ v', e = .returned v' ∧ w'.ownsRow w.heap.size 5 1 v' (codM p).length (cellsB (codM p)) ∧ Below w.heap.size w w' := by
  obtain ⟨va, vn, vc, rfl⟩ := hv
  obtain ⟨ca, cn, cc, rfl⟩ := hc
  unfold headA
  go_enter Try.func36, Try.ntmps36
  go_upto_region 1 with fail
  obtain ⟨wA, hwA⟩ : ∃ wA, wA = w.alloc (.cells (headA m (.slice va vn vc) p (.slice ca cn cc)) 33) := ⟨_, rfl⟩
  have hh : Blk wA w.heap.size 33 (headA m (.slice va vn vc) p (.slice ca cn cc)) := by rw [hwA]; exact Blk.new _ _ _
  have hBA : Below w.heap.size w wA := by rw [hwA]; exact (Below.refl _ _).alloc (Nat.le_refl _) _
  have hsA : wA.heap.size = w.heap.size + 1 := by rw [hwA]; simp
  unfold headA at hwA
  simp only [← hwA]
  clear hwA
  have c15 : wA.cell? ⟨w.heap.size, 15, none⟩ = some (.bool p.sop) := hh.cell 15
  have c16 : wA.cell? ⟨w.heap.size, 16, none⟩ = some (.bool p.eph) := hh.cell 16
  have c12 : wA.cell? ⟨w.heap.size, 12, none⟩ = some (.int .i64 p.order) := hh.cell 12
  have sf : w.heap.size < wA.heap.size := by omega
  have HH := Lib.hid (And.intro hh hBA)
  have HS := Lib.hid hsA
  clear hh hBA hsA
  have F1 := Lib.hid fun W => flag_any p.sop 2 W
  have F2 := Lib.hid fun W => flag_any p.eph 4 W
  have F3 := Lib.hid fun W => flag_any p.rct 1 W
  have HC : Hid (codM p = putsB 1 [1 + flagI p.sop 2 + flagI p.eph 4, p.order] ++ putsB 2 [p.layers] ++ putsB 1 [flagI p.rct 1, p.lv, p.cbw - 2, p.cbh - 2, p.style, 1] ++ (List.replicate (p.lv + 1).toNat (putsB 1 [17 * p.prec])).flatten) := Lib.hid rfl
  obtain ⟨g1, g2⟩ := flagI_bd p.sop 2 (by decide)
  obtain ⟨g3, g4⟩ := flagI_bd p.eph 4 (by decide)
  generalize flagI p.sop 2 = f1 at *
  generalize flagI p.eph 4 = f2 at *
  generalize flagI p.rct 1 = f3 at *
  obtain ⟨CM, hCM⟩ : ∃ C, codM p = C := ⟨_, rfl⟩
  rw [hCM] at HC
  have HM := Lib.hid hCM
  clear hCM
  obtain ⟨L1, e1, l1, PA⟩ := puts_pack [] 1 1 [1 + f1 + f2, p.order] [IntKind.i64.wrap (IntKind.i64.wrap (1 + f1) + f2), p.order] rfl (by rw [IntWalk.i64_in (1 + f1) (by omega), IntWalk.i64_in _ (by omega)]) (by decide) (by decide) (by simp) (by simp) (by simp)
  obtain ⟨L2, e2, l2, PB⟩ := puts_pack L1 2 2 [p.layers] [p.layers] rfl rfl (by decide) (by decide) (by simp at l1; omega) (by simp) (by simp)
  obtain ⟨L3, e3, l3, PC⟩ := puts_pack L2 1 1 [f3, p.lv, p.cbw - 2, p.cbh - 2, p.style, 1] [f3, p.lv, IntKind.i64.wrap (p.cbw - 2), IntKind.i64.wrap (p.cbh - 2), p.style, 1] rfl (by rw [IntWalk.i64_in (p.cbw - 2) (by omega), IntWalk.i64_in (p.cbh - 2) (by omega)]) (by decide) (by decide) (by simp at l1 l2; omega) (by simp) (by simp)
  have hl3 : L3.length ≤ 1000 := by simp at l1 l2 l3; omega
  replace HC : Hid (CM = L3 ++ (List.replicate (p.lv + 1).toNat (putsB 1 [17 * p.prec])).flatten) := Lib.hid (by rw [HC.out, ← e3, ← e2, ← e1]; rfl)
  clear e1 e2 e3 l1 l2 l3
  go_cut [3] from 4 (fun s3 wx => wx.ownsRow wA.heap.size 5 1 s3 L1.length (cellsB L1) ∧ Below wA.heap.size wA wx)
  case first =>
    go_region_held3 (fun w' => w'.cell? ⟨w.heap.size, 15, none⟩ = some (.bool p.sop) ∧ w'.cell? ⟨w.heap.size, 16, none⟩ = some (.bool p.eph) ∧ w'.cell? ⟨w.heap.size, 12, none⟩ = some (.int .i64 p.order))
      (first | (refine (fun HB : Below wA.heap.size wA _ => ⟨bcellC HB c15 sf, bcellC HB c16 sf, bcellC HB c12 sf⟩) ?_; repeat (first | exact HB3 | exact Below.refl _ _ | refine Below.drew ?_ | refine Below.alloc ?_ (Nat.le_refl _) _)))
      (first
        | (go_at_call 56; (with_reducible refine (F1.out _).mono ?_); rintro e w' ⟨rfl, rfl⟩)
        | (go_at_call 56; (with_reducible refine (F2.out _).mono ?_); rintro e w' ⟨rfl, rfl⟩)
        | (go_at_call 33; (with_reducible refine (PA.out _ _ _ ?_ ?_).mono ?_); exact BV.nil_ _; (first | exact RdI.litD wA [_, p.order] (by simp [maxLen]) | exact RdI.lit wA [_, p.order] (by simp [maxLen])); rintro e w3 ⟨v3, rfl, ho3, hB3'⟩; have HB3 : Below wA.heap.size wA w3 := (by first | exact (((Below.refl _ _).alloc (Nat.le_refl _) _).drew).trans (hB3'.mono (by simp)) | exact ((Below.refl _ _).alloc (Nat.le_refl _) _).trans (hB3'.mono (by simp))); obtain ⟨a6, p6, rfl⟩ := owns_slice ho3; have HO3 := Lib.hid ho3))
    all_goals
      go_wp2_with fail
      go_meet
      exact ⟨owns_base HO3.out (by simp), by first | exact HB3 | exact HB3.drew⟩
  obtain ⟨w1, rfl⟩ : ∃ w1 : World, w1 = wc := ⟨_, rfl⟩
  obtain ⟨ho1, hB1⟩ := hcut
  obtain ⟨a3, q3, rfl⟩ := owns_slice ho1
  obtain ⟨hh, hBA⟩ := HH.out
  have hh1 := hh.below hB1 hh.lt
  have hw1 := hBA.trans (hB1.mono hBA.size)
  have hs1 := hB1.size
  have sf1 := hh1.lt
  have HBV := Lib.hid (BV.of_owns ho1)
  have HX := Lib.hid (And.intro hh1 (And.intro hw1 (And.intro hB1 ho1)))
  have c13 : w1.cell? ⟨w.heap.size, 13, none⟩ = some (.int .i64 p.layers) := hh1.cell 13
  have c14 : w1.cell? ⟨w.heap.size, 14, none⟩ = some (.bool p.rct) := hh1.cell 14
  have c7 : w1.cell? ⟨w.heap.size, 7, none⟩ = some (.int .i64 p.lv) := hh1.cell 7
  have c8 : w1.cell? ⟨w.heap.size, 8, none⟩ = some (.int .i64 p.cbw) := hh1.cell 8
  have c9 : w1.cell? ⟨w.heap.size, 9, none⟩ = some (.int .i64 p.cbh) := hh1.cell 9
  have c11 : w1.cell? ⟨w.heap.size, 11, none⟩ = some (.int .i64 p.style) := hh1.cell 11
  clear hh hBA HH c15 c16 c12 PA sf F1 F2 hh1 hw1 hB1 ho1
  go_upto_region 2 with fail
  go_cut [3] from 19 (fun s3 wx => wx.ownsRow w1.heap.size 5 1 s3 L3.length (cellsB L3) ∧ Below w1.heap.size w1 wx)
  case first =>
    go_region_held3 (fun w' => w'.cell? ⟨w.heap.size, 13, none⟩ = some (.int .i64 p.layers) ∧ w'.cell? ⟨w.heap.size, 14, none⟩ = some (.bool p.rct) ∧ w'.cell? ⟨w.heap.size, 7, none⟩ = some (.int .i64 p.lv) ∧ w'.cell? ⟨w.heap.size, 8, none⟩ = some (.int .i64 p.cbw) ∧ w'.cell? ⟨w.heap.size, 9, none⟩ = some (.int .i64 p.cbh) ∧ w'.cell? ⟨w.heap.size, 11, none⟩ = some (.int .i64 p.style))
      (first | (refine (fun HB : Below w1.heap.size w1 _ => ⟨bcellC HB c13 sf1, bcellC HB c14 sf1, bcellC HB c7 sf1, bcellC HB c8 sf1, bcellC HB c9 sf1, bcellC HB c11 sf1⟩) ?_; repeat (first | exact HB4 | exact HB3 | exact Below.refl _ _ | refine Below.drew ?_ | refine Below.alloc ?_ (Nat.le_refl _) _ | refine Below.alloc ?_ (by simp) _ | refine Below.alloc ?_ HB3.size _)))
      (first
        | (go_at_call 56; (with_reducible refine (F3.out _).mono ?_); rintro e w' ⟨rfl, rfl⟩)
        | (go_at_call 33; (with_reducible refine (PC.out _ _ _ ?_ ?_).mono ?_); exact HO3.out.keep ((Below.refl _ _).alloc (Nat.le_refl _) _); exact RdI.lit w3 [f3, p.lv, _, _, p.style, 1] (by simp [maxLen]); rintro e w4 ⟨v4, rfl, ho4, hB4'⟩; have HB4 : Below w1.heap.size w1 w4 := (HB3.alloc HB3.size _).trans (hB4'.mono (by have := HB3.size; simp; omega)); obtain ⟨a7, p7, rfl⟩ := owns_slice ho4; have HO4 := Lib.hid ho4)
        | (go_at_call 33; (with_reducible refine (PB.out _ _ _ ?_ ?_).mono ?_); exact HBV.out.keep (((Below.refl _ _).alloc (Nat.le_refl _) _).drew); exact RdI.litD w1 [p.layers] (by simp [maxLen]); rintro e w3 ⟨v3, rfl, ho3, hB3'⟩; have HB3 : Below w1.heap.size w1 w3 := (by first | exact (((Below.refl _ _).alloc (Nat.le_refl _) _).drew).trans (hB3'.mono (by simp)) | exact ((Below.refl _ _).alloc (Nat.le_refl _) _).trans (hB3'.mono (by simp))); have HO3 := Lib.hid (BV.of_owns (l := L2) ho3); obtain ⟨a6, p6, rfl⟩ := owns_slice ho3))
    all_goals
      go_wp2_with fail
      go_meet
      exact ⟨owns_base HO4.out (by have := HB3.size; simp; omega), by first | exact HB4 | exact HB4.drew⟩
  obtain ⟨w2, rfl⟩ : ∃ w2 : World, w2 = wc := ⟨_, rfl⟩
  obtain ⟨ho2, hB2⟩ := hcut
  obtain ⟨hh1, hw1, hB1, -⟩ := HX.out
  have hh2 := hh1.below hB2 hh1.lt
  have hw2 := hw1.trans (hB2.mono hw1.size)
  have ho2' := owns_base (B' := wA.heap.size) ho2 hs1
  have HAS := Lib.hid (Nat.le_trans hs1 hB2.size)
  obtain ⟨a8, q8, rfl⟩ := owns_slice ho2
  clear HX c13 c14 c7 c8 c9 c11 PB PC HBV sf1 F3 ho2 hB2 hw1 hB1 hh1
  have c7 : w2.cell? ⟨w.heap.size, 7, none⟩ = some (.int .i64 p.lv) := hh2.cell 7
  have c10 : w2.cell? ⟨w.heap.size, 10, none⟩ = some (.int .i64 p.prec) := hh2.cell 10
  have sf2 := hh2.lt
  obtain ⟨n, hn⟩ := Int.eq_ofNat_of_zero_le (show 0 ≤ p.lv + 1 by omega)
  have hn6 : n ≤ 6 := by omega
  have HN := Lib.hid hn
  have w9 : IntKind.i64.wrap (p.lv + 1) = (n : Int) := by rw [IntWalk.i64_in _ (by omega), hn]
  have HH := Lib.hid (And.intro hh2 (And.intro hw2 ho2'))
  clear hh2 hw2 ho2' hn
  have w10 : IntKind.i64.wrap (17 * p.prec) = 17 * p.prec := IntWalk.i64_in _ (by omega)
  have w11 : Hid (putsB 1 [17 * p.prec] = putsB 1 [IntKind.i64.wrap (17 * p.prec)]) := Lib.hid (by rw [w10])
  obtain ⟨Q, hQ, hQl⟩ : ∃ Q, putsB 1 [17 * p.prec] = Q ∧ Q.length = 1 := ⟨_, rfl, by rw [putsB_length]; rfl⟩
  replace HC : Hid (CM = L3 ++ (List.replicate n Q).flatten) := Lib.hid (by rw [HC.out, hQ, HN.out]; rfl)
  have hj : ∀ j : Nat, (List.replicate j Q).flatten.length = j := by
    intro j
    induction j with
    | zero => rfl
    | succ j ih => rw [List.replicate_succ, List.flatten_cons, List.length_append, ih, hQl]; omega
  have HQ := Lib.hid (And.intro hQ hj)
  clear w9 w10 hQ hQl hj
  go_wp2_with fail
  go_loopg [3, 49] n (fun g s3 s49 wx => ∃ j : Nat, j ≤ n ∧ g = n - j ∧ s49 = .int .i64 j ∧ wx.ownsRow wA.heap.size 5 1 s3 (L3 ++ (List.replicate j Q).flatten).length (cellsB (L3 ++ (List.replicate j Q).flatten)) ∧ Below w2.heap.size w2 wx)
  case atStart => exact ⟨0, Nat.zero_le _, rfl, rfl, by simpa using HH.out.2.2, Below.refl _ _⟩
  case round =>
    obtain ⟨wy, rfl⟩ : ∃ wy : World, wy = wr := ⟨_, rfl⟩
    obtain ⟨j, hj, rfl, rfl, hown, hB⟩ := hrel
    by_cases hjl : j < n
    · have hlt : decide ((j : Int) < p.lv + 1) = true := by have := HN.out; simp; omega
      have d10 := bcellC hB c10 sf2
      have hlen : (L3 ++ (List.replicate j Q).flatten).length ≤ 2000 := by rw [List.length_append, HQ.out.2]; omega
      have e2 : L3 ++ (List.replicate (j + 1) Q).flatten = (L3 ++ (List.replicate j Q).flatten) ++ putsB 1 [17 * p.prec] := by rw [HQ.out.1, List.replicate_succ', List.flatten_append]; simp
      generalize L3 ++ (List.replicate j Q).flatten = L5 at *
      obtain ⟨L6, e6, -, PC⟩ := puts_pack L5 1 1 [17 * p.prec] [17 * p.prec] rfl rfl (by decide) (by decide) (by omega) (by simp) (by simp)
      rw [e6] at e2
      have hbv := Lib.hid (BV.of_owns hown)
      obtain ⟨a5, p5, rfl⟩ := owns_slice hown
      have E2 := Lib.hid e2
      have HB := Lib.hid hB
      clear e2 e6 hown hB
      go_wp2_with (go_at_call 33; (with_reducible refine (PC.out _ _ _ ?_ ?_).mono ?_); exact hbv.out.keep ((Below.refl _ _).alloc (Nat.le_refl _) _); exact RdI.lit wy [17 * p.prec] (by simp [maxLen]); rintro e w3 ⟨v3, rfl, ho3, hB3'⟩; have HB3 : Below wy.heap.size wy w3 := (((Below.refl _ _).alloc (Nat.le_refl _) _)).trans (hB3'.mono (by simp)); have HO3 := Lib.hid ho3; obtain ⟨a6, p6, rfl⟩ := owns_slice ho3)
      go_roundg (n - (j + 1))
      case measure => omega
      case rel =>
        refine ⟨j + 1, by omega, rfl, by go_num, ?_, HB.out.trans (HB3.mono HB.out.size)⟩
        rw [E2.out]
        exact owns_base HO3.out (by have h1 := HB.out.size; have h2 := HAS.out; simp; omega)
    · obtain rfl : j = n := by omega
      have hlt : decide ((j : Int) < p.lv + 1) = false := by have := HN.out; simp; omega
      rw [← HC.out] at hown
      have HO := Lib.hid (And.intro hown hB)
      obtain ⟨a5, p5, rfl⟩ := owns_slice hown
      clear hown hB
      go_wp2_with fail
      go_ret
      have hsz : w.heap.size ≤ wA.heap.size := by rw [HS.out]; exact Nat.le_succ _
      exact ⟨.slice a5 CM.length p5, rfl, by rw [HM.out]; exact owns_base HO.out.1 hsz, HH.out.2.1.trans (HO.out.2.mono HH.out.2.1.size)⟩
end Go.Proofs.Ytlhlhlabnjfhcaa
