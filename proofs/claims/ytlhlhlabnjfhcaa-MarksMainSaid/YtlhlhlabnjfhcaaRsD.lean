/- waveletref17: ways; the law's ToRef. -/
import Derived.Test.YtlhlhlabnjfhcaaRsC
namespace Go.Proofs.Ytlhlhlabnjfhcaa
open Go.RowKit

theorem BV.six (w : World) (x1 x2 x3 x4 x5 x6 : UInt8) (g : Nat) (hg : g = w.heap.size) : BV (w.alloc (.cells #[.int .u8 (x1.toNat : Int), .int .u8 (x2.toNat : Int), .int .u8 (x3.toNat : Int), .int .u8 (x4.toNat : Int), .int .u8 (x5.toNat : Int), .int .u8 (x6.toNat : Int)] 5)) (.slice (some ⟨g, 0, none⟩) 6 6) [x1, x2, x3, x4, x5, x6] :=
  BV.of_owns (B := 0) (e := 5) (own_lit w #[.int .u8 (x1.toNat : Int), .int .u8 (x2.toNat : Int), .int .u8 (x3.toNat : Int), .int .u8 (x4.toNat : Int), .int .u8 (x5.toNat : Int), .int .u8 (x6.toNat : Int)] 5 6 g rfl hg (Nat.zero_le _) (by decide))

set_option maxRecDepth 100000 in
set_option maxHeartbeats 4000000 in
theorem rways_any (p : ParD) (w : World) (hc : CodFit p) :
    Calls Try.prog 24 #[parV p] w fun e w' => ∃ v', e = .returned v' ∧ w'.ownsRow w.heap.size 5 1 v' (codM p).length (cellsB (codM p)) ∧ Below w.heap.size w w' := by
  obtain ⟨k1, k2, k3, k4, k5, k6, k7, k8⟩ := hc
  have F1 := Lib.hid fun W => rbit_any p.sop W
  have F2 := Lib.hid fun W => rbit_any p.eph W
  have F3 := Lib.hid fun W => rbit_any p.rct W
  obtain ⟨g1, g2⟩ := flagI_bd p.sop 1 (by decide)
  obtain ⟨g3, g4⟩ := flagI_bd p.eph 1 (by decide)
  obtain ⟨g5, g6⟩ := flagI_bd p.rct 1 (by decide)
  have E1 : flagI p.sop 2 = 2 * flagI p.sop 1 := by unfold flagI; cases p.sop <;> rfl
  have E2 : flagI p.eph 4 = 4 * flagI p.eph 1 := by unfold flagI; cases p.eph <;> rfl
  have HC : Hid (codM p = putsB 1 [1 + 2 * flagI p.sop 1 + 4 * flagI p.eph 1, p.order] ++ putsB 2 [p.layers] ++ putsB 1 [flagI p.rct 1, p.lv, p.cbw - 2, p.cbh - 2, p.style, 1] ++ (List.replicate (p.lv + 1).toNat (putsB 1 [17 * p.prec])).flatten) := Lib.hid (by rw [← E1, ← E2]; rfl)
  clear E1 E2
  generalize flagI p.sop 1 = f1 at *
  generalize flagI p.eph 1 = f2 at *
  generalize flagI p.rct 1 = f3 at *
  obtain ⟨CM, hCM⟩ : ∃ C, codM p = C := ⟨_, rfl⟩
  rw [hCM] at HC
  have HM := Lib.hid hCM
  clear hCM
  obtain ⟨b1, e1, x1⟩ := byte_of (1 + 2 * f1 + 4 * f2) (by omega)
  obtain ⟨b2, e2, x2⟩ := byte_of p.order k6
  obtain ⟨b3, e3, x3⟩ := byte_of f3 (by omega)
  obtain ⟨b4, e4, x4⟩ := byte_of p.lv k1
  obtain ⟨b5, e5, x5⟩ := byte_of (p.cbw - 2) (by omega)
  obtain ⟨b6, e6, x6⟩ := byte_of (p.cbh - 2) (by omega)
  obtain ⟨b7, e7, x7⟩ := byte_of p.style (by omega)
  obtain ⟨b8, e8, x8⟩ := byte_of (17 * p.prec) (by omega)
  have e9 : putB 1 1 = [1] := by rw [putB_1 1 (by decide)]; rfl
  replace HC : Hid (CM = (([b1, b2] ++ putB 2 p.layers) ++ [b3, b4, b5, b6, b7, 1]) ++ List.replicate (p.lv + 1).toNat b8) := Lib.hid (by
    rw [HC.out]
    simp only [putsB, List.flatMap_cons, List.flatMap_nil, List.append_nil, e1, e2, e3, e4, e5, e6, e7, e8, e9]
    rw [List.flatten_replicate_singleton]
    simp)
  clear e1 e2 e3 e4 e5 e6 e7 e8 e9
  have y1 : IntKind.i64.wrap (2 * f1) = 2 * f1 := IntWalk.i64_in _ (by omega)
  have y2 : IntKind.i64.wrap (1 + 2 * f1) = 1 + 2 * f1 := IntWalk.i64_in _ (by omega)
  have y3 : IntKind.i64.wrap (4 * f2) = 4 * f2 := IntWalk.i64_in _ (by omega)
  have y4 : IntKind.i64.wrap (1 + 2 * f1 + 4 * f2) = 1 + 2 * f1 + 4 * f2 := IntWalk.i64_in _ (by omega)
  have y5 : IntKind.i64.wrap (p.cbw - 2) = p.cbw - 2 := IntWalk.i64_in _ (by omega)
  have y6 : IntKind.i64.wrap (p.cbh - 2) = p.cbh - 2 := IntWalk.i64_in _ (by omega)
  have y7 : IntKind.i64.wrap (17 * p.prec) = 17 * p.prec := IntWalk.i64_in _ (by omega)
  unfold parV
  go_enter Try.func24, Try.ntmps24
  go_upto_region 1 with fail
  obtain ⟨wA, hwA⟩ : ∃ wA, wA = w.alloc (.cells #[.int .i64 p.tx, .int .i64 p.ty, .int .i64 p.lv, .int .i64 p.cbw, .int .i64 p.cbh, .int .i64 p.prec, .int .i64 p.style, .int .i64 p.order, .int .i64 p.layers, .bool p.rct, .bool p.sop, .bool p.eph] 31) := ⟨_, rfl⟩
  have hp : Blk wA w.heap.size 31 #[.int .i64 p.tx, .int .i64 p.ty, .int .i64 p.lv, .int .i64 p.cbw, .int .i64 p.cbh, .int .i64 p.prec, .int .i64 p.style, .int .i64 p.order, .int .i64 p.layers, .bool p.rct, .bool p.sop, .bool p.eph] := by rw [hwA]; exact Blk.new _ _ _
  have hBA : Below w.heap.size w wA := by rw [hwA]; exact (Below.refl _ _).alloc (Nat.le_refl _) _
  have sf : w.heap.size < wA.heap.size := by rw [hwA]; simp
  simp only [← hwA]
  clear hwA
  have c10 : wA.cell? ⟨w.heap.size, 10, none⟩ = some (.bool p.sop) := hp.cell 10
  have c11 : wA.cell? ⟨w.heap.size, 11, none⟩ = some (.bool p.eph) := hp.cell 11
  have c7 : wA.cell? ⟨w.heap.size, 7, none⟩ = some (.int .i64 p.order) := hp.cell 7
  have HP := Lib.hid (And.intro hp hBA)
  clear hp hBA
  go_cut [3] from 5 (fun s3 wx => wx.ownsRow wA.heap.size 5 1 s3 2 (cellsB [b1, b2]) ∧ Below wA.heap.size wA wx)
  case first =>
    go_region_held3 (fun w' => w'.cell? ⟨w.heap.size, 10, none⟩ = some (.bool p.sop) ∧ w'.cell? ⟨w.heap.size, 11, none⟩ = some (.bool p.eph) ∧ w'.cell? ⟨w.heap.size, 7, none⟩ = some (.int .i64 p.order))
      (first | (refine (fun HB : Below wA.heap.size wA _ => ⟨bcellC HB c10 sf, bcellC HB c11 sf, bcellC HB c7 sf⟩) ?_; repeat (first | exact Below.refl _ _ | refine Below.drew ?_ | refine Below.alloc ?_ (Nat.le_refl _) _)))
      (first | (go_at_call 43; (with_reducible refine (F1.out _).mono ?_); rintro e w' ⟨rfl, rfl⟩) | (go_at_call 43; (with_reducible refine (F2.out _).mono ?_); rintro e w' ⟨rfl, rfl⟩))
    all_goals
      go_wp2_with fail
      go_meet
      exact ⟨own_lit wA.drew #[.int .u8 (b1.toNat : Int), .int .u8 (b2.toNat : Int)] 5 2 _ rfl rfl (Nat.le_refl _) (by decide), (Below.refl _ _).drew.alloc (Nat.le_refl _) _⟩
  obtain ⟨w1, rfl⟩ : ∃ w1 : World, w1 = wc := ⟨_, rfl⟩
  obtain ⟨ho1, hB1⟩ := hcut
  obtain ⟨a1, q1, rfl⟩ := owns_slice ho1
  have c8 : w1.cell? ⟨w.heap.size, 8, none⟩ = some (.int .i64 p.layers) := bcellC hB1 (HP.out.1.cell 8) sf
  have P1 := Lib.hid (rput_any _ [b1, b2] 2 p.layers w1 wA.heap.size ho1 hB1.size (by decide) (by decide) (by simp))
  have HO1 := Lib.hid (And.intro ho1 hB1)
  clear c10 c11 c7 ho1 hB1 F1 F2
  obtain ⟨L2, hL2⟩ : ∃ L, [b1, b2] ++ putB 2 p.layers = L := ⟨_, rfl⟩
  rw [hL2] at P1 HC
  have hl2 : L2.length = 4 := by rw [← hL2]; simp [putB_length]
  rw [hl2] at P1
  have HL2 := Lib.hid hl2
  clear hL2 hl2
  go_upto_region 3 with (go_at_call 22; refine P1.out.mono ?_; rintro e w2 ⟨v2, rfl, ho2, he2⟩; obtain ⟨a2, q2, rfl⟩ := owns_slice ho2; have HO2 := Lib.hid (And.intro ho2 he2); clear ho2 he2)
  obtain ⟨ho2, he2⟩ := HO2.out
  have hB2 : Below wA.heap.size wA w2 := HO1.out.2.trans (he2.below HO1.out.1 HO1.out.2.size)
  have d9 : w2.cell? ⟨w.heap.size, 9, none⟩ = some (.bool p.rct) := bcellC hB2 (HP.out.1.cell 9) sf
  have d2 : w2.cell? ⟨w.heap.size, 2, none⟩ = some (.int .i64 p.lv) := bcellC hB2 (HP.out.1.cell 2) sf
  have d3 : w2.cell? ⟨w.heap.size, 3, none⟩ = some (.int .i64 p.cbw) := bcellC hB2 (HP.out.1.cell 3) sf
  have d4 : w2.cell? ⟨w.heap.size, 4, none⟩ = some (.int .i64 p.cbh) := bcellC hB2 (HP.out.1.cell 4) sf
  have d6 : w2.cell? ⟨w.heap.size, 6, none⟩ = some (.int .i64 p.style) := bcellC hB2 (HP.out.1.cell 6) sf
  have HB2 := Lib.hid hB2
  have HOA : Hid (w2.ownsRow wA.heap.size 5 1 (.slice a2 4 q2) L2.length (cellsB L2)) := Lib.hid (by rw [HL2.out]; exact ho2)
  have sf2 : w.heap.size < w2.heap.size := Nat.lt_of_lt_of_le sf hB2.size
  clear c8 P1 ho2 he2 hB2 HO2
  go_cut [3] from 24 (fun s3 wx => wx.ownsRow wA.heap.size 5 1 s3 10 (cellsB (L2 ++ [b3, b4, b5, b6, b7, 1])) ∧ Below wA.heap.size wA wx)
  case first =>
    go_region_held3 (fun w' => w'.cell? ⟨w.heap.size, 9, none⟩ = some (.bool p.rct) ∧ w'.cell? ⟨w.heap.size, 2, none⟩ = some (.int .i64 p.lv) ∧ w'.cell? ⟨w.heap.size, 3, none⟩ = some (.int .i64 p.cbw) ∧ w'.cell? ⟨w.heap.size, 4, none⟩ = some (.int .i64 p.cbh) ∧ w'.cell? ⟨w.heap.size, 6, none⟩ = some (.int .i64 p.style))
      (first | (refine (fun HB : Below wA.heap.size w2 _ => ⟨bcellC HB d9 sf, bcellC HB d2 sf, bcellC HB d3 sf, bcellC HB d4 sf, bcellC HB d6 sf⟩) ?_; repeat (first | exact HB8.out.2 | exact Below.refl _ _ | refine Below.drew ?_ | refine Below.alloc ?_ HB2.out.size _)))
      (first | (go_at_call 43; (with_reducible refine (F3.out _).mono ?_); rintro e w' ⟨rfl, rfl⟩) | ((with_reducible refine step_appE rfl (.tmp 24) (.tmp 43) rfl wA.heap.size (.slice a2 4 q2) L2 [b3, b4, b5, b6, b7, 1] ?_ ?_ (.slice (some ⟨w2.heap.size, 0, none⟩) 6 6) ?_ ?_ ?_ ?_ ?_); simp [Act.eval]; exact World.ownsRow.alloc HOA.out _; simp [Act.eval]; exact BV.six w2.drew b3 b4 b5 b6 b7 1 _ rfl; (rw [HL2.out]; simp); (have := HB2.out.size; simp; omega); intro v8 w8 ho8 he8; obtain ⟨a8, n8, q8, rfl⟩ := owns_isSlice ho8; have HB8 := Lib.hid (And.intro ho8 (((Below.refl wA.heap.size w2).drew.alloc HB2.out.size _).trans (he8.below (World.ownsRow.alloc HOA.out _) (by have := HB2.out.size; simp; omega)))); clear ho8 he8))
    all_goals
      go_wp2_with fail
      go_meet
      refine ⟨?_, HB2.out.trans (by first | exact HB8.out.2 | exact HB8.out.2.drew)⟩
      have h1 := HB8.out.1
      rw [List.length_append, HL2.out] at h1
      exact h1
  obtain ⟨w3, rfl⟩ : ∃ w3 : World, w3 = wc := ⟨_, rfl⟩
  obtain ⟨ho3, hB3⟩ := hcut
  obtain ⟨L3, hL3⟩ : ∃ L, L2 ++ [b3, b4, b5, b6, b7, 1] = L := ⟨_, rfl⟩
  have hl3 : L3.length = 10 := by rw [← hL3, List.length_append, HL2.out]; rfl
  rw [hL3] at ho3
  obtain ⟨n, hn⟩ := Int.eq_ofNat_of_zero_le k1.1
  have hn5 : n < 256 := by omega
  replace HC : Hid (CM = L3 ++ List.replicate (n + 1) b8) := Lib.hid (by
    have h1 := HC.out
    rw [hL3, hn] at h1
    exact h1)
  have HN := Lib.hid hn
  have HL3 := Lib.hid hl3
  have HO3 := Lib.hid (And.intro ho3 hB3)
  obtain ⟨a3, q3, rfl⟩ := owns_slice ho3
  clear hL3 hl3 hn ho3 hB3 HOA HB2 HO1 d9 d2 d3 d4 d6 F3 x1 x2 x3 x4 x5 x6 x7 y1 y2 y3 y4 y5 y6
  go_wp2_with fail
  go_loopg [3, 4] (n + 1) (fun g s3 s4 wx => ∃ j : Nat, j ≤ n + 1 ∧ g = n + 1 - j ∧ s4 = .int .i64 j ∧ wx.ownsRow wA.heap.size 5 1 s3 (10 + j) (cellsB (L3 ++ List.replicate j b8)) ∧ Below wA.heap.size wA wx)
  case atStart => exact ⟨0, Nat.zero_le _, rfl, rfl, by simpa using HO3.out.1, HO3.out.2⟩
  case round =>
    obtain ⟨wy, rfl⟩ : ∃ wy : World, wy = wr := ⟨_, rfl⟩
    obtain ⟨j, hj, rfl, rfl, hown, hB⟩ := hrel
    obtain ⟨xa, xc, rfl⟩ := owns_slice hown
    have q2 : wy.cell? ⟨w.heap.size, 2, none⟩ = some (.int .i64 p.lv) := bcellC hB (HP.out.1.cell 2) sf
    have q5 : wy.cell? ⟨w.heap.size, 5, none⟩ = some (.int .i64 p.prec) := bcellC hB (HP.out.1.cell 5) sf
    by_cases hjl : j < n + 1
    · have hlt : decide ((j : Int) ≤ p.lv) = true := by have := HN.out; simp; omega
      have e1 : L3 ++ List.replicate (j + 1) b8 = (L3 ++ List.replicate j b8) ++ [b8] := by rw [List.replicate_succ', List.append_assoc]
      have hl1 : (L3 ++ List.replicate j b8).length = 10 + j := by rw [List.length_append, HL3.out]; simp
      generalize L3 ++ List.replicate j b8 = L at *
      have HO : Hid (wy.ownsRow wA.heap.size 5 1 (.slice xa (10 + j) xc) L.length (cellsB L)) := Lib.hid (by rw [hl1]; exact hown)
      have HB := Lib.hid hB
      have HE := Lib.hid e1
      have HL := Lib.hid hl1
      clear hown hB e1 hl1
      go_wp2_with (at_builtin; go_must (refine wpList_appE rfl (.tmp 51) (.tmp 56) rfl wA.heap.size _ L [b8] rfl (World.ownsRow.alloc HO.out _) _ rfl (BV.one wy b8 _ rfl) (by rw [HL.out]; simp; omega) (by have := HB.out.size; simp; omega) ?_; intro v8 w8 ho8 he8; have hb8 := he8.below (World.ownsRow.alloc HO.out _) (by have := HB.out.size; simp; omega); rw [← HE.out] at ho8; obtain ⟨a8, n8, c8, rfl⟩ := owns_isSlice ho8; have H8 := Lib.hid (And.intro ho8 ((HB.out.alloc HB.out.size _).trans hb8)); clear ho8 he8 hb8))
      go_roundg (n + 1 - (j + 1))
      case measure => omega
      case rel =>
        refine ⟨j + 1, by omega, rfl, by go_num, ?_, H8.out.2⟩
        have hl : (L3 ++ List.replicate (j + 1) b8).length = 10 + (j + 1) := by rw [List.length_append, HL3.out]; simp
        rw [← hl]
        exact H8.out.1
    · obtain rfl : j = n + 1 := by omega
      have hlt : decide (((n + 1 : Nat) : Int) ≤ p.lv) = false := by have := HN.out; simp; omega
      have hlt2 : decide ((n : Int) + 1 ≤ p.lv) = false := by have := HN.out; simp; omega
      have HO := Lib.hid (And.intro hown hB)
      clear hown hB
      go_wp2_with fail
      go_ret
      refine ⟨_, rfl, ?_, HP.out.2.trans (HO.out.2.mono HP.out.2.size)⟩
      have hl : CM.length = 10 + (n + 1) := by rw [HC.out, List.length_append, HL3.out]; simp
      rw [HM.out, hl, HC.out]
      exact owns_base HO.out.1 HP.out.2.size

set_option maxRecDepth 100000 in
set_option maxHeartbeats 2000000 in
theorem toref_any (m : ImgD) (v : Value) (p : ParD) (cv : Value) (w : World) (hv : ∃ a n c, v = .slice a n c) (hc : ∃ a n c, cv = .slice a n c) :
    Calls Try.prog 14 #[.agg (headA m v p cv)] w fun e w' => e = .returned (.agg (headA m v p cv)) ∧ Below w.heap.size w w' := by
  obtain ⟨va, vn, vc, rfl⟩ := hv
  obtain ⟨ca, cn, cc, rfl⟩ := hc
  have h1c : (headA m (.slice va vn vc) p (.slice ca cn cc)).all (·.oneCell') = true := by simp [headA, Value.oneCell']
  have H1C := Lib.hid h1c
  clear h1c
  unfold headA
  go_enter Try.func14, Try.ntmps14
  go_upto_region 1 with fail
  obtain ⟨wA, hwA⟩ : ∃ wA, wA = (w.alloc (.cells (headA m (.slice va vn vc) p (.slice ca cn cc)) 33)).alloc (.cells (headA ⟨0, 0, 0, 0, []⟩ nilV zP nilV) 36) := ⟨_, rfl⟩
  have hh : Blk wA w.heap.size 33 (headA m (.slice va vn vc) p (.slice ca cn cc)) := by rw [hwA]; exact (Blk.new _ _ _).alloc _
  have hz : Blk wA (w.heap.size + 1) 36 (headA ⟨0, 0, 0, 0, []⟩ nilV zP nilV) := by rw [hwA]; exact Blk.snd _ _ _ _
  have hBA : Below w.heap.size w wA := by rw [hwA]; exact ((Below.refl _ _).alloc (Nat.le_refl _) _).alloc (by simp) _
  unfold headA nilV zP at hwA
  simp only [← hwA]
  clear hwA
  have HZ : Hid (wA.heap[w.heap.size + 1]? = some (.cells (headA ⟨0, 0, 0, 0, []⟩ nilV zP nilV) 36 (0, 0))) := hz
  have HB := Lib.hid (And.intro hBA (Blk.row hz (headA m (.slice va vn vc) p (.slice ca cn cc))))
  have a0 : wA.cell? ⟨w.heap.size, 0, none⟩ = some (.int .i64 m.x) := hh.cell 0
  have a1 : wA.cell? ⟨w.heap.size, 1, none⟩ = some (.int .i64 m.y) := hh.cell 1
  have a2 : wA.cell? ⟨w.heap.size, 2, none⟩ = some (.int .i64 m.ox) := hh.cell 2
  have a3 : wA.cell? ⟨w.heap.size, 3, none⟩ = some (.int .i64 m.oy) := hh.cell 3
  have a4 : wA.cell? ⟨w.heap.size, 4, none⟩ = some (.slice va vn vc) := hh.cell 4
  have a5 : wA.cell? ⟨w.heap.size, 5, none⟩ = some (.int .i64 p.tx) := hh.cell 5
  have a6 : wA.cell? ⟨w.heap.size, 6, none⟩ = some (.int .i64 p.ty) := hh.cell 6
  have a7 : wA.cell? ⟨w.heap.size, 7, none⟩ = some (.int .i64 p.lv) := hh.cell 7
  have a8 : wA.cell? ⟨w.heap.size, 8, none⟩ = some (.int .i64 p.cbw) := hh.cell 8
  have a9 : wA.cell? ⟨w.heap.size, 9, none⟩ = some (.int .i64 p.cbh) := hh.cell 9
  have a10 : wA.cell? ⟨w.heap.size, 10, none⟩ = some (.int .i64 p.prec) := hh.cell 10
  have a11 : wA.cell? ⟨w.heap.size, 11, none⟩ = some (.int .i64 p.style) := hh.cell 11
  have a12 : wA.cell? ⟨w.heap.size, 12, none⟩ = some (.int .i64 p.order) := hh.cell 12
  have a13 : wA.cell? ⟨w.heap.size, 13, none⟩ = some (.int .i64 p.layers) := hh.cell 13
  have a14 : wA.cell? ⟨w.heap.size, 14, none⟩ = some (.bool p.rct) := hh.cell 14
  have a15 : wA.cell? ⟨w.heap.size, 15, none⟩ = some (.bool p.sop) := hh.cell 15
  have a16 : wA.cell? ⟨w.heap.size, 16, none⟩ = some (.bool p.eph) := hh.cell 16
  have a17 : wA.cell? ⟨w.heap.size, 17, none⟩ = some (.slice ca cn cc) := hh.cell 17
  clear hh hz hBA
  iterate 22 go_step
  refine wpList_store_row rfl 36 (.tmp 2) (.tmp 9) rfl (w.heap.size + 1) (headA m (.slice va vn vc) p (.slice ca cn cc)) rfl rfl 36 (headA ⟨0, 0, 0, 0, []⟩ nilV zP nilV) HZ.out (by kernel_rfl) rfl H1C.out ?_
  obtain ⟨wB, hwB⟩ : ∃ wB, wB = wA.setRow (w.heap.size + 1) (headA m (.slice va vn vc) p (.slice ca cn cc)) := ⟨_, rfl⟩
  have HR : Hid (wB.heap[w.heap.size + 1]? = some (.cells (headA m (.slice va vn vc) p (.slice ca cn cc)) 36 (0, 0))) := Lib.hid (by rw [hwB]; exact HB.out.2)
  have HW : Hid (Below w.heap.size w wB) := Lib.hid (by rw [hwB]; exact below_row HB.out.1 (by omega) _)
  rw [← hwB]
  clear hwB a0 a1 a2 a3 a4 a5 a6 a7 a8 a9 a10 a11 a12 a13 a14 a15 a16 a17
  go_wp2_with fail
  exact bodyPost_ret (v := .agg (headA m (.slice va vn vc) p (.slice ca cn cc))) (results_cell_row Try.results14 _ _ (w.heap.size + 1) 36 _ (0, 0) _ rfl HR.out Try.underlying36 rfl (by kernel_rfl)) rfl ⟨rfl, HW.out⟩
end Go.Proofs.Ytlhlhlabnjfhcaa
