/- canvas: Frame. -/
import Derived.Test.YtlhlhlabnjfhcaaCvC
import Derived.Test.YtlhlhlabnjfhcaaMsC
import Derived.BigQuiet
namespace Go.Proofs.Ytlhlhlabnjfhcaa
open Go.RowKit

/-- what is wrong with a picture and params, but for samples -/
def frameE (m : ImgD) (p : ParD) : Int :=
  if picE m ≠ 0 then picE m else if (inB p.tx (m.ox + 1) 65536 && inB p.ty (m.oy + 1) 65536) = false then 1 else if 16 < ceilI m.x p.tx * ceilI m.y p.ty then 14 else
    if waysB p = false then 1 else if (p.rct && !alikeB m.cs) = true then 3 else 0

theorem picE_zero {m : ImgD} (h : picE m = 0) : 0 ≤ m.ox ∧ 0 ≤ m.oy ∧ m.ox < m.x ∧ m.oy < m.y ∧ m.x ≤ 64 ∧ m.y ≤ 64 ∧ 1 ≤ m.cs.length ∧ m.cs.length ≤ 4 ∧ m.cs.all compB = true := by
  unfold picE at h
  split at h
  · cases h
  · split at h
    · cases h
    · split at h
      · cases h
      · split at h
        · rename_i h1 h2 h3 h4
          have h5 : inB m.cs.length 1 4 = true := by simpa using h3
          unfold inB at h5
          simp at h5
          exact ⟨by omega, by omega, by omega, by omega, by omega, by omega, by omega, by omega, h4⟩
        · cases h

set_option maxRecDepth 100000 in
set_option maxHeartbeats 4000000 in
theorem frame_any (m : ImgD) (v : Value) (p : ParD) (w : World) (hv : CompsRd w v m.cs) (hl : m.cs.length ≤ 1000000000) : Calls Try.prog 32 #[imgV m v, parV p] w fun e w' => e = .returned (.int .i64 (frameE m p)) ∧ Below w.heap.size w w' := by
  have HV := Lib.hid hv
  obtain ⟨va, vc, rfl, -⟩ := hv
  obtain ⟨wA, hwA⟩ : ∃ wA, wA = (w.alloc (.cells #[.int .i64 m.x, .int .i64 m.y, .int .i64 m.ox, .int .i64 m.oy, .slice va m.cs.length vc] 29)).alloc (.cells #[.int .i64 p.tx, .int .i64 p.ty, .int .i64 p.lv, .int .i64 p.cbw, .int .i64 p.cbh, .int .i64 p.prec, .int .i64 p.style, .int .i64 p.order, .int .i64 p.layers, .bool p.rct, .bool p.sop, .bool p.eph] 31) := ⟨_, rfl⟩
  have hBA : Below w.heap.size w wA := by rw [hwA]; exact ((Below.refl _ _).alloc (Nat.le_refl _) _).alloc (by simp) _
  have hi : Blk wA w.heap.size 29 #[.int .i64 m.x, .int .i64 m.y, .int .i64 m.ox, .int .i64 m.oy, .slice va m.cs.length vc] := by rw [hwA]; exact (Blk.new _ _ _).alloc _
  have hp : Blk wA (w.heap.size + 1) 31 #[.int .i64 p.tx, .int .i64 p.ty, .int .i64 p.lv, .int .i64 p.cbw, .int .i64 p.cbh, .int .i64 p.prec, .int .i64 p.style, .int .i64 p.order, .int .i64 p.layers, .bool p.rct, .bool p.sop, .bool p.eph] := by rw [hwA]; exact Blk.snd _ _ _ _
  have HP := Lib.hid (picture_any m (.slice va m.cs.length vc) wA (HV.out.keep hBA))
  unfold imgV at HP
  have I0 := hi.cell 0
  have I1 := hi.cell 1
  have I2 := hi.cell 2
  have I3 := hi.cell 3
  have I4 := hi.cell 4
  simp only [List.getElem?_toArray, List.getElem?_cons_zero, List.getElem?_cons_succ] at I0 I1 I2 I3 I4
  have HA := Lib.hid (And.intro hi (And.intro hp hBA))
  clear hi hp hBA
  unfold imgV parV
  go_enter Try.func32, Try.ntmps32
  have HW := Lib.hid hwA
  clear hwA
  by_cases h0 : picE m = 0
  case neg =>
    have hE : frameE m p = picE m := by unfold frameE; rw [if_pos h0]
    have HE := Lib.hid hE
    have hne : (picE m != 0) = true := by simp [h0]
    clear hE h0
    go_upto_region 1 with fail
    rw [← HW.out]
    go_wp2_with (go_at_call 50; refine HP.out.mono ?_; rintro e w' ⟨rfl, hB1⟩)
    go_ret
    exact ⟨by rw [HE.out]; rfl, HA.out.2.2.trans (hB1.mono HA.out.2.2.size)⟩
  rw [h0] at HP
  obtain ⟨p1, p2, p3, p4, p5, p6, p7, p8, p9⟩ := picE_zero h0
  have hE : frameE m p = if (inB p.tx (m.ox + 1) 65536 && inB p.ty (m.oy + 1) 65536) = false then 1 else if 16 < ceilI m.x p.tx * ceilI m.y p.ty then 14 else if waysB p = false then 1 else if (p.rct && !alikeB m.cs) = true then 3 else 0 := by unfold frameE; rw [if_neg (by simp [h0])]
  have HE := Lib.hid hE
  clear hE h0 p9
  go_upto_region 1 with fail
  rw [← HW.out]
  clear HW
  go_upto_region 4 with (go_at_call 50; refine HP.out.mono ?_; rintro e w1 ⟨rfl, hB1⟩)
  obtain ⟨hi, hp, hBA⟩ := HA.out
  replace hi := hi.below hB1 hi.lt
  replace hp := hp.below hB1 hp.lt
  replace hBA := hBA.trans (hB1.mono hBA.size)
  clear HP HA I0 I1 I2 I3 I4 hB1
  have I0 := hi.cell 0
  have I1 := hi.cell 1
  have I2 := hi.cell 2
  have I3 := hi.cell 3
  have I4 := hi.cell 4
  have pc := hp.cell
  obtain ⟨P0, P1, P2, P3, P4, P5, P6, P7, P8, P9, P10, P11⟩ := And.intro (pc 0) (And.intro (pc 1) (And.intro (pc 2) (And.intro (pc 3) (And.intro (pc 4) (And.intro (pc 5) (And.intro (pc 6) (And.intro (pc 7) (And.intro (pc 8) (And.intro (pc 9) (And.intro (pc 10) (pc 11)))))))))))
  simp only [List.getElem?_toArray, List.getElem?_cons_zero, List.getElem?_cons_succ] at I0 I1 I2 I3 I4 P0 P1 P2 P3 P4 P5 P6 P7 P8 P9 P10 P11
  have HA := Lib.hid (And.intro hi (And.intro hp hBA))
  clear hi hp hBA pc
  have C1 := Lib.hid fun W => cw_any p.tx (m.ox + 1) 65536 W
  have C2 := Lib.hid fun W => cw_any p.ty (m.oy + 1) 65536 W
  have K1 : inB p.tx (m.ox + 1) 65536 = true → m.ox + 1 ≤ p.tx ∧ p.tx ≤ 65536 := by unfold inB; simp
  have K2 : inB p.ty (m.oy + 1) 65536 = true → m.oy + 1 ≤ p.ty ∧ p.ty ≤ 65536 := by unfold inB; simp
  generalize inB p.tx (m.ox + 1) 65536 = b1 at *
  generalize inB p.ty (m.oy + 1) 65536 = b2 at *
  cases b1
  case false =>
    go_wp2_with (go_at_call 51; (with_reducible refine (C1.out _).mono ?_); rintro e w' ⟨rfl, rfl⟩)
    go_ret
    exact ⟨by rw [HE.out]; rfl, HA.out.2.2⟩
  cases b2
  case false =>
    go_wp2_with (first | (go_at_call 51; (with_reducible refine (C1.out _).mono ?_); rintro e w' ⟨rfl, rfl⟩) | (go_at_call 51; (with_reducible refine (C2.out _).mono ?_); rintro e w' ⟨rfl, rfl⟩))
    go_ret
    exact ⟨by rw [HE.out]; rfl, HA.out.2.2⟩
  have K3 := K1 rfl
  have K4 := K2 rfl
  clear K1 K2
  go_upto_region 6 with (first | (go_at_call 51; (with_reducible refine (C1.out _).mono ?_); rintro e w' ⟨rfl, rfl⟩) | (go_at_call 51; (with_reducible refine (C2.out _).mono ?_); rintro e w' ⟨rfl, rfl⟩))
  have c1 : ∀ w, Calls Try.prog 52 #[.int .i64 m.x, .int .i64 p.tx] w fun e w' => e = .returned (.int .i64 (ceilI m.x p.tx)) ∧ w = w' := fun w => by_any m.x p.tx w (by omega) (by omega) (by omega) (by omega)
  have c2 : ∀ w, Calls Try.prog 52 #[.int .i64 m.y, .int .i64 p.ty] w fun e w' => e = .returned (.int .i64 (ceilI m.y p.ty)) ∧ w = w' := fun w => by_any m.y p.ty w (by omega) (by omega) (by omega) (by omega)
  obtain ⟨cx0, cx1⟩ := ceilI_bd m.x p.tx (by omega) (by omega)
  obtain ⟨cy0, cy1⟩ := ceilI_bd m.y p.ty (by omega) (by omega)
  generalize ceilI m.x p.tx = cx at *
  generalize ceilI m.y p.ty = cy at *
  have hp0 : 0 ≤ cx * cy := Int.mul_nonneg cx0 cy0
  have hp1 : cx * cy ≤ 64 * 64 := Int.mul_le_mul (by omega) (by omega) cy0 (by omega)
  have D1 := Lib.hid c1
  have D2 := Lib.hid c2
  have W1 := Lib.hid (show IntKind.i64.wrap (cx * cy) = cx * cy from IntWalk.i64_in _ (by omega))
  clear c1 c2 C1 C2
  have hv1 := HV.out.keep (HA.out.2.2)
  have HV1 := Lib.hid hv1
  have FW := Lib.hid (ways_any p)
  have FA := Lib.hid (fun W (h : CompsRd W (.slice va m.cs.length vc) m.cs) => alike_any (.slice va m.cs.length vc) m.cs W h hl)
  unfold parV at FW
  clear hv1
  by_cases hk : 16 < cx * cy
  case pos =>
    have d0 : decide (16 < cx * cy) = true := by simp [hk]
    have W2 := W1.out
    go_quiet (first | (go_at_call_of 52 m.x; exact Calls.quiet_of ((D1.out _).mono fun e w' h => ⟨h.1, 0, h.2.symm⟩)) | (go_at_call_of 52 m.y; exact Calls.quiet_of ((D2.out _).mono fun e w' h => ⟨h.1, 0, h.2.symm⟩)))
    clear W2
    go_wp2_with fail
    go_ret
    exact ⟨by rw [HE.out, if_neg (by simp), if_pos (by assumption)]; rfl, below_drewN HA.out.2.2 _⟩
  have d0 : decide (16 < cx * cy) = false := by simp; omega
  have W2 := W1.out
  go_quiet (first | (go_at_call_of 52 m.x; exact Calls.quiet_of ((D1.out _).mono fun e w' h => ⟨h.1, 0, h.2.symm⟩)) | (go_at_call_of 52 m.y; exact Calls.quiet_of ((D2.out _).mono fun e w' h => ⟨h.1, 0, h.2.symm⟩)))
  replace HE : Hid (frameE m p = if waysB p = false then 1 else if (p.rct && !alikeB m.cs) = true then 3 else 0) := Lib.hid (by rw [HE.out, if_neg (by simp), if_neg hk])
  clear W2 hp0 hp1 cx0 cx1 cy0 cy1 D1 D2 W1 hk
  obtain ⟨hi, hp, hBA⟩ := HA.out
  have hB2 : Below w.heap.size w (w1.drewN nq) := below_drewN hBA nq
  have hp2 : Blk (w1.drewN nq) (w.heap.size + 1) 31 _ := hp
  have hi2 : Blk (w1.drewN nq) w.heap.size 29 _ := hi
  clear hi hp hBA HA I0 I1 I2 I3 I4 P0 P1 P2 P3 P4 P5 P6 P7 P8 P9 P10 P11 HV1
  generalize w1.drewN nq = w2 at *
  have I4 := hi2.cell 4
  have pc := hp2.cell
  obtain ⟨P0, P1, P2, P3, P4, P5, P6, P7, P8, P9, P10, P11⟩ := And.intro (pc 0) (And.intro (pc 1) (And.intro (pc 2) (And.intro (pc 3) (And.intro (pc 4) (And.intro (pc 5) (And.intro (pc 6) (And.intro (pc 7) (And.intro (pc 8) (And.intro (pc 9) (And.intro (pc 10) (pc 11)))))))))))
  simp only [List.getElem?_toArray, List.getElem?_cons_zero, List.getElem?_cons_succ] at I4 P0 P1 P2 P3 P4 P5 P6 P7 P8 P9 P10 P11
  have HA := Lib.hid (And.intro hi2 (And.intro hp2 hB2))
  clear hi2 hp2 hB2 pc
  generalize waysB p = b at *
  cases b
  case false =>
    go_wp2_with (go_at_call 53; (with_reducible refine (FW.out _).mono ?_); rintro e w3 ⟨rfl, hB3⟩)
    go_ret
    exact ⟨by rw [HE.out]; rfl, HA.out.2.2.trans (hB3.mono HA.out.2.2.size)⟩
  replace HE : Hid (frameE m p = if (p.rct && !alikeB m.cs) = true then 3 else 0) := Lib.hid (by rw [HE.out, if_neg (by simp)])
  go_upto_region 10 with (go_at_call 53; (with_reducible refine (FW.out _).mono ?_); rintro e w3 ⟨rfl, hB3⟩)
  obtain ⟨hi, hp, hBA⟩ := HA.out
  replace hi := hi.below hB3 hi.lt
  replace hp := hp.below hB3 hp.lt
  replace hBA := hBA.trans (hB3.mono hBA.size)
  clear HA I4 P0 P1 P2 P3 P4 P5 P6 P7 P8 P9 P10 P11 hB3 FW
  have I4 := hi.cell 4
  have P9 := hp.cell 9
  simp only [List.getElem?_toArray, List.getElem?_cons_zero, List.getElem?_cons_succ] at I4 P9
  have HA := Lib.hid hBA
  have FA1 := Lib.hid (FA.out w3 (HV.out.keep hBA))
  clear hi hp hBA FA
  generalize p.rct = rc at *
  cases rc
  case false =>
    go_wp2_with fail
    go_ret
    exact ⟨by rw [HE.out]; rfl, HA.out⟩
  generalize alikeB m.cs = ba at *
  cases ba
  all_goals
    go_wp2_with (go_at_call 54; refine FA1.out.mono ?_; rintro e w4 ⟨rfl, hB4⟩)
    go_ret
    exact ⟨by rw [HE.out]; rfl, HA.out.trans (hB4.mono HA.out.size)⟩
end Go.Proofs.Ytlhlhlabnjfhcaa
