/- the laws' head has a frame that may be; the laws' within. -/
import Derived.Test.YtlhlhlabnjfhcaaMnE
import Derived.Test.YtlhlhlabnjfhcaaPsB
namespace Go.Proofs.Ytlhlhlabnjfhcaa
open Go.RowKit

set_option maxRecDepth 100000 in
theorem lwithin (x n : Int) (w : World) (h3 : 1 ≤ n) (h4 : n ≤ 1000000) :
    Calls Try.prog 15 #[.int .i64 x, .int .i64 n] w fun e w' => e = .returned (.int .i64 (x % n)) ∧ w = w' := by
  obtain ⟨h5, h6⟩ := tmod_bd x n h3
  have E := Lib.hid (tmod_adj x n h3)
  go_enter Try.func15, Try.ntmps15
  go_wp2
  all_goals go_ret
  · exact ⟨by rw [← E.out, if_pos (by assumption)]; rfl, rfl⟩
  · exact ⟨by rw [← E.out, if_neg (by omega)]; rfl, rfl⟩

theorem frame_ok {f : FormD} {m : ImgD} {p : ParD} (h : MadeOk f 8 m p) : frameE m p = 0 := by
  obtain ⟨ox0, ox1, oy0, oy1, x0, x1, y0, y1, n1, n4, par, tx0, tx1, ty0, ty1, few, comps, rct⟩ := h
  obtain ⟨depth, d1, d2, hall⟩ := comps
  have hi : inB m.cs.length 1 4 = true := by unfold inB; simp; omega
  have hc : m.cs.all compB = true := by
    rw [List.all_eq_true]
    intro c hc
    obtain ⟨k1, k2, k3, k4, k5, k6, -⟩ := hall c hc
    unfold compB inB
    simp
    omega
  have hp : picE m = 0 := by
    unfold picE
    rw [if_neg (by omega), if_neg (by omega), if_neg (by rw [hi]; simp), if_pos hc]
  have ht : (inB p.tx (m.ox + 1) 65536 && inB p.ty (m.oy + 1) 65536) = true := by unfold inB; simp; omega
  have hw : waysB p = true := by
    unfold ParOk at par
    unfold waysB inB
    simp
    omega
  unfold frameE
  rw [if_neg (by simp [hp]), if_neg (by rw [ht]; simp), if_neg (by omega), if_neg (by rw [hw]; simp)]
  refine if_neg ?_
  cases hr : p.rct
  · simp
  · obtain ⟨r1, r2⟩ := rct hr
    have hal : alikeB m.cs = true := by
      match hm : m.cs, r1 with
      | a :: b :: c :: tl, _ =>
        obtain ⟨-, -, -, -, -, -, sa, pa, -⟩ := hall a (by rw [hm]; simp)
        obtain ⟨-, -, -, -, -, -, sb, pb, -⟩ := hall b (by rw [hm]; simp)
        obtain ⟨-, -, -, -, -, -, sc, pc, -⟩ := hall c (by rw [hm]; simp)
        obtain ⟨a1, a2, a3⟩ := pa (by rw [r2]; rfl)
        obtain ⟨b1, b2, b3⟩ := pb (by rw [r2]; rfl)
        obtain ⟨c1, c2, c3⟩ := pc (by rw [r2]; rfl)
        simp [alikeB, sameC, a1, a2, a3, b1, b2, b3, c1, c2, c3, sa, sb, sc]
      | [], h => simp at h
      | [_], h => simp at h
      | [_, _], h => simp at h
    simp [hal]
end Go.Proofs.Ytlhlhlabnjfhcaa
