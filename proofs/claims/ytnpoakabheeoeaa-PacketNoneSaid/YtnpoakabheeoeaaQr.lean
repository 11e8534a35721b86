/- waveletref8: a refinement pass. -/
import Derived.Test.YtnpoakabheeoeaaQp
namespace Go.Proofs.Ytnpoakabheeoeaa
open Go.RowKit

set_option maxRecDepth 100000 in
set_option maxHeartbeats 2000000 in
theorem cod_refp (A : CodA) (G : GeoM) (q : CS) (raw : Bool) (eg rg plane : Nat) (H : List HB) (w : World) (hg : G.Ok) (hc : q.c.Ok G) (h : CodR A G q raw eg rg H) (hs : Sat w H) (hq : q.s.Ok) (hz : q.s.size + 32 * (G.w * G.h) ≤ 80000000) (hp : plane ≤ 40) :
    Calls Try.prog 69 #[.pointer (some ⟨A.cb, 0, none⟩), .int .i64 (plane : Int)] w fun e w' => e = .returned (.tuple #[]) ∧ ∃ H', CodR A G (runM (refStep G raw plane) (G.w * G.h) 0 q) raw eg rg H' ∧ Mv w H w' H' := by
  obtain ⟨n, hn⟩ : ∃ n, G.w * G.h = n := ⟨_, rfl⟩
  have n4 : n ≤ 4096 := by rw [← hn]; exact Nat.mul_le_mul hg.w2 hg.h2
  rw [hn] at hz ⊢
  obtain ⟨R, hR⟩ : ∃ R, runM (refStep G raw plane) n 0 q = R := ⟨_, rfl⟩
  rw [hR]
  have K0 := Lib.hid (And.intro h (And.intro (Mv.refl hs) (And.intro hc (And.intro hq (And.intro hz hR)))))
  have HG := Lib.hid (And.intro hg hn)
  have u1 : (G.w : Int) * (G.h : Int) ≤ 4096 := by
    have : ((G.w * G.h : Nat) : Int) ≤ 4096 := by rw [hn]; omega
    push_cast at this
    exact this
  have u2 : (0 : Int) ≤ (G.w : Int) * (G.h : Int) := Int.mul_nonneg (by omega) (by omega)
  clear h hs hc hq hz hR hg hn
  go_enter Try.func69, Try.ntmps69
  go_wp2_with fail
  go_loopg [4] n (fun m s4 wx => ∃ (j : Nat) (q1 : CS) (H1 : List HB), j ≤ n ∧ m = n - j ∧ s4 = .int .i64 (j : Int) ∧ CodR A G q1 raw eg rg H1 ∧ Mv w H wx H1 ∧ q1.c.Ok G ∧ q1.s.Ok ∧ q1.s.size + 32 * (n - j) ≤ 80000000 ∧ runM (refStep G raw plane) (n - j) j q1 = R)
  case atStart => exact ⟨0, q, H, by omega, rfl, rfl, K0.out.1, K0.out.2.1, K0.out.2.2.1, K0.out.2.2.2.1, K0.out.2.2.2.2.1, K0.out.2.2.2.2.2⟩
  case round =>
    obtain ⟨j, q1, H1, hj, rfl, rfl, h1, m1, hc1, hq1, hz1, hR1⟩ := hrel
    have V := h1.see HG.out.1 hc1 m1.sat
    have c0 := V.w_
    have c1 := V.h_
    have K1 := Lib.hid (And.intro h1 (And.intro m1 (And.intro hc1 (And.intro hq1 (And.intro hz1 hR1)))))
    clear V h1 m1 hc1 hq1 hz1 hR1
    by_cases hlt : j < n
    · have d1 : decide ((j : Int) < (G.w : Int) * (G.h : Int)) = true := by
        have : ((G.w * G.h : Nat) : Int) = (n : Int) := by rw [HG.out.2]
        push_cast at this
        rw [this]
        simp; omega
      go_upto_region 1 with fail
      go_quiet (fail)
      have K2 := Lib.hid (K1.out.2.1.drewN nq)
      have c0 : (wr.drewN nq).cell? ⟨A.cb, 0, none⟩ = some (.int .i64 (G.w : Int)) := c0
      have c1 : (wr.drewN nq).cell? ⟨A.cb, 1, none⟩ = some (.int .i64 (G.h : Int)) := c1
      generalize wr.drewN nq = w2 at *
      have SC := Lib.hid fun W => scan_any G.w G.h j W HG.out.1.w1 HG.out.1.w2 HG.out.1.h1 HG.out.1.h2 (by rw [HG.out.2]; exact hlt)
      obtain ⟨sx, sy⟩ := scan_lt2 HG.out.1.w1 (show j < G.w * G.h by rw [HG.out.2]; exact hlt)
      obtain ⟨x, hx⟩ : ∃ x, scanX G.w G.h j = x := ⟨_, rfl⟩
      obtain ⟨y, hy⟩ : ∃ y, scanY G.w G.h j = y := ⟨_, rfl⟩
      rw [hx, hy] at SC
      rw [hx] at sx
      rw [hy] at sy
      have HXY := Lib.hid (And.intro hx hy)
      clear hx hy
      go_upto_region 3 with fail
      go_quiet (first | (go_at_call 85; exact Calls.quiet_of (SC.out _)))
      have M3 := K2.out.drewN nq
      generalize w2.drewN nq = w3 at *
      have V3 := K1.out.1.see HG.out.1 K1.out.2.2.1 M3.sat
      have c0 := V3.w_
      obtain ⟨p0, p1, p2, p3, p4, p5⟩ := place HG.out.1 sx sy
      obtain ⟨i, hi⟩ : ∃ i, y * G.w + x = i := ⟨_, rfl⟩
      obtain ⟨ar, har⟩ : ∃ ar, ardM G q1.c x y = ar := ⟨_, rfl⟩
      obtain ⟨l1, l2, l3⟩ := ardM_le G q1.c x y
      have ZA := Lib.hid (around_any A G q1.c x y w3 HG.out.1 V3 sx sy)
      rw [har] at ZA l1 l2 l3
      obtain ⟨kk, hkk⟩ : ∃ kk, rctx (!q1.c.again.getD i false) (ar.h + ar.v + ar.d) = kk := ⟨_, rfl⟩
      have kb : kk < 19 := by rw [← hkk]; exact rctx_le _ _
      have RC : Hid (∀ W, Calls Try.prog 90 #[.bool (!q1.c.again.getD i false), .int .i64 ((ar.h : Int) + (ar.v : Int) + (ar.d : Int))] W fun e w' => e = .returned (.int .i64 (kk : Int)) ∧ w' = W) := Lib.hid (by
        intro W
        have := refine_ctx (!q1.c.again.getD i false) (ar.h + ar.v + ar.d) W
        rw [hkk] at this
        push_cast at this
        exact this)
      obtain ⟨b, hb⟩ : ∃ b, bitOf G i plane = b := ⟨_, rfl⟩
      have SE : Hid (refStep G raw plane q1 j = if q1.c.sig.getD i false = false ∨ q1.c.seen.getD i false = true then q1 else ⟨{ q1.c with again := q1.c.again.set i true }, bitW raw q1.s kk b⟩) := Lib.hid (by
        unfold refStep aroundN
        rw [HXY.out.1, HXY.out.2, hi, har, hkk, hb])
      have HB := Lib.hid hb
      have hii : (y : Int) * (G.w : Int) + (x : Int) = (i : Int) := by rw [← hi]; push_cast; rfl
      have K3 := Lib.hid (And.intro M3 (And.intro hi hii))
      clear hii hi hkk V3 M3 K2 SC har hb
      go_upto_region 5 with fail
      simp only [K3.out.2.2]
      generalize (y : Int) * (G.w : Int) = u3 at *
      clear p2 p3 p4 p5
      rw [K3.out.2.1, HG.out.2] at p0
      have i1 : (i : Int) < (n : Int) := by omega
      have V4 := K1.out.1.see HG.out.1 K1.out.2.2.1 K3.out.1.sat
      have c6 := V4.s_
      have c7 := V4.e_
      unfold slV at c6 c7
      rw [HG.out.2] at c6 c7
      have ci := V4.sig i (by rw [HG.out.2]; exact p0)
      have cj := V4.seen i (by rw [HG.out.2]; exact p0)
      clear V4
      have RS : Hid (runM (refStep G raw plane) (n - (j + 1)) (j + 1) (refStep G raw plane q1 j) = R) := Lib.hid (by
        have := K1.out.2.2.2.2.2
        rw [show n - j = (n - (j + 1)) + 1 by omega] at this
        exact this)
      by_cases hcon : q1.c.sig.getD i false = false ∨ q1.c.seen.getD i false = true
      · have SE2 : Hid (refStep G raw plane q1 j = q1) := Lib.hid (by rw [SE.out, if_pos hcon])
        have FIN : Hid (CodR A G q1 raw eg rg H1 ∧ Mv w H w3 H1 ∧ q1.c.Ok G ∧ q1.s.Ok ∧ q1.s.size + 32 * (n - (j + 1)) ≤ 80000000 ∧ runM (refStep G raw plane) (n - (j + 1)) (j + 1) q1 = R) := Lib.hid ⟨K1.out.1, K3.out.1, K1.out.2.2.1, K1.out.2.2.2.1, by have := K1.out.2.2.2.2.1; omega, by have := RS.out; rw [SE2.out] at this; exact this⟩
        rcases (Bool.eq_false_or_eq_true (q1.c.sig.getD i false)).symm with hsg | hsg
        · rw [hsg] at ci
          clear hcon hsg
          go_wp2_with fail
          go_roundg (n - (j + 1))
          case measure => omega
          case rel => exact ⟨j + 1, q1, H1, by omega, rfl, by push_cast; rfl, FIN.out⟩
        · have k0 : q1.c.seen.getD i false = true := by
            rcases hcon with h | h
            · rw [hsg] at h; cases h
            · exact h
          rw [hsg] at ci
          rw [k0] at cj
          clear hcon hsg k0
          go_wp2_with fail
          go_roundg (n - (j + 1))
          case measure => omega
          case rel => exact ⟨j + 1, q1, H1, by omega, rfl, by push_cast; rfl, FIN.out⟩
      · have hsg : q1.c.sig.getD i false = true := by
          rcases (Bool.eq_false_or_eq_true (q1.c.sig.getD i false)) with h | h
          · exact h
          · exact absurd (.inl h) hcon
        have k0 : q1.c.seen.getD i false = false := by
          rcases (Bool.eq_false_or_eq_true (q1.c.seen.getD i false)) with h | h
          · exact absurd (.inr h) hcon
          · exact h
        rw [hsg] at ci
        rw [k0] at cj
        have SE2 : Hid (refStep G raw plane q1 j = ⟨{ q1.c with again := q1.c.again.set i true }, bitW raw q1.s kk b⟩) := Lib.hid (by rw [SE.out, if_neg hcon])
        clear hcon hsg k0
        have MG : Hid (∀ W, Mv w H W H1 → Calls Try.prog 87 #[.pointer (some ⟨A.cb, 0, none⟩), .int .i64 (i : Int), .int .i64 (plane : Int), .int .i64 (kk : Int)] W fun e w' => e = .returned (.int .i64 (b : Int)) ∧ ∃ H', CodR A G ⟨q1.c, bitW raw q1.s kk b⟩ raw eg rg H' ∧ Mv W H1 w' H') := Lib.hid (by
          intro W m
          have := cod_mag A G q1 raw eg rg i plane kk H1 W HG.out.1 K1.out.2.2.1 K1.out.1 m.sat K1.out.2.2.2.1 (by have := K1.out.2.2.2.2.1; omega) (by rw [HG.out.2]; exact p0) hp kb
          rw [HB.out] at this
          exact this)
        go_upto_region 7 with (go_at_call 89; refine ZA.out.mono ?_; rintro e w4 ⟨rfl, dr⟩; have K4 := Lib.hid (dr.mv K3.out.1); clear dr)
        have V5 := K1.out.1.see HG.out.1 K1.out.2.2.1 K4.out.sat
        have c8 := V5.a_
        unfold slV at c8
        rw [HG.out.2] at c8
        have ck := V5.again i (by rw [HG.out.2]; exact p0)
        clear V5 c6 c7 ci cj c0
        generalize q1.c.again.getD i false = ag at *
        go_upto_region 8 with (first
          | (go_at_call 90; refine (RC.out _).mono ?_; rintro e w' ⟨rfl, rfl⟩)
          | (go_at_call 87; refine (MG.out _ K4.out).mono ?_; rintro e w5 ⟨rfl, H2, h2, m2⟩; have K5 := Lib.hid (And.intro h2 (K4.out.trans m2)); clear h2 m2))
        have V6 := K5.out.1.see HG.out.1 K1.out.2.2.1 K5.out.2.sat
        have c8 := V6.a_
        unfold slV at c8
        rw [HG.out.2] at c8
        have ck := V6.again i (by rw [HG.out.2]; exact p0)
        have fk := (K5.out.1.frozen K5.out.2.sat i).2.2.2.1
        obtain ⟨H3, r3, m3⟩ := K5.out.1.setAgain K5.out.2 i true
        have K6 := Lib.hid (And.intro r3 m3)
        clear V6 r3 m3
        generalize (CS.c ⟨q1.c, bitW raw q1.s kk b⟩).again.getD i false = ag2 at *
        go_wp2_with fail
        go_roundg (n - (j + 1))
        case measure => omega
        case rel =>
          refine ⟨j + 1, _, H3, by omega, rfl, by push_cast; rfl, K6.out.1, K6.out.2, ⟨K1.out.2.2.1.sig, K1.out.2.2.1.seen, by simpa using K1.out.2.2.1.again⟩, bitW_ok K1.out.2.2.2.1 kb b, ?_, ?_⟩
          · have := bitW_size (raw := raw) K1.out.2.2.2.1 (k := kk) kb b
            have := K1.out.2.2.2.2.1
            simp only
            omega
          · have := RS.out
            rw [SE2.out] at this
            exact this
    · have d1 : decide ((j : Int) < (G.w : Int) * (G.h : Int)) = false := by
        have : ((G.w * G.h : Nat) : Int) = (n : Int) := by rw [HG.out.2]
        push_cast at this
        rw [this]
        simp; omega
      go_upto_region 1 with fail
      go_quiet (fail)
      have M2 := Lib.hid (K1.out.2.1.drewN nq)
      go_wp2_with fail
      have eR : R = q1 := by
        have := K1.out.2.2.2.2.2
        rw [show n - j = 0 by omega] at this
        exact this.symm
      exact bodyPost_end (results_none rfl _ _ _) rfl ⟨rfl, H1, by rw [eR]; exact K1.out.1, M2.out⟩
end Go.Proofs.Ytnpoakabheeoeaa
