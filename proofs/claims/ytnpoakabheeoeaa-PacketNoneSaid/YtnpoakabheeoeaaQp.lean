/- waveletref8: a significance pass. -/
import Derived.Test.YtnpoakabheeoeaaMqn
namespace Go.Proofs.Ytnpoakabheeoeaa
open Go.RowKit

set_option maxRecDepth 100000 in
set_option maxHeartbeats 2000000 in
theorem cod_sigp (A : CodA) (G : GeoM) (q : CS) (raw : Bool) (eg rg plane : Nat) (H : List HB) (w : World) (hg : G.Ok) (hc : q.c.Ok G) (h : CodR A G q raw eg rg H) (hs : Sat w H) (hq : q.s.Ok) (hz : q.s.size + 32 * (G.w * G.h) ≤ 80000000) (hp : plane ≤ 40) :
    Calls Try.prog 68 #[.pointer (some ⟨A.cb, 0, none⟩), .int .i64 (plane : Int)] w fun e w' => e = .returned (.tuple #[]) ∧ ∃ H', CodR A G (runM (sigStep G raw plane) (G.w * G.h) 0 q) raw eg rg H' ∧ Mv w H w' H' := by
  obtain ⟨n, hn⟩ : ∃ n, G.w * G.h = n := ⟨_, rfl⟩
  have n4 : n ≤ 4096 := by rw [← hn]; exact Nat.mul_le_mul hg.w2 hg.h2
  rw [hn] at hz ⊢
  obtain ⟨R, hR⟩ : ∃ R, runM (sigStep G raw plane) n 0 q = R := ⟨_, rfl⟩
  rw [hR]
  have K0 := Lib.hid (And.intro h (And.intro (Mv.refl hs) (And.intro hc (And.intro hq (And.intro hz hR)))))
  have HG := Lib.hid (And.intro hg hn)
  have u1 : (G.w : Int) * (G.h : Int) ≤ 4096 := by
    have : ((G.w * G.h : Nat) : Int) ≤ 4096 := by rw [hn]; omega
    push_cast at this
    exact this
  have u2 : (0 : Int) ≤ (G.w : Int) * (G.h : Int) := Int.mul_nonneg (by omega) (by omega)
  clear h hs hc hq hz hR hg hn
  go_enter Try.func68, Try.ntmps68
  go_wp2_with fail
  go_loopg [4] n (fun m s4 wx => ∃ (j : Nat) (q1 : CS) (H1 : List HB), j ≤ n ∧ m = n - j ∧ s4 = .int .i64 (j : Int) ∧ CodR A G q1 raw eg rg H1 ∧ Mv w H wx H1 ∧ q1.c.Ok G ∧ q1.s.Ok ∧ q1.s.size + 32 * (n - j) ≤ 80000000 ∧ runM (sigStep G raw plane) (n - j) j q1 = R)
  case atStart => exact ⟨0, q, H, by omega, rfl, rfl, K0.out.1, K0.out.2.1, K0.out.2.2.1, K0.out.2.2.2.1, K0.out.2.2.2.2.1, K0.out.2.2.2.2.2⟩
  case round =>
    obtain ⟨j, q1, H1, hj, rfl, rfl, h1, m1, hc1, hq1, hz1, hR1⟩ := hrel
    have V := h1.see HG.out.1 hc1 m1.sat
    have c0 := V.w_
    have c1 := V.h_
    have K1 := Lib.hid (And.intro h1 (And.intro m1 (And.intro hc1 (And.intro hq1 (And.intro hz1 hR1)))))
    clear V h1 m1 hc1 hq1 hz1 hR1
    by_cases hlt : j < n
    · have d1 : decide ((j : Int) < (G.w : Int) * (G.h : Int)) = true := by
        have : ((G.w * G.h : Nat) : Int) = (n : Int) := by rw [HG.out.2]
        push_cast at this
        rw [this]
        simp; omega
      go_upto_region 1 with fail
      go_quiet (fail)
      have K2 := Lib.hid (K1.out.2.1.drewN nq)
      have c0 : (wr.drewN nq).cell? ⟨A.cb, 0, none⟩ = some (.int .i64 (G.w : Int)) := c0
      have c1 : (wr.drewN nq).cell? ⟨A.cb, 1, none⟩ = some (.int .i64 (G.h : Int)) := c1
      generalize wr.drewN nq = w2 at *
      have SC := Lib.hid fun W => scan_any G.w G.h j W HG.out.1.w1 HG.out.1.w2 HG.out.1.h1 HG.out.1.h2 (by rw [HG.out.2]; exact hlt)
      obtain ⟨sx, sy⟩ := scan_lt2 HG.out.1.w1 (show j < G.w * G.h by rw [HG.out.2]; exact hlt)
      obtain ⟨x, hx⟩ : ∃ x, scanX G.w G.h j = x := ⟨_, rfl⟩
      obtain ⟨y, hy⟩ : ∃ y, scanY G.w G.h j = y := ⟨_, rfl⟩
      rw [hx, hy] at SC
      rw [hx] at sx
      rw [hy] at sy
      have HXY := Lib.hid (And.intro hx hy)
      clear hx hy
      go_upto_region 3 with fail
      go_quiet (first | (go_at_call 85; exact Calls.quiet_of (SC.out _)))
      have M3 := K2.out.drewN nq
      generalize w2.drewN nq = w3 at *
      have V3 := K1.out.1.see HG.out.1 K1.out.2.2.1 M3.sat
      have c0 := V3.w_
      obtain ⟨p0, p1, p2, p3, p4, p5⟩ := place HG.out.1 sx sy
      obtain ⟨i, hi⟩ : ∃ i, y * G.w + x = i := ⟨_, rfl⟩
      obtain ⟨kk, hkk⟩ : ∃ kk, zeroM G q1.c x y = kk := ⟨_, rfl⟩
      have kb : kk ≤ 8 := by rw [← hkk]; exact zeroM_le G q1.c x y
      have ZA := Lib.hid (zero_any A G q1.c x y w3 HG.out.1 V3 sx sy)
      rw [hkk] at ZA
      have SE : Hid (sigStep G raw plane q1 j = if q1.c.sig.getD i false = true ∨ kk = 0 then q1 else ⟨{ (tryM G raw q1 x y plane kk).c with seen := (tryM G raw q1 x y plane kk).c.seen.set i true }, (tryM G raw q1 x y plane kk).s⟩) := Lib.hid (by
        unfold sigStep
        rw [HXY.out.1, HXY.out.2, hi, hkk])
      have hii : (y : Int) * (G.w : Int) + (x : Int) = (i : Int) := by rw [← hi]; push_cast; rfl
      have K3 := Lib.hid (And.intro M3 (And.intro hi hii))
      clear hii hi hkk V3 M3 K2 SC
      go_upto_region 5 with fail
      simp only [K3.out.2.2]
      generalize (y : Int) * (G.w : Int) = u3 at *
      clear p2 p3 p4 p5
      rw [K3.out.2.1, HG.out.2] at p0
      have i1 : (i : Int) < (n : Int) := by omega
      go_upto_region 6 with (go_at_call 86; refine ZA.out.mono ?_; rintro e w4 ⟨rfl, dr⟩; have K4 := Lib.hid (dr.mv K3.out.1); clear dr)
      have V4 := K1.out.1.see HG.out.1 K1.out.2.2.1 K4.out.sat
      have c6 := V4.s_
      unfold slV at c6
      rw [HG.out.2] at c6
      have ci := V4.sig i (by rw [HG.out.2]; exact p0)
      clear V4
      have RS : Hid (runM (sigStep G raw plane) (n - (j + 1)) (j + 1) (sigStep G raw plane q1 j) = R) := Lib.hid (by
        have := K1.out.2.2.2.2.2
        rw [show n - j = (n - (j + 1)) + 1 by omega] at this
        exact this)
      by_cases hcon : q1.c.sig.getD i false = true ∨ kk = 0
      · have SE2 : Hid (sigStep G raw plane q1 j = q1) := Lib.hid (by rw [SE.out, if_pos hcon])
        have FIN : Hid (CodR A G q1 raw eg rg H1 ∧ Mv w H w4 H1 ∧ q1.c.Ok G ∧ q1.s.Ok ∧ q1.s.size + 32 * (n - (j + 1)) ≤ 80000000 ∧ runM (sigStep G raw plane) (n - (j + 1)) (j + 1) q1 = R) := Lib.hid ⟨K1.out.1, K4.out, K1.out.2.2.1, K1.out.2.2.2.1, by have := K1.out.2.2.2.2.1; omega, by have := RS.out; rw [SE2.out] at this; exact this⟩
        rcases (Bool.eq_false_or_eq_true (q1.c.sig.getD i false)) with hsg | hsg
        · rw [hsg] at ci
          clear hcon hsg
          go_wp2_with fail
          go_roundg (n - (j + 1))
          case measure => omega
          case rel => exact ⟨j + 1, q1, H1, by omega, rfl, by push_cast; rfl, FIN.out⟩
        · have k0 : kk = 0 := by
            rcases hcon with h | h
            · rw [hsg] at h; cases h
            · exact h
          rw [hsg] at ci
          have d5 : ((kk : Int) == 0) = true := by rw [k0]; rfl
          have HK := Lib.hid k0
          clear hcon hsg k0
          go_wp2_with fail
          go_roundg (n - (j + 1))
          case measure => omega
          case rel => exact ⟨j + 1, q1, H1, by omega, rfl, by push_cast; rfl, FIN.out⟩
      · have hsg : q1.c.sig.getD i false = false := by
          rcases (Bool.eq_false_or_eq_true (q1.c.sig.getD i false)) with h | h
          · exact absurd (.inl h) hcon
          · exact h
        have k0 : ¬ kk = 0 := fun h => hcon (.inr h)
        rw [hsg] at ci
        have d5 : ((kk : Int) == 0) = false := beq_eq_false_iff_ne.2 (by omega)
        have SE2 : Hid (sigStep G raw plane q1 j = ⟨{ (tryM G raw q1 x y plane kk).c with seen := (tryM G raw q1 x y plane kk).c.seen.set i true }, (tryM G raw q1 x y plane kk).s⟩) := Lib.hid (by rw [SE.out, if_neg hcon])
        clear hcon hsg
        obtain ⟨b, hb⟩ : ∃ b, bitOf G i plane = b := ⟨_, rfl⟩
        have MG := Lib.hid (cod_mag A G q1 raw eg rg i plane kk H1 w4 HG.out.1 K1.out.2.2.1 K1.out.1 K4.out.sat K1.out.2.2.2.1 (by have := K1.out.2.2.2.2.1; omega) (by rw [HG.out.2]; exact p0) hp (by omega))
        have TM : Hid (tryM G raw q1 x y plane kk = if b = 1 then signM G raw ⟨q1.c, bitW raw q1.s kk b⟩ x y else ⟨q1.c, bitW raw q1.s kk b⟩) := Lib.hid (by unfold tryM; rw [K3.out.2.1, hb])
        rw [hb] at MG
        obtain ⟨qa, hqa⟩ : ∃ qa : CS, (⟨q1.c, bitW raw q1.s kk b⟩ : CS) = qa := ⟨_, rfl⟩
        have QA : Hid (qa.c.Ok G ∧ qa.s.Ok ∧ qa.s.size ≤ 80000000) := Lib.hid (by
          rw [← hqa]
          exact ⟨K1.out.2.2.1, bitW_ok K1.out.2.2.2.1 (by omega) b, by have := bitW_size (raw := raw) K1.out.2.2.2.1 (k := kk) (by omega) b; have := K1.out.2.2.2.2.1; simp only; omega⟩)
        rw [hqa] at TM MG
        have QS : Hid (∀ q2, tryM G raw q1 x y plane kk = q2 → q2.c.Ok G ∧ q2.s.Ok ∧ q2.s.size + 32 * (n - (j + 1)) ≤ 80000000) := Lib.hid (by
          intro q2 h2
          have e1 := tryM_ok (raw := raw) K1.out.2.2.1 x y plane kk
          have e2 := tryM_says (raw := raw) (G := G) q1 x y plane (k := kk) (by omega)
          have e3 := e2.ok K1.out.2.2.2.1
          have e4 := (e2.grow K1.out.2.2.2.1).2.2
          rw [h2] at e1 e3 e4
          exact ⟨e1, e3, by have := K1.out.2.2.2.2.1; omega⟩)
        have FIN : Hid (∀ q2 H2 w5, tryM G raw q1 x y plane kk = q2 → CodR A G q2 raw eg rg H2 → Mv w H w5 H2 → w5.cell? ⟨A.cb, 7, none⟩ = some (.slice (some ⟨A.ge, 0, none⟩) n n) ∧ (∃ u, w5.cell? ⟨A.ge, i, none⟩ = some (.bool u)) ∧ w5.frozen? ⟨A.ge, i, none⟩ = false ∧
            Hid (∃ q3 H3, CodR A G q3 raw eg rg H3 ∧ Mv w H (w5.setCell ⟨A.ge, i, none⟩ (.bool true)) H3 ∧ q3.c.Ok G ∧ q3.s.Ok ∧ q3.s.size + 32 * (n - (j + 1)) ≤ 80000000 ∧ runM (sigStep G raw plane) (n - (j + 1)) (j + 1) q3 = R)) := Lib.hid (by
          intro q2 H2 w5 h2 r2 m2
          obtain ⟨o1, o2, o3⟩ := QS.out q2 h2
          have V := r2.see HG.out.1 o1 m2.sat
          have c7 := V.e_
          unfold slV at c7
          rw [HG.out.2] at c7
          obtain ⟨H3, r3, m3⟩ := r2.setSeen m2 i true
          refine ⟨c7, ⟨_, V.seen i (by rw [HG.out.2]; exact p0)⟩, (r2.frozen m2.sat i).2.2.1, Lib.hid ⟨_, H3, r3, m3, ⟨o1.sig, by simpa using o1.seen, o1.again⟩, o2, o3, ?_⟩⟩
          have := RS.out
          rw [SE2.out, h2] at this
          exact this)
        by_cases hb1 : b = 1
        · have d6 : ((b : Int) == 1) = true := by rw [hb1]; rfl
          have TM2 := Lib.hid (TM.out.trans (if_pos hb1))
          have HB := Lib.hid hb1
          clear hb hb1 hqa
          go_upto_region 9 with (first
            | (go_at_call 87; refine MG.out.mono ?_; rintro e w5 ⟨rfl, H2, h2, m2⟩; have K5 := Lib.hid (And.intro h2 (K4.out.trans m2)); clear h2 m2)
            | (go_at_call 88; refine (cod_sign A G qa raw eg rg x y H2 _ HG.out.1 QA.out.1 K5.out.1 K5.out.2.sat QA.out.2.1 QA.out.2.2 sx sy).mono ?_; rintro e w6 ⟨rfl, H3, h3, m3⟩; have K6 := Lib.hid (And.intro h3 (K5.out.2.trans m3)); clear h3 m3))
          obtain ⟨y7, ⟨u, yu⟩, yf, Y⟩ := FIN.out _ H3 w6 TM2.out K6.out.1 K6.out.2
          go_wp2_with fail
          go_roundg (n - (j + 1))
          case measure => omega
          case rel =>
            obtain ⟨q3, H4, y3⟩ := Y.out
            exact ⟨j + 1, q3, H4, by omega, rfl, by push_cast; rfl, y3⟩
        · have d6 : ((b : Int) == 1) = false := beq_eq_false_iff_ne.2 (by omega)
          have TM2 := Lib.hid (TM.out.trans (if_neg hb1))
          have HB := Lib.hid hb1
          clear hb hb1 hqa
          go_upto_region 9 with (go_at_call 87; refine MG.out.mono ?_; rintro e w5 ⟨rfl, H2, h2, m2⟩; have K5 := Lib.hid (And.intro h2 (K4.out.trans m2)); clear h2 m2)
          obtain ⟨y7, ⟨u, yu⟩, yf, Y⟩ := FIN.out _ H2 w5 TM2.out K5.out.1 K5.out.2
          go_wp2_with fail
          go_roundg (n - (j + 1))
          case measure => omega
          case rel =>
            obtain ⟨q3, H4, y3⟩ := Y.out
            exact ⟨j + 1, q3, H4, by omega, rfl, by push_cast; rfl, y3⟩
    · have d1 : decide ((j : Int) < (G.w : Int) * (G.h : Int)) = false := by
        have : ((G.w * G.h : Nat) : Int) = (n : Int) := by rw [HG.out.2]
        push_cast at this
        rw [this]
        simp; omega
      go_upto_region 1 with fail
      go_quiet (fail)
      have M2 := Lib.hid (K1.out.2.1.drewN nq)
      go_wp2_with fail
      have eR : R = q1 := by
        have := K1.out.2.2.2.2.2
        rw [show n - j = 0 by omega] at this
        exact this.symm
      exact bodyPost_end (results_none rfl _ _ _) rfl ⟨rfl, H1, by rw [eR]; exact K1.out.1, M2.out⟩
end Go.Proofs.Ytnpoakabheeoeaa
