/- waveletref8: is a column run over at once? -/
import Derived.Test.YtnpoakabheeoeaaQr
namespace Go.Proofs.Ytnpoakabheeoeaa
open Go.RowKit

theorem blankM_false {G : GeoM} {c : CodM} {x y : Nat} (j : Nat) (hj : j < 4) (h : blank1 G c x (y + j) = false) : blankM G c x y = false := by
  unfold blankM
  have e : ((List.range 4).all fun j => blank1 G c x (y + j)) = false := List.all_eq_false.2 ⟨j, List.mem_range.2 hj, by rw [h]; decide⟩
  rw [e]
  simp
theorem blankM_true {G : GeoM} {c : CodM} {x y : Nat} (h4 : y + 4 ≤ G.h) (h : ∀ j, j < 4 → blank1 G c x (y + j) = true) : blankM G c x y = true := by
  unfold blankM
  have e : ((List.range 4).all fun j => blank1 G c x (y + j)) = true := List.all_eq_true.2 fun j hj => h j (List.mem_range.1 hj)
  rw [e, decide_eq_true h4]
  rfl
set_option maxRecDepth 100000 in
set_option maxHeartbeats 1000000 in
theorem blank_any (A : CodA) (G : GeoM) (c : CodM) (x y : Nat) (w : World) (hg : G.Ok) (hv : CodSee w A G c) (hx : x < G.w) (hy : y < G.h) :
    Calls Try.prog 104 #[.pointer (some ⟨A.cb, 0, none⟩), .int .i64 (x : Int), .int .i64 (y : Int)] w fun e w' => e = .returned (.bool (blankM G c x y)) ∧ Drew w w' := by
  have c1 := hv.h_
  have hh2 := hg.h2
  by_cases h4 : y + 4 ≤ G.h
  · have d1 : decide ((G.h : Int) - (y : Int) < 4) = false := by simp; omega
    obtain ⟨R, hR⟩ : ∃ R, blankM G c x y = R := ⟨_, rfl⟩
    rw [hR]
    have K0 := Lib.hid (And.intro hg (And.intro hv (And.intro hR h4)))
    clear hv hg hR
    go_enter Try.func104, Try.ntmps104
    go_wp2_with fail
    go_loopg [7] 4 (fun m s7 wx => ∃ j : Nat, j ≤ 4 ∧ m = 4 - j ∧ s7 = .int .i64 (j : Int) ∧ Drew w wx ∧ ∀ k, k < j → blank1 G c x (y + k) = true)
    case atStart => exact ⟨0, by omega, rfl, rfl, Drew.refl w, fun k hk => by omega⟩
    case round =>
      obtain ⟨j, hj, rfl, rfl, dr, hall⟩ := hrel
      have KD := Lib.hid (And.intro dr hall)
      clear dr hall
      by_cases hlt : j < 4
      · have d2 : decide ((j : Int) < 4) = true := by simp; omega
        obtain ⟨yj, hyj⟩ : ∃ yj, y + j = yj := ⟨_, rfl⟩
        have ej : (y : Int) + (j : Int) = (yj : Int) := by omega
        have sy : yj < G.h := by omega
        have V := KD.out.1.see K0.out.2.1
        have c0 := V.w_
        obtain ⟨p0, p1, p2, p3, p4, p5⟩ := place K0.out.1 hx sy
        obtain ⟨i, hi⟩ : ∃ i, yj * G.w + x = i := ⟨_, rfl⟩
        have hii : (yj : Int) * (G.w : Int) + (x : Int) = (i : Int) := by rw [← hi]; push_cast; rfl
        have B1 : Hid (blank1 G c x (y + j) = (!c.sig.getD i false && (!c.seen.getD i false && decide (zeroM G c x yj = 0)))) := Lib.hid (by unfold blank1; rw [hyj, hi])
        have c6 := V.s_
        have c7 := V.e_
        unfold slV at c6 c7
        have ci := V.sig i (by rw [← hi]; exact p0)
        have cj := V.seen i (by rw [← hi]; exact p0)
        obtain ⟨kk, hkk⟩ : ∃ kk, zeroM G c x yj = kk := ⟨_, rfl⟩
        have ZA := Lib.hid (zero_any A G c x yj wr K0.out.1 V hx sy)
        rw [hkk] at ZA B1
        have HI := Lib.hid hii
        rw [hi] at p0
        clear hi hii hkk V hyj
        go_upto_region 7 with fail
        simp only [HI.out]
        generalize (yj : Int) * (G.w : Int) = u3 at *
        clear p2 p3 p4 p5 c0 HI
        obtain ⟨n, hn⟩ : ∃ n, G.w * G.h = n := ⟨_, rfl⟩
        rw [hn] at c6 c7 p0 p1
        have i1 : (i : Int) < (n : Int) := by omega
        clear hn
        rcases (Bool.eq_false_or_eq_true (c.sig.getD i false)) with hsg | hsg
        · have RF : Hid (R = false) := Lib.hid (by rw [← K0.out.2.2.1]; exact blankM_false j hlt (by rw [B1.out, hsg]; rfl))
          rw [hsg] at ci
          clear hsg
          go_wp2_with fail
          go_ret
          exact ⟨by rw [RF.out]; rfl, KD.out.1⟩
        · rcases (Bool.eq_false_or_eq_true (c.seen.getD i false)) with hsn | hsn
          · have RF : Hid (R = false) := Lib.hid (by rw [← K0.out.2.2.1]; exact blankM_false j hlt (by rw [B1.out, hsn]; simp))
            rw [hsg] at ci
            rw [hsn] at cj
            clear hsg hsn
            go_wp2_with fail
            go_ret
            exact ⟨by rw [RF.out]; rfl, KD.out.1⟩
          · by_cases hk0 : kk = 0
            · have d5 : ((kk : Int) == 0) = true := by rw [hk0]; rfl
              have d6 : (kk : Int) = 0 := by omega
              have BT : Hid (∀ k, k < j + 1 → blank1 G c x (y + k) = true) := Lib.hid (by
                intro k hk
                by_cases e : k = j
                · rw [e, B1.out, hsg, hsn, decide_eq_true hk0]; rfl
                · exact KD.out.2 k (by omega))
              rw [hsg] at ci
              rw [hsn] at cj
              have HK := Lib.hid hk0
              clear hsg hsn hk0
              go_wp2_with (go_at_call 86; refine ZA.out.mono ?_; rintro e w4 ⟨rfl, dr⟩; have D4 := Lib.hid (KD.out.1.trans dr); clear dr)
              go_roundg (4 - (j + 1))
              case measure => omega
              case rel => exact ⟨j + 1, by omega, rfl, by push_cast; rfl, D4.out, BT.out⟩
            · have d5 : ((kk : Int) == 0) = false := beq_eq_false_iff_ne.2 (by omega)
              have d6 : ¬ ((kk : Int) = 0) := by omega
              have RF : Hid (R = false) := Lib.hid (by rw [← K0.out.2.2.1]; exact blankM_false j hlt (by rw [B1.out, decide_eq_false hk0]; simp))
              rw [hsg] at ci
              rw [hsn] at cj
              clear hsg hsn hk0
              go_wp2_with (go_at_call 86; refine ZA.out.mono ?_; rintro e w4 ⟨rfl, dr⟩; have D4 := Lib.hid (KD.out.1.trans dr); clear dr)
              go_ret
              exact ⟨by rw [RF.out]; rfl, D4.out⟩
      · have d2 : decide ((j : Int) < 4) = false := by simp; omega
        have RT : Hid (R = true) := Lib.hid (by rw [← K0.out.2.2.1]; exact blankM_true K0.out.2.2.2 fun k hk => KD.out.2 k (by omega))
        go_wp2_with fail
        go_ret
        exact ⟨by rw [RT.out]; rfl, KD.out.1⟩
  · have d1 : decide ((G.h : Int) - (y : Int) < 4) = true := by simp; omega
    have e : blankM G c x y = false := by unfold blankM; rw [decide_eq_false h4]; rfl
    rw [e]
    clear e hv hg h4
    go_enter Try.func104, Try.ntmps104
    go_wp2_with fail
    go_ret
    exact ⟨rfl, Drew.refl w⟩
end Go.Proofs.Ytnpoakabheeoeaa
