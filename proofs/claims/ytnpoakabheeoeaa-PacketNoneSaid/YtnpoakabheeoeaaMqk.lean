/- waveletref8: what stands around a place. waveletref8: a bit is said. -/
import Derived.Test.YtnpoakabheeoeaaQj
namespace Go.Proofs.Ytnpoakabheeoeaa
open Go.RowKit

/-- only draws -/
def Drew (w w' : World) : Prop := ∃ n, w' = w.drewN n
theorem Drew.refl (w : World) : Drew w w := ⟨0, rfl⟩
theorem Drew.trans {a b c : World} (h : Drew a b) (k : Drew b c) : Drew a c := by
  obtain ⟨n, rfl⟩ := h
  obtain ⟨m, rfl⟩ := k
  refine ⟨n + m, ?_⟩
  show ({ a with drawn := a.drawn + n + m } : World) = { a with drawn := a.drawn + (n + m) }
  rw [Nat.add_assoc]
theorem Drew.see {w w' : World} {A : CodA} {G : GeoM} {c : CodM} (h : Drew w w') (k : CodSee w A G c) : CodSee w' A G c := by
  obtain ⟨n, rfl⟩ := h
  exact k.drewN n
theorem Drew.mv {w0 w w' : World} {H0 H : List HB} (h : Drew w w') (k : Mv w0 H0 w H) : Mv w0 H0 w' H := by
  obtain ⟨n, rfl⟩ := h
  exact k.drewN n
set_option maxRecDepth 100000 in
set_option maxHeartbeats 1000000 in
theorem around_any (A : CodA) (G : GeoM) (c : CodM) (x y : Nat) (w : World) (hg : G.Ok) (hv : CodSee w A G c) (hx : x < G.w) (hy : y < G.h) :
    Calls Try.prog 89 #[.pointer (some ⟨A.cb, 0, none⟩), .int .i64 (x : Int), .int .i64 (y : Int)] w fun e w' => e = .returned (.tuple #[.int .i64 (((ardM G c x y).h : Nat) : Int), .int .i64 (((ardM G c x y).v : Nat) : Int), .int .i64 (((ardM G c x y).d : Nat) : Int)]) ∧ Drew w w' := by
  have SG : ∀ dx dy : Int, -1 ≤ dx ∧ dx ≤ 1 → -1 ≤ dy ∧ dy ≤ 1 → ∀ W, Drew w W → Calls Try.prog 103 #[.pointer (some ⟨A.cb, 0, none⟩), .int .i64 (x : Int), .int .i64 (y : Int), .int .i64 dx, .int .i64 dy] W fun e w' => e = .returned (.bool (sigM G c x y dx dy)) ∧ Drew w w' :=
    fun dx dy h1 h2 W hW => (sig_any A G c x y dx dy W hg (hW.see hv) hx hy h1 h2).mono fun _e _w' q => ⟨q.1, hW.trans q.2⟩
  obtain ⟨s0, S0, h0⟩ : ∃ s, Hid (∀ W, Drew w W → Calls Try.prog 103 #[.pointer (some ⟨A.cb, 0, none⟩), .int .i64 (x : Int), .int .i64 (y : Int), .int .i64 (-1), .int .i64 0] W fun e w' => e = .returned (.bool s) ∧ Drew w w') ∧ sigM G c x y (-1) 0 = s := ⟨_, Lib.hid (SG (-1) 0 (by decide) (by decide)), rfl⟩
  obtain ⟨s1, S1, h1⟩ : ∃ s, Hid (∀ W, Drew w W → Calls Try.prog 103 #[.pointer (some ⟨A.cb, 0, none⟩), .int .i64 (x : Int), .int .i64 (y : Int), .int .i64 1, .int .i64 0] W fun e w' => e = .returned (.bool s) ∧ Drew w w') ∧ sigM G c x y 1 0 = s := ⟨_, Lib.hid (SG 1 0 (by decide) (by decide)), rfl⟩
  obtain ⟨s2, S2, h2⟩ : ∃ s, Hid (∀ W, Drew w W → Calls Try.prog 103 #[.pointer (some ⟨A.cb, 0, none⟩), .int .i64 (x : Int), .int .i64 (y : Int), .int .i64 0, .int .i64 (-1)] W fun e w' => e = .returned (.bool s) ∧ Drew w w') ∧ sigM G c x y 0 (-1) = s := ⟨_, Lib.hid (SG 0 (-1) (by decide) (by decide)), rfl⟩
  obtain ⟨s3, S3, h3⟩ : ∃ s, Hid (∀ W, Drew w W → Calls Try.prog 103 #[.pointer (some ⟨A.cb, 0, none⟩), .int .i64 (x : Int), .int .i64 (y : Int), .int .i64 0, .int .i64 1] W fun e w' => e = .returned (.bool s) ∧ Drew w w') ∧ sigM G c x y 0 1 = s := ⟨_, Lib.hid (SG 0 1 (by decide) (by decide)), rfl⟩
  obtain ⟨s4, S4, h4⟩ : ∃ s, Hid (∀ W, Drew w W → Calls Try.prog 103 #[.pointer (some ⟨A.cb, 0, none⟩), .int .i64 (x : Int), .int .i64 (y : Int), .int .i64 (-1), .int .i64 (-1)] W fun e w' => e = .returned (.bool s) ∧ Drew w w') ∧ sigM G c x y (-1) (-1) = s := ⟨_, Lib.hid (SG (-1) (-1) (by decide) (by decide)), rfl⟩
  obtain ⟨s5, S5, h5⟩ : ∃ s, Hid (∀ W, Drew w W → Calls Try.prog 103 #[.pointer (some ⟨A.cb, 0, none⟩), .int .i64 (x : Int), .int .i64 (y : Int), .int .i64 1, .int .i64 (-1)] W fun e w' => e = .returned (.bool s) ∧ Drew w w') ∧ sigM G c x y 1 (-1) = s := ⟨_, Lib.hid (SG 1 (-1) (by decide) (by decide)), rfl⟩
  obtain ⟨s6, S6, h6⟩ : ∃ s, Hid (∀ W, Drew w W → Calls Try.prog 103 #[.pointer (some ⟨A.cb, 0, none⟩), .int .i64 (x : Int), .int .i64 (y : Int), .int .i64 (-1), .int .i64 1] W fun e w' => e = .returned (.bool s) ∧ Drew w w') ∧ sigM G c x y (-1) 1 = s := ⟨_, Lib.hid (SG (-1) 1 (by decide) (by decide)), rfl⟩
  obtain ⟨s7, S7, h7⟩ : ∃ s, Hid (∀ W, Drew w W → Calls Try.prog 103 #[.pointer (some ⟨A.cb, 0, none⟩), .int .i64 (x : Int), .int .i64 (y : Int), .int .i64 1, .int .i64 1] W fun e w' => e = .returned (.bool s) ∧ Drew w w') ∧ sigM G c x y 1 1 = s := ⟨_, Lib.hid (SG 1 1 (by decide) (by decide)), rfl⟩
  have EA : ardM G c x y = ⟨oneN s0 + oneN s1, oneN s2 + oneN s3, oneN s4 + oneN s5 + oneN s6 + oneN s7⟩ := by unfold ardM; rw [h0, h1, h2, h3, h4, h5, h6, h7]
  rw [EA]
  clear EA SG h0 h1 h2 h3 h4 h5 h6 h7 hv hg hx hy
  obtain ⟨n0, N0, b0, e0⟩ : ∃ n : Nat, Hid (∀ W, Calls Try.prog 35 #[.bool s0] W fun e w' => e = .returned (.int .i64 (n : Int)) ∧ w' = W) ∧ n ≤ 1 ∧ oneN s0 = n := ⟨_, Lib.hid fun W => one_any s0 W, oneN_le _, rfl⟩
  obtain ⟨n1, N1, b1, e1⟩ : ∃ n : Nat, Hid (∀ W, Calls Try.prog 35 #[.bool s1] W fun e w' => e = .returned (.int .i64 (n : Int)) ∧ w' = W) ∧ n ≤ 1 ∧ oneN s1 = n := ⟨_, Lib.hid fun W => one_any s1 W, oneN_le _, rfl⟩
  obtain ⟨n2, N2, b2, e2⟩ : ∃ n : Nat, Hid (∀ W, Calls Try.prog 35 #[.bool s2] W fun e w' => e = .returned (.int .i64 (n : Int)) ∧ w' = W) ∧ n ≤ 1 ∧ oneN s2 = n := ⟨_, Lib.hid fun W => one_any s2 W, oneN_le _, rfl⟩
  obtain ⟨n3, N3, b3, e3⟩ : ∃ n : Nat, Hid (∀ W, Calls Try.prog 35 #[.bool s3] W fun e w' => e = .returned (.int .i64 (n : Int)) ∧ w' = W) ∧ n ≤ 1 ∧ oneN s3 = n := ⟨_, Lib.hid fun W => one_any s3 W, oneN_le _, rfl⟩
  obtain ⟨n4, N4, b4, e4⟩ : ∃ n : Nat, Hid (∀ W, Calls Try.prog 35 #[.bool s4] W fun e w' => e = .returned (.int .i64 (n : Int)) ∧ w' = W) ∧ n ≤ 1 ∧ oneN s4 = n := ⟨_, Lib.hid fun W => one_any s4 W, oneN_le _, rfl⟩
  obtain ⟨n5, N5, b5, e5⟩ : ∃ n : Nat, Hid (∀ W, Calls Try.prog 35 #[.bool s5] W fun e w' => e = .returned (.int .i64 (n : Int)) ∧ w' = W) ∧ n ≤ 1 ∧ oneN s5 = n := ⟨_, Lib.hid fun W => one_any s5 W, oneN_le _, rfl⟩
  obtain ⟨n6, N6, b6, e6⟩ : ∃ n : Nat, Hid (∀ W, Calls Try.prog 35 #[.bool s6] W fun e w' => e = .returned (.int .i64 (n : Int)) ∧ w' = W) ∧ n ≤ 1 ∧ oneN s6 = n := ⟨_, Lib.hid fun W => one_any s6 W, oneN_le _, rfl⟩
  obtain ⟨n7, N7, b7, e7⟩ : ∃ n : Nat, Hid (∀ W, Calls Try.prog 35 #[.bool s7] W fun e w' => e = .returned (.int .i64 (n : Int)) ∧ w' = W) ∧ n ≤ 1 ∧ oneN s7 = n := ⟨_, Lib.hid fun W => one_any s7 W, oneN_le _, rfl⟩
  rw [e0, e1, e2, e3, e4, e5, e6, e7]
  clear e0 e1 e2 e3 e4 e5 e6 e7
  have D : Hid (Drew w w) := Lib.hid (Drew.refl w)
  go_enter Try.func89, Try.ntmps89
  go_wp2_with (first
    | (go_at_call 103; (with_reducible refine (S0.out _ D.out).mono ?_); rintro e v0 ⟨rfl, D0⟩; replace D := Lib.hid D0; clear D0)
    | (go_at_call 35; (with_reducible refine (N0.out _).mono ?_); rintro e v ⟨rfl, rfl⟩)
    | (go_at_call 103; (with_reducible refine (S1.out _ D.out).mono ?_); rintro e v1 ⟨rfl, D1⟩; replace D := Lib.hid D1; clear D1)
    | (go_at_call 35; (with_reducible refine (N1.out _).mono ?_); rintro e v ⟨rfl, rfl⟩)
    | (go_at_call 103; (with_reducible refine (S2.out _ D.out).mono ?_); rintro e v2 ⟨rfl, D2⟩; replace D := Lib.hid D2; clear D2)
    | (go_at_call 35; (with_reducible refine (N2.out _).mono ?_); rintro e v ⟨rfl, rfl⟩)
    | (go_at_call 103; (with_reducible refine (S3.out _ D.out).mono ?_); rintro e v3 ⟨rfl, D3⟩; replace D := Lib.hid D3; clear D3)
    | (go_at_call 35; (with_reducible refine (N3.out _).mono ?_); rintro e v ⟨rfl, rfl⟩)
    | (go_at_call 103; (with_reducible refine (S4.out _ D.out).mono ?_); rintro e v4 ⟨rfl, D4⟩; replace D := Lib.hid D4; clear D4)
    | (go_at_call 35; (with_reducible refine (N4.out _).mono ?_); rintro e v ⟨rfl, rfl⟩)
    | (go_at_call 103; (with_reducible refine (S5.out _ D.out).mono ?_); rintro e v5 ⟨rfl, D5⟩; replace D := Lib.hid D5; clear D5)
    | (go_at_call 35; (with_reducible refine (N5.out _).mono ?_); rintro e v ⟨rfl, rfl⟩)
    | (go_at_call 103; (with_reducible refine (S6.out _ D.out).mono ?_); rintro e v6 ⟨rfl, D6⟩; replace D := Lib.hid D6; clear D6)
    | (go_at_call 35; (with_reducible refine (N6.out _).mono ?_); rintro e v ⟨rfl, rfl⟩)
    | (go_at_call 103; (with_reducible refine (S7.out _ D.out).mono ?_); rintro e v7 ⟨rfl, D7⟩; replace D := Lib.hid D7; clear D7)
    | (go_at_call 35; (with_reducible refine (N7.out _).mono ?_); rintro e v ⟨rfl, rfl⟩))
  go_ret3
  exact ⟨rfl, D.out⟩
set_option maxRecDepth 100000 in
theorem zero_any (A : CodA) (G : GeoM) (c : CodM) (x y : Nat) (w : World) (hg : G.Ok) (hv : CodSee w A G c) (hx : x < G.w) (hy : y < G.h) :
    Calls Try.prog 86 #[.pointer (some ⟨A.cb, 0, none⟩), .int .i64 (x : Int), .int .i64 (y : Int)] w fun e w' => e = .returned (.int .i64 ((zeroM G c x y : Nat) : Int)) ∧ Drew w w' := by
  have AR := Lib.hid (around_any A G c x y w hg hv hx hy)
  obtain ⟨l1, l2, l3⟩ := ardM_le G c x y
  obtain ⟨a, ha⟩ : ∃ a, ardM G c x y = a := ⟨_, rfl⟩
  have e : zeroM G c x y = zctx G.band a.h a.v a.d := by unfold zeroM; rw [ha]
  rw [e]
  rw [ha] at AR l1 l2 l3
  have V := Lib.hid hv
  have ZC := Lib.hid fun W => zero_ctx G.band a.h a.v a.d W l1 l2 l3
  clear e ha hv hg
  go_enter Try.func86, Try.ntmps86
  go_wp2_with (first
    | (go_at_call 89; refine AR.out.mono ?_; rintro e w1 ⟨rfl, d1⟩; have c2 := (d1.see V.out).band; have D := Lib.hid d1; clear d1)
    | (go_at_call 100; refine (ZC.out _).mono ?_; rintro e w2 ⟨rfl, rfl⟩))
  go_ret
  exact ⟨rfl, D.out⟩
theorem inM_true {G : GeoM} {x y : Nat} {dx dy : Int} (h : inM G x y dx dy = true) : ∃ p q : Nat, (x : Int) + dx = p ∧ (y : Int) + dy = q ∧ p < G.w ∧ q < G.h := by
  unfold inM at h
  simp only [Bool.and_eq_true, decide_eq_true_eq] at h
  obtain ⟨h1, h2, h3, h4, -⟩ := h
  exact ⟨((x : Int) + dx).toNat, ((y : Int) + dy).toNat, by omega, by omega, by omega, by omega⟩
set_option maxRecDepth 100000 in
set_option maxHeartbeats 1000000 in
theorem says_any (A : CodA) (G : GeoM) (c : CodM) (x y : Nat) (dx dy : Int) (w : World) (hg : G.Ok) (hv : CodSee w A G c) (hx : x < G.w) (hy : y < G.h) (h1 : -1 ≤ dx ∧ dx ≤ 1) (h2 : -1 ≤ dy ∧ dy ≤ 1) :
    Calls Try.prog 101 #[.pointer (some ⟨A.cb, 0, none⟩), .int .i64 (x : Int), .int .i64 (y : Int), .int .i64 dx, .int .i64 dy] w fun e w' => e = .returned (.int .i64 (saysM G c x y dx dy)) ∧ Drew w w' := by
  have SG : Hid (Calls Try.prog 103 #[.pointer (some ⟨A.cb, 0, none⟩), .int .i64 (x : Int), .int .i64 (y : Int), .int .i64 dx, .int .i64 dy] w fun e w' => e = .returned (.bool (sigM G c x y dx dy)) ∧ Drew w w') := Lib.hid (sig_any A G c x y dx dy w hg hv hx hy h1 h2)
  rcases (Bool.eq_false_or_eq_true (sigM G c x y dx dy)).symm with hs | hs
  · have e : saysM G c x y dx dy = 0 := by unfold saysM; rw [hs]; rfl
    rw [e]
    rw [hs] at SG
    clear hs e hv hg
    go_enter Try.func101, Try.ntmps101
    go_wp2_with (go_at_call 103; refine SG.out.mono ?_; rintro e w1 ⟨rfl, d1⟩; have D := Lib.hid d1; clear d1)
    go_ret
    exact ⟨rfl, D.out⟩
  · have hin : inM G x y dx dy = true := by
      unfold sigM at hs
      simp only [Bool.and_eq_true] at hs
      exact hs.1
    obtain ⟨p, q, hp, hq, hpW, hqH⟩ := inM_true hin
    have e : saysM G c x y dx dy = 1 - 2 * ((G.neg.getD (q * G.w + p) 0 : Nat) : Int) := by
      unfold saysM atM
      rw [hs, hp, hq, Int.toNat_natCast, Int.toNat_natCast]
      rfl
    rw [e]
    rw [hs] at SG
    have hw2 := hg.w2
    have hh2 := hg.h2
    have hI0 : q * G.w + p < G.w * G.h := by
      have h1 : (q + 1) * G.w ≤ G.h * G.w := Nat.mul_le_mul_right _ hqH
      rw [Nat.succ_mul, Nat.mul_comm G.h G.w] at h1
      omega
    have NN : G.w * G.h ≤ 4096 := Nat.mul_le_mul hw2 hh2
    obtain ⟨ng, hng⟩ : ∃ ng, G.neg.getD (q * G.w + p) 0 = ng := ⟨_, rfl⟩
    have hnb : ng ≤ 1 := by
      rw [← hng, List.getD_eq_getElem?_getD, List.getElem?_eq_getElem (by rw [hg.neg]; exact hI0)]
      exact hg.negB _ (List.getElem_mem _)
    rw [hng]
    have V := Lib.hid hv
    have HG := Lib.hid (And.intro hI0 hng)
    clear hs e hv hg hin hng
    obtain ⟨W, hW⟩ : ∃ W, G.w = W := ⟨_, rfl⟩
    obtain ⟨Hh, hH⟩ : ∃ Hh, G.h = Hh := ⟨_, rfl⟩
    rw [hW] at hx hw2 hpW hI0
    rw [hH] at hy hh2 hqH
    rw [hW, hH] at NN
    rw [hH] at hI0
    have HWH := Lib.hid (And.intro hW hH)
    clear hW hH
    have i0 : (0 : Int) ≤ (q : Int) * (W : Int) + (p : Int) := by
      have : (0 : Int) ≤ (q : Int) * (W : Int) := Int.mul_nonneg (by omega) (by omega)
      omega
    have i1 : (q : Int) * (W : Int) + (p : Int) < ((W * Hh : Nat) : Int) := by
      have : ((q * W + p : Nat) : Int) < ((W * Hh : Nat) : Int) := by omega
      push_cast at this ⊢
      exact this
    have i2 : (q : Int) * (W : Int) ≤ 4096 := by omega
    have i3 : (0 : Int) ≤ (q : Int) * (W : Int) := Int.mul_nonneg (by omega) (by omega)
    have ea : (q : Int) * (W : Int) + (x : Int) + dx = (q : Int) * (W : Int) + (p : Int) := by omega
    clear hI0
    go_enter Try.func101, Try.ntmps101
    go_upto_region 3 with (go_at_call 103; refine SG.out.mono ?_; rintro e w1 ⟨rfl, d1⟩; have D := Lib.hid d1; clear d1)
    have hv1 := D.out.see V.out
    have c0 := hv1.w_
    have c5 := hv1.n_
    unfold slV at c5
    rw [HWH.out.1] at c0 c5
    rw [HWH.out.2] at c5
    have cn := hv1.neg (q * G.w + p) HG.out.1
    rw [HG.out.2, HWH.out.1] at cn
    clear hv1
    go_quiet (fail)
    go_wp2_with fail
    go_ret
    exact ⟨rfl, D.out.trans ⟨_, rfl⟩⟩
end Go.Proofs.Ytnpoakabheeoeaa
namespace Go.Proofs.Ytnpoakabheeoeaa
open Go.RowKit

theorem cxV_get {l : List CxM} {k : Nat} {x : CxM} (h : l[k]? = some x) : (cxV l)[k * 2]? = some (.int .i64 (x.i : Int)) ∧ (cxV l)[k * 2 + 1]? = some (.int .i64 (x.mps : Int)) := by
  have g := fun j (hj : j < 2) => flat_get (fun c : CxM => [Value.int .i64 (c.i : Int), .int .i64 (c.mps : Int)]) 2 (fun _ => rfl) l k x h j hj
  exact ⟨g 0 (by omega), g 1 (by omega)⟩
theorem cxV_length (l : List CxM) : (cxV l).length = l.length * 2 := flat_length _ 2 (fun _ => rfl) l
theorem cxV_set {l : List CxM} {k : Nat} {x : CxM} (h : l[k]? = some x) (x' : CxM) : ((cxV l).set (k * 2) (.int .i64 (x'.i : Int))).set (k * 2 + 1) (.int .i64 (x'.mps : Int)) = cxV (l.set k x') := by
  have e1 := flat_set (fun c : CxM => [Value.int .i64 (c.i : Int), .int .i64 (c.mps : Int)]) 2 (fun _ => rfl) l k x ⟨x'.i, x.mps⟩ h 0 (by omega) (.int .i64 (x'.i : Int)) rfl
  have hk := (List.getElem?_eq_some_iff.1 h).1
  have e2 := flat_set (fun c : CxM => [Value.int .i64 (c.i : Int), .int .i64 (c.mps : Int)]) 2 (fun _ => rfl) (l.set k ⟨x'.i, x.mps⟩) k ⟨x'.i, x.mps⟩ x' (by rw [List.getElem?_set_self hk]) 1 (by omega) (.int .i64 (x'.mps : Int)) rfl
  unfold cxV
  rw [show k * 2 + 0 = k * 2 from rfl] at e1
  rw [e1, e2]
  simp
theorem codV_get {A : CodA} {G : GeoM} {cx : List CxM} {raw : Bool} {eg rg k : Nat} {x : CxM} (h : cx[k]? = some x) : (codV A G cx raw eg rg).toArray[9 + k * 2]? = some (.int .i64 (x.i : Int)) ∧ (codV A G cx raw eg rg).toArray[9 + k * 2 + 1]? = some (.int .i64 (x.mps : Int)) := by
  have hk := (List.getElem?_eq_some_iff.1 h).1
  have hl := cxV_length cx
  obtain ⟨g0, g1⟩ := cxV_get h
  simp only [List.getElem?_toArray, codV]
  constructor
  · rw [List.getElem?_append_right (by simp only [List.length_cons, List.length_nil]; omega), List.getElem?_append_left (by simp only [List.length_cons, List.length_nil]; omega)]
    rw [← g0]
    congr 1
    simp only [List.length_cons, List.length_nil]
    omega
  · rw [List.getElem?_append_right (by simp only [List.length_cons, List.length_nil]; omega), List.getElem?_append_left (by simp only [List.length_cons, List.length_nil]; omega)]
    rw [← g1]
    congr 1
    simp only [List.length_cons, List.length_nil]
    omega
theorem codV_set {A : CodA} {G : GeoM} {cx : List CxM} {raw : Bool} {eg rg k : Nat} {x : CxM} (h : cx[k]? = some x) (x' : CxM) : cxSet (codV A G cx raw eg rg).toArray (9 + k * 2) x'.i x'.mps = (codV A G (cx.set k x') raw eg rg).toArray := by
  have hk := (List.getElem?_eq_some_iff.1 h).1
  have hl := cxV_length cx
  unfold cxSet codV
  rw [← cxV_set h x']
  simp only [List.setIfInBounds_toArray]
  congr 1
  rw [List.set_append_right _ _ (by simp only [List.length_cons, List.length_nil]; omega), List.set_append_right _ _ (by simp only [List.length_cons, List.length_nil]; omega)]
  congr 1
  rw [List.set_append_left _ _ (by simp only [List.length_cons, List.length_nil]; omega), List.set_append_left _ _ (by simp only [List.length_cons, List.length_nil, List.length_set]; omega)]
  congr 1
  simp only [List.length_cons, List.length_nil]
  rw [show 9 + k * 2 - (0 + 1 + 1 + 1 + 1 + 1 + 1 + 1 + 1 + 1) = k * 2 by omega, show 9 + k * 2 + 1 - (0 + 1 + 1 + 1 + 1 + 1 + 1 + 1 + 1 + 1) = k * 2 + 1 by omega]
theorem codB_tail {w : World} {A : CodA} {G : GeoM} {cx : List CxM} {raw : Bool} {eg rg : Nat} (h : Blk w A.cb 98 (codV A G cx raw eg rg).toArray) (hl : cx.length = 19) :
    w.cell? ⟨A.cb, 47, none⟩ = some (.bool true) ∧ w.cell? ⟨A.cb, 48, none⟩ = some (.bool raw) ∧ w.cell? ⟨A.cb, 49, none⟩ = some (.pointer (some ⟨eg, 0, none⟩)) ∧ w.cell? ⟨A.cb, 50, none⟩ = some (.pointer (some ⟨rg, 0, none⟩)) := by
  have hc := cxV_length cx
  have c := fun i => h.cell i
  have e : ∀ i v, i < 4 → [Value.bool true, .bool raw, .pointer (some ⟨eg, 0, none⟩), .pointer (some ⟨rg, 0, none⟩), .pointer none, .pointer none][i]? = some v → w.cell? ⟨A.cb, 47 + i, none⟩ = some v := by
    intro i v hi hv
    rw [c, List.getElem?_toArray, ← hv]
    unfold codV
    rw [List.getElem?_append_right (by simp only [List.length_cons, List.length_nil]; omega), List.getElem?_append_right (by simp only [List.length_cons, List.length_nil]; omega)]
    congr 1
    simp only [List.length_cons, List.length_nil]
    omega
  exact ⟨e 0 _ (by omega) rfl, e 1 _ (by omega) rfl, e 2 _ (by omega) rfl, e 3 _ (by omega) rfl⟩
/-- the coder's rows -/
def rowsR (A : CodA) (G : GeoM) (c : CodM) : List HB := [rowN A.gm G.mag, rowN A.gn G.neg, rowL A.gs c.sig, rowL A.ge c.seen, rowL A.ga c.again]
set_option maxRecDepth 100000 in
set_option maxHeartbeats 1000000 in
theorem cod_bit (A : CodA) (G : GeoM) (q : CS) (raw : Bool) (eg rg k b : Nat) (H : List HB) (w : World) (h : CodR A G q raw eg rg H) (hs : Sat w H) (hq : q.s.Ok) (hz : q.s.size ≤ 80000000) (hk : k < 19) (hb : b ≤ 1) :
    Calls Try.prog 92 #[.pointer (some ⟨A.cb, 0, none⟩), .int .i64 (k : Int), .int .i64 (b : Int)] w fun e w' => e = .returned (.int .i64 (b : Int)) ∧ ∃ H', CodR A G ⟨q.c, bitW raw q.s k b⟩ raw eg rg H' ∧ Mv w H w' H' := by
  obtain ⟨He, Hr, hme, hmr, rfl⟩ := h
  have bb : Blk w A.cb 98 (codV A G q.s.cx raw eg rg).toArray := hs.at_ 0 (by rfl)
  obtain ⟨t0, t1, t2, t3⟩ := codB_tail bb hq.len
  unfold WrM.size at hz
  cases raw with
  | true =>
    have M0 : Mv w (codB A G q.s.cx true eg rg :: (rowsR A G q.c ++ (He ++ Hr))) w (Hr ++ (codB A G q.s.cx true eg rg :: (rowsR A G q.c ++ He))) := (Mv.refl hs).sub (fun g => by simp only [rowsR, cnt_append, cnt_cons, cnt_nil]; omega) (fun c hc => by simp only [rowsR, List.mem_append, List.mem_cons] at hc ⊢; grind)
    have RB := Lib.hid (raw_bit rg q.s.r b w Hr hmr M0.sat.left hq.r (by omega) hb)
    have K0 := Lib.hid M0
    have HE := Lib.hid hme
    clear hme hmr hs bb M0 hq
    go_enter Try.func92, Try.ntmps92
    go_wp2_with (go_at_call 105; refine RB.out.mono ?_; rintro e w1 ⟨rfl, H1, h1, m1⟩; have K1 := Lib.hid (And.intro h1 (Mv.call (H := Hr) K0.out m1)); clear h1 m1)
    go_ret
    refine ⟨rfl, _, ⟨He, H1, HE.out, K1.out.1, rfl⟩, K1.out.2.sub (fun g => ?_) (fun c hc => ?_)⟩
    · simp only [rowsR, bitW, if_true, cnt_append, cnt_cons, cnt_nil]; omega
    · simp only [rowsR, bitW, if_true, List.mem_append, List.mem_cons] at hc ⊢; grind
  | false =>
    have hkl : k < q.s.cx.length := by rw [hq.len]; exact hk
    obtain ⟨x, hx⟩ : ∃ x, q.s.cx[k]? = some x := ⟨_, List.getElem?_eq_getElem hkl⟩
    have hxd : q.s.cx.getD k ⟨0, 0⟩ = x := by rw [List.getD_eq_getElem?_getD, hx]; rfl
    obtain ⟨g0, g1⟩ := codV_get (A := A) (G := G) (raw := false) (eg := eg) (rg := rg) hx
    have M0 : Mv w (codB A G q.s.cx false eg rg :: (rowsR A G q.c ++ (He ++ Hr))) w ((⟨A.cb, 98, (codV A G q.s.cx false eg rg).toArray⟩ :: He) ++ (rowsR A G q.c ++ Hr)) := (Mv.refl hs).sub (fun g => by simp only [rowsR, codB, cnt_append, cnt_cons, cnt_nil]; omega) (fun c hc => by simp only [rowsR, codB, List.mem_append, List.mem_cons] at hc ⊢; grind)
    have EB := Lib.hid (mq_enc eg A.cb k b 98 (codV A G q.s.cx false eg rg).toArray q.s.e x w.drew He hk hme M0.drew.sat.left g0 g1 hq.e (hq.cx x (List.mem_of_getElem? hx)) (by omega) hb)
    rw [codV_set hx] at EB
    have BW : Hid (bitW false q.s k b = { q.s with e := (encE q.s.e x b).1, cx := q.s.cx.set k (encE q.s.e x b).2 }) := Lib.hid (by unfold bitW; rw [hxd]; rfl)
    have K0 := Lib.hid M0.drew
    have HR := Lib.hid hmr
    clear hme hmr hs bb M0 hq hx hxd g0 g1
    go_enter Try.func92, Try.ntmps92
    go_upto_region 5 with fail
    go_still_tail 9, (by kernel_rfl)
    change wpList _ _ _ _ _ w.drew
    generalize w.drew = w0 at *
    go_wp2_with (go_at_call 106; refine EB.out.mono ?_; rintro e w1 ⟨rfl, H1, h1, m1⟩; have K1 := Lib.hid (And.intro h1 m1); clear h1 m1)
    have M1 : Mv w _ w1 _ := Mv.call (H := ⟨A.cb, 98, (codV A G q.s.cx false eg rg).toArray⟩ :: He) (R := rowsR A G q.c ++ Hr) K0.out K1.out.2
    go_ret
    rw [BW.out]
    refine ⟨rfl, _, ⟨H1, Hr, K1.out.1, HR.out, rfl⟩, M1.sub (fun g => ?_) (fun c hc => ?_)⟩
    · simp only [rowsR, codB, cnt_append, cnt_cons, cnt_nil]; omega
    · simp only [rowsR, codB, List.mem_append, List.mem_cons] at hc ⊢; grind
end Go.Proofs.Ytnpoakabheeoeaa
