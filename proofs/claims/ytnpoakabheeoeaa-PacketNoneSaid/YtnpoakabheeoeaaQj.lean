/- waveletref8: a coder in memory; is a neighbour significant? -/
import Derived.Test.YtnpoakabheeoeaaQf
import Derived.Test.YtnpoakabheeoeaaQe
import Derived.Test.YtnpoakabheeoeaaMqh
namespace Go.Proofs.Ytnpoakabheeoeaa
open Go.RowKit

structure CodA where
  cb : Nat
  gm : Nat
  gn : Nat
  gs : Nat
  ge : Nat
  ga : Nat
def slV (g n : Nat) : Value := .slice (some ⟨g, 0, none⟩) n n
def cxV (l : List CxM) : List Value := l.flatMap fun c => [.int .i64 (c.i : Int), .int .i64 (c.mps : Int)]
def codV (A : CodA) (G : GeoM) (cx : List CxM) (raw : Bool) (eg rg : Nat) : List Value :=
  [.int .i64 (G.w : Int), .int .i64 (G.h : Int), .int .i64 (G.band : Int), .int .i64 (G.style : Int), slV A.gm (G.w * G.h), slV A.gn (G.w * G.h), slV A.gs (G.w * G.h), slV A.ge (G.w * G.h), slV A.ga (G.w * G.h)] ++
    (cxV cx ++ [.bool true, .bool raw, .pointer (some ⟨eg, 0, none⟩), .pointer (some ⟨rg, 0, none⟩), .pointer none, .pointer none])
def codB (A : CodA) (G : GeoM) (cx : List CxM) (raw : Bool) (eg rg : Nat) : HB := ⟨A.cb, 98, (codV A G cx raw eg rg).toArray⟩
def rowN (g : Nat) (l : List Nat) : HB := ⟨g, 3, (l.map fun (n : Nat) => Value.int .i64 (n : Int)).toArray⟩
def rowL (g : Nat) (l : List Bool) : HB := ⟨g, 4, (l.map Value.bool).toArray⟩
/-- a coder that writes -/
def CodR (A : CodA) (G : GeoM) (q : CS) (raw : Bool) (eg rg : Nat) (H : List HB) : Prop :=
  ∃ He Hr, MqR eg q.s.e He ∧ RawR rg q.s.r Hr ∧ H = codB A G q.s.cx raw eg rg :: rowN A.gm G.mag :: rowN A.gn G.neg :: rowL A.gs q.c.sig :: rowL A.ge q.c.seen :: rowL A.ga q.c.again :: (He ++ Hr)
/-- what is read of it -/
structure CodSee (w : World) (A : CodA) (G : GeoM) (c : CodM) : Prop where
  w_ : w.cell? ⟨A.cb, 0, none⟩ = some (.int .i64 (G.w : Int))
  h_ : w.cell? ⟨A.cb, 1, none⟩ = some (.int .i64 (G.h : Int))
  band : w.cell? ⟨A.cb, 2, none⟩ = some (.int .i64 (G.band : Int))
  style : w.cell? ⟨A.cb, 3, none⟩ = some (.int .i64 (G.style : Int))
  m_ : w.cell? ⟨A.cb, 4, none⟩ = some (slV A.gm (G.w * G.h))
  n_ : w.cell? ⟨A.cb, 5, none⟩ = some (slV A.gn (G.w * G.h))
  s_ : w.cell? ⟨A.cb, 6, none⟩ = some (slV A.gs (G.w * G.h))
  e_ : w.cell? ⟨A.cb, 7, none⟩ = some (slV A.ge (G.w * G.h))
  a_ : w.cell? ⟨A.cb, 8, none⟩ = some (slV A.ga (G.w * G.h))
  mag : ∀ i, i < G.w * G.h → w.cell? ⟨A.gm, i, none⟩ = some (.int .i64 ((G.mag.getD i 0 : Nat) : Int))
  neg : ∀ i, i < G.w * G.h → w.cell? ⟨A.gn, i, none⟩ = some (.int .i64 ((G.neg.getD i 0 : Nat) : Int))
  sig : ∀ i, i < G.w * G.h → w.cell? ⟨A.gs, i, none⟩ = some (.bool (c.sig.getD i false))
  seen : ∀ i, i < G.w * G.h → w.cell? ⟨A.ge, i, none⟩ = some (.bool (c.seen.getD i false))
  again : ∀ i, i < G.w * G.h → w.cell? ⟨A.ga, i, none⟩ = some (.bool (c.again.getD i false))
theorem CodSee.drewN {w : World} {A : CodA} {G : GeoM} {c : CodM} (h : CodSee w A G c) (n : Nat) : CodSee (w.drewN n) A G c := ⟨h.w_, h.h_, h.band, h.style, h.m_, h.n_, h.s_, h.e_, h.a_, h.mag, h.neg, h.sig, h.seen, h.again⟩
theorem rowN_get {w : World} {g : Nat} {l : List Nat} (h : Blk w (rowN g l).g (rowN g l).t (rowN g l).cs) {n : Nat} (hl : l.length = n) (i : Nat) (hi : i < n) : w.cell? ⟨g, i, none⟩ = some (.int .i64 ((l.getD i 0 : Nat) : Int)) := by
  have h1 : w.cell? ⟨g, i, none⟩ = (l.map fun (n : Nat) => Value.int .i64 (n : Int)).toArray[i]? := h.cell i
  have h2 : l[i]? = some (l.getD i 0) := by rw [List.getD_eq_getElem?_getD, List.getElem?_eq_getElem (by omega)]; rfl
  rw [h1, List.getElem?_toArray, List.getElem?_map, h2]
  rfl
theorem rowL_get {w : World} {g : Nat} {l : List Bool} (h : Blk w (rowL g l).g (rowL g l).t (rowL g l).cs) {n : Nat} (hl : l.length = n) (i : Nat) (hi : i < n) : w.cell? ⟨g, i, none⟩ = some (.bool (l.getD i false)) := by
  have h1 : w.cell? ⟨g, i, none⟩ = (l.map Value.bool).toArray[i]? := h.cell i
  have h2 : l[i]? = some (l.getD i false) := by rw [List.getD_eq_getElem?_getD, List.getElem?_eq_getElem (by omega)]; rfl
  rw [h1, List.getElem?_toArray, List.getElem?_map, h2]
  rfl
theorem CodR.see {A : CodA} {G : GeoM} {q : CS} {raw : Bool} {eg rg : Nat} {H : List HB} {w : World} (h : CodR A G q raw eg rg H) (hg : G.Ok) (hc : q.c.Ok G) (hs : Sat w H) : CodSee w A G q.c := by
  obtain ⟨He, Hr, -, -, rfl⟩ := h
  have b0 := hs.at_ 0 (by rfl)
  have c := fun i => b0.cell i
  simp only [codV, List.cons_append, List.nil_append] at c
  exact ⟨c 0, c 1, c 2, c 3, c 4, c 5, c 6, c 7, c 8, rowN_get (hs.at_ 1 (by rfl)) hg.mag, rowN_get (hs.at_ 2 (by rfl)) hg.neg, rowL_get (hs.at_ 3 (by rfl)) hc.sig, rowL_get (hs.at_ 4 (by rfl)) hc.seen, rowL_get (hs.at_ 5 (by rfl)) hc.again⟩
theorem and8 : ∀ s, s < 64 → (s &&& 8) = if s.testBit 3 then 8 else 0 := by decide
theorem style8 (s : Nat) (h : s ≤ 63) : bits .and .i64 (s : Int) 8 = if s.testBit 3 then 8 else 0 := by
  have h1 := i64_and_nat s 8 (by omega) (by omega)
  rw [and8 s (by omega)] at h1
  rw [show ((8 : Nat) : Int) = 8 from rfl] at h1
  rw [h1]
  split <;> rfl
set_option maxRecDepth 100000 in
set_option maxHeartbeats 1000000 in
theorem sig_any (A : CodA) (G : GeoM) (c : CodM) (x y : Nat) (dx dy : Int) (w : World) (hg : G.Ok) (hv : CodSee w A G c) (hx : x < G.w) (hy : y < G.h) (h1 : -1 ≤ dx ∧ dx ≤ 1) (h2 : -1 ≤ dy ∧ dy ≤ 1) :
    Calls Try.prog 103 #[.pointer (some ⟨A.cb, 0, none⟩), .int .i64 (x : Int), .int .i64 (y : Int), .int .i64 dx, .int .i64 dy] w fun e w' => e = .returned (.bool (sigM G c x y dx dy)) ∧ ∃ n, w' = w.drewN n := by
  have c0 := hv.w_
  have c1 := hv.h_
  have c3 := hv.style
  have c6 := hv.s_
  unfold slV at c6
  have e8 := style8 G.style hg.style
  have hw1 := hg.w1
  have hw2 := hg.w2
  have hh1 := hg.h1
  have hh2 := hg.h2
  have HS := Lib.hid hv.sig
  clear hv hg
  obtain ⟨W, hW⟩ : ∃ W, G.w = W := ⟨_, rfl⟩
  obtain ⟨Hh, hH⟩ : ∃ Hh, G.h = Hh := ⟨_, rfl⟩
  obtain ⟨S, hS⟩ : ∃ S, G.style = S := ⟨_, rfl⟩
  obtain ⟨B, hB⟩ : ∃ B, sigM G c x y dx dy = B := ⟨_, rfl⟩
  have SM : Hid (B = (inM G x y dx dy && c.sig.getD (atM G x y dx dy) false)) := Lib.hid hB.symm
  obtain ⟨I, hI⟩ : ∃ I, inM G x y dx dy = I := ⟨_, rfl⟩
  have IM : Hid (I = (decide (0 ≤ (x : Int) + dx) && (decide ((x : Int) + dx < (W : Int)) && (decide (0 ≤ (y : Int) + dy) && (decide ((y : Int) + dy < (Hh : Int)) && !(S.testBit 3 && (decide (0 < dy) && decide (y % 4 = 3)))))))) := Lib.hid (by rw [← hI, ← hW, ← hH, ← hS]; rfl)
  have AM : Hid (atM G x y dx dy = ((y : Int) + dy).toNat * W + ((x : Int) + dx).toNat) := Lib.hid (by rw [← hW]; rfl)
  rw [hI] at SM
  rw [hW, hH] at HS
  rw [hW] at c0 hx hw1 hw2
  rw [hH] at c1 hy hh1 hh2
  rw [hS] at c3 e8
  rw [hW, hH] at c6
  rw [hB]
  have NN : W * Hh ≤ 4096 := Nat.mul_le_mul hw2 hh2
  clear hW hH hS hB hI
  by_cases k1 : (x : Int) + dx < 0
  · have d1 : decide ((x : Int) + dx < 0) = true := by simpa using k1
    have r : B = false := by rw [SM.out, IM.out, decide_eq_false (by omega)]; rfl
    rw [r]
    clear r
    go_enter Try.func103, Try.ntmps103
    go_wp2_with fail
    go_ret
    exact ⟨rfl, 0, rfl⟩
  obtain ⟨p, hp⟩ : ∃ p : Nat, (x : Int) + dx = p := ⟨((x : Int) + dx).toNat, by omega⟩
  have d1 : decide ((p : Int) < 0) = false := by simp
  by_cases k2 : (W : Int) ≤ (p : Int)
  · have d2 : decide ((W : Int) ≤ (p : Int)) = true := by simpa using k2
    have r : B = false := by rw [SM.out, IM.out, hp, decide_eq_true (by omega), decide_eq_false (show ¬ ((p : Int) < (W : Int)) by omega)]; rfl
    rw [r]
    clear r
    go_enter Try.func103, Try.ntmps103
    go_wp2_with fail
    go_ret
    exact ⟨rfl, 0, rfl⟩
  have d2 : decide ((W : Int) ≤ (p : Int)) = false := by simpa using k2
  by_cases k3 : (y : Int) + dy < 0
  · have d3 : decide ((y : Int) + dy < 0) = true := by simpa using k3
    have r : B = false := by rw [SM.out, IM.out, hp, decide_eq_true (by omega), decide_eq_true (show ((p : Int) < (W : Int)) by omega), decide_eq_false (show ¬ (0 ≤ (y : Int) + dy) by omega)]; rfl
    rw [r]
    clear r
    go_enter Try.func103, Try.ntmps103
    go_wp2_with fail
    go_ret
    exact ⟨rfl, 0, rfl⟩
  obtain ⟨q, hq⟩ : ∃ q : Nat, (y : Int) + dy = q := ⟨((y : Int) + dy).toNat, by omega⟩
  have d3 : decide ((q : Int) < 0) = false := by simp
  by_cases k4 : (Hh : Int) ≤ (q : Int)
  · have d4 : decide ((Hh : Int) ≤ (q : Int)) = true := by simpa using k4
    have r : B = false := by rw [SM.out, IM.out, hp, hq, decide_eq_true (show (0 : Int) ≤ p by omega), decide_eq_true (show ((p : Int) < (W : Int)) by omega), decide_eq_true (show (0 : Int) ≤ q by omega), decide_eq_false (show ¬ ((q : Int) < (Hh : Int)) by omega)]; rfl
    rw [r]
    clear r
    go_enter Try.func103, Try.ntmps103
    go_wp2_with fail
    go_ret
    exact ⟨rfl, 0, rfl⟩
  have d4 : decide ((Hh : Int) ≤ (q : Int)) = false := by simpa using k4
  have IM2 : Hid (I = !(S.testBit 3 && (decide (0 < dy) && decide (y % 4 = 3)))) := Lib.hid (by rw [IM.out, hp, hq, decide_eq_true (show (0 : Int) ≤ p by omega), decide_eq_true (show ((p : Int) < (W : Int)) by omega), decide_eq_true (show (0 : Int) ≤ q by omega), decide_eq_true (show ((q : Int) < (Hh : Int)) by omega)]; rfl)
  have AM2 : Hid (atM G x y dx dy = q * W + p) := Lib.hid (by rw [AM.out, hp, hq, Int.toNat_natCast, Int.toNat_natCast])
  clear IM AM k1 k2 k3 k4
  have hpW : p < W := by simp at d2; omega
  have hqH : q < Hh := by simp at d4; omega
  have hI0 : q * W + p < W * Hh := by
    have h1 : (q + 1) * W ≤ Hh * W := Nat.mul_le_mul_right _ hqH
    rw [Nat.succ_mul, Nat.mul_comm Hh W] at h1
    omega
  have cs := HS.out (q * W + p) hI0
  have i0 : (0 : Int) ≤ (q : Int) * (W : Int) + (p : Int) := by
    have : (0 : Int) ≤ (q : Int) * (W : Int) := Int.mul_nonneg (by omega) (by omega)
    omega
  have i1 : (q : Int) * (W : Int) + (p : Int) < ((W * Hh : Nat) : Int) := by
    have : ((q * W + p : Nat) : Int) < ((W * Hh : Nat) : Int) := by omega
    push_cast at this ⊢
    exact this
  have i2 : (q : Int) * (W : Int) ≤ 4096 := by omega
  have i3 : (0 : Int) ≤ (q : Int) * (W : Int) := Int.mul_nonneg (by omega) (by omega)
  rcases (Bool.eq_false_or_eq_true (S.testBit 3)).symm with ht | ht
  · rw [ht] at e8 IM2
    simp only [Bool.false_eq_true, if_false] at e8
    clear ht
    have r : B = c.sig.getD (q * W + p) false := by rw [SM.out, AM2.out, IM2.out]; simp
    rw [r]
    clear r
    generalize c.sig.getD (q * W + p) false = bb at *
    go_enter Try.func103, Try.ntmps103
    go_upto_region 4 with fail
    go_quiet (fail)
    go_wp2_with fail
    go_ret
    exact ⟨rfl, _, rfl⟩
  · rw [ht] at e8 IM2
    simp only [if_true] at e8
    clear ht
    by_cases hd : 0 < dy
    · have d5 : decide ((0 : Int) < dy) = true := by simpa using hd
      have IM3 : Hid (I = !(decide (y % 4 = 3))) := Lib.hid (by rw [IM2.out, decide_eq_true hd]; simp)
      clear hd IM2
      by_cases hy3 : y % 4 = 3
      · have d6 : (((y : Int) % 4) == 3) = true := by simp; omega
        have r : B = false := by rw [SM.out, IM3.out, decide_eq_true hy3]; rfl
        rw [r]
        clear r hy3
        go_enter Try.func103, Try.ntmps103
        go_wp2_with fail
        go_ret
        exact ⟨rfl, 0, rfl⟩
      · have d6 : (((y : Int) % 4) == 3) = false := beq_eq_false_iff_ne.2 (by omega)
        have IM2 : Hid (I = true) := Lib.hid (by rw [IM3.out, decide_eq_false hy3]; rfl)
        clear hy3 IM3
        have r : B = c.sig.getD (q * W + p) false := by rw [SM.out, AM2.out, IM2.out]; simp
        rw [r]
        clear r
        generalize c.sig.getD (q * W + p) false = bb at *
        go_enter Try.func103, Try.ntmps103
        go_upto_region 4 with fail
        go_quiet (fail)
        go_wp2_with fail
        go_ret
        exact ⟨rfl, _, rfl⟩
    · have d5 : decide ((0 : Int) < dy) = false := by simpa using hd
      have IM3 : Hid (I = true) := Lib.hid (by rw [IM2.out, decide_eq_false hd]; simp)
      clear hd IM2
      have IM2 := IM3
      clear IM3
      have r : B = c.sig.getD (q * W + p) false := by rw [SM.out, AM2.out, IM2.out]; simp
      rw [r]
      clear r
      generalize c.sig.getD (q * W + p) false = bb at *
      go_enter Try.func103, Try.ntmps103
      go_upto_region 4 with fail
      go_quiet (fail)
      go_wp2_with fail
      go_ret
      exact ⟨rfl, _, rfl⟩
end Go.Proofs.Ytnpoakabheeoeaa
