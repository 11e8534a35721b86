/- waveletref8: a place becomes significant; a place is tried. -/
import Derived.Test.YtnpoakabheeoeaaMqk
import Derived.Deep.RegionHeld3
namespace Go.Proofs.Ytnpoakabheeoeaa
open Go.RowKit

theorem neg_le {G : GeoM} (hg : G.Ok) (i : Nat) : G.neg.getD i 0 ≤ 1 := by
  rw [List.getD_eq_getElem?_getD]
  cases h : G.neg[i]? with
  | none => simp
  | some n => exact hg.negB n (List.mem_of_getElem? h)
theorem saysM_le {G : GeoM} (hg : G.Ok) (c : CodM) (x y : Nat) (dx dy : Int) : -1 ≤ saysM G c x y dx dy ∧ saysM G c x y dx dy ≤ 1 := by
  unfold saysM
  split
  · have := neg_le hg (atM G x y dx dy)
    omega
  · omega
theorem rowN_same (g : Nat) (l : List Nat) (i : Nat) : (rowN g l).cs.setIfInBounds i (.int .i64 ((l.getD i 0 : Nat) : Int)) = (rowN g l).cs := by
  simp only [rowN, List.setIfInBounds_toArray]
  congr 1
  apply List.ext_getElem?
  intro j
  rw [List.getElem?_set]
  split
  · rename_i h
    subst h
    split
    · rename_i hl
      rw [List.length_map] at hl
      rw [List.getElem?_map, List.getElem?_eq_getElem hl, List.getD_eq_getElem?_getD, List.getElem?_eq_getElem hl]
      rfl
    · rename_i hl
      rw [List.getElem?_eq_none (by omega)]
  · rfl
theorem rowL_set (g : Nat) (l : List Bool) (i : Nat) (b : Bool) : (rowL g l).cs.setIfInBounds i (.bool b) = (rowL g (l.set i b)).cs := by
  simp only [rowL, List.setIfInBounds_toArray, List.map_set]
/-- Neg's and Sig's, Seen's, Again's cells, written -/
theorem CodR.setNeg {A : CodA} {G : GeoM} {q : CS} {raw : Bool} {eg rg : Nat} {H H0 : List HB} {w0 w : World} (h : CodR A G q raw eg rg H) (m : Mv w0 H0 w H) (i : Nat) : Mv w0 H0 (w.setCell ⟨A.gn, i, none⟩ (.int .i64 ((G.neg.getD i 0 : Nat) : Int))) H := by
  obtain ⟨He, Hr, -, -, rfl⟩ := h
  have := Mv.setAt (A := [_, _]) m i (.int .i64 ((G.neg.getD i 0 : Nat) : Int))
  have e : (G.neg.map fun (n : Nat) => Value.int .i64 (n : Int)).toArray.setIfInBounds i (.int .i64 ((G.neg.getD i 0 : Nat) : Int)) = (G.neg.map fun (n : Nat) => Value.int .i64 (n : Int)).toArray := rowN_same A.gn G.neg i
  rw [e] at this
  exact this
theorem CodR.setSig {A : CodA} {G : GeoM} {q : CS} {raw : Bool} {eg rg : Nat} {H H0 : List HB} {w0 w : World} (h : CodR A G q raw eg rg H) (m : Mv w0 H0 w H) (i : Nat) (b : Bool) : ∃ H', CodR A G ⟨{ q.c with sig := q.c.sig.set i b }, q.s⟩ raw eg rg H' ∧ Mv w0 H0 (w.setCell ⟨A.gs, i, none⟩ (.bool b)) H' := by
  obtain ⟨He, Hr, h1, h2, rfl⟩ := h
  have := Mv.setAt (A := [_, _, _]) m i (.bool b)
  have e : (q.c.sig.map Value.bool).toArray.setIfInBounds i (.bool b) = ((q.c.sig.set i b).map Value.bool).toArray := rowL_set A.gs q.c.sig i b
  rw [e] at this
  exact ⟨_, ⟨He, Hr, h1, h2, rfl⟩, this⟩
theorem CodR.setSeen {A : CodA} {G : GeoM} {q : CS} {raw : Bool} {eg rg : Nat} {H H0 : List HB} {w0 w : World} (h : CodR A G q raw eg rg H) (m : Mv w0 H0 w H) (i : Nat) (b : Bool) : ∃ H', CodR A G ⟨{ q.c with seen := q.c.seen.set i b }, q.s⟩ raw eg rg H' ∧ Mv w0 H0 (w.setCell ⟨A.ge, i, none⟩ (.bool b)) H' := by
  obtain ⟨He, Hr, h1, h2, rfl⟩ := h
  have := Mv.setAt (A := [_, _, _, _]) m i (.bool b)
  have e : (q.c.seen.map Value.bool).toArray.setIfInBounds i (.bool b) = ((q.c.seen.set i b).map Value.bool).toArray := rowL_set A.ge q.c.seen i b
  rw [e] at this
  exact ⟨_, ⟨He, Hr, h1, h2, rfl⟩, this⟩
theorem CodR.setAgain {A : CodA} {G : GeoM} {q : CS} {raw : Bool} {eg rg : Nat} {H H0 : List HB} {w0 w : World} (h : CodR A G q raw eg rg H) (m : Mv w0 H0 w H) (i : Nat) (b : Bool) : ∃ H', CodR A G ⟨{ q.c with again := q.c.again.set i b }, q.s⟩ raw eg rg H' ∧ Mv w0 H0 (w.setCell ⟨A.ga, i, none⟩ (.bool b)) H' := by
  obtain ⟨He, Hr, h1, h2, rfl⟩ := h
  have := Mv.setAt (A := [_, _, _, _, _]) m i (.bool b)
  have e : (q.c.again.map Value.bool).toArray.setIfInBounds i (.bool b) = ((q.c.again.set i b).map Value.bool).toArray := rowL_set A.ga q.c.again i b
  rw [e] at this
  exact ⟨_, ⟨He, Hr, h1, h2, rfl⟩, this⟩
theorem CodR.frozen {A : CodA} {G : GeoM} {q : CS} {raw : Bool} {eg rg : Nat} {H : List HB} {w : World} (h : CodR A G q raw eg rg H) (hs : Sat w H) (i : Nat) : w.frozen? ⟨A.gn, i, none⟩ = false ∧ w.frozen? ⟨A.gs, i, none⟩ = false ∧ w.frozen? ⟨A.ge, i, none⟩ = false ∧ w.frozen? ⟨A.ga, i, none⟩ = false ∧ w.frozen? ⟨A.cb, i, none⟩ = false := by
  obtain ⟨He, Hr, -, -, rfl⟩ := h
  exact ⟨(hs.at_ 2 (by rfl)).frozen i, (hs.at_ 3 (by rfl)).frozen i, (hs.at_ 4 (by rfl)).frozen i, (hs.at_ 5 (by rfl)).frozen i, (hs.at_ 0 (by rfl)).frozen i⟩
theorem CodR.tail {A : CodA} {G : GeoM} {q : CS} {raw : Bool} {eg rg : Nat} {H : List HB} {w : World} (h : CodR A G q raw eg rg H) (hs : Sat w H) (hq : q.s.Ok) :
    w.cell? ⟨A.cb, 47, none⟩ = some (.bool true) ∧ w.cell? ⟨A.cb, 48, none⟩ = some (.bool raw) ∧ w.cell? ⟨A.cb, 49, none⟩ = some (.pointer (some ⟨eg, 0, none⟩)) ∧ w.cell? ⟨A.cb, 50, none⟩ = some (.pointer (some ⟨rg, 0, none⟩)) := by
  obtain ⟨He, Hr, -, -, rfl⟩ := h
  exact codB_tail (hs.at_ 0 (by rfl)) hq.len
/-- a place's number, in the walk's words -/
theorem place {G : GeoM} (hg : G.Ok) {x y : Nat} (hx : x < G.w) (hy : y < G.h) : y * G.w + x < G.w * G.h ∧ G.w * G.h ≤ 4096 ∧ (0 : Int) ≤ (y : Int) * (G.w : Int) + (x : Int) ∧ (y : Int) * (G.w : Int) + (x : Int) < ((G.w * G.h : Nat) : Int) ∧ (y : Int) * (G.w : Int) ≤ 4096 ∧ (0 : Int) ≤ (y : Int) * (G.w : Int) := by
  have h0 : y * G.w + x < G.w * G.h := by
    have h1 : (y + 1) * G.w ≤ G.h * G.w := Nat.mul_le_mul_right _ hy
    rw [Nat.succ_mul, Nat.mul_comm G.h G.w] at h1
    omega
  have h2 : G.w * G.h ≤ 4096 := Nat.mul_le_mul hg.w2 hg.h2
  have h3 : (0 : Int) ≤ (y : Int) * (G.w : Int) := Int.mul_nonneg (by omega) (by omega)
  have h4 : (y : Int) * (G.w : Int) + (x : Int) < ((G.w * G.h : Nat) : Int) := by
    have : ((y * G.w + x : Nat) : Int) < ((G.w * G.h : Nat) : Int) := by omega
    push_cast at this ⊢
    exact this
  exact ⟨h0, h2, by omega, h4, by omega, h3⟩
theorem clampW (s : Int) : (if (if 1 < s then 1 else s) < -1 then -1 else if 1 < s then 1 else s) = clampI s := by
  unfold clampI
  repeat' split
  all_goals omega
theorem xor_le {a b : Nat} (h : a ≤ 1) (k : b ≤ 1) : a ^^^ b ≤ 1 ∧ (a ^^^ b) ^^^ b = a := by
  rcases (show a = 0 ∨ a = 1 by omega) with rfl | rfl <;> rcases (show b = 0 ∨ b = 1 by omega) with rfl | rfl <;> decide
set_option maxRecDepth 100000 in
set_option maxHeartbeats 1000000 in
theorem cod_sign (A : CodA) (G : GeoM) (q : CS) (raw : Bool) (eg rg x y : Nat) (H : List HB) (w : World) (hg : G.Ok) (hc : q.c.Ok G) (h : CodR A G q raw eg rg H) (hs : Sat w H) (hq : q.s.Ok) (hz : q.s.size ≤ 80000000) (hx : x < G.w) (hy : y < G.h) :
    Calls Try.prog 88 #[.pointer (some ⟨A.cb, 0, none⟩), .int .i64 (x : Int), .int .i64 (y : Int)] w fun e w' => e = .returned (.tuple #[]) ∧ ∃ H', CodR A G (signM G raw q x y) raw eg rg H' ∧ Mv w H w' H' := by
  have SY : ∀ dx dy : Int, -1 ≤ dx ∧ dx ≤ 1 → -1 ≤ dy ∧ dy ≤ 1 → ∀ W, Drew w W → Calls Try.prog 101 #[.pointer (some ⟨A.cb, 0, none⟩), .int .i64 (x : Int), .int .i64 (y : Int), .int .i64 dx, .int .i64 dy] W fun e w' => e = .returned (.int .i64 (saysM G q.c x y dx dy)) ∧ Drew w w' :=
    fun dx dy h1 h2 W hW => (says_any A G q.c x y dx dy W hg (hW.see (h.see hg hc hs)) hx hy h1 h2).mono fun _e _w' q => ⟨q.1, hW.trans q.2⟩
  have V := h.see hg hc hs
  have c0 := V.w_
  obtain ⟨p0, p1, p2, p3, p4, p5⟩ := place hg hx hy
  obtain ⟨d0, S0, b0, h0⟩ : ∃ d, Hid (∀ W, Drew w W → Calls Try.prog 101 #[.pointer (some ⟨A.cb, 0, none⟩), .int .i64 (x : Int), .int .i64 (y : Int), .int .i64 (-1), .int .i64 0] W fun e w' => e = .returned (.int .i64 d) ∧ Drew w w') ∧ (-1 ≤ d ∧ d ≤ 1) ∧ saysM G q.c x y (-1) 0 = d := ⟨_, Lib.hid (SY (-1) 0 (by decide) (by decide)), saysM_le hg q.c x y (-1) 0, rfl⟩
  obtain ⟨d1, S1, b1, h1⟩ : ∃ d, Hid (∀ W, Drew w W → Calls Try.prog 101 #[.pointer (some ⟨A.cb, 0, none⟩), .int .i64 (x : Int), .int .i64 (y : Int), .int .i64 1, .int .i64 0] W fun e w' => e = .returned (.int .i64 d) ∧ Drew w w') ∧ (-1 ≤ d ∧ d ≤ 1) ∧ saysM G q.c x y 1 0 = d := ⟨_, Lib.hid (SY 1 0 (by decide) (by decide)), saysM_le hg q.c x y 1 0, rfl⟩
  obtain ⟨d2, S2, b2, h2⟩ : ∃ d, Hid (∀ W, Drew w W → Calls Try.prog 101 #[.pointer (some ⟨A.cb, 0, none⟩), .int .i64 (x : Int), .int .i64 (y : Int), .int .i64 0, .int .i64 (-1)] W fun e w' => e = .returned (.int .i64 d) ∧ Drew w w') ∧ (-1 ≤ d ∧ d ≤ 1) ∧ saysM G q.c x y 0 (-1) = d := ⟨_, Lib.hid (SY 0 (-1) (by decide) (by decide)), saysM_le hg q.c x y 0 (-1), rfl⟩
  obtain ⟨d3, S3, b3, h3⟩ : ∃ d, Hid (∀ W, Drew w W → Calls Try.prog 101 #[.pointer (some ⟨A.cb, 0, none⟩), .int .i64 (x : Int), .int .i64 (y : Int), .int .i64 0, .int .i64 1] W fun e w' => e = .returned (.int .i64 d) ∧ Drew w w') ∧ (-1 ≤ d ∧ d ≤ 1) ∧ saysM G q.c x y 0 1 = d := ⟨_, Lib.hid (SY 0 1 (by decide) (by decide)), saysM_le hg q.c x y 0 1, rfl⟩
  have ES : Hid (sgnM G q.c x y = sctx (clampI (d0 + d1)) (clampI (d2 + d3))) := Lib.hid (by unfold sgnM; rw [h0, h1, h2, h3])
  have V2 := Lib.hid V
  have KR := Lib.hid (And.intro h (And.intro hs (And.intro hq (And.intro hz (And.intro hg hc)))))
  have D : Hid (Drew w w) := Lib.hid (Drew.refl w)
  clear SY V h0 h1 h2 h3 h hs hq hz hg hc
  go_enter Try.func88, Try.ntmps88
  go_upto_region 3 with (first
    | (go_at_call 101; (with_reducible refine (S0.out _ D.out).mono ?_); rintro e v0 ⟨rfl, D0⟩; replace D := Lib.hid D0; clear D0)
    | (go_at_call 101; (with_reducible refine (S1.out _ D.out).mono ?_); rintro e v0 ⟨rfl, D0⟩; replace D := Lib.hid D0; clear D0)
    | (go_at_call 101; (with_reducible refine (S2.out _ D.out).mono ?_); rintro e v0 ⟨rfl, D0⟩; replace D := Lib.hid D0; clear D0)
    | (go_at_call 101; (with_reducible refine (S3.out _ D.out).mono ?_); rintro e v0 ⟨rfl, D0⟩; replace D := Lib.hid D0; clear D0))
  simp only [clampW]
  obtain ⟨hh, hhe, hhb⟩ : ∃ hh, clampI (d0 + d1) = hh ∧ (-1 ≤ hh ∧ hh ≤ 1) := ⟨_, rfl, clampI_bd _⟩
  obtain ⟨vv, vve, vvb⟩ : ∃ vv, clampI (d2 + d3) = vv ∧ (-1 ≤ vv ∧ vv ≤ 1) := ⟨_, rfl, clampI_bd _⟩
  simp only [hhe, vve] at ES ⊢
  generalize (if (1 : Int) < d0 + d1 then (1 : Int) else d0 + d1) = u1
  generalize (if (1 : Int) < d2 + d3 then (1 : Int) else d2 + d3) = u2
  generalize d0 + d1 = u3 at *
  generalize d2 + d3 = u4 at *
  have SC := Lib.hid fun W => sign_ctx hh vv W hhb vvb
  obtain ⟨s, hs⟩ : ∃ s, sctx hh vv = s := ⟨_, rfl⟩
  obtain ⟨sk, st⟩ := sctx_le hhb vvb
  rw [hs] at ES SC sk st
  clear hhe vve hs S0 S1 S2 S3 b0 b1 b2 b3
  have M1 := D.out.mv (Mv.refl KR.out.2.1)
  have t1 := (KR.out.1.tail M1.sat KR.out.2.2.1).2.1
  go_upto_region 4 with (go_at_call 102; refine (SC.out _).mono ?_; rintro e v1 ⟨rfl, rfl⟩)
  obtain ⟨i, hi⟩ : ∃ i, y * G.w + x = i := ⟨_, rfl⟩
  have hii : (y : Int) * (G.w : Int) + (x : Int) = (i : Int) := by rw [← hi]; push_cast; rfl
  simp only [hii]
  obtain ⟨n, hn⟩ : ∃ n, G.w * G.h = n := ⟨_, rfl⟩
  rw [hi, hn] at p0
  rw [hn] at p1
  obtain ⟨nb, hnb⟩ : ∃ nb, G.neg.getD i 0 = nb := ⟨_, rfl⟩
  have nbl : nb ≤ 1 := by rw [← hnb]; exact neg_le KR.out.2.2.2.2.1 i
  have i1 : (i : Int) < (n : Int) := by omega
  clear hii p2 p3 p4 p5 c0 SC
  cases raw with
  | true =>
    have SM : signM G true q x y = ⟨{ q.c with sig := q.c.sig.set i true }, bitW true q.s s.k (nb ^^^ 0)⟩ := by unfold signM; rw [ES.out, hi, hnb]; rfl
    obtain ⟨xb1, xb2⟩ := xor_le nbl (show 0 ≤ 1 by omega)
    have X1 : bits .xor .i64 (nb : Int) 0 = ((nb ^^^ 0 : Nat) : Int) := i64_xor_nat nb 0 (by omega) (by omega)
    have X2 : bits .xor .i64 ((nb ^^^ 0 : Nat) : Int) 0 = (nb : Int) := (i64_xor_nat (nb ^^^ 0) 0 (by omega) (by omega)).trans (by rw [xb2])
    obtain ⟨b, hbe⟩ : ∃ b, nb ^^^ 0 = b := ⟨_, rfl⟩
    rw [hbe] at X1 X2 xb1 SM
    have SMh := Lib.hid SM
    clear hbe xb2 SM ES
    have BT : Hid (∀ W, Mv w H W H → Calls Try.prog 92 #[.pointer (some ⟨A.cb, 0, none⟩), .int .i64 (s.k : Int), .int .i64 (b : Int)] W fun e w' => e = .returned (.int .i64 (b : Int)) ∧ ∃ H', CodR A G ⟨q.c, bitW true q.s s.k b⟩ true eg rg H' ∧ Mv W H w' H') := Lib.hid fun W m => cod_bit A G q true eg rg s.k b H W KR.out.1 m.sat KR.out.2.2.1 KR.out.2.2.2.1 (by omega) xb1
    have SF : Hid (∀ W q2 H2, q2.c = q.c → CodR A G q2 true eg rg H2 → Mv w H W H2 → (W.cell? ⟨A.cb, 5, none⟩ = some (.slice (some ⟨A.gn, 0, none⟩) n n) ∧ W.cell? ⟨A.gn, i, none⟩ = some (.int .i64 (nb : Int)))) := Lib.hid (by
      intro W q2 H2 hq2 h2 m
      have V := h2.see KR.out.2.2.2.2.1 (by rw [hq2]; exact KR.out.2.2.2.2.2) m.sat
      have c5 := V.n_
      have ci := V.neg i (by rw [hn]; exact p0)
      rw [hnb] at ci
      unfold slV at c5
      rw [hn] at c5
      exact ⟨c5, ci⟩)
    have HN := Lib.hid (And.intro hn hnb)
    clear hi hn hnb nbl V2 sk st
    go_upto_region 6 with fail
    have F0 := SF.out v1.drew q H rfl KR.out.1 M1.drew
    clear t1
    go_region_held3 (fun w' => w'.cell? ⟨A.cb, 5, none⟩ = some (.slice (some ⟨A.gn, 0, none⟩) n n) ∧ w'.cell? ⟨A.gn, i, none⟩ = some (.int .i64 (nb : Int)))
      (first | (with_reducible exact F0) | (with_reducible exact F2) | (with_reducible exact F3))
      (first | (go_at_call 92; refine (BT.out _ M1.drew).mono ?_; rintro e v2 ⟨rfl, H2, h2, m2⟩; have M2 := M1.drew.trans m2; have F2 := SF.out v2 ⟨q.c, bitW true q.s s.k b⟩ H2 rfl h2 M2; have g2 := (h2.frozen M2.sat i).1; have N2 := h2.setNeg M2 i; rw [HN.out.2] at N2; have F3 := SF.out _ ⟨q.c, bitW true q.s s.k b⟩ H2 rfl h2 N2; have K2 := Lib.hid (And.intro h2 N2); clear h2 m2 M2 N2))
    all_goals
      have N2 := K2.out.2
      obtain ⟨v3, hv3⟩ : ∃ v3, v3 = v2.setCell ⟨A.gn, i, none⟩ (.int .i64 (nb : Int)) := ⟨_, rfl⟩
      rw [← hv3] at N2 ⊢
      have V3 := K2.out.1.see KR.out.2.2.2.2.1 KR.out.2.2.2.2.2 N2.sat
      have c6 := V3.s_
      unfold slV at c6
      rw [HN.out.1] at c6
      have ci := V3.sig i (by rw [HN.out.1]; exact p0)
      have gi := (K2.out.1.frozen N2.sat i).2.1
      obtain ⟨H3, h3, m3⟩ := K2.out.1.setSig N2 i true
      have K3 := Lib.hid (And.intro h3 m3)
      clear hv3 V3 N2 h3 m3 F0 F2 F3 K2 g2
      go_wp2_with fail
      exact bodyPost_end (results_none rfl _ _ _) rfl ⟨rfl, H3, by rw [SMh.out]; exact K3.out.1, K3.out.2⟩
  | false =>
    have SM : signM G false q x y = ⟨{ q.c with sig := q.c.sig.set i true }, bitW false q.s s.k (nb ^^^ s.turn)⟩ := by unfold signM; rw [ES.out, hi, hnb]; rfl
    obtain ⟨xb1, xb2⟩ := xor_le nbl (show s.turn ≤ 1 by exact st)
    have X1 : bits .xor .i64 (nb : Int) (s.turn : Int) = ((nb ^^^ s.turn : Nat) : Int) := i64_xor_nat nb s.turn (by omega) (by omega)
    have X2 : bits .xor .i64 ((nb ^^^ s.turn : Nat) : Int) (s.turn : Int) = (nb : Int) := (i64_xor_nat (nb ^^^ s.turn) s.turn (by omega) (by omega)).trans (by rw [xb2])
    obtain ⟨b, hbe⟩ : ∃ b, nb ^^^ s.turn = b := ⟨_, rfl⟩
    rw [hbe] at X1 X2 xb1 SM
    have SMh := Lib.hid SM
    clear hbe xb2 SM ES
    have BT : Hid (∀ W, Mv w H W H → Calls Try.prog 92 #[.pointer (some ⟨A.cb, 0, none⟩), .int .i64 (s.k : Int), .int .i64 (b : Int)] W fun e w' => e = .returned (.int .i64 (b : Int)) ∧ ∃ H', CodR A G ⟨q.c, bitW false q.s s.k b⟩ false eg rg H' ∧ Mv W H w' H') := Lib.hid fun W m => cod_bit A G q false eg rg s.k b H W KR.out.1 m.sat KR.out.2.2.1 KR.out.2.2.2.1 (by omega) xb1
    have SF : Hid (∀ W q2 H2, q2.c = q.c → CodR A G q2 false eg rg H2 → Mv w H W H2 → (W.cell? ⟨A.cb, 5, none⟩ = some (.slice (some ⟨A.gn, 0, none⟩) n n) ∧ W.cell? ⟨A.gn, i, none⟩ = some (.int .i64 (nb : Int)))) := Lib.hid (by
      intro W q2 H2 hq2 h2 m
      have V := h2.see KR.out.2.2.2.2.1 (by rw [hq2]; exact KR.out.2.2.2.2.2) m.sat
      have c5 := V.n_
      have ci := V.neg i (by rw [hn]; exact p0)
      rw [hnb] at ci
      unfold slV at c5
      rw [hn] at c5
      exact ⟨c5, ci⟩)
    have HN := Lib.hid (And.intro hn hnb)
    clear hi hn hnb nbl V2 sk st
    go_upto_region 6 with fail
    have F0 := SF.out v1.drew q H rfl KR.out.1 M1.drew
    clear t1
    go_region_held3 (fun w' => w'.cell? ⟨A.cb, 5, none⟩ = some (.slice (some ⟨A.gn, 0, none⟩) n n) ∧ w'.cell? ⟨A.gn, i, none⟩ = some (.int .i64 (nb : Int)))
      (first | (with_reducible exact F0) | (with_reducible exact F2) | (with_reducible exact F3))
      (first | (go_at_call 92; refine (BT.out _ M1.drew).mono ?_; rintro e v2 ⟨rfl, H2, h2, m2⟩; have M2 := M1.drew.trans m2; have F2 := SF.out v2 ⟨q.c, bitW false q.s s.k b⟩ H2 rfl h2 M2; have g2 := (h2.frozen M2.sat i).1; have N2 := h2.setNeg M2 i; rw [HN.out.2] at N2; have F3 := SF.out _ ⟨q.c, bitW false q.s s.k b⟩ H2 rfl h2 N2; have K2 := Lib.hid (And.intro h2 N2); clear h2 m2 M2 N2))
    all_goals
      have N2 := K2.out.2
      obtain ⟨v3, hv3⟩ : ∃ v3, v3 = v2.setCell ⟨A.gn, i, none⟩ (.int .i64 (nb : Int)) := ⟨_, rfl⟩
      rw [← hv3] at N2 ⊢
      have V3 := K2.out.1.see KR.out.2.2.2.2.1 KR.out.2.2.2.2.2 N2.sat
      have c6 := V3.s_
      unfold slV at c6
      rw [HN.out.1] at c6
      have ci := V3.sig i (by rw [HN.out.1]; exact p0)
      have gi := (K2.out.1.frozen N2.sat i).2.1
      obtain ⟨H3, h3, m3⟩ := K2.out.1.setSig N2 i true
      have K3 := Lib.hid (And.intro h3 m3)
      clear hv3 V3 N2 h3 m3 F0 F2 F3 K2 g2
      go_wp2_with fail
      exact bodyPost_end (results_none rfl _ _ _) rfl ⟨rfl, H3, by rw [SMh.out]; exact K3.out.1, K3.out.2⟩
end Go.Proofs.Ytnpoakabheeoeaa
