/- Tag trees of the program: Encode. -/
import Derived.Test.YtnpoakabheeoeaaMth
namespace Go.Proofs.Ytnpoakabheeoeaa
open Go.RowKit

/-- the tree when the levels from m on were gone through -/
def midE (P : List LvG) (x y : Nat) (b : Int) (m : Nat) : List LvG := P.take m ++ (encP (P.drop m) (x / 2 ^ m) (y / 2 ^ m) b).t
theorem midE_shape (P : List LvG) (x y : Nat) (b : Int) (m : Nat) : (midE P x y b m).map (fun p => shapeL p.2) = P.map (fun p => shapeL p.2) := by
  unfold midE
  rw [List.map_append, (encP_shape _ _ _ _).1, List.map_take, List.map_drop, List.take_append_drop]
theorem midE_get (P : List LvG) (x y : Nat) (b : Int) (m : Nat) (p : LvG) (hp : P[m]? = some p) : (midE P x y b (m + 1))[m]? = some p := by
  have hm := (List.getElem?_eq_some_iff.1 hp).1
  unfold midE
  rw [List.getElem?_append_left (by simp; omega), List.getElem?_take, if_pos (by omega), hp]
theorem midE_step (P : List LvG) (x y : Nat) (b : Int) (m : Nat) (p : LvG) (hp : P[m]? = some p) :
    let r := encP (P.drop (m + 1)) (x / 2 ^ (m + 1)) (y / 2 ^ (m + 1)) b
    let e := encNode (p.2.at_ (x / 2 ^ m) (y / 2 ^ m)) r.low b
    (midE P x y b (m + 1)).set m (p.1, p.2.set_ (x / 2 ^ m) (y / 2 ^ m) e.1) = midE P x y b m ∧ (encP (P.drop m) (x / 2 ^ m) (y / 2 ^ m) b).low = e.1.low ∧ (encP (P.drop m) (x / 2 ^ m) (y / 2 ^ m) b).bs = r.bs ++ e.2 := by
  obtain ⟨hm, hpe⟩ := List.getElem?_eq_some_iff.1 hp
  have e1 : P.drop m = p :: P.drop (m + 1) := by rw [List.drop_eq_getElem_cons hm, hpe]
  have e2 : ∀ z : Nat, z / 2 ^ m / 2 = z / 2 ^ (m + 1) := fun z => by rw [Nat.div_div_eq_div_mul, Nat.pow_succ]
  intro r e
  rw [e1]
  simp only [encP, e2]
  refine ⟨?_, rfl, rfl⟩
  unfold midE
  rw [e1]
  simp only [encP, e2]
  rw [List.take_add_one, hp]
  rw [List.append_assoc, List.set_append_right _ _ (by simp; omega)]
  have e3 : m - (P.take m).length = 0 := by simp; omega
  rw [e3]
  rfl
theorem midE_all (P : List LvG) (x y : Nat) (b : Int) : midE P x y b P.length = P := by simp [midE, encP]
theorem midE_zero (P : List LvG) (x y : Nat) (b : Int) : midE P x y b 0 = (encP P x y b).t := by simp [midE]

set_option maxRecDepth 100000 in
set_option maxHeartbeats 4000000 in
theorem enc_tree (tb wb : Nat) (P : List LvG) (bs : List Bool) (k : Nat) (b : Int) (p0 : LvG) (W : World) (HT HW : List HB) (h : TreeH tb P HT) (hw : WrB wb bs HW) (hs : Sat W (HW ++ HT)) (hl : P.length ≤ 20) (hd : PDims P) (h0 : P[0]? = some p0) (hk : k < p0.2.w * p0.2.h)
    (hb : b ≤ 1000) (hbs : bs.length ≤ 60000000) :
    Calls Try.prog 60 #[.pointer (some ⟨tb, 0, none⟩), .pointer (some ⟨wb, 0, none⟩), .int .i64 (k : Int), .int .i64 b] W fun e W' => e = .returned (.tuple #[]) ∧
      ∃ HT' HW', TreeH tb (encP P (k % p0.2.w) (k / p0.2.w) b).t HT' ∧ WrB wb (bs ++ (encP P (k % p0.2.w) (k / p0.2.w) b).bs) HW' ∧ Mv W (HW ++ HT) W' (HW' ++ HT') := by
  have WO := Lib.hid (way_ok tb P k p0 W HT h hs.right hl hd h0 hk)
  have hn : 0 < P.length := (List.getElem?_eq_some_iff.1 h0).1
  have q := hd.get h0
  have hx : k % p0.2.w < p0.2.w := Nat.mod_lt _ (by omega)
  have hy : k / p0.2.w < p0.2.h := Nat.div_lt_of_lt_mul hk
  have AT := Lib.hid fun i p hp => PDims.at_ (i := i) (p := p) hd h0 hx hy hp
  generalize k % p0.2.w = x at *
  generalize k / p0.2.w = y at *
  have K := Lib.hid (And.intro h (And.intro hw (And.intro hs hd)))
  clear h hw hs hd q h0 hk hx hy
  have hn0 : (0 : Int) < (P.length : Int) := by omega
  rw [← midE_zero]
  go_enter Try.func60, Try.ntmps60
  go_wp2_with (go_at_call 79; refine WO.out.mono ?_; rintro e w1 ⟨v1, H1, rfl, r1, m1⟩; obtain ⟨a1, c1, rfl⟩ := r1.slice; have K1 := Lib.hid (And.intro r1 m1); clear r1 m1)
  go_loopg [8, 10, 15] P.length (fun g s8 _ s15 wx => ∃ (m : Nat) (HTm HWm : List HB), m ≤ P.length ∧ m = g ∧ s15 = .int .i64 ((P.length - m : Nat) : Int) ∧ s8 = .int .i64 (encP (P.drop m) (x / 2 ^ m) (y / 2 ^ m) b).low ∧
    TreeH tb (midE P x y b m) HTm ∧ WrB wb (bs ++ (encP (P.drop m) (x / 2 ^ m) (y / 2 ^ m) b).bs) HWm ∧ Mv W (HW ++ HT) wx (HWm ++ (HTm ++ H1)))
  case atStart =>
    refine ⟨P.length, HT, HW, Nat.le_refl _, rfl, by simp, by simp [encP], by rw [midE_all]; exact K.out.1, by simpa [encP] using K.out.2.1, ?_⟩
    have := Mv.call (Mv.mv1 (A := HW) (B := HT) (R := []) (by simpa using Mv.refl K.out.2.2.1)) K1.out.2
    exact Mv.sub this (fun g => by simp only [cnt_append, cnt_nil]; omega) (fun c hc => by simp only [List.mem_append, List.not_mem_nil, or_false] at hc ⊢; grind)
  case round =>
    obtain ⟨wa, rfl⟩ : ∃ wa : World, wa = wr := ⟨_, rfl⟩
    obtain ⟨m, HTm, HWm, hm, rfl, rfl, rfl, tm, bm, mm⟩ := hrel
    by_cases hm0 : m = 0
    · subst hm0
      have KE := Lib.hid (And.intro tm (And.intro bm mm))
      clear tm bm mm K1
      simp only [Nat.sub_zero, List.drop_zero, Nat.pow_zero, Nat.div_one] at KE ⊢
      have d9 : ¬ (P.length : Int) < (P.length : Int) := by omega
      go_wp2_with fail
      go_end0
      exact ⟨rfl, HTm, KE.out.1, HWm, KE.out.2.1, Mv.sub KE.out.2.2 (fun g => by simp only [cnt_append]; omega) (fun c hc => by simp only [List.mem_append] at hc ⊢; grind)⟩
    · obtain ⟨m, rfl⟩ : ∃ m', m = m' + 1 := ⟨m - 1, by omega⟩
      obtain ⟨p, hp⟩ : ∃ p, P[m]? = some p := ⟨_, List.getElem?_eq_getElem (by omega)⟩
      obtain ⟨g1, eg1, hc1, -⟩ := K1.out.1.get mm.sat.right.right (by omega)
      obtain ⟨j, hj⟩ : ∃ j, P.length - (m + 1) = j := ⟨_, rfl⟩
      have hjn : j < P.length := by omega
      have cj := hc1 j (by omega)
      rw [List.getElem?_reverse (by rw [wayV_length]; exact hjn), wayV_length, show P.length - 1 - j = m from by omega, wayV_get P x y m p hp] at cj
      subst eg1
      have hT := midE_get P x y b m p hp
      have hst := midE_step P x y b m p hp
      have hdT : PDims (midE P x y b (m + 1)) := K.out.2.2.2.congr (midE_shape P x y b (m + 1))
      have hXY := AT.out m p hp
      have hlw := encP_inv (P.drop (m + 1)) (x / 2 ^ (m + 1)) (y / 2 ^ (m + 1)) b
      have hbl : (encP (P.drop (m + 1)) (x / 2 ^ (m + 1)) (y / 2 ^ (m + 1)) b).bs.length ≤ 20000 := by
        refine Nat.le_trans hlw.2 (Nat.le_trans (Nat.mul_le_mul (show (P.drop (m + 1)).length ≤ 20 by simp; omega) (show b.toNat ≤ 1000 by omega)) (by omega))
      have hlow := hlw.1
      generalize hX : x / 2 ^ m = X at *
      generalize hY : y / 2 ^ m = Y at *
      have HX := Lib.hid (And.intro hX hY)
      clear hX hY
      generalize encP (P.drop (m + 1)) (x / 2 ^ (m + 1)) (y / 2 ^ (m + 1)) b = E at *
      have hTs : (midE P x y b (m + 1)).set m (p.1, p.2.set_ X Y (p.2.at_ X Y)) = midE P x y b (m + 1) := by
        rw [LevM.set_at _ _ _ (by rw [(K.out.2.2.2.get hp).1]; exact place_lt hXY.1 hXY.2)]
        obtain ⟨h1, h2⟩ := List.getElem?_eq_some_iff.1 hT
        conv => rhs; rw [← List.set_getElem_self h1]
        rw [h2]
      have S0 : Sta W (HW ++ HT) wa tb wb (midE P x y b (m + 1)) m p X Y (p.2.at_ X Y) (bs ++ E.bs) H1 := ⟨HTm, HWm, by rw [hTs]; exact tm, bm, mm⟩
      simp only at hst
      generalize p.2.at_ X Y = z0 at *
      generalize midE P x y b (m + 1) = T at *
      have CE := fun w z bs (h : Sta W (HW ++ HT) w tb wb T m p X Y z bs H1) => h.cells hdT hT hXY.1 hXY.2
      have SE := fun w z bs z' f v (h : Sta W (HW ++ HT) w tb wb T m p X Y z bs H1) => h.set hdT hT hXY.1 hXY.2 z' f v
      generalize 3 * (Y * p.2.w + X) = kk at *
      have KS := Lib.hid S0
      obtain ⟨y0, y1, y2, fz⟩ := CE wa z0 _ S0
      have CE := Lib.hid CE
      have SE := Lib.hid SE
      have HS := Lib.hid hst
      have KM := Lib.hid (And.intro hm hj)
      obtain ⟨lo, hlo⟩ : ∃ lo, E.low = lo := ⟨_, rfl⟩
      rw [hlo] at hlow HS ⊢
      rw [hj]
      clear tm bm mm hc1 hT hst hdT hXY hlw hTs S0 hp hlo hj hm hm0
      go_upto_region 5 with fail
      all_goals
        obtain ⟨lw, hlw⟩ : ∃ lw, max z0.low lo = lw := ⟨_, rfl⟩
        have S1 := SE.out wa z0 _ { z0 with low := max z0.low lo } 1 (.int .i64 (max z0.low lo)) KS.out (.inl ⟨rfl, rfl, rfl⟩)
        have hmx : max z0.low lo = lo ∧ lo = lw ∨ max z0.low lo = z0.low ∧ z0.low = lw := by omega
        have hw5 : ∃ w5, w5 = wa.setCell ⟨p.1, kk + 1, none⟩ (.int .i64 (max z0.low lo)) := ⟨_, rfl⟩
        obtain ⟨w5, hw5⟩ := hw5
        rw [← hw5] at S1
        have EN : encNode z0 lo b = encL (b - lw).toNat { z0 with low := lw } b := by unfold encNode; rw [hlw]
        rw [hlw] at S1
        have hlb : 0 ≤ lw := by omega
        first
          | (have h5 : max z0.low lo = lo := by omega)
          | (have h5 : max z0.low lo = z0.low := by omega)
        rw [h5] at hw5
        simp only [← hw5]
        have EN := Lib.hid EN
        have KS1 := Lib.hid S1
        clear y0 y1 y2 fz hw5 S1 h5 hmx hlw cj
        go_loopg [28] (b - lw).toNat (fun g _ wx => ∃ (z : NodeM) (d : List Bool), (b - z.low).toNat = g ∧ encL (b - lw).toNat { z0 with low := lw } b = ((encL g z b).1, d ++ (encL g z b).2) ∧ Sta W (HW ++ HT) wx tb wb T m p X Y z (bs ++ E.bs ++ d) H1 ∧ 0 ≤ z.low ∧ z.n = z0.n)
        case atStart => exact ⟨_, [], rfl, rfl, by simpa using KS1.out, hlb, rfl⟩
        case round =>
          obtain ⟨wd, rfl⟩ : ∃ wd : World, wd = wr := ⟨_, rfl⟩
          obtain ⟨z, d, rfl, hE, hS, hz0, hzn⟩ := hrel
          obtain ⟨y0, y1, y2, fz⟩ := CE.out wd z _ hS
          have hdl : d.length ≤ 1000 := by
            have h1 := (encL_inv (b - lw).toNat { z0 with low := lw } b).1
            rw [hE, List.length_append] at h1
            omega
          have KZ := Lib.hid (And.intro hE (And.intro hS hzn))
          have f1 := fz (kk + 1)
          have f2 := fz (kk + 2)
          clear hE hS fz hzn
          by_cases hlt : z.low < b
          · by_cases hsd : z.said = true
            · rw [hsd] at y2
              have EQ : Hid (encNode z0 lo b = (z, d)) := Lib.hid (by rw [EN.out, KZ.out.1, encL_said _ _ _ (by rw [hsd]; simp)]; simp)
              have K9 := Lib.hid KZ.out.2.1
              clear hsd
              go_wp2_with fail
              go_roundg m
              case measure => omega
              case rel =>
                obtain ⟨HT9, HW9, q1, q2, q3⟩ := K9.out
                obtain ⟨s1, s2, s3⟩ := HS.out
                rw [EQ.out] at s1 s2 s3
                rw [← HX.out.1, ← HX.out.2] at s1 s2 s3
                refine ⟨m, HT9, HW9, by have := KM.out.1; omega, rfl, ?_, ?_, by rw [← s1, HX.out.1, HX.out.2]; exact q1, by rw [s3, ← List.append_assoc]; exact q2, q3⟩
                · have := KM.out; first | (congr 1; omega) | go_num
                · rw [s2]
            · rw [Bool.not_eq_true] at hsd
              rw [hsd] at y2
              by_cases hnl : z.n ≤ z.low
              · have d3 : decide (z.n ≤ z.low) = true := by simpa using hnl
                have S6 := (SE.out wd z _ { z with said := true } 2 (.bool true) KZ.out.2.1 (.inr ⟨rfl, rfl, rfl⟩)).drew
                have EQ : Hid (encNode z0 lo b = ({ z with said := true }, d ++ [true])) := Lib.hid (by rw [EN.out, KZ.out.1, encL_one _ _ _ ⟨hlt, hsd⟩ hnl rfl])
                go_upto_region 6 with fail
                go_region
                all_goals
                  obtain ⟨w6, hw6⟩ : ∃ w6, w6 = (wd.setCell ⟨p.1, kk + 2, none⟩ (.bool true)).drew := ⟨_, rfl⟩
                  rw [← hw6] at S6
                  simp only [← hw6]
                  clear hw6 y0 y1 y2 f1 f2
                  obtain ⟨-, y1, y2, -⟩ := CE.out w6 _ _ S6
                  have B6 := Lib.hid (S6.bit 1 (by simp only [List.length_append]; omega))
                  clear S6
                  go_wp2_with (go_at_call 58; with_reducible refine B6.out.mono ?_; rintro e w7 ⟨rfl, S7⟩; obtain ⟨-, x1, -, -⟩ := CE.out w7 _ _ S7; have K9 := Lib.hid S7; clear S7)
                  have K9 : Hid (Sta W (HW ++ HT) w7 tb wb T m p X Y { z with said := true } (bs ++ E.bs ++ (d ++ [true])) H1) := Lib.hid (by rw [← List.append_assoc]; simpa using K9.out)
                  go_roundg m
                  case measure => omega
                  case rel =>
                    obtain ⟨HT9, HW9, q1, q2, q3⟩ := K9.out
                    obtain ⟨s1, s2, s3⟩ := HS.out
                    rw [EQ.out] at s1 s2 s3
                    rw [← HX.out.1, ← HX.out.2] at s1 s2 s3
                    refine ⟨m, HT9, HW9, by have := KM.out.1; omega, rfl, ?_, ?_, by rw [← s1, HX.out.1, HX.out.2]; exact q1, by rw [s3, ← List.append_assoc]; exact q2, q3⟩
                    · have := KM.out; first | (congr 1; omega) | go_num
                    · rw [s2]
              · have d3 : decide (z.n ≤ z.low) = false := by simpa using hnl
                have S6 := (SE.out wd z _ { z with said := false } 2 (.bool false) KZ.out.2.1 (.inr ⟨rfl, rfl, rfl⟩)).drew
                obtain ⟨hf, EZ⟩ := encL_zero _ z b ⟨hlt, hsd⟩ hnl rfl
                have EQ := Lib.hid EZ
                clear EZ
                go_upto_region 6 with fail
                go_region
                all_goals
                  obtain ⟨w6, hw6⟩ : ∃ w6, w6 = (wd.setCell ⟨p.1, kk + 2, none⟩ (.bool false)).drew := ⟨_, rfl⟩
                  rw [← hw6] at S6
                  simp only [← hw6]
                  clear hw6 y0 y1 y2 f1 f2
                  obtain ⟨-, y1, y2, -⟩ := CE.out w6 _ _ S6
                  have B6 := Lib.hid (S6.bit 0 (by simp only [List.length_append]; omega))
                  clear S6
                  go_wp2_with (go_at_call 58; with_reducible refine B6.out.mono ?_; rintro e w7 ⟨rfl, S7⟩; obtain ⟨-, x1, -, fz⟩ := CE.out w7 _ _ S7; have fx := fz (kk + 1); have K9 := Lib.hid S7; clear S7 fz)
                  have S8 := SE.out w7 _ _ { z with said := false, low := z.low + 1 } 1 (.int .i64 (z.low + 1)) K9.out (.inl ⟨rfl, rfl, rfl⟩)
                  have K8 : Hid (Sta W (HW ++ HT) (w7.setCell ⟨p.1, kk + 1, none⟩ (.int .i64 (z.low + 1))) tb wb T m p X Y { z with said := false, low := z.low + 1 } (bs ++ E.bs ++ (d ++ [false])) H1) := Lib.hid (by rw [← List.append_assoc]; simpa using S8)
                  clear S8
                  go_roundg (b - (z.low + 1)).toNat
                  case measure => omega
                  case rel =>
                    refine ⟨_, d ++ [false], rfl, ?_, K8.out, by simp only; omega, KZ.out.2.2⟩
                    rw [KZ.out.1, EQ.out]
                    simp
          · have EQ : Hid (encNode z0 lo b = (z, d)) := Lib.hid (by rw [EN.out, KZ.out.1, encL_said _ _ _ (fun e => hlt e.1)]; simp)
            have K9 := Lib.hid KZ.out.2.1
            go_wp2_with fail
            go_roundg m
            case measure => omega
            case rel =>
              obtain ⟨HT9, HW9, q1, q2, q3⟩ := K9.out
              obtain ⟨s1, s2, s3⟩ := HS.out
              rw [EQ.out] at s1 s2 s3
              rw [← HX.out.1, ← HX.out.2] at s1 s2 s3
              refine ⟨m, HT9, HW9, by have := KM.out.1; omega, rfl, ?_, ?_, by rw [← s1, HX.out.1, HX.out.2]; exact q1, by rw [s3, ← List.append_assoc]; exact q2, q3⟩
              · have := KM.out; first | (congr 1; omega) | go_num
              · rw [s2]
end Go.Proofs.Ytnpoakabheeoeaa
