/- Tag trees of the program: Set. -/
import Derived.Test.YtnpoakabheeoeaaTh
namespace Go.Proofs.Ytnpoakabheeoeaa
open Go.RowKit

/-- the tree, the k-th leaf's number laid; none: as it was -/
def setK (P : List LvG) (k : Int) (n : Int) : List LvG :=
  match P with
  | [] => []
  | p :: R => if k < 0 ∨ (p.2.w * p.2.h : Nat) ≤ k then p :: R else setP (p :: R) (k.toNat % p.2.w) (k.toNat / p.2.w) n

/-- the tree when i levels were laid -/
def midT (P Q : List LvG) (i : Nat) : List LvG := Q.take i ++ P.drop i
theorem midT_shape {P Q : List LvG} (h : Q.map (fun p => shapeL p.2) = P.map (fun p => shapeL p.2)) (i : Nat) : (midT P Q i).map (fun p => shapeL p.2) = P.map (fun p => shapeL p.2) := by
  unfold midT
  rw [List.map_append, List.map_take, List.map_drop, h, List.take_append_drop]
theorem midT_length {P Q : List LvG} (h : Q.length = P.length) (i : Nat) : (midT P Q i).length = P.length := by
  unfold midT
  rw [List.length_append, List.length_take, List.length_drop, h]
  omega
theorem midT_get {P Q : List LvG} (h : Q.length = P.length) {i : Nat} (hi : i < P.length) : (midT P Q i)[i]? = P[i]? := by
  unfold midT
  rw [List.getElem?_append_right (by simp; omega), List.getElem?_drop]
  congr 1
  simp
  omega
theorem midT_below {P Q : List LvG} (h : Q.length = P.length) {i : Nat} (hi : i + 1 ≤ P.length) : (midT P Q (i + 1))[i]? = Q[i]? := by
  unfold midT
  rw [List.getElem?_append_left (by simp; omega), List.getElem?_take, if_pos (by omega)]
theorem midT_step {P Q : List LvG} (h : Q.length = P.length) {i : Nat} {z : LvG} (hz : Q[i]? = some z) : (midT P Q i).set i z = midT P Q (i + 1) := by
  have hi : i < P.length := by rw [← h]; exact (List.getElem?_eq_some_iff.1 hz).1
  unfold midT
  rw [List.take_add_one, hz]
  rw [List.set_append_right _ _ (by simp; omega)]
  have e : i - (Q.take i).length = 0 := by simp; omega
  have e2 : (P.drop i).set 0 z = z :: P.drop (i + 1) := by rw [List.drop_eq_getElem_cons hi]; rfl
  rw [e, e2]
  simp
theorem midT_all {P Q : List LvG} (h : Q.length = P.length) : midT P Q P.length = Q := by
  unfold midT
  rw [List.drop_length, List.append_nil, ← h, List.take_length]
theorem midT_zero (P Q : List LvG) : midT P Q 0 = P := by simp [midT]
set_option maxRecDepth 100000 in
set_option maxHeartbeats 4000000 in
theorem set_tree (tb : Nat) (P : List LvG) (k : Nat) (n : Int) (p0 : LvG) (W : World) (H : List HB) (h : TreeH tb P H) (hs : Sat W H) (hl : P.length ≤ 20) (hd : PDims P) (h0 : P[0]? = some p0) (hk : k < p0.2.w * p0.2.h) :
    Calls Try.prog 56 #[.pointer (some ⟨tb, 0, none⟩), .int .i64 (k : Int), .int .i64 n] W fun e W' => e = .returned (.tuple #[]) ∧ ∃ H', TreeH tb (setP P (k % p0.2.w) (k / p0.2.w) n) H' ∧ Mv W H W' H' := by
  have WO := Lib.hid (way_ok tb P k p0 W H h hs hl hd h0 hk)
  have hn : 0 < P.length := (List.getElem?_eq_some_iff.1 h0).1
  have q := hd.get h0
  have hx : k % p0.2.w < p0.2.w := Nat.mod_lt _ (by omega)
  have hy : k / p0.2.w < p0.2.h := Nat.div_lt_of_lt_mul hk
  have hmm : p0.2.w * p0.2.h ≤ 4096 := Nat.mul_le_mul q.2.2.1 q.2.2.2.2
  have hkb : k ≤ 4096 := Nat.le_of_lt (Nat.lt_of_lt_of_le hk hmm)
  have hkk : k / p0.2.w * p0.2.w + k % p0.2.w = k := Nat.div_add_mod' k p0.2.w
  have hki : (k : Int) < ((p0.2.w * p0.2.h : Nat) : Int) := by omega
  have hki2 : (k : Int) < (p0.2.w : Int) * (p0.2.h : Int) := by exact_mod_cast hk
  have d0 : ((P.length : Int) == 0) = false := beq_eq_false_iff_ne.2 (by omega)
  have hn0 : (0 : Int) < (P.length : Int) := by omega
  have hw1 : (p0.2.w : Int) ≠ 0 := by omega
  have K := Lib.hid (And.intro h (And.intro hs (And.intro hd (And.intro h0 (And.intro hx (And.intro hy hkk))))))
  have KQ := Lib.hid (And.intro q h0)
  clear h hs hd q h0 hk hx hy hkk hmm
  go_enter Try.func56, Try.ntmps56
  go_upto_region 1 with (go_at_call 79; refine WO.out.mono ?_; rintro e w1 ⟨v1, H1, rfl, r1, m1⟩; obtain ⟨a1, c1, rfl⟩ := r1.slice; have K1 := Lib.hid m1; clear r1 m1)
  obtain ⟨lg, lc, c0, hc⟩ := lev_cell (R := H1) K.out.1 K1.out K.out.2.2.1 hn
  obtain ⟨e1, e2, e3⟩ := hc 0 p0 K.out.2.2.2.1
  simp only [Nat.zero_mul, Nat.zero_add] at e1 e2 e3
  clear hc WO
  go_upto_region 2 with fail
  have M2 := (Mv.drop (A := H1) K1.out).alloc 142 #[.int .i64 (p0.2.w : Int), .int .i64 (p0.2.h : Int), .slice (some ⟨p0.1, 0, none⟩) (p0.2.w * p0.2.h) (p0.2.w * p0.2.h)]
  obtain ⟨bx, hbx⟩ : ∃ bx, bx = w1.heap.size := ⟨_, rfl⟩
  obtain ⟨w2, hw2⟩ : ∃ w2, w2 = w1.alloc (.cells #[.int .i64 (p0.2.w : Int), .int .i64 (p0.2.h : Int), .slice (some ⟨p0.1, 0, none⟩) (p0.2.w * p0.2.h) (p0.2.w * p0.2.h)] 142) := ⟨_, rfl⟩
  rw [← hw2, ← hbx] at M2
  simp only [← hw2, ← hbx]
  clear hw2 hbx c0 e1 e2 e3
  obtain ⟨x, hxx⟩ : ∃ x, k % p0.2.w = x := ⟨_, rfl⟩
  obtain ⟨y, hyy⟩ : ∃ y, k / p0.2.w = y := ⟨_, rfl⟩
  have hx64 : x ≤ 64 := by rw [← hxx]; have := K.out.2.2.2.2.1; have := KQ.out.1; omega
  have hy64 : y ≤ 64 := by rw [← hyy]; have := K.out.2.2.2.2.2.1; have := KQ.out.1; omega
  have hxi : (k : Int) % (p0.2.w : Int) = (x : Int) := by rw [← hxx]; push_cast; rfl
  have hyi : (k : Int) / (p0.2.w : Int) = (y : Int) := by rw [← hyy]; push_cast; rfl
  have N2 := node_cell (R := [_]) K.out.1 M2 K.out.2.2.1 K.out.2.2.2.1 K.out.2.2.2.2.1 K.out.2.2.2.2.2.1
  rw [K.out.2.2.2.2.2.2, Nat.mul_comm 3 k] at N2
  have y1 := N2.1
  have f1 := N2.2.2.2 (k * 3)
  have b2 : w2.cell? ⟨bx, 2, none⟩ = some (.slice (some ⟨p0.1, 0, none⟩) (p0.2.w * p0.2.h) (p0.2.w * p0.2.h)) := M2.cell 0 rfl 2
  obtain ⟨H3, t3, m3⟩ := tree_set K.out.1 (M2.sat.right (A := [_])) K.out.2.2.2.1 (p0.2.setN (k % p0.2.w) (k / p0.2.w) n) (LevM.set_shape _ _ _ _) (k * 3) (.int .i64 n) (by
    rw [nodes_setN _ _ _ _ (by rw [KQ.out.1.1]; exact place_lt K.out.2.2.2.2.1 K.out.2.2.2.2.2.1), K.out.2.2.2.2.2.2, Nat.mul_comm 3 k])
  have M3 := Mv.mv1 (A := H3) (B := [_]) (R := []) (Mv.call (Mv.mv1 (A := [_]) (B := H) (R := []) (by simpa using M2)) m3)
  have hQl := setP_length P (k % p0.2.w) (k / p0.2.w) n
  have hQ0 : (setP P (k % p0.2.w) (k / p0.2.w) n)[0]? = some (p0.1, p0.2.setN (k % p0.2.w) (k / p0.2.w) n) := by
    have h0 := KQ.out.2
    cases P with
    | nil => cases h0
    | cons p R => simp at h0; subst h0; rfl
  have t4 : TreeH tb (midT P (setP P (k % p0.2.w) (k / p0.2.w) n) 1) H3 := by
    rw [← midT_step hQl hQ0, midT_zero]
    exact t3
  have hQs := (setP_shape P (k % p0.2.w) (k / p0.2.w) n).1
  have hQg := fun i p hp => setP_get P (k % p0.2.w) (k / p0.2.w) n i p hp
  rw [hxx, hyy] at t4 hQl hQs hQg
  have KD := Lib.hid (And.intro K.out.2.2.1 (And.intro hQl (And.intro hQs hQg)))
  have AT := Lib.hid fun i p hp => PDims.at_ (i := i) (p := p) K.out.2.2.1 K.out.2.2.2.1 K.out.2.2.2.2.1 K.out.2.2.2.2.2.1 hp
  rw [hxx, hyy] at AT
  rw [hxx, hyy] at K
  obtain ⟨Q, hQ⟩ : ∃ Q, setP P x y n = Q := ⟨_, rfl⟩
  have HQ := Lib.hid hQ
  rw [hQ] at KD t4
  have K3 := Lib.hid (And.intro t4 M3)
  clear t3 m3 M3 M2 N2 t4 hQl hQ0 hQs hQg hQ K1 K
  obtain ⟨w3, hw3⟩ : ∃ w3, w3 = w2.setCell ⟨p0.1, k * 3, none⟩ (.int .i64 n) := ⟨_, rfl⟩
  rw [← hw3] at K3
  go_upto_region 3 with fail
  simp only [← hw3]
  clear hw3 y1 f1 b2
  have b0 : w3.cell? ⟨bx, 0, none⟩ = some (.int .i64 (p0.2.w : Int)) := K3.out.2.cell 0 rfl 0
  go_quiet (fail)
  go_upto_region 4 with fail
  simp only [hxi]
  obtain ⟨w4, hw4⟩ : ∃ w4, w4 = w3.drewN nq := ⟨_, rfl⟩
  have K4 : Hid (TreeH tb (midT P Q 1) H3 ∧ Mv W H w4 ([⟨bx, 142, #[.int .i64 (p0.2.w : Int), .int .i64 (p0.2.h : Int), .slice (some ⟨p0.1, 0, none⟩) (p0.2.w * p0.2.h) (p0.2.w * p0.2.h)]⟩] ++ H3)) := Lib.hid ⟨K3.out.1, by rw [hw4]; simpa using K3.out.2.drewN nq⟩
  simp only [← hw4]
  clear hw4 K3 b0 hxi hyi d0 hki hki2 hw1
  go_wp2_with fail
  go_loopg [7, 8, 9] P.length (fun m s7 s8 s9 wx => ∃ (i : Nat) (Hi : List HB), i + 1 ≤ P.length ∧ m = P.length - i ∧ s9 = .int .i64 ((i : Int) + 1) ∧ s7 = .int .i64 ((x / 2 ^ i : Nat) : Int) ∧ s8 = .int .i64 ((y / 2 ^ i : Nat) : Int) ∧ TreeH tb (midT P Q (i + 1)) Hi ∧ Mv W H wx ([⟨bx, 142, #[.int .i64 (p0.2.w : Int), .int .i64 (p0.2.h : Int), .slice (some ⟨p0.1, 0, none⟩) (p0.2.w * p0.2.h) (p0.2.w * p0.2.h)]⟩] ++ Hi))
  case atStart => exact ⟨0, H3, by omega, rfl, rfl, by simp, by simp, K4.out.1, K4.out.2⟩
  case round =>
    obtain ⟨wa, rfl⟩ : ∃ wa : World, wa = wr := ⟨_, rfl⟩
    obtain ⟨i, Hi, hi, rfl, rfl, rfl, rfl, ti, mi⟩ := hrel
    obtain ⟨hd, hQl, hQs, hQg⟩ := KD.out
    have hdT : PDims (midT P Q (i + 1)) := hd.congr (midT_shape hQs _)
    have hTl : (midT P Q (i + 1)).length = P.length := midT_length hQl _
    obtain ⟨lg, lc, c0, hc⟩ := lev_cell (R := [_]) ti mi hdT (by omega)
    rw [hTl] at c0
    have KI := Lib.hid (And.intro ti mi)
    by_cases hlt : i + 1 < P.length
    · obtain ⟨p, hp⟩ : ∃ p, P[i + 1]? = some p := ⟨_, List.getElem?_eq_getElem hlt⟩
      have hTp : (midT P Q (i + 1))[i + 1]? = some p := by rw [midT_get hQl hlt, hp]
      obtain ⟨e1, e2, e3⟩ := hc (i + 1) p hTp
      obtain ⟨gB, B, hB, hz⟩ := hQg i p hp
      have hTB : (midT P Q (i + 1))[i]? = some (gB, B) := by rw [midT_below hQl (by omega), hB]
      have qp := hd.get hp
      have qB : B.w = (P[i]'(by omega)).2.w ∧ B.h = (P[i]'(by omega)).2.h := by
        have e9 := congrArg (fun l => l[i]?) hQs
        simp only [List.getElem?_map, hB, List.getElem?_eq_getElem (show i < P.length by omega), Option.map_some, Option.some.injEq, shapeL, Prod.mk.injEq] at e9
        exact ⟨e9.1, e9.2.1⟩
      have a1 := AT.out i (P[i]'(by omega)) (List.getElem?_eq_getElem (by omega))
      have a2 := AT.out (i + 1) p hp
      rw [← qB.1, ← qB.2] at a1
      obtain ⟨X, hX⟩ : ∃ X, x / 2 ^ i = X := ⟨_, rfl⟩
      obtain ⟨Y, hY⟩ : ∃ Y, y / 2 ^ i = Y := ⟨_, rfl⟩
      have hX2 : x / 2 ^ (i + 1) = X / 2 := by rw [← hX, Nat.pow_succ, Nat.div_div_eq_div_mul]
      have hY2 : y / 2 ^ (i + 1) = Y / 2 := by rw [← hY, Nat.pow_succ, Nat.div_div_eq_div_mul]
      rw [hX, hY] at a1
      rw [hX2, hY2] at a2 hz
      simp only [hX, hY]
      have HXY := Lib.hid (And.intro hX2 hY2)
      have LE0 := fun V H hV sV => least_any tb (midT P Q (i + 1)) i (gB, B) (X / 2) (Y / 2) V H hV sV hdT hTB (by omega) (by simp only; omega) (by simp only; omega)
      have GA0 := fun V => grid_at p.2.w p.2.h p.1 (p.2.w * p.2.h) (p.2.w * p.2.h) (X / 2) (Y / 2) V (place_lt a2.1 a2.2) (by omega) (by omega) (by omega) (by have := Nat.mul_le_mul qp.2.2.1 qp.2.2.2.2; omega)
      simp only [Int.natCast_ediv, Int.cast_ofNat_Int] at LE0 GA0
      have LE := Lib.hid LE0
      have GA := Lib.hid GA0
      clear LE0 GA0
      have hXb : X ≤ 64 := by have := Nat.div_le_self x (2 ^ i); omega
      have hYb : Y ≤ 64 := by have := Nat.div_le_self y (2 ^ i); omega
      have hii : (i : Int) + 1 < (P.length : Int) := by omega
      have hi20 : i ≤ 20 := by omega
      have KZ := Lib.hid (And.intro hTp (And.intro hz (And.intro a2 qp)))
      have c0 := c0
      clear hd hQs hQg hdT hTl hc hp hTp hB hTB qp qB a1 a2 hX hY hX2 hY2 hz ti mi
      have FX : Hid (∀ w5, Mv wa [] w5 [] → Mv W H w5 ([⟨bx, 142, #[.int .i64 (p0.2.w : Int), .int .i64 (p0.2.h : Int), .slice (some ⟨p0.1, 0, none⟩) (p0.2.w * p0.2.h) (p0.2.w * p0.2.h)]⟩] ++ Hi)) := Lib.hid fun w5 m => Mv.call (H := []) (H' := []) KI.out.2 m
      have FY : Hid (∀ w5 w6, Mv W H w5 ([⟨bx, 142, #[.int .i64 (p0.2.w : Int), .int .i64 (p0.2.h : Int), .slice (some ⟨p0.1, 0, none⟩) (p0.2.w * p0.2.h) (p0.2.w * p0.2.h)]⟩] ++ Hi) → Mv w5 Hi w6 Hi → Mv W H w6 ([⟨bx, 142, #[.int .i64 (p0.2.w : Int), .int .i64 (p0.2.h : Int), .slice (some ⟨p0.1, 0, none⟩) (p0.2.w * p0.2.h) (p0.2.w * p0.2.h)]⟩] ++ Hi) ∧ w6.cell? ⟨p.1, 3 * (Y / 2 * p.2.w + X / 2), none⟩ = some (.int .i64 (p.2.at_ (X / 2) (Y / 2)).n) ∧ w6.frozen? ⟨p.1, 3 * (Y / 2 * p.2.w + X / 2), none⟩ = false) := Lib.hid (by
        intro w5 w6 m m6
        have M6 := Mv.mv1 (A := Hi) (B := [_]) (R := []) (Mv.call (Mv.mv1 (A := [_]) (B := Hi) (R := []) (by simpa using m)) m6)
        rw [List.append_nil] at M6
        have N6 := node_cell (R := [_]) KI.out.1 M6 (KD.out.1.congr (midT_shape KD.out.2.2.1 _)) KZ.out.1 KZ.out.2.2.1.1 KZ.out.2.2.1.2
        exact ⟨M6, N6.1, N6.2.2.2 _⟩)
      go_upto_region 8 with fail
      go_wp2_with (first | (go_at_call 81; with_reducible refine (GA.out _).mono ?_; rintro e w5 ⟨rfl, m5⟩; have K5 := Lib.hid (FX.out w5 m5); clear m5) | (go_at_call 80; with_reducible refine (LE.out _ Hi KI.out.1 (K5.out.sat.right)).mono ?_; rintro e w6 ⟨rfl, m6⟩; obtain ⟨m7, y1, f1⟩ := FY.out w5 w6 K5.out m6; have K6 := Lib.hid m7; clear m6 m7))
      obtain ⟨H7, t7, m7⟩ := tree_set KI.out.1 (K6.out.sat.right) KZ.out.1 (p.2.setN (X / 2) (Y / 2) (leastM B (X / 2) (Y / 2))) (LevM.set_shape _ _ _ _) (3 * (Y / 2 * p.2.w + X / 2)) (.int .i64 (leastM B (X / 2) (Y / 2))) (nodes_setN _ _ _ _ (by rw [KZ.out.2.2.2.1]; exact place_lt KZ.out.2.2.1.1 KZ.out.2.2.1.2))
      rw [midT_step KD.out.2.1 KZ.out.2.1] at t7
      have M7 := Mv.mv1 (A := H7) (B := [_]) (R := []) (Mv.call (Mv.mv1 (A := [_]) (B := Hi) (R := []) (by simpa using K6.out)) m7)
      rw [List.append_nil] at M7
      have K7 := Lib.hid (And.intro t7 M7)
      clear t7 m7 M7 y1 f1
      go_roundg (P.length - (i + 1))
      case measure => omega
      case rel =>
        refine ⟨i + 1, H7, by omega, rfl, by go_num, ?_, ?_, K7.out.1, K7.out.2⟩
        · rw [HXY.out.1]; push_cast; rfl
        · rw [HXY.out.2]; push_cast; rfl
    · have hie : i + 1 = P.length := by omega
      have hie2 : (i : Int) + 1 = (P.length : Int) := by omega
      rw [hie, midT_all hQl] at ti
      have KE := Lib.hid (And.intro ti mi)
      have d9 : ¬ (i : Int) + 1 < (P.length : Int) := by omega
      have KH := Lib.hid hie2
      clear ti mi hd hQl hQs hQg hdT hTl hc hie hie2 KI
      go_wp2_with fail
      go_end0
      rw [HQ.out]
      exact ⟨rfl, Hi, KE.out.1, Mv.drop (A := [_]) KE.out.2⟩
end Go.Proofs.Ytnpoakabheeoeaa
