/- Tag trees of the program: the least number beneath a node. -/
import Derived.Test.YtnpoakabheeoeaaMte
namespace Go.Proofs.Ytnpoakabheeoeaa
open Go.RowKit

def nodeD : NodeM := ⟨0, 0, false⟩
def LevM.at_ (L : LevM) (x y : Nat) : NodeM := L.l.getD (y * L.w + x) nodeD
def leastStep (L : LevM) (x y dx dy : Nat) (n : Int) : Int := if 2 * x + dx < L.w ∧ 2 * y + dy < L.h then min n (L.at_ (2 * x + dx) (2 * y + dy)).n else n
def leastRow (L : LevM) (x y dy : Nat) (n : Int) : Int := leastStep L x y 1 dy (leastStep L x y 0 dy n)
/-- the least number beneath a node, of the four at most in the level beneath -/
def leastM (L : LevM) (x y : Nat) : Int := leastRow L x y 1 (leastRow L x y 0 (L.at_ (2 * x) (2 * y)).n)
/-- i rounds of the inner loop -/
def leastI (L : LevM) (x y dy : Nat) (n : Int) (i : Nat) : Int := if i = 0 then n else if i = 1 then leastStep L x y 0 dy n else leastRow L x y dy n
def leastO (L : LevM) (x y : Nat) (j : Nat) : Int := if j = 0 then (L.at_ (2 * x) (2 * y)).n else if j = 1 then leastRow L x y 0 (L.at_ (2 * x) (2 * y)).n else leastM L x y
theorem leastI_step (L : LevM) (x y dy : Nat) (n : Int) (i : Nat) (hi : i < 2) : leastI L x y dy n (i + 1) = leastStep L x y i dy (leastI L x y dy n i) := by
  have : i = 0 ∨ i = 1 := by omega
  rcases this with rfl | rfl <;> rfl
theorem leastO_step (L : LevM) (x y j : Nat) (hj : j < 2) : leastO L x y (j + 1) = leastI L x y j (leastO L x y j) 2 := by
  have : j = 0 ∨ j = 1 := by omega
  rcases this with rfl | rfl <;> rfl
/-- numbers that are not too great -/
def Small (T : List LvG) : Prop := ∀ p ∈ T, ∀ x ∈ p.2.l, -1000000 ≤ x.n ∧ x.n ≤ 1000000 ∧ 0 ≤ x.low ∧ x.low ≤ 1000000
theorem node_cell {tb : Nat} {P : List LvG} {H R : List HB} {w w0 : World} {H0 : List HB} (h : TreeH tb P H) (m : Mv w0 H0 w (R ++ H)) (hd : PDims P) {i : Nat} {p : LvG} (hp : P[i]? = some p) {x y : Nat} (hx : x < p.2.w) (hy : y < p.2.h) :
    w.cell? ⟨p.1, 3 * (y * p.2.w + x), none⟩ = some (.int .i64 (p.2.at_ x y).n) ∧ w.cell? ⟨p.1, 3 * (y * p.2.w + x) + 1, none⟩ = some (.int .i64 (p.2.at_ x y).low) ∧ w.cell? ⟨p.1, 3 * (y * p.2.w + x) + 2, none⟩ = some (.bool (p.2.at_ x y).said) ∧ ∀ k, w.frozen? ⟨p.1, k, none⟩ = false := by
  obtain ⟨v, Hl, rfl, hr⟩ := h
  have hb : Blk w p.1 145 (nodesV p.2.l).toArray := m.sat.2 (levB p) (by
    refine List.mem_append_right _ (List.mem_cons_of_mem _ (List.mem_append_right _ ?_))
    exact List.mem_map.2 ⟨p, List.mem_of_getElem? hp, rfl⟩)
  have hl : y * p.2.w + x < p.2.l.length := by rw [(hd.get hp).1]; exact place_lt hx hy
  have hg : p.2.l[y * p.2.w + x]? = some (p.2.at_ x y) := by
    unfold LevM.at_
    rw [List.getD_eq_getElem?_getD, List.getElem?_eq_getElem hl]
    rfl
  obtain ⟨k1, k2, k3⟩ := nodesV_get _ _ _ hg
  refine ⟨?_, ?_, ?_, fun k => hb.frozen k⟩
  · rw [hb.cell]; simpa using k1
  · rw [hb.cell]; simpa using k2
  · rw [hb.cell]; simpa using k3
theorem lev_cell {tb : Nat} {P : List LvG} {H R : List HB} {w w0 : World} {H0 : List HB} (h : TreeH tb P H) (m : Mv w0 H0 w (R ++ H)) (hd : PDims P) (hn : 0 < P.length) :
    ∃ g c, w.cell? ⟨tb, 0, none⟩ = some (.slice (some ⟨g, 0, none⟩) P.length c) ∧ ∀ i p, P[i]? = some p → w.cell? ⟨g, i * 3, none⟩ = some (.int .i64 (p.2.w : Int)) ∧ w.cell? ⟨g, i * 3 + 1, none⟩ = some (.int .i64 (p.2.h : Int)) ∧ w.cell? ⟨g, i * 3 + 2, none⟩ = some (.slice (some ⟨p.1, 0, none⟩) (p.2.w * p.2.h) (p.2.w * p.2.h)) := by
  obtain ⟨v, Hl, rfl, hr⟩ := h
  obtain ⟨va, vc, rfl⟩ := hr.slice
  have s1 := m.sat.right (A := R)
  obtain ⟨g, rfl, hc, -⟩ := hr.get (s1.right (A := [_])).left hn
  refine ⟨g, vc, (s1.at_ 0 rfl).cell 0, fun i p hp => ?_⟩
  obtain ⟨l1, l2, l3⟩ := levsV_get P i p hp
  have hi := (List.getElem?_eq_some_iff.1 hp).1
  have e1 := hc (3 * i) (by omega)
  have e2 := hc (3 * i + 1) (by omega)
  have e3 := hc (3 * i + 2) (by omega)
  rw [l1, Nat.mul_comm 3 i] at e1
  rw [l2, Nat.mul_comm 3 i] at e2
  rw [l3, (hd.get hp).1, Nat.mul_comm 3 i] at e3
  exact ⟨e1, e2, e3⟩

set_option maxRecDepth 100000 in
set_option maxHeartbeats 2000000 in
theorem least_any (tb : Nat) (P : List LvG) (i : Nat) (p : LvG) (x y : Nat) (W : World) (H : List HB) (h : TreeH tb P H) (hs : Sat W H) (hd : PDims P) (hp : P[i]? = some p) (hl : P.length ≤ 20) (hx : 2 * x < p.2.w) (hy : 2 * y < p.2.h) :
    Calls Try.prog 80 #[.pointer (some ⟨tb, 0, none⟩), .int .i64 ((i : Int) + 1), .int .i64 (x : Int), .int .i64 (y : Int)] W fun e W' => e = .returned (.int .i64 (leastM p.2 x y)) ∧ Mv W H W' H := by
  have hi : i < P.length := (List.getElem?_eq_some_iff.1 hp).1
  obtain ⟨g, c, c0, hc⟩ := lev_cell (R := []) h (Mv.refl hs) hd (by omega)
  obtain ⟨e1, e2, e3⟩ := hc i p hp
  have hii : (i : Int) < (P.length : Int) := by omega
  have hi20 : i ≤ 20 := by omega
  have q := hd.get hp
  have hx64 : 2 * x < 64 := by omega
  have hy64 : 2 * y < 64 := by omega
  have K := Lib.hid (And.intro h (And.intro hs (And.intro hd (And.intro hp q))))
  have GA := Lib.hid fun (a b : Nat) (V : World) (ha : a < p.2.w) (hb : b < p.2.h) => grid_at p.2.w p.2.h p.1 (p.2.w * p.2.h) (p.2.w * p.2.h) a b V (place_lt ha hb) (by omega) (by omega) (by omega) (by have := Nat.mul_le_mul q.2.2.1 q.2.2.2.2; omega)
  have NC := Lib.hid fun (w : World) (R : List HB) (m : Mv W H w (R ++ H)) (a b : Nat) (ha : a < p.2.w) (hb : b < p.2.h) => node_cell h m hd hp ha hb
  have KX := Lib.hid (And.intro hx hy)
  clear h hs hd hc q
  rw [show leastM p.2 x y = leastO p.2 x y 2 from rfl]
  go_enter Try.func80, Try.ntmps80
  go_upto_region 2 with fail
  have M1 := (Mv.refl K.out.2.1).alloc 142 #[.int .i64 (p.2.w : Int), .int .i64 (p.2.h : Int), .slice (some ⟨p.1, 0, none⟩) (p.2.w * p.2.h) (p.2.w * p.2.h)]
  obtain ⟨w1, hw1⟩ : ∃ w1, w1 = W.alloc (.cells #[.int .i64 (p.2.w : Int), .int .i64 (p.2.h : Int), .slice (some ⟨p.1, 0, none⟩) (p.2.w * p.2.h) (p.2.w * p.2.h)] 142) := ⟨_, rfl⟩
  rw [← hw1] at M1
  simp only [← hw1]
  have BX : Hid (∀ w, Mv W H w (⟨W.heap.size, 142, #[.int .i64 (p.2.w : Int), .int .i64 (p.2.h : Int), .slice (some ⟨p.1, 0, none⟩) (p.2.w * p.2.h) (p.2.w * p.2.h)]⟩ :: H) → w.cell? ⟨W.heap.size, 0, none⟩ = some (.int .i64 (p.2.w : Int)) ∧ w.cell? ⟨W.heap.size, 1, none⟩ = some (.int .i64 (p.2.h : Int)) ∧ w.cell? ⟨W.heap.size, 2, none⟩ = some (.slice (some ⟨p.1, 0, none⟩) (p.2.w * p.2.h) (p.2.w * p.2.h))) := Lib.hid fun w m => ⟨m.cell 0 rfl 0, m.cell 0 rfl 1, m.cell 0 rfl 2⟩
  have FX : Hid (∀ wa w2 a b, a < p.2.w → b < p.2.h → Mv W H wa (⟨W.heap.size, 142, #[.int .i64 (p.2.w : Int), .int .i64 (p.2.h : Int), .slice (some ⟨p.1, 0, none⟩) (p.2.w * p.2.h) (p.2.w * p.2.h)]⟩ :: H) → Mv wa [] w2 [] → Mv W H w2 (⟨W.heap.size, 142, #[.int .i64 (p.2.w : Int), .int .i64 (p.2.h : Int), .slice (some ⟨p.1, 0, none⟩) (p.2.w * p.2.h) (p.2.w * p.2.h)]⟩ :: H) ∧ w2.cell? ⟨p.1, 3 * (b * p.2.w + a), none⟩ = some (.int .i64 (p.2.at_ a b).n)) := Lib.hid (by
    intro wa w2 a b ha hb m m2
    have m3 := Mv.call (H := []) (H' := []) m m2
    exact ⟨m3, (NC.out w2 [_] m3 a b ha hb).1⟩)
  have KM := Lib.hid M1
  have G1 := fun V => GA.out (2 * x) (2 * y) V KX.out.1 KX.out.2
  simp only [Int.natCast_mul, Int.cast_ofNat_Int] at G1
  have G1 := Lib.hid G1
  have Z0 := Lib.hid (show leastO p.2 x y 0 = (p.2.at_ (2 * x) (2 * y)).n from rfl)
  obtain ⟨b0, b1, b2⟩ := BX.out w1 M1
  clear hw1 M1 c0 e1 e2 e3 NC
  go_upto_region 3 with (go_at_call 81; with_reducible refine (G1.out _).mono ?_; rintro e w2 ⟨rfl, m2⟩; obtain ⟨m3, y1⟩ := FX.out w1 w2 (2 * x) (2 * y) KX.out.1 KX.out.2 KM.out m2; have K2 := Lib.hid m3; clear m2 m3)
  go_wp2_with fail
  go_loopg [10, 11, 12, 30, 33] 2 (fun m s10 _ _ s30 _ wx => ∃ j : Nat, j ≤ 2 ∧ m = 2 - j ∧ s30 = .int .i64 (j : Int) ∧ s10 = .int .i64 (leastO p.2 x y j) ∧ Mv W H wx (⟨W.heap.size, 142, #[.int .i64 (p.2.w : Int), .int .i64 (p.2.h : Int), .slice (some ⟨p.1, 0, none⟩) (p.2.w * p.2.h) (p.2.w * p.2.h)]⟩ :: H))
  case atStart => exact ⟨0, by omega, rfl, rfl, by rw [Z0.out], K2.out⟩
  case round =>
    obtain ⟨wa, rfl⟩ : ∃ wa : World, wa = wr := ⟨_, rfl⟩
    obtain ⟨j, hj, rfl, rfl, rfl, ma⟩ := hrel
    have KA := Lib.hid ma
    clear ma y1 b0 b1 b2
    by_cases hlt : j < 2
    · have d1 : decide ((j : Int) < 2) = true := by simp; omega
      have ES := Lib.hid (leastO_step p.2 x y j hlt)
      obtain ⟨z, hz⟩ : ∃ z, leastO p.2 x y j = z := ⟨_, rfl⟩
      rw [hz] at ES ⊢
      clear hz
      go_wp2_with fail
      go_loopg [10, 12, 33] 2 (fun m s10 _ s33 wx => ∃ i' : Nat, i' ≤ 2 ∧ m = 2 - i' ∧ s33 = .int .i64 (i' : Int) ∧ s10 = .int .i64 (leastI p.2 x y j z i') ∧ Mv W H wx (⟨W.heap.size, 142, #[.int .i64 (p.2.w : Int), .int .i64 (p.2.h : Int), .slice (some ⟨p.1, 0, none⟩) (p.2.w * p.2.h) (p.2.w * p.2.h)]⟩ :: H))
      case atStart => exact ⟨0, by omega, rfl, rfl, rfl, KA.out⟩
      case round =>
        obtain ⟨wb, rfl⟩ : ∃ wb : World, wb = wr := ⟨_, rfl⟩
        obtain ⟨i', hi', rfl, rfl, rfl, mb⟩ := hrel
        obtain ⟨b0, b1, b2⟩ := BX.out wb mb
        have KB := Lib.hid mb
        clear mb
        by_cases hlt' : i' < 2
        · have d2 : decide ((i' : Int) < 2) = true := by simp; omega
          have EI := Lib.hid (leastI_step p.2 x y j z i' hlt')
          obtain ⟨z', hz'⟩ : ∃ z', leastI p.2 x y j z i' = z' := ⟨_, rfl⟩
          rw [hz'] at EI ⊢
          clear hz'
          by_cases hin : 2 * x + i' < p.2.w ∧ 2 * y + j < p.2.h
          · have t1 : 2 * (x : Int) + (i' : Int) < (p.2.w : Int) := by omega
            have t2 : 2 * (y : Int) + (j : Int) < (p.2.h : Int) := by omega
            have E2 : Hid (leastI p.2 x y j z (i' + 1) = min z' (p.2.at_ (2 * x + i') (2 * y + j)).n) := Lib.hid (by rw [EI.out]; unfold leastStep; rw [if_pos hin])
            have G2 := fun V => GA.out (2 * x + i') (2 * y + j) V hin.1 hin.2
            have F2 := Lib.hid fun w2 => FX.out wb w2 (2 * x + i') (2 * y + j) hin.1 hin.2 KB.out
            simp only [Int.natCast_add, Int.natCast_mul, Int.cast_ofNat_Int] at G2
            have G3 := Lib.hid G2
            obtain ⟨nn, hnn⟩ : ∃ nn, (p.2.at_ (2 * x + i') (2 * y + j)).n = nn := ⟨_, rfl⟩
            rw [hnn] at E2 F2
            clear G2 hnn hin EI
            go_wp2_with (go_at_call 81; with_reducible refine (G3.out _).mono ?_; rintro e w2 ⟨rfl, m2⟩; obtain ⟨m3, y1⟩ := F2.out w2 m2; have K2 := Lib.hid m3; clear m2 m3)
            all_goals
              go_roundg (2 - (i' + 1))
              case measure => omega
              case rel => exact ⟨i' + 1, by omega, rfl, by go_num, by rw [E2.out]; exact congrArg _ (by omega), K2.out⟩
          · have E2 : Hid (leastI p.2 x y j z (i' + 1) = z') := Lib.hid (by rw [EI.out]; unfold leastStep; rw [if_neg hin])
            by_cases hin1 : 2 * x + i' < p.2.w
            · have t1 : 2 * (x : Int) + (i' : Int) < (p.2.w : Int) := by omega
              have t2 : ¬ 2 * (y : Int) + (j : Int) < (p.2.h : Int) := by omega
              clear hin EI hin1
              go_wp2_with fail
              go_roundg (2 - (i' + 1))
              case measure => omega
              case rel => exact ⟨i' + 1, by omega, rfl, by go_num, by rw [E2.out], KB.out⟩
            · have t1 : ¬ 2 * (x : Int) + (i' : Int) < (p.2.w : Int) := by omega
              clear hin EI hin1
              go_wp2_with fail
              go_roundg (2 - (i' + 1))
              case measure => omega
              case rel => exact ⟨i' + 1, by omega, rfl, by go_num, by rw [E2.out], KB.out⟩
        · obtain rfl : i' = 2 := by omega
          have d2 : decide ((2 : Int) < 2) = false := by decide
          rw [← ES.out]
          go_wp2_with fail
          go_roundg (2 - (j + 1))
          case measure => omega
          case rel => exact ⟨j + 1, by omega, rfl, by go_num, rfl, KB.out⟩
    · obtain rfl : j = 2 := by omega
      have d1 : decide ((2 : Int) < 2) = false := by decide
      go_wp2_with fail
      go_ret
      exact ⟨rfl, KA.out.drop1⟩
end Go.Proofs.Ytnpoakabheeoeaa
