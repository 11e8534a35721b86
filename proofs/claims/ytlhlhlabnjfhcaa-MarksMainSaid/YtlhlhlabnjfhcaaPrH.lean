/- marks.Parse: SIZ is read. -/
import Derived.Test.YtlhlhlabnjfhcaaPr
import Derived.Test.YtlhlhlabnjfhcaaMnE
import Derived.Deep.RegionLaw
namespace Go.Proofs.Ytlhlhlabnjfhcaa
open Go.RowKit Go.Maps

structure SizOk (m : ImgD) (p : ParD) : Prop where
  x : 0 ≤ m.x ∧ m.x < 4294967296
  y : 0 ≤ m.y ∧ m.y < 4294967296
  ox : 0 ≤ m.ox ∧ m.ox < 4294967296
  oy : 0 ≤ m.oy ∧ m.oy < 4294967296
  tx : 0 ≤ p.tx ∧ p.tx < 4294967296
  ty : 0 ≤ p.ty ∧ p.ty < 4294967296
  n : m.cs.length < 65536
  c : ∀ c ∈ m.cs, 1 ≤ c.depth ∧ c.depth ≤ 128 ∧ 0 ≤ c.dx ∧ c.dx < 256 ∧ 0 ≤ c.dy ∧ c.dy < 256

def CompD.bare (c : CompD) : CompD := { c with data := [] }
def sizH (m : ImgD) (p : ParD) (h : HeadM) : HeadM := { h with x := m.x, y := m.y, ox := m.ox, oy := m.oy, comps := m.cs.map CompD.bare, p := { h.p with tx := p.tx, ty := p.ty } }

theorem compsB_cons (c : CompD) (cs : List CompD) : compsB (c :: cs) = putB 1 (c.depth - 1 + flagI c.signed 128) ++ (putB 1 c.dx ++ (putB 1 c.dy ++ compsB cs)) := by
  simp [compsB, putsB]
def Z9 (m : ImgD) : List UInt8 := putB 2 (m.cs.length : Int) ++ compsB m.cs
def Z8 (m : ImgD) : List UInt8 := putB 4 0 ++ Z9 m
def Z7 (m : ImgD) : List UInt8 := putB 4 0 ++ Z8 m
def Z6 (m : ImgD) (p : ParD) : List UInt8 := putB 4 p.ty ++ Z7 m
def Z5 (m : ImgD) (p : ParD) : List UInt8 := putB 4 p.tx ++ Z6 m p
def Z4 (m : ImgD) (p : ParD) : List UInt8 := putB 4 m.oy ++ Z5 m p
def Z3 (m : ImgD) (p : ParD) : List UInt8 := putB 4 m.ox ++ Z4 m p
def Z2 (m : ImgD) (p : ParD) : List UInt8 := putB 4 m.y ++ Z3 m p
def Z1 (m : ImgD) (p : ParD) : List UInt8 := putB 4 m.x ++ Z2 m p
def Z0 (m : ImgD) (p : ParD) : List UInt8 := putB 2 0 ++ Z1 m p
theorem sizB_Z (m : ImgD) (p : ParD) : sizB m p = Z0 m p := by simp [sizB, putsB, Z0, Z1, Z2, Z3, Z4, Z5, Z6, Z7, Z8, Z9]
theorem Z9_len (m : ImgD) (h : m.cs.length < 65536) : (Z9 m).length ≤ 1000000000 := by simp [Z9, putB_length, compsB_length]; omega
theorem Z8_len (m : ImgD) (h : m.cs.length < 65536) : (Z8 m).length ≤ 1000000000 := by simp [Z8, Z9, putB_length, compsB_length]; omega
theorem Z7_len (m : ImgD) (h : m.cs.length < 65536) : (Z7 m).length ≤ 1000000000 := by simp [Z7, Z8, Z9, putB_length, compsB_length]; omega
theorem Z6_len (m : ImgD) (p : ParD) (h : m.cs.length < 65536) : (Z6 m p).length ≤ 1000000000 := by simp [Z6, Z7, Z8, Z9, putB_length, compsB_length]; omega
theorem Z5_len (m : ImgD) (p : ParD) (h : m.cs.length < 65536) : (Z5 m p).length ≤ 1000000000 := by simp [Z5, Z6, Z7, Z8, Z9, putB_length, compsB_length]; omega
theorem Z4_len (m : ImgD) (p : ParD) (h : m.cs.length < 65536) : (Z4 m p).length ≤ 1000000000 := by simp [Z4, Z5, Z6, Z7, Z8, Z9, putB_length, compsB_length]; omega
theorem Z3_len (m : ImgD) (p : ParD) (h : m.cs.length < 65536) : (Z3 m p).length ≤ 1000000000 := by simp [Z3, Z4, Z5, Z6, Z7, Z8, Z9, putB_length, compsB_length]; omega
theorem Z2_len (m : ImgD) (p : ParD) (h : m.cs.length < 65536) : (Z2 m p).length ≤ 1000000000 := by simp [Z2, Z3, Z4, Z5, Z6, Z7, Z8, Z9, putB_length, compsB_length]; omega
theorem Z1_len (m : ImgD) (p : ParD) (h : m.cs.length < 65536) : (Z1 m p).length ≤ 1000000000 := by simp [Z1, Z2, Z3, Z4, Z5, Z6, Z7, Z8, Z9, putB_length, compsB_length]; omega
theorem sizB_len (m : ImgD) (p : ParD) : (sizB m p).length = 36 + 3 * m.cs.length := by rw [sizB_Z]; simp [Z0, Z1, Z2, Z3, Z4, Z5, Z6, Z7, Z8, Z9, putB_length, compsB_length]; omega

theorem get_i4 (rb : Nat) (n : Int) (hn : 0 ≤ n ∧ n < 4294967296) (l : List UInt8) (w : World) (hr : Rdr w rb (putB 4 n ++ l) 0) (hl : l.length ≤ 1000000000) :
    Calls Try.prog 45 #[.pointer (some ⟨rb, 0, none⟩), .int .i64 4] w fun e w' => e = .returned (.int .i64 n) ∧ Rdr w' rb l 0 ∧ w.grownBy w' (some rb) := by
  obtain ⟨k, rfl⟩ := Int.eq_ofNat_of_zero_le hn.1
  exact get_put4 rb k (by omega) l w hr hl
theorem get_i2 (rb : Nat) (n : Int) (hn : 0 ≤ n ∧ n < 65536) (l : List UInt8) (w : World) (hr : Rdr w rb (putB 2 n ++ l) 0) (hl : l.length ≤ 1000000000) :
    Calls Try.prog 45 #[.pointer (some ⟨rb, 0, none⟩), .int .i64 2] w fun e w' => e = .returned (.int .i64 n) ∧ Rdr w' rb l 0 ∧ w.grownBy w' (some rb) := by
  obtain ⟨k, rfl⟩ := Int.eq_ofNat_of_zero_le hn.1
  exact get_put2 rb k (by omega) l w hr hl
theorem get_i1 (rb : Nat) (n : Int) (hn : 0 ≤ n ∧ n < 256) (l : List UInt8) (w : World) (hr : Rdr w rb (putB 1 n ++ l) 0) (hl : l.length ≤ 1000000000) :
    Calls Try.prog 45 #[.pointer (some ⟨rb, 0, none⟩), .int .i64 1] w fun e w' => e = .returned (.int .i64 n) ∧ Rdr w' rb l 0 ∧ w.grownBy w' (some rb) := by
  obtain ⟨k, rfl⟩ := Int.eq_ofNat_of_zero_le hn.1
  exact get_put rb 1 k (by decide) (by decide) (getI_put1 k (by omega)) l w hr hl

theorem and_127 : ∀ v : Fin 256, bits .and .i64 ((v : Nat) : Int) 127 = ((v : Nat) : Int) % 128 := by decide +kernel
theorem depth_back (d : Int) (s : Bool) (h1 : 1 ≤ d) (h2 : d ≤ 128) : bits .and .i64 (d - 1 + flagI s 128) 127 = d - 1 ∧ decide (128 ≤ d - 1 + flagI s 128) = s := by
  have e : ∀ v : Int, 0 ≤ v → v < 256 → bits .and .i64 v 127 = v % 128 := by
    intro v h0 h1
    obtain ⟨k, rfl⟩ := Int.eq_ofNat_of_zero_le h0
    exact and_127 ⟨k, by omega⟩
  cases s with
  | true =>
    have f : flagI true 128 = 128 := rfl
    rw [f, e _ (by omega) (by omega)]
    exact ⟨by omega, by simp; omega⟩
  | false =>
    have f : flagI false 128 = 0 := rfl
    rw [f, e _ (by omega) (by omega)]
    exact ⟨by omega, by simp; omega⟩
theorem CompsOwn.drewN_ {w : World} {B : Nat} {v : Value} {cs : List CompD} {n : Nat} (h : CompsOwn w B v cs) : CompsOwn (w.drewN n) B v cs := h
theorem Rdr.grownO {w w' : World} {rb : Nat} {row : Option Nat} {l : List UInt8} {e : Int} (h : Rdr w rb l e) (hg : w.grownBy w' row) (hlt : ∀ g, row = some g → rb < g) : Rdr w' rb l e := by
  obtain ⟨A, c, h0, h1, h2, h3⟩ := h
  refine ⟨A, c, h0.grown hg (fun e => by have := hlt _ e.symm; omega), h1, h2, h3.keep fun p hp => ?_⟩
  exact World.cell?_of_block (hg.block p.block (Nat.lt_trans hp h0.lt) (fun e => by have := hlt _ e.symm; omega))
theorem bound_and (d : Int) (s : Bool) (h1 : 1 ≤ d) (h2 : d ≤ 128) : 0 ≤ d - 1 + flagI s 128 ∧ d - 1 + flagI s 128 < 256 := by
  cases s
  · have f : flagI false 128 = 0 := rfl
    omega
  · have f : flagI true 128 = 128 := rfl
    omega

set_option maxRecDepth 100000 in
set_option maxHeartbeats 2000000 in
theorem size_ok (pb rb mb : Nat) (h : HeadM) (mv v : Value) (m : ImgD) (p : ParD) (w : World) (hp : Blk w pb 66 (prsA rb mb h nilV mv)) (hv : BV w v (sizB m p)) (hs : SizOk m p) :
    Calls Try.prog 47 #[.pointer (some ⟨pb, 0, none⟩), v] w fun e w' => e = .returned (.bool true) ∧ ∃ cv', Blk w' pb 66 (prsA rb mb (sizH m p h) cv' mv) ∧ CompsOwn w' w.heap.size cv' (m.cs.map CompD.bare) ∧ w.grownBy w' (some pb) := by
  obtain ⟨s1, s2, s3, s4, s5, s6, s7, s8⟩ := hs
  have HV := Lib.hid hv
  obtain ⟨A, c, rfl, g1, g2, g3⟩ := hv
  have hN : (sizB m p).length = 36 + 3 * m.cs.length := sizB_len m p
  generalize hnn : (sizB m p).length = N at *
  have HZ : Hid ((sizB m p).length ≤ 140737488355328) := Lib.hid (by omega)
  obtain ⟨n, hn⟩ : ∃ n, m.cs.length = n := ⟨_, rfl⟩
  rw [hn] at hN
  subst hN
  have HN := Lib.hid hn
  have S7 := Lib.hid s7
  have S8 := Lib.hid s8
  rw [hn] at s7
  clear g1 g2 g3 hnn hn s8
  go_enter Try.func47, Try.ntmps47
  go_wp2_with fail
  refine (new_any _ (sizB m p) _ HV.out HZ.out).mono ?_
  rintro e w1 ⟨rb2, rfl, hr2, hR, hb1⟩
  have hp1 := hp.below hb1 hp.lt
  have hR1 := hR.lt
  rw [sizB_Z] at hR
  have hpb : pb < w.heap.size := hp.lt
  have hw1 := hb1.size
  have HW1 := Lib.hid hw1
  have HS1' := Lib.hid hR1
  go_wp2_with fail
  refine (get_i2 rb2 0 (by omega) (Z1 m p) _ hR (Z1_len m p S7.out)).mono ?_
  rintro e w2 ⟨rfl, hR2, hg2⟩
  have hs2 : w1.heap.size ≤ w2.heap.size := hg2.size
  have hp2 := hp1.grown hg2 (by simp; omega)
  have hW2 : w.grownBy w2 (some pb) := only_then (only_of_below hb1 (some pb)) hg2 hr2
  clear hR hg2 hb1 hp1
  go_wp2_with fail
  refine (get_i4 rb2 m.x s1 (Z2 m p) _ hR2 (Z2_len m p S7.out)).mono ?_
  rintro e w3 ⟨rfl, hR3, hg3⟩
  have hs3 : w1.heap.size ≤ w3.heap.size := Nat.le_trans hs2 hg3.size
  clear hs2
  have hp3 := hp2.grown hg3 (by simp; omega)
  have hW3 := only_then hW2 hg3 hr2
  clear hR2 hg3 hp2 hW2
  go_wp2_with fail
  refine (get_i4 rb2 m.y s2 (Z3 m p) _ hR3 (Z3_len m p S7.out)).mono ?_
  rintro e w4 ⟨rfl, hR4, hg4⟩
  have hs4 : w1.heap.size ≤ w4.heap.size := Nat.le_trans hs3 hg4.size
  clear hs3
  have hp4 := hp3.grown hg4 (by simp; omega)
  have hW4 := only_then hW3 hg4 hr2
  clear hR3 hg4 hp3 hW3
  go_wp2_with fail
  refine (get_i4 rb2 m.ox s3 (Z4 m p) _ hR4 (Z4_len m p S7.out)).mono ?_
  rintro e w5 ⟨rfl, hR5, hg5⟩
  have hs5 : w1.heap.size ≤ w5.heap.size := Nat.le_trans hs4 hg5.size
  clear hs4
  have hp5 := hp4.grown hg5 (by simp; omega)
  have hW5 := only_then hW4 hg5 hr2
  clear hR4 hg5 hp4 hW4
  go_wp2_with fail
  refine (get_i4 rb2 m.oy s4 (Z5 m p) _ hR5 (Z5_len m p S7.out)).mono ?_
  rintro e w6 ⟨rfl, hR6, hg6⟩
  have hs6 : w1.heap.size ≤ w6.heap.size := Nat.le_trans hs5 hg6.size
  clear hs5
  have hp6 := hp5.grown hg6 (by simp; omega)
  have hW6 := only_then hW5 hg6 hr2
  clear hR5 hg6 hp5 hW5
  have c1 : w6.cell? ⟨pb, 1, none⟩ = some (.int .i64 h.x) := hp6.cell 1
  have c2 : w6.cell? ⟨pb, 2, none⟩ = some (.int .i64 h.y) := hp6.cell 2
  have c3 : w6.cell? ⟨pb, 3, none⟩ = some (.int .i64 h.ox) := hp6.cell 3
  have c4 : w6.cell? ⟨pb, 4, none⟩ = some (.int .i64 h.oy) := hp6.cell 4
  have f1 := hp6.frozen 1
  have f2 := hp6.frozen 2
  have f3 := hp6.frozen 3
  have f4 := hp6.frozen 4
  go_wp2_with fail
  have hp7 : Blk ((((w6.setCell ⟨pb, 1, none⟩ (.int .i64 m.x)).setCell ⟨pb, 2, none⟩ (.int .i64 m.y)).setCell ⟨pb, 3, none⟩ (.int .i64 m.ox)).setCell ⟨pb, 4, none⟩ (.int .i64 m.oy)) pb 66 (prsA rb mb { h with x := m.x, y := m.y, ox := m.ox, oy := m.oy } nilV mv) := (((hp6.set_ 1 (.int .i64 m.x)).set_ 2 (.int .i64 m.y)).set_ 3 (.int .i64 m.ox)).set_ 4 (.int .i64 m.oy)
  have hR7 := (((hR6.stored (.int .i64 m.x) (by omega) c1 (by simp)).stored (g := pb) (k := 2) (u0 := .int .i64 h.y) (.int .i64 m.y) (by omega) ((hp6.set_ 1 (.int .i64 m.x)).cell 2) (by simp)).stored (g := pb) (k := 3) (u0 := .int .i64 h.ox) (.int .i64 m.ox) (by omega) (((hp6.set_ 1 (.int .i64 m.x)).set_ 2 (.int .i64 m.y)).cell 3) (by simp)).stored (g := pb) (k := 4) (u0 := .int .i64 h.oy) (.int .i64 m.oy) (by omega) ((((hp6.set_ 1 (.int .i64 m.x)).set_ 2 (.int .i64 m.y)).set_ 3 (.int .i64 m.ox)).cell 4) (by simp)
  have hW7 := only_setCell (only_setCell (only_setCell (only_setCell hW6 (p := ⟨pb, 1, none⟩) (.inl rfl) (.int .i64 m.x)) (p := ⟨pb, 2, none⟩) (.inl rfl) (.int .i64 m.y)) (p := ⟨pb, 3, none⟩) (.inl rfl) (.int .i64 m.ox)) (p := ⟨pb, 4, none⟩) (.inl rfl) (.int .i64 m.oy)
  generalize hq7 : ((((w6.setCell ⟨pb, 1, none⟩ (.int .i64 m.x)).setCell ⟨pb, 2, none⟩ (.int .i64 m.y)).setCell ⟨pb, 3, none⟩ (.int .i64 m.ox)).setCell ⟨pb, 4, none⟩ (.int .i64 m.oy)) = w7 at *
  have hs7 : w1.heap.size ≤ w7.heap.size := by rw [← hq7]; simpa using hs6
  clear hq7 hs6
  clear c1 c2 c3 c4 f1 f2 f3 f4 hp6 hR6 hW6
  generalize hh7 : ({ h with x := m.x, y := m.y, ox := m.ox, oy := m.oy } : HeadM) = h7 at *
  have HH7 := Lib.hid hh7
  clear hh7
  refine (get_i4 rb2 p.tx s5 (Z6 m p) _ hR7 (Z6_len m p S7.out)).mono ?_
  rintro e w8 ⟨rfl, hR8, hg8⟩
  have hs8 : w1.heap.size ≤ w8.heap.size := Nat.le_trans hs7 hg8.size
  clear hs7
  have hp8 := hp7.grown hg8 (by simp; omega)
  have hW8 := only_then hW7 hg8 hr2
  clear hR7 hg8 hp7 hW7
  go_wp2_with fail
  refine (get_i4 rb2 p.ty s6 (Z7 m) _ hR8 (Z7_len m S7.out)).mono ?_
  rintro e w9 ⟨rfl, hR9, hg9⟩
  have hs9 : w1.heap.size ≤ w9.heap.size := Nat.le_trans hs8 hg9.size
  clear hs8
  have hp9 := hp8.grown hg9 (by simp; omega)
  have hW9 := only_then hW8 hg9 hr2
  clear hR8 hg9 hp8 hW8
  have c6 : w9.cell? ⟨pb, 6, none⟩ = some (.int .i64 h7.p.tx) := hp9.cell 6
  have c7 : w9.cell? ⟨pb, 7, none⟩ = some (.int .i64 h7.p.ty) := hp9.cell 7
  have f6 := hp9.frozen 6
  have f7 := hp9.frozen 7
  go_wp2_with fail
  have hp10 : Blk ((w9.setCell ⟨pb, 6, none⟩ (.int .i64 p.tx)).setCell ⟨pb, 7, none⟩ (.int .i64 p.ty)) pb 66 (prsA rb mb { h7 with p := { h7.p with tx := p.tx, ty := p.ty } } nilV mv) := (hp9.set_ 6 (.int .i64 p.tx)).set_ 7 (.int .i64 p.ty)
  have hR10 := (hR9.stored (.int .i64 p.tx) (by omega) c6 (by simp)).stored (g := pb) (k := 7) (u0 := .int .i64 h7.p.ty) (.int .i64 p.ty) (by omega) ((hp9.set_ 6 (.int .i64 p.tx)).cell 7) (by simp)
  have hW10 := only_setCell (only_setCell hW9 (p := ⟨pb, 6, none⟩) (.inl rfl) (.int .i64 p.tx)) (p := ⟨pb, 7, none⟩) (.inl rfl) (.int .i64 p.ty)
  generalize hq10 : ((w9.setCell ⟨pb, 6, none⟩ (.int .i64 p.tx)).setCell ⟨pb, 7, none⟩ (.int .i64 p.ty)) = w10 at *
  have hs10 : w1.heap.size ≤ w10.heap.size := by rw [← hq10]; simpa using hs9
  clear hq10 hs9
  clear c6 c7 f6 f7 hp9 hR9 hW9
  generalize hh10 : ({ h7 with p := { h7.p with tx := p.tx, ty := p.ty } } : HeadM) = h10 at *
  have HH10 := Lib.hid hh10
  clear hh10
  refine (get_i4 rb2 0 (by omega) (Z8 m) _ hR10 (Z8_len m S7.out)).mono ?_
  rintro e w11 ⟨rfl, hR11, hg11⟩
  have hs11 : w1.heap.size ≤ w11.heap.size := Nat.le_trans hs10 hg11.size
  clear hs10
  have hp11 := hp10.grown hg11 (by simp; omega)
  have hW11 := only_then hW10 hg11 hr2
  clear hR10 hg11 hp10 hW10
  go_wp2_with fail
  refine (get_i4 rb2 0 (by omega) (Z9 m) _ hR11 (Z9_len m S7.out)).mono ?_
  rintro e w12 ⟨rfl, hR12, hg12⟩
  have hs12 : w1.heap.size ≤ w12.heap.size := Nat.le_trans hs11 hg12.size
  clear hs11
  have hp12 := hp11.grown hg12 (by simp; omega)
  have hW12 := only_then hW11 hg12 hr2
  clear hR11 hg12 hp11 hW11
  have o1 : bits .or .i64 0 0 = 0 := by decide
  go_wp2_with fail
  unfold Z9 at hR12
  rw [HN.out] at hR12
  refine (get_i2 rb2 (n : Int) (by omega) (compsB m.cs) _ hR12 (by rw [compsB_length, HN.out]; omega)).mono ?_
  rintro e w13 ⟨rfl, hR13, hg13⟩
  have hs13 : w1.heap.size ≤ w13.heap.size := Nat.le_trans hs12 hg13.size
  clear hs12
  have hp13 := hp12.grown hg13 (by simp; omega)
  have hW13 := only_then hW12 hg13 hr2
  clear hR12 hg13 hp12 hW12 s1 s2 s3 s4 s5 s6
  have dn : (((36 + 3 * n : Nat) : Int) != 36 + 3 * (n : Int)) = false := by simp
  go_wp2_with fail
  have hin : Below w13.heap.size w13 w13 := Below.refl _ _
  have HC0 : CompsOwn w13 w1.heap.size nilV [] := CompsOwn.nil _ _
  have HR0 := Lib.hid hR13
  have HP0 := Lib.hid hp13
  have HS1 : Hid (w1.heap.size ≤ w13.heap.size) := Lib.hid hs13
  have hR1 := HS1'.out
  have HW0 := Lib.hid hW13
  clear hR13 hp13 hW13 hR1 hw1 hp hin dn o1
  obtain ⟨i1, ci, cz0, cz1, cz2⟩ := info_parts Try.infoComp
  have hw1s : w.heap.size ≤ w1.heap.size := by have := HW1.out; omega
  go_loopg [10, 75] n (fun g s10 s75 wx => ∃ j : Nat, j ≤ n ∧ g = n - j ∧ s75 = .int .i64 j ∧ Rdr wx rb2 (compsB (m.cs.drop j)) 0 ∧ ∃ cv, Blk wx pb 66 (prsA rb mb h10 cv mv) ∧ CompsOwn wx w1.heap.size cv ((m.cs.take j).map CompD.bare) ∧ w.grownBy wx (some pb) ∧ w1.heap.size ≤ wx.heap.size)
  case atStart => exact ⟨0, Nat.zero_le _, rfl, rfl, HR0.out, nilV, HP0.out, HC0, HW0.out, HS1.out⟩
  case round =>
    obtain ⟨wy, rfl⟩ : ∃ wy : World, wy = wr := ⟨_, rfl⟩
    obtain ⟨j, hj, rfl, rfl, hr, cv, hb, hc, hg, hsz⟩ := hrel
    clear HR0 HP0 HW0 HC0
    by_cases hjn : j < n
    · obtain ⟨cm, hcm⟩ : ∃ cm, m.cs[j]? = some cm := ⟨_, List.getElem?_eq_getElem (by rw [HN.out]; exact hjn)⟩
      have hdr : m.cs.drop j = cm :: m.cs.drop (j + 1) := by
        obtain ⟨h1, h2⟩ := List.getElem?_eq_some_iff.1 hcm
        rw [← h2]
        exact List.drop_eq_getElem_cons h1
      have htk : m.cs.take (j + 1) = m.cs.take j ++ [cm] := by rw [List.take_add_one, hcm]; rfl
      obtain ⟨k1, k2, k3, k4, k5, k6⟩ := S8.out cm (List.mem_of_getElem? hcm)
      obtain ⟨t1, t2⟩ := depth_back cm.depth cm.signed k1 k2
      obtain ⟨t3, t4⟩ := bound_and cm.depth cm.signed k1 k2
      rw [hdr, compsB_cons] at hr
      have hln : (compsB (m.cs.drop (j + 1))).length ≤ 300000 := by rw [compsB_length, List.length_drop]; have := S7.out; omega
      obtain ⟨LR, hLR⟩ : ∃ LR, compsB (m.cs.drop (j + 1)) = LR := ⟨_, rfl⟩
      rw [hLR] at hr hln
      have HLR := Lib.hid hLR
      clear hLR
      have hpl : (putB 1 cm.dy).length = 1 := putB_length _ _
      have hpl2 : (putB 1 cm.dx).length = 1 := putB_length _ _
      have D2 : cm.depth - 1 + 1 = cm.depth := by omega
      have HTK := Lib.hid htk
      have hcl : ((m.cs.take j).map CompD.bare).length = j := by rw [List.length_map, List.length_take, HN.out]; omega
      obtain ⟨cs, hcs⟩ : ∃ cs, (m.cs.take j).map CompD.bare = cs := ⟨_, rfl⟩
      rw [hcs] at hc hcl
      have HCS := Lib.hid hcs
      clear hcs
      generalize cm.depth - 1 + flagI cm.signed 128 = dd at *
      have HDR := Lib.hid hdr
      clear htk hcm hdr
      have L2 : (putB 1 cm.dx ++ (putB 1 cm.dy ++ LR)).length ≤ 1000000000 := by simp only [List.length_append]; omega
      have L1 : (putB 1 cm.dy ++ LR).length ≤ 1000000000 := by simp only [List.length_append]; omega
      have L0 : LR.length ≤ 1000000000 := by omega
      have HLS := Lib.hid (And.intro L2 (And.intro L1 L0))
      clear L2 L1 L0 hln hpl hpl2
      have HCL := Lib.hid hcl
      have hnd : decide ((j : Int) < (n : Int)) = true := by simp; omega
      go_wp2_with fail
      refine (get_i1 rb2 dd ⟨t3, t4⟩ _ _ hr HLS.out.1).mono ?_
      rintro e wa ⟨rfl, hra, hga⟩
      have hba := hb.grown hga (by simp; omega)
      have hWa := only_then hg hga hr2
      have hca : CompsOwn wa w1.heap.size cv cs := hc.grown hga (by omega)
      have hsa : w1.heap.size ≤ wa.heap.size := Nat.le_trans hsz hga.size
      clear hr hb hg hc hga
      go_upto_region 13 with fail
      obtain ⟨av, pv, hcv⟩ := hca.slice
      rw [HCL.out] at hcv
      subst hcv
      have c5a : wa.cell? ⟨pb, 5, none⟩ = some (.slice av j pv) := hba.cell 5
      obtain ⟨dm, hdm⟩ : ∃ dm, dm = cm.depth - 1 := ⟨_, rfl⟩
      rw [← hdm] at t1
      have hdw : IntKind.i64.wrap (dm + 1) = cm.depth := by rw [hdm, D2]; exact IntWalk.i64_in _ (by omega)
      have HDM := Lib.hid hdm
      have HA := Lib.hid (And.intro hra (And.intro hba (And.intro hWa (And.intro hca hsa))))
      clear hra hba hWa hca hdm D2 t3 t4
      go_region_law (first
        | (go_simp; go_at_call 45; (with_reducible refine (get_i1 rb2 cm.dy ?_ LR _ ?_ ?_).mono ?_); exact ⟨k5, k6⟩; exact HB.out.1; exact HLS.out.2.2; rintro e wc ⟨rfl, hrc, hgc⟩; have hbc := HB.out.2.1.grown hgc (by simp; omega); have hWc := only_then HB.out.2.2.1 hgc hr2; have hcc := HB.out.2.2.2.1.grown hgc (by omega); have hsc := Nat.le_trans HB.out.2.2.2.2 hgc.size; have c5c : wc.cell? ⟨pb, 5, none⟩ = some (.slice av j pv) := hbc.cell 5; have c5d : (wc.alloc (.cells #[.int .i64 cm.depth, .bool cm.signed, .int .i64 cm.dx, .int .i64 cm.dy, .slice none 0 0] 45)).cell? ⟨pb, 5, none⟩ = some (.slice av j pv) := (Blk.alloc hbc _).cell 5; obtain ⟨dvs, hdl, ho, hds⟩ := hcc; rw [HCL.out] at ho; have HO := Lib.hid ho; have HC := Lib.hid (And.intro hrc (And.intro hbc (And.intro hWc (And.intro hdl (And.intro hds hsc))))); clear hrc hgc hbc hWc ho hdl hds hsc)
        | (go_simp; go_at_call 45; (with_reducible refine (get_i1 rb2 cm.dx ?_ (putB 1 cm.dy ++ LR) _ ?_ ?_).mono ?_); exact ⟨k3, k4⟩; exact HA.out.1; exact HLS.out.2.1; rintro e wb ⟨rfl, hrb, hgb⟩; have hbb := (Blk.drew HA.out.2.1).grown hgb (by simp; omega); have hWb := only_then (only_drew HA.out.2.2.1) hgb hr2; have hcb := HA.out.2.2.2.1.drewN_ (n := 1) |>.grown hgb (by omega); have c5b : wb.cell? ⟨pb, 5, none⟩ = some (.slice av j pv) := hbb.cell 5; have hsb := Nat.le_trans HA.out.2.2.2.2 hgb.size; have HB := Lib.hid (And.intro hrb (And.intro hbb (And.intro hWb (And.intro hcb hsb)))); clear hrb hgb hbb hWb hcb hsb)
        | ((with_reducible refine step_append_own (o := ⟨some 95, _, _, _, _, _⟩) rfl (.tmp 83) (.tmp 94) 27 rfl w1.heap.size 45 i1 (.agg #[.int .i64 0, .bool false, .int .i64 0, .int .i64 0, .slice none 0 0]) 5 56 Try.underlying27 ci cz0 cz1 cz2 rfl (by decide) (.slice av j pv) j (compFlat cs dvs) ?_ ?_ ⟨wc.heap.size, 0, none⟩ 1 1 [.int .i64 cm.depth, .bool cm.signed, .int .i64 cm.dx, .int .i64 cm.dy, .slice none 0 0] ?_ ?_ ?_ ?_ ?_ ?_ ?_ ?_); simp [Act.eval]; exact World.ownsRow.alloc HO.out _; simp [Act.eval]; rfl; exact news_block _ _ _; simp [Value.oneCell']; unfold maxLen; omega; omega; have hzz := HC.out.2.2.2.2.2; simp; omega; intro v6 w6 hown6 hg6 hn6; obtain ⟨a6, p6, rfl⟩ := owns_slice hown6; have hsR := HS1.out; have HX6 := Blk.grown (Blk.alloc HC.out.2.1 _) hg6 (fun e => by have := (HO.out.lt _ e.symm).1; omega); have y4 : w6.cell? ⟨pb, 5, none⟩ = some (.slice av j pv) := HX6.cell 5; have y5 := HX6.frozen 5))
      all_goals
        obtain ⟨hrc, hbc, hWc, hdl, hds, hsc⟩ := HC.out
        have hlo : ∀ g, (Value.slice av j pv).ownBlock = some g → w1.heap.size ≤ g := fun g hg => (HO.out.lt g hg).1
        have hs6 := hg6.size
        simp at hs6
        have hr6 := Rdr.stored (Rdr.grownO (hrc.keep ((Below.refl _ _).alloc (Nat.le_refl _) _)) hg6 (fun g e => by have := hlo g e; have := HS1'.out; omega)) (.slice a6 (j + 1) p6) (by omega) y4 (by simp)
        have hp6 : Blk (w6.setCell ⟨pb, 5, none⟩ (.slice a6 (j + 1) p6)) pb 66 (prsA rb mb h10 (.slice a6 (j + 1) p6) mv) := HX6.set_ 5 (.slice a6 (j + 1) p6)
        have hW6 := only_setCell (only_thenO (only_alloc hWc _) hg6 (fun g e => Nat.le_trans HW1.out (hlo g e))) (p := ⟨pb, 5, none⟩) (.inl rfl) (.slice a6 (j + 1) p6)
        have hc6 : CompsOwn (w6.setCell ⟨pb, 5, none⟩ (.slice a6 (j + 1) p6)) w1.heap.size (.slice a6 (j + 1) p6) (cs ++ [cm.bare]) := by
          refine CompsOwn.setCell (CompsOwn.snoc (dv := .slice none 0 0) hdl (World.ownsRow.alloc (by rw [HCL.out]; exact HO.out) _) (fun i c dv hc hd => World.ownsRow.alloc (hds i c dv hc hd) _) (World.ownsRow_nil _ _ _ _) ?_ hg6) (by show pb < _; omega) _
          rw [HCL.out]
          exact hown6
        have hz6 : w1.heap.size ≤ (w6.setCell ⟨pb, 5, none⟩ (.slice a6 (j + 1) p6)).heap.size := by simp; omega
        generalize w6.setCell ⟨pb, 5, none⟩ (.slice a6 (j + 1) p6) = w7 at *
        have HF := Lib.hid (And.intro hr6 (And.intro hp6 (And.intro hW6 (And.intro hc6 hz6))))
        clear hr6 hp6 hW6 hc6 hz6 HC HO HX6 hg6 hown6 y4 y5 hn6 hds hdl hbc hrc hWc hlo hsc hs6
        go_wp2_with fail
        go_roundg (n - (j + 1))
        case measure => omega
        case rel =>
          obtain ⟨hr6, hp6, hW6, hc6, hz6⟩ := HF.out
          exact ⟨j + 1, by omega, rfl, by go_num, by rw [HLR.out]; exact hr6, _, hp6, by rw [HTK.out, List.map_append, HCS.out]; exact hc6, hW6, hz6⟩
    · obtain rfl : j = n := by omega
      have hnd : decide ((j : Int) < (j : Int)) = false := by simp
      go_wp2_with fail
      go_ret
      refine ⟨rfl, cv, ?_, ?_, hg⟩
      · have e : prsA rb mb (sizH m p h) cv mv = prsA rb mb h10 cv mv := by rw [← HH10.out, ← HH7.out]; rfl
        rw [e]
        exact hb
      · rw [List.take_of_length_le (by rw [HN.out]; exact Nat.le_refl _)] at hc
        exact hc.base hw1s
end Go.Proofs.Ytlhlhlabnjfhcaa
