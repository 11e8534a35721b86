/- wavelet/boxes: one, way by way. Printed by genone.py. -/
import Derived.Test.YthmdgbplfdofiaaBxB
import Derived.Deep.RegionWith
namespace Go.Proofs.Ythmdgbplfdofiaa
open Go.RowKit

theorem Rdr.alloc {w : World} {rb : Nat} {l : List UInt8} {e : Int} (h : Rdr w rb l e) (o : Obj) : Rdr (w.alloc o) rb l e := h.keep ((Below.refl _ _).alloc (Nat.le_refl _) _)
theorem getI4 (l : List UInt8) (h : l.length ≤ 4) : 0 ≤ getI l ∧ getI l < 4294967296 := by
  have := beN_lt8 l 4 h
  unfold getI
  rw [IntWalk.i64_in _ (by omega)]
  omega
theorem getI_bd (l : List UInt8) : -9223372036854775808 ≤ getI l ∧ getI l ≤ 9223372036854775807 := by
  unfold getI
  rw [IntWalk.i64_left]
  unfold wrap64
  omega

theorem Rdr.far {w : World} {rb : Nat} {l : List UInt8} {e : Int} (h : Rdr w rb l e) {p : Addr} (hp : rb < p.block) (u : Value) : Rdr (w.setCell p u) rb l e := by
  obtain ⟨A, c, h0, h1, h2, h3⟩ := h
  exact ⟨A, c, h0.far (by omega) u, h1, h2, h3.setCell (by omega) u⟩

def noBox : Value := .agg #[.string ⟨#[]⟩, .slice none 0 0]

set_option maxHeartbeats 1000000 in
theorem one_cut4 (rb : Nat) (l : List UInt8) (w : World) (hr : Rdr w rb l 0) (hL : l.length ≤ 70368744177664) (h : l.length < 4) :
    Calls Try.prog 13 #[.pointer (some ⟨rb, 0, none⟩)] w fun e w' => e = .returned (.tuple #[noBox, .int .i64 8]) ∧ w.grownBy w' (some rb) := by
  have HR0 := Lib.hid (hr.alloc (.cells #[.string ⟨#[]⟩, .slice none 0 0] 31))
  have hrl := hr.lt
  have B0 := Blk.new w 31 #[.string ⟨#[]⟩, .slice none 0 0]
  have G0 : w.grownBy (w.alloc (.cells #[.string ⟨#[]⟩, .slice none 0 0] 31)) (some rb) := only_alloc (World.grownBy.refl _ _) _
  clear hr
  go_enter Try.func13, Try.ntmps13
  go_wp2_with fail
  refine (get_bad rb (l) 0 4 _ HR0.out (by first | omega | (simp; omega)) (by decide) (by decide) (.inr h)).mono ?_
  rintro e w1 ⟨rfl, hr1, hg1⟩
  rw [failE_ok] at hr1
  have HR1 := Lib.hid hr1
  have B1 := B0.grown hg1 (by first | omega | (simp; omega))
  have G1 := grown_trans G0 hg1
  clear hr1 hg1 B0 G0
  go_wp2_with fail
  refine (take_bad rb (l) 8 4 _ HR1.out (by first | omega | (simp; omega)) (.inl (by decide))).mono ?_
  rintro e w2 ⟨rfl, hr2, hg2⟩
  have HR2 := Lib.hid hr2
  have B2 := B1.grown hg2 (by first | omega | (simp; omega))
  have G2 := grown_trans G1 hg2
  clear hr2 hg2 B1 G1
  have c0 := B2.cell 0
  have c1 := B2.cell 1
  have f0 := B2.frozen 0
  have f1 := B2.frozen 1
  simp at c0 c1
  go_wp2_with fail
  exact bodyPost_ret (v := .tuple #[noBox, .int .i64 8]) (by simp [results, Try.results13, go_sem, noBox, c0, c1]) rfl ⟨rfl, only_setCell (only_setCell G2 (.inr (Nat.le_refl _)) _) (.inr (Nat.le_refl _)) _⟩

set_option maxHeartbeats 1000000 in
theorem one_cut8 (rb : Nat) (l : List UInt8) (w : World) (hr : Rdr w rb l 0) (hL : l.length ≤ 70368744177664) (h4 : 4 ≤ l.length) (h : l.length < 8) :
    Calls Try.prog 13 #[.pointer (some ⟨rb, 0, none⟩)] w fun e w' => e = .returned (.tuple #[noBox, .int .i64 8]) ∧ w.grownBy w' (some rb) := by
  obtain ⟨n1, n2⟩ := getI4 (l.take 4) (by first | omega | (simp; omega))
  have HR0 := Lib.hid (hr.alloc (.cells #[.string ⟨#[]⟩, .slice none 0 0] 31))
  have hrl := hr.lt
  have B0 := Blk.new w 31 #[.string ⟨#[]⟩, .slice none 0 0]
  have G0 : w.grownBy (w.alloc (.cells #[.string ⟨#[]⟩, .slice none 0 0] 31)) (some rb) := only_alloc (World.grownBy.refl _ _) _
  clear hr
  go_enter Try.func13, Try.ntmps13
  go_wp2_with fail
  refine (get_ok rb (l) 4 _ HR0.out (by first | omega | (simp; omega)) (by decide) (by decide) (by first | omega | (simp; omega))).mono ?_
  rintro e w1 ⟨rfl, hr1, hg1⟩
  have HR1 := Lib.hid hr1
  have B1 := B0.grown hg1 (by first | omega | (simp; omega))
  have G1 := grown_trans G0 hg1
  clear hr1 hg1 B0 G0
  go_wp2_with fail
  generalize getI (l.take 4) = n0 at *
  refine (take_bad rb (l.drop 4) 0 4 _ HR1.out (by first | omega | (simp; omega)) (by right; right; first | omega | (simp; omega))).mono ?_
  rintro e w2 ⟨rfl, hr2, hg2⟩
  have HR2 := Lib.hid hr2
  have B2 := B1.grown hg2 (by first | omega | (simp; omega))
  have G2 := grown_trans G1 hg2
  clear hr2 hg2 B1 G1
  have c0 := B2.cell 0
  have c1 := B2.cell 1
  have f0 := B2.frozen 0
  have f1 := B2.frozen 1
  simp at c0 c1
  go_wp2_with fail
  exact bodyPost_ret (v := .tuple #[noBox, .int .i64 8]) (by simp [results, Try.results13, go_sem, noBox, c0, c1]) rfl ⟨rfl, only_setCell (only_setCell G2 (.inr (Nat.le_refl _)) _) (.inr (Nat.le_refl _)) _⟩

set_option maxHeartbeats 1000000 in
theorem one_plain_box (rb : Nat) (l : List UInt8) (w : World) (hr : Rdr w rb l 0) (hL : l.length ≤ 70368744177664) (h : 8 ≤ l.length) (n : Int) (hv : getI (l.take 4) = n) (h0 : n ≠ 0) (h1 : n ≠ 1) (h2 : 0 ≤ n) (h3 : n < 8) :
    Calls Try.prog 13 #[.pointer (some ⟨rb, 0, none⟩)] w fun e w' => e = .returned (.tuple #[noBox, .int .i64 15]) ∧ w.grownBy w' (some rb) := by
  have t0 : (n == 0) = false := by simpa using h0
  have t1 : (n == 1) = false := by simpa using h1
  have t2 : decide (0 ≤ n) = true := by simpa using h2
  have t3 : decide (n < 8) = true := by simpa using h3
  clear h0 h1
  have HR0 := Lib.hid (hr.alloc (.cells #[.string ⟨#[]⟩, .slice none 0 0] 31))
  have hrl := hr.lt
  have B0 := Blk.new w 31 #[.string ⟨#[]⟩, .slice none 0 0]
  have G0 : w.grownBy (w.alloc (.cells #[.string ⟨#[]⟩, .slice none 0 0] 31)) (some rb) := only_alloc (World.grownBy.refl _ _) _
  clear hr
  go_enter Try.func13, Try.ntmps13
  go_wp2_with fail
  refine (get_ok rb (l) 4 _ HR0.out (by first | omega | (simp; omega)) (by decide) (by decide) (by first | omega | (simp; omega))).mono ?_
  rintro e w1 ⟨rfl, hr1, hg1⟩
  have HR1 := Lib.hid hr1
  have B1 := B0.grown hg1 (by first | omega | (simp; omega))
  have G1 := grown_trans G0 hg1
  clear hr1 hg1 B0 G0
  rw [hv]
  go_wp2_with fail
  refine (take_ok rb (l.drop 4) 4 _ HR1.out (by first | omega | (simp; omega)) (by first | omega | (simp; omega))).mono ?_
  rintro e w2 ⟨v2, rfl, ho2, hr2, hg2⟩
  obtain ⟨a2, c2, rfl⟩ := owns_slice ho2
  have KO2 := Lib.hid (owns_base ho2 G1.size)
  clear ho2
  have HR2 := Lib.hid hr2
  have B2 := B1.grown hg2 (by first | omega | (simp; omega))
  have G2 := grown_trans G1 hg2
  clear hr2 hg2 B1 G1
  have c0 := B2.cell 0
  have c1 := B2.cell 1
  have f0 := B2.frozen 0
  have f1 := B2.frozen 1
  simp at c0 c1
  go_wp2_with fail
  exact bodyPost_ret (v := .tuple #[noBox, .int .i64 15]) (by simp [results, Try.results13, go_sem, noBox, c0, c1]) rfl ⟨rfl, only_setCell (only_setCell G2 (.inr (Nat.le_refl _)) _) (.inr (Nat.le_refl _)) _⟩

set_option maxHeartbeats 1000000 in
theorem one_plain_cut (rb : Nat) (l : List UInt8) (w : World) (hr : Rdr w rb l 0) (hL : l.length ≤ 70368744177664) (h : 8 ≤ l.length) (n : Int) (hv : getI (l.take 4) = n) (h3 : 8 ≤ n) (h4 : (l.length : Int) < n) :
    Calls Try.prog 13 #[.pointer (some ⟨rb, 0, none⟩)] w fun e w' => e = .returned (.tuple #[noBox, .int .i64 8]) ∧ w.grownBy w' (some rb) := by
  have t0 : (n == 0) = false := by simp; omega
  have t1 : (n == 1) = false := by simp; omega
  have t2 : decide (0 ≤ n) = true := by simp; omega
  have t3 : decide (n < 8) = false := by simp; omega
  have t4 : decide (n < 0) = false := by simp; omega
  have hb4 := getI4 (l.take 4) (by first | omega | (simp; omega))
  rw [hv] at hb4
  obtain ⟨u1, u2⟩ := hb4
  have HR0 := Lib.hid (hr.alloc (.cells #[.string ⟨#[]⟩, .slice none 0 0] 31))
  have hrl := hr.lt
  have B0 := Blk.new w 31 #[.string ⟨#[]⟩, .slice none 0 0]
  have G0 : w.grownBy (w.alloc (.cells #[.string ⟨#[]⟩, .slice none 0 0] 31)) (some rb) := only_alloc (World.grownBy.refl _ _) _
  clear hr
  go_enter Try.func13, Try.ntmps13
  go_wp2_with fail
  refine (get_ok rb (l) 4 _ HR0.out (by first | omega | (simp; omega)) (by decide) (by decide) (by first | omega | (simp; omega))).mono ?_
  rintro e w1 ⟨rfl, hr1, hg1⟩
  have HR1 := Lib.hid hr1
  have B1 := B0.grown hg1 (by first | omega | (simp; omega))
  have G1 := grown_trans G0 hg1
  clear hr1 hg1 B0 G0
  rw [hv]
  go_wp2_with fail
  refine (take_ok rb (l.drop 4) 4 _ HR1.out (by first | omega | (simp; omega)) (by first | omega | (simp; omega))).mono ?_
  rintro e w2 ⟨v2, rfl, ho2, hr2, hg2⟩
  obtain ⟨a2, c2, rfl⟩ := owns_slice ho2
  have KO2 := Lib.hid (owns_base ho2 G1.size)
  clear ho2
  have HR2 := Lib.hid hr2
  have B2 := B1.grown hg2 (by first | omega | (simp; omega))
  have G2 := grown_trans G1 hg2
  clear hr2 hg2 B1 G1
  go_wp2_with fail
  obtain ⟨M1, hM1⟩ : ∃ M1 : Nat, M1 = ((l.drop 4).drop 4).length := ⟨_, rfl⟩
  have hM1a : M1 + 8 ≤ l.length ∧ l.length ≤ M1 + 8 := by rw [hM1]; simp; omega
  have HM1 := Lib.hid hM1
  obtain ⟨hM1b, hM1c⟩ := hM1a
  clear hM1
  refine (left_any rb ((l.drop 4).drop 4) 0 _ HR2.out).mono ?_
  rintro e w' ⟨rfl, rfl⟩
  rw [leftI_ok, ← HM1.out]
  have t6 : decide ((M1 : Int) < n - 8) = true := by simp; omega
  have c0 := B2.cell 0
  have c1 := B2.cell 1
  have f0 := B2.frozen 0
  have f1 := B2.frozen 1
  simp at c0 c1
  go_wp2_with fail
  exact bodyPost_ret (v := .tuple #[noBox, .int .i64 8]) (by simp [results, Try.results13, go_sem, noBox, c0, c1]) rfl ⟨rfl, only_setCell (only_setCell G2 (.inr (Nat.le_refl _)) _) (.inr (Nat.le_refl _)) _⟩

set_option maxHeartbeats 1000000 in
theorem one_big_cut16 (rb : Nat) (l : List UInt8) (w : World) (hr : Rdr w rb l 0) (hL : l.length ≤ 70368744177664) (h : 8 ≤ l.length) (h6 : l.length < 16) (hv : getI (l.take 4) = 1) :
    Calls Try.prog 13 #[.pointer (some ⟨rb, 0, none⟩)] w fun e w' => e = .returned (.tuple #[noBox, .int .i64 8]) ∧ w.grownBy w' (some rb) := by
  have HR0 := Lib.hid (hr.alloc (.cells #[.string ⟨#[]⟩, .slice none 0 0] 31))
  have hrl := hr.lt
  have B0 := Blk.new w 31 #[.string ⟨#[]⟩, .slice none 0 0]
  have G0 : w.grownBy (w.alloc (.cells #[.string ⟨#[]⟩, .slice none 0 0] 31)) (some rb) := only_alloc (World.grownBy.refl _ _) _
  clear hr
  go_enter Try.func13, Try.ntmps13
  go_wp2_with fail
  refine (get_ok rb (l) 4 _ HR0.out (by first | omega | (simp; omega)) (by decide) (by decide) (by first | omega | (simp; omega))).mono ?_
  rintro e w1 ⟨rfl, hr1, hg1⟩
  have HR1 := Lib.hid hr1
  have B1 := B0.grown hg1 (by first | omega | (simp; omega))
  have G1 := grown_trans G0 hg1
  clear hr1 hg1 B0 G0
  rw [hv]
  go_wp2_with fail
  refine (take_ok rb (l.drop 4) 4 _ HR1.out (by first | omega | (simp; omega)) (by first | omega | (simp; omega))).mono ?_
  rintro e w2 ⟨v2, rfl, ho2, hr2, hg2⟩
  obtain ⟨a2, c2, rfl⟩ := owns_slice ho2
  have KO2 := Lib.hid (owns_base ho2 G1.size)
  clear ho2
  have HR2 := Lib.hid hr2
  have B2 := B1.grown hg2 (by first | omega | (simp; omega))
  have G2 := grown_trans G1 hg2
  clear hr2 hg2 B1 G1
  go_wp2_with fail
  obtain ⟨M1, hM1⟩ : ∃ M1 : Nat, M1 = ((l.drop 4).drop 4).length := ⟨_, rfl⟩
  have hM1a : M1 + 8 ≤ l.length ∧ l.length ≤ M1 + 8 := by rw [hM1]; simp; omega
  have HM1 := Lib.hid hM1
  obtain ⟨hM1b, hM1c⟩ := hM1a
  clear hM1
  refine (left_any rb ((l.drop 4).drop 4) 0 _ HR2.out).mono ?_
  rintro e w' ⟨rfl, rfl⟩
  rw [leftI_ok, ← HM1.out]
  have t6 : decide ((M1 : Int) < 8) = true := by simp; omega
  have c0 := B2.cell 0
  have c1 := B2.cell 1
  have f0 := B2.frozen 0
  have f1 := B2.frozen 1
  simp at c0 c1
  go_wp2_with fail
  exact bodyPost_ret (v := .tuple #[noBox, .int .i64 8]) (by simp [results, Try.results13, go_sem, noBox, c0, c1]) rfl ⟨rfl, only_setCell (only_setCell G2 (.inr (Nat.le_refl _)) _) (.inr (Nat.le_refl _)) _⟩

set_option maxHeartbeats 1000000 in
theorem one_big_box (rb : Nat) (l : List UInt8) (w : World) (hr : Rdr w rb l 0) (hL : l.length ≤ 70368744177664) (h : 16 ≤ l.length) (hv : getI (l.take 4) = 1) (n : Int) (hn : getI (((l.drop 4).drop 4).take 8) = n) (h2 : 0 ≤ n) (h3 : n < 16) :
    Calls Try.prog 13 #[.pointer (some ⟨rb, 0, none⟩)] w fun e w' => e = .returned (.tuple #[noBox, .int .i64 15]) ∧ w.grownBy w' (some rb) := by
  have t2 : decide (0 ≤ n) = true := by simpa using h2
  have t3 : decide (n < 16) = true := by simpa using h3
  have HR0 := Lib.hid (hr.alloc (.cells #[.string ⟨#[]⟩, .slice none 0 0] 31))
  have hrl := hr.lt
  have B0 := Blk.new w 31 #[.string ⟨#[]⟩, .slice none 0 0]
  have G0 : w.grownBy (w.alloc (.cells #[.string ⟨#[]⟩, .slice none 0 0] 31)) (some rb) := only_alloc (World.grownBy.refl _ _) _
  clear hr
  go_enter Try.func13, Try.ntmps13
  go_wp2_with fail
  refine (get_ok rb (l) 4 _ HR0.out (by first | omega | (simp; omega)) (by decide) (by decide) (by first | omega | (simp; omega))).mono ?_
  rintro e w1 ⟨rfl, hr1, hg1⟩
  have HR1 := Lib.hid hr1
  have B1 := B0.grown hg1 (by first | omega | (simp; omega))
  have G1 := grown_trans G0 hg1
  clear hr1 hg1 B0 G0
  rw [hv]
  go_wp2_with fail
  refine (take_ok rb (l.drop 4) 4 _ HR1.out (by first | omega | (simp; omega)) (by first | omega | (simp; omega))).mono ?_
  rintro e w2 ⟨v2, rfl, ho2, hr2, hg2⟩
  obtain ⟨a2, c2, rfl⟩ := owns_slice ho2
  have KO2 := Lib.hid (owns_base ho2 G1.size)
  clear ho2
  have HR2 := Lib.hid hr2
  have B2 := B1.grown hg2 (by first | omega | (simp; omega))
  have G2 := grown_trans G1 hg2
  clear hr2 hg2 B1 G1
  go_wp2_with fail
  obtain ⟨M1, hM1⟩ : ∃ M1 : Nat, M1 = ((l.drop 4).drop 4).length := ⟨_, rfl⟩
  have hM1a : M1 + 8 ≤ l.length ∧ l.length ≤ M1 + 8 := by rw [hM1]; simp; omega
  have HM1 := Lib.hid hM1
  obtain ⟨hM1b, hM1c⟩ := hM1a
  clear hM1
  refine (left_any rb ((l.drop 4).drop 4) 0 _ HR2.out).mono ?_
  rintro e w' ⟨rfl, rfl⟩
  rw [leftI_ok, ← HM1.out]
  have t6 : decide ((M1 : Int) < 8) = false := by simp; omega
  go_wp2_with fail
  refine (get_ok rb ((l.drop 4).drop 4) 8 _ HR2.out (by first | omega | (simp; omega)) (by decide) (by decide) (by first | omega | (simp; omega))).mono ?_
  rintro e w3 ⟨rfl, hr3, hg3⟩
  have HR3 := Lib.hid hr3
  have B3 := B2.grown hg3 (by first | omega | (simp; omega))
  have G3 := grown_trans G2 hg3
  have KO3 := Lib.hid (owns_only KO2.out hg3 hrl)
  clear hr3 hg3 B2 G2
  rw [hn]
  have c0 := B3.cell 0
  have c1 := B3.cell 1
  have f0 := B3.frozen 0
  have f1 := B3.frozen 1
  simp at c0 c1
  go_wp2_with fail
  exact bodyPost_ret (v := .tuple #[noBox, .int .i64 15]) (by simp [results, Try.results13, go_sem, noBox, c0, c1]) rfl ⟨rfl, only_setCell (only_setCell G3 (.inr (Nat.le_refl _)) _) (.inr (Nat.le_refl _)) _⟩

set_option maxHeartbeats 1000000 in
theorem one_big_neg (rb : Nat) (l : List UInt8) (w : World) (hr : Rdr w rb l 0) (hL : l.length ≤ 70368744177664) (h : 16 ≤ l.length) (hv : getI (l.take 4) = 1) (n : Int) (hn : getI (((l.drop 4).drop 4).take 8) = n) (h2 : n < 0) :
    Calls Try.prog 13 #[.pointer (some ⟨rb, 0, none⟩)] w fun e w' => e = .returned (.tuple #[noBox, .int .i64 8]) ∧ w.grownBy w' (some rb) := by
  have t2 : decide (0 ≤ n) = false := by simpa using h2
  have t3 : decide (n < 0) = true := by simpa using h2
  have HR0 := Lib.hid (hr.alloc (.cells #[.string ⟨#[]⟩, .slice none 0 0] 31))
  have hrl := hr.lt
  have B0 := Blk.new w 31 #[.string ⟨#[]⟩, .slice none 0 0]
  have G0 : w.grownBy (w.alloc (.cells #[.string ⟨#[]⟩, .slice none 0 0] 31)) (some rb) := only_alloc (World.grownBy.refl _ _) _
  clear hr
  go_enter Try.func13, Try.ntmps13
  go_wp2_with fail
  refine (get_ok rb (l) 4 _ HR0.out (by first | omega | (simp; omega)) (by decide) (by decide) (by first | omega | (simp; omega))).mono ?_
  rintro e w1 ⟨rfl, hr1, hg1⟩
  have HR1 := Lib.hid hr1
  have B1 := B0.grown hg1 (by first | omega | (simp; omega))
  have G1 := grown_trans G0 hg1
  clear hr1 hg1 B0 G0
  rw [hv]
  go_wp2_with fail
  refine (take_ok rb (l.drop 4) 4 _ HR1.out (by first | omega | (simp; omega)) (by first | omega | (simp; omega))).mono ?_
  rintro e w2 ⟨v2, rfl, ho2, hr2, hg2⟩
  obtain ⟨a2, c2, rfl⟩ := owns_slice ho2
  have KO2 := Lib.hid (owns_base ho2 G1.size)
  clear ho2
  have HR2 := Lib.hid hr2
  have B2 := B1.grown hg2 (by first | omega | (simp; omega))
  have G2 := grown_trans G1 hg2
  clear hr2 hg2 B1 G1
  go_wp2_with fail
  obtain ⟨M1, hM1⟩ : ∃ M1 : Nat, M1 = ((l.drop 4).drop 4).length := ⟨_, rfl⟩
  have hM1a : M1 + 8 ≤ l.length ∧ l.length ≤ M1 + 8 := by rw [hM1]; simp; omega
  have HM1 := Lib.hid hM1
  obtain ⟨hM1b, hM1c⟩ := hM1a
  clear hM1
  refine (left_any rb ((l.drop 4).drop 4) 0 _ HR2.out).mono ?_
  rintro e w' ⟨rfl, rfl⟩
  rw [leftI_ok, ← HM1.out]
  have t6 : decide ((M1 : Int) < 8) = false := by simp; omega
  go_wp2_with fail
  refine (get_ok rb ((l.drop 4).drop 4) 8 _ HR2.out (by first | omega | (simp; omega)) (by decide) (by decide) (by first | omega | (simp; omega))).mono ?_
  rintro e w3 ⟨rfl, hr3, hg3⟩
  have HR3 := Lib.hid hr3
  have B3 := B2.grown hg3 (by first | omega | (simp; omega))
  have G3 := grown_trans G2 hg3
  have KO3 := Lib.hid (owns_only KO2.out hg3 hrl)
  clear hr3 hg3 B2 G2
  rw [hn]
  have c0 := B3.cell 0
  have c1 := B3.cell 1
  have f0 := B3.frozen 0
  have f1 := B3.frozen 1
  simp at c0 c1
  go_wp2_with fail
  exact bodyPost_ret (v := .tuple #[noBox, .int .i64 8]) (by simp [results, Try.results13, go_sem, noBox, c0, c1]) rfl ⟨rfl, only_setCell (only_setCell G3 (.inr (Nat.le_refl _)) _) (.inr (Nat.le_refl _)) _⟩

set_option maxHeartbeats 1000000 in
theorem one_big_cut (rb : Nat) (l : List UInt8) (w : World) (hr : Rdr w rb l 0) (hL : l.length ≤ 70368744177664) (h : 16 ≤ l.length) (hv : getI (l.take 4) = 1) (n : Int) (hn : getI (((l.drop 4).drop 4).take 8) = n) (h3 : 16 ≤ n) (h4 : (l.length : Int) < n) :
    Calls Try.prog 13 #[.pointer (some ⟨rb, 0, none⟩)] w fun e w' => e = .returned (.tuple #[noBox, .int .i64 8]) ∧ w.grownBy w' (some rb) := by
  have t2 : decide (0 ≤ n) = true := by simp; omega
  have t3 : decide (n < 16) = false := by simp; omega
  have t4 : decide (n < 0) = false := by simp; omega
  have hb8 := getI_bd (((l.drop 4).drop 4).take 8)
  rw [hn] at hb8
  obtain ⟨u1, u2⟩ := hb8
  have HR0 := Lib.hid (hr.alloc (.cells #[.string ⟨#[]⟩, .slice none 0 0] 31))
  have hrl := hr.lt
  have B0 := Blk.new w 31 #[.string ⟨#[]⟩, .slice none 0 0]
  have G0 : w.grownBy (w.alloc (.cells #[.string ⟨#[]⟩, .slice none 0 0] 31)) (some rb) := only_alloc (World.grownBy.refl _ _) _
  clear hr
  go_enter Try.func13, Try.ntmps13
  go_wp2_with fail
  refine (get_ok rb (l) 4 _ HR0.out (by first | omega | (simp; omega)) (by decide) (by decide) (by first | omega | (simp; omega))).mono ?_
  rintro e w1 ⟨rfl, hr1, hg1⟩
  have HR1 := Lib.hid hr1
  have B1 := B0.grown hg1 (by first | omega | (simp; omega))
  have G1 := grown_trans G0 hg1
  clear hr1 hg1 B0 G0
  rw [hv]
  go_wp2_with fail
  refine (take_ok rb (l.drop 4) 4 _ HR1.out (by first | omega | (simp; omega)) (by first | omega | (simp; omega))).mono ?_
  rintro e w2 ⟨v2, rfl, ho2, hr2, hg2⟩
  obtain ⟨a2, c2, rfl⟩ := owns_slice ho2
  have KO2 := Lib.hid (owns_base ho2 G1.size)
  clear ho2
  have HR2 := Lib.hid hr2
  have B2 := B1.grown hg2 (by first | omega | (simp; omega))
  have G2 := grown_trans G1 hg2
  clear hr2 hg2 B1 G1
  go_wp2_with fail
  obtain ⟨M1, hM1⟩ : ∃ M1 : Nat, M1 = ((l.drop 4).drop 4).length := ⟨_, rfl⟩
  have hM1a : M1 + 8 ≤ l.length ∧ l.length ≤ M1 + 8 := by rw [hM1]; simp; omega
  have HM1 := Lib.hid hM1
  obtain ⟨hM1b, hM1c⟩ := hM1a
  clear hM1
  refine (left_any rb ((l.drop 4).drop 4) 0 _ HR2.out).mono ?_
  rintro e w' ⟨rfl, rfl⟩
  rw [leftI_ok, ← HM1.out]
  have t6 : decide ((M1 : Int) < 8) = false := by simp; omega
  go_wp2_with fail
  refine (get_ok rb ((l.drop 4).drop 4) 8 _ HR2.out (by first | omega | (simp; omega)) (by decide) (by decide) (by first | omega | (simp; omega))).mono ?_
  rintro e w3 ⟨rfl, hr3, hg3⟩
  have HR3 := Lib.hid hr3
  have B3 := B2.grown hg3 (by first | omega | (simp; omega))
  have G3 := grown_trans G2 hg3
  have KO3 := Lib.hid (owns_only KO2.out hg3 hrl)
  clear hr3 hg3 B2 G2
  rw [hn]
  go_wp2_with fail
  obtain ⟨M2, hM2⟩ : ∃ M2 : Nat, M2 = (((l.drop 4).drop 4).drop 8).length := ⟨_, rfl⟩
  have hM2a : M2 + 16 ≤ l.length ∧ l.length ≤ M2 + 16 := by rw [hM2]; simp; omega
  have HM2 := Lib.hid hM2
  obtain ⟨hM2b, hM2c⟩ := hM2a
  clear hM2
  refine (left_any rb (((l.drop 4).drop 4).drop 8) 0 _ HR3.out).mono ?_
  rintro e w' ⟨rfl, rfl⟩
  rw [leftI_ok, ← HM2.out]
  have t7 : decide ((M2 : Int) < n - 16) = true := by simp; omega
  have c0 := B3.cell 0
  have c1 := B3.cell 1
  have f0 := B3.frozen 0
  have f1 := B3.frozen 1
  simp at c0 c1
  go_wp2_with fail
  exact bodyPost_ret (v := .tuple #[noBox, .int .i64 8]) (by simp [results, Try.results13, go_sem, noBox, c0, c1]) rfl ⟨rfl, only_setCell (only_setCell G3 (.inr (Nat.le_refl _)) _) (.inr (Nat.le_refl _)) _⟩

set_option maxRecDepth 100000 in
set_option maxHeartbeats 600000 in
theorem one_plain_ok (rb : Nat) (l : List UInt8) (w : World) (hr : Rdr w rb l 0) (hL : l.length ≤ 70368744177664) (h : 8 ≤ l.length) (n : Int) (hv : getI (l.take 4) = n) (h8 : 8 ≤ n) (q : Nat) (hq : (q : Int) = n - 8) (h4 : n ≤ (l.length : Int)) :
    Calls Try.prog 13 #[.pointer (some ⟨rb, 0, none⟩)] w fun e w' => ∃ a c, e = .returned (.tuple #[.agg #[strV ((l.drop 4).take 4), .slice a q c], .int .i64 0]) ∧ w'.ownsRow w.heap.size 5 1 (.slice a q c) q (cellsB (((l.drop 4).drop 4).take q)) ∧ Rdr w' rb (((l.drop 4).drop 4).drop q) 0 ∧ w.grownBy w' (some rb) := by
  have t0 : (n == 0) = false := by simp; omega
  have t1 : (n == 1) = false := by simp; omega
  have t2 : decide (0 ≤ n) = true := by simp; omega
  have t3 : decide (n < 8) = false := by simp; omega
  have t4 : decide (n < 0) = false := by simp; omega
  have hb4 := getI4 (l.take 4) (by simp; omega)
  rw [hv] at hb4
  obtain ⟨u1, u2⟩ := hb4
  obtain ⟨hq2, hq3⟩ : (q : Int) ≤ n - 8 ∧ n - 8 ≤ q := by omega
  clear hq
  have HR0 := Lib.hid (hr.alloc (.cells #[.string ⟨#[]⟩, .slice none 0 0] 31))
  have hrl := hr.lt
  have B0 := Blk.new w 31 #[.string ⟨#[]⟩, .slice none 0 0]
  have G0 : w.grownBy (w.alloc (.cells #[.string ⟨#[]⟩, .slice none 0 0] 31)) (some rb) := only_alloc (World.grownBy.refl _ _) _
  clear hr
  go_enter Try.func13, Try.ntmps13
  go_wp2_with fail
  refine (get_ok rb (l) 4 _ HR0.out (by first | omega | (simp; omega)) (by decide) (by decide) (by first | omega | (simp; omega))).mono ?_
  rintro e w1 ⟨rfl, hr1, hg1⟩
  have HR1 := Lib.hid hr1
  have B1 := B0.grown hg1 (by first | omega | (simp; omega))
  have G1 := grown_trans G0 hg1
  clear hr1 hg1 B0 G0
  rw [hv]
  go_wp2_with fail
  refine (take_ok rb (l.drop 4) 4 _ HR1.out (by first | omega | (simp; omega)) (by first | omega | (simp; omega))).mono ?_
  rintro e w2 ⟨v2, rfl, ho2, hr2, hg2⟩
  obtain ⟨a2, c2, rfl⟩ := owns_slice ho2
  have KO2 := Lib.hid (owns_base ho2 G1.size)
  clear ho2
  have HR2 := Lib.hid hr2
  have B2 := B1.grown hg2 (by first | omega | (simp; omega))
  have G2 := grown_trans G1 hg2
  clear hr2 hg2 B1 G1
  go_wp2_with fail
  obtain ⟨M1, hM1⟩ : ∃ M1 : Nat, M1 = ((l.drop 4).drop 4).length := ⟨_, rfl⟩
  have hM1a : M1 + 8 ≤ l.length ∧ l.length ≤ M1 + 8 := by rw [hM1]; simp; omega
  have HM1 := Lib.hid hM1
  obtain ⟨hM1b, hM1c⟩ := hM1a
  clear hM1
  refine (left_any rb ((l.drop 4).drop 4) 0 _ HR2.out).mono ?_
  rintro e w' ⟨rfl, rfl⟩
  rw [leftI_ok, ← HM1.out]
  have t6 : decide ((M1 : Int) < n - 8) = false := by simp; omega
  have c0 := B2.cell 0
  have c1 := B2.cell 1
  have f0 := B2.frozen 0
  have f1 := B2.frozen 1
  simp at c0 c1
  have hkl : ((l.drop 4).take 4).length = 4 := by simp; omega
  obtain ⟨KK, hKK⟩ : ∃ KK, KK = (l.drop 4).take 4 := ⟨_, rfl⟩
  rw [← hKK] at hkl
  have KOa := KO2.out
  rw [← hKK] at KOa
  have KOb := Lib.hid KOa
  have HKK := Lib.hid hKK
  have cvF : ∀ W : World, W.ownsRow w.heap.size 5 1 (.slice a2 4 c2) 4 (cellsB KK) → (convert 22 9 (.slice a2 4 c2)).run Try.prog W = .ok (.string ⟨KK.toArray⟩) W := fun W h => conv_string (BV.of_owns (by rw [hkl]; exact h))
  have CV := Lib.hid cvF
  have cv1 : (convert 22 9 (.slice a2 4 c2)).run Try.prog w2.drew = .ok (.string ⟨KK.toArray⟩) w2.drew := cvF _ KOa
  clear cvF KOa hKK hkl
  have HW := Lib.hid (show IntKind.i64.wrap (n - 8) = (q : Int) by rw [IntWalk.i64_in _ (by omega)]; omega)
  have HL1 := Lib.hid (show ((l.drop 4).drop 4).length ≤ 140737488355328 by simp; omega)
  have HL2 := Lib.hid (show q ≤ ((l.drop 4).drop 4).length by simp; omega)
  clear hq2 hq3
  go_wp2_with fail
  have hw := HW.out
  go_region_with (first | (go_at_call 19; refine (take_ok rb ((l.drop 4).drop 4) q _ (HR2.out.drewN 1) (HL1.out) (HL2.out)).mono ?_; rintro e w3 ⟨v3, rfl, ho3, hr3, hg3⟩; obtain ⟨a3, c3, rfl⟩ := owns_slice ho3; have HO3 := Lib.hid ho3; have HR3 := Lib.hid hr3; have B3 := B2.drew.grown hg3 (by simp; omega); have G3 := grown_trans (only_drew G2) hg3; have d0 := B3.cell 0; have d1 := B3.cell 1; have g0 := B3.frozen 0; have g1 := B3.frozen 1; simp at d0 d1; have cv2 := CV.out w3 (owns_only (w := w2.drew) KOb.out hg3 hrl); clear hr3 ho3))
  all_goals have hsz : w.heap.size < w2.heap.size := B2.lt
  all_goals clear hw
  all_goals
    go_wp2_with fail
    refine bodyPost_ret (v := .tuple #[.agg #[.string ⟨KK.toArray⟩, .slice a3 q c3], .int .i64 0]) (by simp [results, Try.results13, go_sem, d0, d1]) rfl ?_
    exact ⟨a3, c3, by rw [← HKK.out]; rfl, owns_base (ownsRow_setCell_below (ownsRow_setCell_below HO3.out (by simpa using hsz) _) (by simpa using hsz) _) (by simp; omega), (HR3.out.far (by simpa using hrl) _).far (by simpa using hrl) _, only_setCell (only_setCell G3 (.inr (Nat.le_refl _)) _) (.inr (Nat.le_refl _)) _⟩

set_option maxRecDepth 100000 in
set_option maxHeartbeats 600000 in
theorem one_big_ok (rb : Nat) (l : List UInt8) (w : World) (hr : Rdr w rb l 0) (hL : l.length ≤ 70368744177664) (h : 16 ≤ l.length) (hv : getI (l.take 4) = 1) (n : Int) (hn : getI (((l.drop 4).drop 4).take 8) = n) (h16 : 16 ≤ n) (q : Nat) (hq : (q : Int) = n - 16) (h4 : n ≤ (l.length : Int)) :
    Calls Try.prog 13 #[.pointer (some ⟨rb, 0, none⟩)] w fun e w' => ∃ a c, e = .returned (.tuple #[.agg #[strV ((l.drop 4).take 4), .slice a q c], .int .i64 0]) ∧ w'.ownsRow w.heap.size 5 1 (.slice a q c) q (cellsB ((((l.drop 4).drop 4).drop 8).take q)) ∧ Rdr w' rb ((((l.drop 4).drop 4).drop 8).drop q) 0 ∧ w.grownBy w' (some rb) := by
  have t2 : decide (0 ≤ n) = true := by simp; omega
  have t3 : decide (n < 16) = false := by simp; omega
  have t4 : decide (n < 0) = false := by simp; omega
  have hb8 := getI_bd (((l.drop 4).drop 4).take 8)
  rw [hn] at hb8
  obtain ⟨u1, u2⟩ := hb8
  obtain ⟨hq2, hq3⟩ : (q : Int) ≤ n - 16 ∧ n - 16 ≤ q := by omega
  clear hq
  have HR0 := Lib.hid (hr.alloc (.cells #[.string ⟨#[]⟩, .slice none 0 0] 31))
  have hrl := hr.lt
  have B0 := Blk.new w 31 #[.string ⟨#[]⟩, .slice none 0 0]
  have G0 : w.grownBy (w.alloc (.cells #[.string ⟨#[]⟩, .slice none 0 0] 31)) (some rb) := only_alloc (World.grownBy.refl _ _) _
  clear hr
  go_enter Try.func13, Try.ntmps13
  go_wp2_with fail
  refine (get_ok rb (l) 4 _ HR0.out (by first | omega | (simp; omega)) (by decide) (by decide) (by first | omega | (simp; omega))).mono ?_
  rintro e w1 ⟨rfl, hr1, hg1⟩
  have HR1 := Lib.hid hr1
  have B1 := B0.grown hg1 (by first | omega | (simp; omega))
  have G1 := grown_trans G0 hg1
  clear hr1 hg1 B0 G0
  rw [hv]
  go_wp2_with fail
  refine (take_ok rb (l.drop 4) 4 _ HR1.out (by first | omega | (simp; omega)) (by first | omega | (simp; omega))).mono ?_
  rintro e w2 ⟨v2, rfl, ho2, hr2, hg2⟩
  obtain ⟨a2, c2, rfl⟩ := owns_slice ho2
  have KO2 := Lib.hid (owns_base ho2 G1.size)
  clear ho2
  have HR2 := Lib.hid hr2
  have B2 := B1.grown hg2 (by first | omega | (simp; omega))
  have G2 := grown_trans G1 hg2
  clear hr2 hg2 B1 G1
  go_wp2_with fail
  obtain ⟨M1, hM1⟩ : ∃ M1 : Nat, M1 = ((l.drop 4).drop 4).length := ⟨_, rfl⟩
  have hM1a : M1 + 8 ≤ l.length ∧ l.length ≤ M1 + 8 := by rw [hM1]; simp; omega
  have HM1 := Lib.hid hM1
  obtain ⟨hM1b, hM1c⟩ := hM1a
  clear hM1
  refine (left_any rb ((l.drop 4).drop 4) 0 _ HR2.out).mono ?_
  rintro e w' ⟨rfl, rfl⟩
  rw [leftI_ok, ← HM1.out]
  have t6 : decide ((M1 : Int) < 8) = false := by simp; omega
  go_wp2_with fail
  refine (get_ok rb ((l.drop 4).drop 4) 8 _ HR2.out (by first | omega | (simp; omega)) (by decide) (by decide) (by first | omega | (simp; omega))).mono ?_
  rintro e w3 ⟨rfl, hr3, hg3⟩
  have HR3 := Lib.hid hr3
  have B3 := B2.grown hg3 (by first | omega | (simp; omega))
  have G3 := grown_trans G2 hg3
  have KO3 := Lib.hid (owns_only KO2.out hg3 hrl)
  clear hr3 hg3 B2 G2
  rw [hn]
  go_wp2_with fail
  obtain ⟨M2, hM2⟩ : ∃ M2 : Nat, M2 = (((l.drop 4).drop 4).drop 8).length := ⟨_, rfl⟩
  have hM2a : M2 + 16 ≤ l.length ∧ l.length ≤ M2 + 16 := by rw [hM2]; simp; omega
  have HM2 := Lib.hid hM2
  obtain ⟨hM2b, hM2c⟩ := hM2a
  clear hM2
  refine (left_any rb (((l.drop 4).drop 4).drop 8) 0 _ HR3.out).mono ?_
  rintro e w' ⟨rfl, rfl⟩
  rw [leftI_ok, ← HM2.out]
  have t7 : decide ((M2 : Int) < n - 16) = false := by simp; omega
  have c0 := B3.cell 0
  have c1 := B3.cell 1
  have f0 := B3.frozen 0
  have f1 := B3.frozen 1
  simp at c0 c1
  have hkl : ((l.drop 4).take 4).length = 4 := by simp; omega
  obtain ⟨KK, hKK⟩ : ∃ KK, KK = (l.drop 4).take 4 := ⟨_, rfl⟩
  rw [← hKK] at hkl
  have KOa := KO3.out
  rw [← hKK] at KOa
  have KOb := Lib.hid KOa
  have HKK := Lib.hid hKK
  have cvF : ∀ W : World, W.ownsRow w.heap.size 5 1 (.slice a2 4 c2) 4 (cellsB KK) → (convert 22 9 (.slice a2 4 c2)).run Try.prog W = .ok (.string ⟨KK.toArray⟩) W := fun W h => conv_string (BV.of_owns (by rw [hkl]; exact h))
  have CV := Lib.hid cvF
  have cv1 : (convert 22 9 (.slice a2 4 c2)).run Try.prog w3.drew = .ok (.string ⟨KK.toArray⟩) w3.drew := cvF _ KOa
  clear cvF KOa hKK hkl
  have HW := Lib.hid (show IntKind.i64.wrap (n - 16) = (q : Int) by rw [IntWalk.i64_in _ (by omega)]; omega)
  have HL1 := Lib.hid (show (((l.drop 4).drop 4).drop 8).length ≤ 140737488355328 by simp; omega)
  have HL2 := Lib.hid (show q ≤ (((l.drop 4).drop 4).drop 8).length by simp; omega)
  clear hq2 hq3
  go_wp2_with fail
  have hw := HW.out
  go_region_with (first | (go_at_call 19; refine (take_ok rb (((l.drop 4).drop 4).drop 8) q _ (HR3.out.drewN 1) (HL1.out) (HL2.out)).mono ?_; rintro e w4 ⟨v4, rfl, ho4, hr4, hg4⟩; obtain ⟨a4, c4, rfl⟩ := owns_slice ho4; have HO4 := Lib.hid ho4; have HR4 := Lib.hid hr4; have B4 := B3.drew.grown hg4 (by simp; omega); have G4 := grown_trans (only_drew G3) hg4; have d0 := B4.cell 0; have d1 := B4.cell 1; have g0 := B4.frozen 0; have g1 := B4.frozen 1; simp at d0 d1; have cv2 := CV.out w4 (owns_only (w := w3.drew) KOb.out hg4 hrl); clear hr4 ho4))
  all_goals have hsz : w.heap.size < w3.heap.size := B3.lt
  all_goals clear hw
  all_goals
    go_wp2_with fail
    refine bodyPost_ret (v := .tuple #[.agg #[.string ⟨KK.toArray⟩, .slice a4 q c4], .int .i64 0]) (by simp [results, Try.results13, go_sem, d0, d1]) rfl ?_
    exact ⟨a4, c4, by rw [← HKK.out]; rfl, owns_base (ownsRow_setCell_below (ownsRow_setCell_below HO4.out (by simpa using hsz) _) (by simpa using hsz) _) (by simp; omega), (HR4.out.far (by simpa using hrl) _).far (by simpa using hrl) _, only_setCell (only_setCell G4 (.inr (Nat.le_refl _)) _) (.inr (Nat.le_refl _)) _⟩

set_option maxRecDepth 100000 in
set_option maxHeartbeats 600000 in
theorem one_zero_ok (rb : Nat) (l : List UInt8) (w : World) (hr : Rdr w rb l 0) (hL : l.length ≤ 70368744177664) (h : 8 ≤ l.length) (hv : getI (l.take 4) = 0) (q : Nat) (hq : q + 8 = l.length) :
    Calls Try.prog 13 #[.pointer (some ⟨rb, 0, none⟩)] w fun e w' => ∃ a c, e = .returned (.tuple #[.agg #[strV ((l.drop 4).take 4), .slice a q c], .int .i64 0]) ∧ w'.ownsRow w.heap.size 5 1 (.slice a q c) q (cellsB (((l.drop 4).drop 4).take q)) ∧ Rdr w' rb (((l.drop 4).drop 4).drop q) 0 ∧ w.grownBy w' (some rb) := by
  have HQ0 := Lib.hid (show ((l.drop 4).drop 4).length = q by simp; omega)
  obtain ⟨hq2, hq3⟩ : q + 8 ≤ l.length ∧ l.length ≤ q + 8 := by omega
  clear hq
  have HR0 := Lib.hid (hr.alloc (.cells #[.string ⟨#[]⟩, .slice none 0 0] 31))
  have hrl := hr.lt
  have B0 := Blk.new w 31 #[.string ⟨#[]⟩, .slice none 0 0]
  have G0 : w.grownBy (w.alloc (.cells #[.string ⟨#[]⟩, .slice none 0 0] 31)) (some rb) := only_alloc (World.grownBy.refl _ _) _
  clear hr
  go_enter Try.func13, Try.ntmps13
  go_wp2_with fail
  refine (get_ok rb (l) 4 _ HR0.out (by first | omega | (simp; omega)) (by decide) (by decide) (by first | omega | (simp; omega))).mono ?_
  rintro e w1 ⟨rfl, hr1, hg1⟩
  have HR1 := Lib.hid hr1
  have B1 := B0.grown hg1 (by first | omega | (simp; omega))
  have G1 := grown_trans G0 hg1
  clear hr1 hg1 B0 G0
  rw [hv]
  go_wp2_with fail
  refine (take_ok rb (l.drop 4) 4 _ HR1.out (by first | omega | (simp; omega)) (by first | omega | (simp; omega))).mono ?_
  rintro e w2 ⟨v2, rfl, ho2, hr2, hg2⟩
  obtain ⟨a2, c2, rfl⟩ := owns_slice ho2
  have KO2 := Lib.hid (owns_base ho2 G1.size)
  clear ho2
  have HR2 := Lib.hid hr2
  have B2 := B1.grown hg2 (by first | omega | (simp; omega))
  have G2 := grown_trans G1 hg2
  clear hr2 hg2 B1 G1
  go_wp2_with fail
  refine (left_any rb ((l.drop 4).drop 4) 0 _ HR2.out).mono ?_
  rintro e w' ⟨rfl, rfl⟩
  rw [leftI_ok, HQ0.out]
  go_wp2_with fail
  refine (left_any rb ((l.drop 4).drop 4) 0 _ HR2.out).mono ?_
  rintro e w' ⟨rfl, rfl⟩
  rw [leftI_ok, HQ0.out]
  have c0 := B2.cell 0
  have c1 := B2.cell 1
  have f0 := B2.frozen 0
  have f1 := B2.frozen 1
  simp at c0 c1
  have hkl : ((l.drop 4).take 4).length = 4 := by simp; omega
  obtain ⟨KK, hKK⟩ : ∃ KK, KK = (l.drop 4).take 4 := ⟨_, rfl⟩
  rw [← hKK] at hkl
  have KOa := KO2.out
  rw [← hKK] at KOa
  have KOb := Lib.hid KOa
  have HKK := Lib.hid hKK
  have cvF : ∀ W : World, W.ownsRow w.heap.size 5 1 (.slice a2 4 c2) 4 (cellsB KK) → (convert 22 9 (.slice a2 4 c2)).run Try.prog W = .ok (.string ⟨KK.toArray⟩) W := fun W h => conv_string (BV.of_owns (by rw [hkl]; exact h))
  have CV := Lib.hid cvF
  have cv1 : (convert 22 9 (.slice a2 4 c2)).run Try.prog w2.drew = .ok (.string ⟨KK.toArray⟩) w2.drew := cvF _ KOa
  clear cvF KOa hKK hkl
  have HW := Lib.hid (show IntKind.i64.wrap (8 + (q : Int) - 8) = (q : Int) by rw [IntWalk.i64_in _ (by omega)]; omega)
  have HL1 := Lib.hid (show ((l.drop 4).drop 4).length ≤ 140737488355328 by simp; omega)
  have HL2 := Lib.hid (show q ≤ ((l.drop 4).drop 4).length by simp; omega)
  clear hq2 hq3
  go_wp2_with fail
  have hw := HW.out
  go_region_with (first | (go_at_call 19; refine (take_ok rb ((l.drop 4).drop 4) q _ (HR2.out.drewN 1) (HL1.out) (HL2.out)).mono ?_; rintro e w3 ⟨v3, rfl, ho3, hr3, hg3⟩; obtain ⟨a3, c3, rfl⟩ := owns_slice ho3; have HO3 := Lib.hid ho3; have HR3 := Lib.hid hr3; have B3 := B2.drew.grown hg3 (by simp; omega); have G3 := grown_trans (only_drew G2) hg3; have d0 := B3.cell 0; have d1 := B3.cell 1; have g0 := B3.frozen 0; have g1 := B3.frozen 1; simp at d0 d1; have cv2 := CV.out w3 (owns_only (w := w2.drew) KOb.out hg3 hrl); clear hr3 ho3))
  all_goals have hsz : w.heap.size < w2.heap.size := B2.lt
  all_goals clear hw
  all_goals
    go_wp2_with fail
    refine bodyPost_ret (v := .tuple #[.agg #[.string ⟨KK.toArray⟩, .slice a3 q c3], .int .i64 0]) (by simp [results, Try.results13, go_sem, d0, d1]) rfl ?_
    exact ⟨a3, c3, by rw [← HKK.out]; rfl, owns_base (ownsRow_setCell_below (ownsRow_setCell_below HO3.out (by simpa using hsz) _) (by simpa using hsz) _) (by simp; omega), (HR3.out.far (by simpa using hrl) _).far (by simpa using hrl) _, only_setCell (only_setCell G3 (.inr (Nat.le_refl _)) _) (.inr (Nat.le_refl _)) _⟩

end Go.Proofs.Ythmdgbplfdofiaa
