/- marks: COD is read: the walk. -/
import Derived.Test.YtlhlhlabnjfhcaaMk
namespace Go.Proofs.Ytlhlhlabnjfhcaa
open Go.RowKit Go.Maps

def cS (d : CodD) : List UInt8 := List.replicate (d.lv + 1) (UInt8.ofNat (17 * d.prec))
def T9 (d : CodD) : List UInt8 := UInt8.ofNat 1 :: cS d
def T8 (d : CodD) : List UInt8 := UInt8.ofNat d.style :: T9 d
def T7 (d : CodD) : List UInt8 := UInt8.ofNat d.cbh :: T8 d
def T6 (d : CodD) : List UInt8 := UInt8.ofNat d.cbw :: T7 d
def T5 (d : CodD) : List UInt8 := UInt8.ofNat d.lv :: T6 d
def T4 (d : CodD) : List UInt8 := UInt8.ofNat d.turn :: T5 d
def T2 (d : CodD) : List UInt8 := putB 2 d.layers ++ T4 d
def T1 (d : CodD) : List UInt8 := UInt8.ofNat d.order :: T2 d
def T0 (d : CodD) : List UInt8 := UInt8.ofNat d.mks :: T1 d
theorem codB_T (d : CodD) : codB d 1 = T0 d := by simp [codB, T0, T1, T2, T4, T5, T6, T7, T8, T9, cS]
theorem cS_len (d : CodD) (h : d.lv < 256) : (cS d).length ≤ 1000000000 := by simp [cS]; omega
theorem T9_len (d : CodD) (h : d.lv < 256) : (T9 d).length ≤ 1000000000 := by simp [T9, cS]; omega
theorem T8_len (d : CodD) (h : d.lv < 256) : (T8 d).length ≤ 1000000000 := by simp [T8, T9, cS]; omega
theorem T7_len (d : CodD) (h : d.lv < 256) : (T7 d).length ≤ 1000000000 := by simp [T7, T8, T9, cS]; omega
theorem T6_len (d : CodD) (h : d.lv < 256) : (T6 d).length ≤ 1000000000 := by simp [T6, T7, T8, T9, cS]; omega
theorem T5_len (d : CodD) (h : d.lv < 256) : (T5 d).length ≤ 1000000000 := by simp [T5, T6, T7, T8, T9, cS]; omega
theorem T4_len (d : CodD) (h : d.lv < 256) : (T4 d).length ≤ 1000000000 := by simp [T4, T5, T6, T7, T8, T9, cS]; omega
theorem T2_len (d : CodD) (h : d.lv < 256) : (T2 d).length ≤ 1000000000 := by simp [T2, T4, T5, T6, T7, T8, T9, cS, putB_length]; omega
theorem T1_len (d : CodD) (h : d.lv < 256) : (T1 d).length ≤ 1000000000 := by simp [T1, T2, T4, T5, T6, T7, T8, T9, cS, putB_length]; omega

theorem and_small (m k : Nat) (hm : m < 8) (hk : k = 1 ∨ k = 2 ∨ k = 4) : ∃ y : Int, bits .and .i64 (m : Int) (k : Int) = y ∧ (y == 0) = !decide (m / k % 2 = 1) := by
  have hm' : m = 0 ∨ m = 1 ∨ m = 2 ∨ m = 3 ∨ m = 4 ∨ m = 5 ∨ m = 6 ∨ m = 7 := by omega
  rcases hm' with rfl | rfl | rfl | rfl | rfl | rfl | rfl | rfl <;> rcases hk with rfl | rfl | rfl <;> exact ⟨_, rfl, by decide⟩

set_option maxRecDepth 100000 in
set_option maxHeartbeats 1000000 in
theorem code_ok (pb rb mb : Nat) (h : HeadM) (cv mv v : Value) (d : CodD) (w : World) (hp : Blk w pb 66 (prsA rb mb h cv mv)) (hv : BV w v (codB d 1)) (hd : d.ok) :
    Calls Try.prog 65 #[.pointer (some ⟨pb, 0, none⟩), v] w fun e w' => e = .returned (.int .i64 0) ∧ Blk w' pb 66 (prsA rb mb { h with p := codP d h.p } cv mv) ∧ w.grownBy w' (some pb) := by
  obtain ⟨e1, e2, e3, e4, e5, e6, e7, e8, e9, e10, e11, e12⟩ := hd
  have HV := Lib.hid hv
  obtain ⟨A, c, rfl, g1, g2, g3⟩ := hv
  obtain ⟨ad, rfl, -, hc⟩ := g3.cell (codB_9 d 1)
  replace hc : w.cell? ⟨ad.block, ad.off + 9, none⟩ = some (.int .u8 1) := hc
  have hN : (codB d 1).length = 11 + d.lv := codB_length d 1
  generalize hnn : (codB d 1).length = N at *
  subst hN
  clear g3 hnn
  have d1 : decide ((9 : Int) < ((11 + d.lv : Nat) : Int)) = true := by simp; omega
  have z1 : (9 : Int) < ((11 + d.lv : Nat) : Int) := by omega
  go_enter Try.func65, Try.ntmps65
  go_wp2_with fail
  refine (new_any _ (codB d 1) _ HV.out (by rw [codB_length]; omega)).mono ?_
  rintro e w1 ⟨rb2, rfl, hr2, hR, hb1⟩
  have hp1 := hp.below hb1 hp.lt
  have hR1 := hR.lt
  rw [codB_T] at hR
  go_wp2_with fail
  have hq1 : Blk (w1.alloc (.cells #[Value.pointer (some ⟨pb, 6, none⟩)] 109)) w1.heap.size 109 #[Value.pointer (some ⟨pb, 6, none⟩)] := Blk.new _ _ _
  refine (get_one rb2 d.mks (by omega) (T1 d) _ (Rdr.keep hR (Below.alloc (Below.refl _ _) (Nat.le_refl _) _)) (T1_len d e7)).mono ?_
  rintro e w2 ⟨rfl, hR2, hg2⟩
  have hq2 := hq1.grown hg2 (by simp; omega)
  have hp2 := (hp1.alloc (.cells #[Value.pointer (some ⟨pb, 6, none⟩)] 109)).grown hg2 (by have := hp.lt; simp; omega)
  generalize hcb : w1.heap.size = cb at *
  have cq2 := hq2.cell 0
  simp at cq2
  have f16 := hp2.frozen 16
  have f17 := hp2.frozen 17
  have c16 := hp2.cell 16
  have c17 := hp2.cell 17
  simp [prsA] at c16 c17
  obtain ⟨y2, hy2, ht2⟩ := and_small d.mks 2 (by omega) (by omega)
  obtain ⟨y4, hy4, ht4⟩ := and_small d.mks 4 (by omega) (by omega)
  have ht2' : (y2 != 0) = decide (d.mks / 2 % 2 = 1) := by unfold bne; rw [ht2]; simp
  have ht4' : (y4 != 0) = decide (d.mks / 4 % 2 = 1) := by unfold bne; rw [ht4]; simp
  clear ht2 ht4
  replace hy2 : bits .and .i64 (d.mks : Int) 2 = y2 := hy2
  replace hy4 : bits .and .i64 (d.mks : Int) 4 = y4 := hy4
  generalize decide (d.mks / 2 % 2 = 1) = b2 at *
  generalize decide (d.mks / 4 % 2 = 1) = b4 at *
  go_wp2_with fail
  go_region
  have hpb : pb < w.heap.size := hp.lt
  have hw1 := hb1.size
  have hg2' : w.grownBy w2 (some pb) := only_then (only_of_below (hb1.alloc hw1 _) (some pb)) hg2 hr2
  have hp3 : Blk ((w2.setCell ⟨pb, 16, none⟩ (.bool b2)).setCell ⟨pb, 17, none⟩ (.bool b4)).drew pb 66 (prsA rb mb { h with p := { h.p with sop := b2, eph := b4 } } cv mv) := (hp2.set_ 16 (.bool b2)).set_ 17 (.bool b4)
  have hq3 := ((hq2.far (p := ⟨pb, 16, none⟩) (by simp; omega) (.bool b2)).far (p := ⟨pb, 17, none⟩) (by simp; omega) (.bool b4)).drew
  have hR3 := (hR2.stored (.bool b2) (by omega) c16 (by simp)).stored (g := pb) (k := 17) (u0 := .bool h.p.eph) (.bool b4) (by omega) ((hp2.set_ 16 (.bool b2)).cell 17) (by simp)
  replace hR3 := hR3.drewN 1
  have hg3 := only_drew (only_setCell (only_setCell hg2' (p := ⟨pb, 16, none⟩) (.inl rfl) (.bool b2)) (p := ⟨pb, 17, none⟩) (.inl rfl) (.bool b4))
  change Rdr ((w2.setCell ⟨pb, 16, none⟩ (.bool b2)).setCell ⟨pb, 17, none⟩ (.bool b4)).drew _ _ _ at hR3
  generalize ((w2.setCell ⟨pb, 16, none⟩ (.bool b2)).setCell ⟨pb, 17, none⟩ (.bool b4)).drew = w3 at *
  clear c16 c17 f16 f17 hp2 hq2 hR2 hg2 hg2' hq1 cq2 hp1 hR hc
  generalize hh3 : ({ h with p := { h.p with sop := b2, eph := b4 } } : HeadM) = h3 at *
  have HH3 := Lib.hid hh3
  have HCB := Lib.hid hcb
  have HT := Lib.hid (And.intro ht2' (And.intro ht4' (And.intro hy2 hy4)))
  have HB1 := Lib.hid hb1
  have HE := Lib.hid (And.intro e1 (And.intro e2 (And.intro e4 (And.intro e6 (And.intro e8 (And.intro e9 (And.intro e10 (And.intro e11 e12))))))))
  clear hh3 hcb ht2' ht4' hy2 hy4 hb1 hp e1 e2 e4 e6 e8 e9 e10 e11 e12 g1 g2 d1
  have cq3 := hq3.cell 0
  simp at cq3
  have f13 := hp3.frozen 13
  have f14 := hp3.frozen 14
  have c13 := hp3.cell 13
  have c14 := hp3.cell 14
  simp [prsA] at c13 c14
  go_wp2_with fail
  have hR3d : Rdr w3.drew rb2 (UInt8.ofNat d.order :: T2 d) 0 := hR3
  have HR3d := Lib.hid hR3d
  clear hR3d
  have hq3d : Blk w3.drew cb 109 #[.pointer (some ⟨pb, 6, none⟩)] := hq3
  have hp3d : Blk w3.drew pb 66 (prsA rb mb h3 cv mv) := hp3
  have hg3d : w.grownBy w3.drew (some pb) := only_drew hg3
  have cq3d : w3.drew.cell? ⟨cb, 0, none⟩ = some (.pointer (some ⟨pb, 6, none⟩)) := cq3
  go_region_held3 (fun w' => w'.cell? ⟨cb, 0, none⟩ = some (.pointer (some ⟨pb, 6, none⟩)))
    (first | (with_reducible exact cq3d) | (with_reducible exact cq4) | (with_reducible exact cq5) | (with_reducible exact cq3) | exact (World.cell?_setCell_other _ _ _ _ (by simp)).trans cq5 | exact (World.cell?_setCell_other _ _ _ _ (by simp)).trans ((World.cell?_setCell_other _ _ _ _ (by simp)).trans cq5))
    (first | (go_at_call 45; (with_reducible refine (get_one rb2 d.order ?_ (T2 d) _ ?_ ?_).mono ?_); exact e3; exact HR3d.out; exact T2_len d e7; rintro e w4 ⟨rfl, hR4, hg4⟩; have hq4 := hq3d.grown hg4 (by simp; omega); have hp4 := hp3d.grown hg4 (by simp; omega); have cq4 : w4.cell? ⟨cb, 0, none⟩ = some (.pointer (some ⟨pb, 6, none⟩)) := hq4.cell 0; have hg4' := only_then hg3d hg4 hr2) | (go_at_call 45; (with_reducible refine (get_put2 rb2 d.layers ?_ (T4 d) _ ?_ ?_).mono ?_); omega; exact hR4; exact T4_len d e7; rintro e w5 ⟨rfl, hR5, hg5⟩; have hq5 := hq4.grown hg5 (by simp; omega); have hp5 := hp4.grown hg5 (by simp; omega); have cq5 : w5.cell? ⟨cb, 0, none⟩ = some (.pointer (some ⟨pb, 6, none⟩)) := hq5.cell 0; have hg5' := only_then hg4' hg5 hr2; have f13' := hp5.frozen 13; have f14' := hp5.frozen 14; have c13' : w5.cell? ⟨pb, 13, none⟩ = some (.int .i64 h3.p.order) := hp5.cell 13; have c14' : w5.cell? ⟨pb, 14, none⟩ = some (.int .i64 h3.p.layers) := hp5.cell 14))
  have hp6 : Blk ((w5.setCell ⟨pb, 13, none⟩ (.int .i64 d.order)).setCell ⟨pb, 14, none⟩ (.int .i64 d.layers)) pb 66 (prsA rb mb { h3 with p := { h3.p with order := d.order, layers := d.layers } } cv mv) := (hp5.set_ 13 (.int .i64 d.order)).set_ 14 (.int .i64 d.layers)
  have hq6 := (hq5.far (p := ⟨pb, 13, none⟩) (by simp; omega) (.int .i64 d.order)).far (p := ⟨pb, 14, none⟩) (by simp; omega) (.int .i64 d.layers)
  have hR6 := (hR5.stored (.int .i64 d.order) (by omega) c13' (by simp)).stored (g := pb) (k := 14) (u0 := .int .i64 h3.p.layers) (.int .i64 d.layers) (by omega) ((hp5.set_ 13 (.int .i64 d.order)).cell 14) (by simp)
  have hg6 := only_setCell (only_setCell hg5' (p := ⟨pb, 13, none⟩) (.inl rfl) (.int .i64 d.order)) (p := ⟨pb, 14, none⟩) (.inl rfl) (.int .i64 d.layers)
  generalize ((w5.setCell ⟨pb, 13, none⟩ (.int .i64 d.order)).setCell ⟨pb, 14, none⟩ (.int .i64 d.layers)) = w6 at *
  clear c13 c14 f13 f14 c13' c14' f13' f14' hp5 hq5 hR5 hg5 hg5' hp4 hq4 hR4 hg4 hg4' hp3 hq3 hR3 hg3 HR3d hq3d hp3d hg3d cq3d cq4 cq5 cq3
  generalize hh6 : ({ h3 with p := { h3.p with order := (d.order : Int), layers := (d.layers : Int) } } : HeadM) = h6 at *
  have HH6 := Lib.hid hh6
  clear hh6
  have e6 := HE.out.2.2.2.1
  go_wp2_with fail
  refine (get_one rb2 d.turn (by omega) (T5 d) _ hR6 (T5_len d e7)).mono ?_
  rintro e w7 ⟨rfl, hR7, hg7⟩
  have hq7 := hq6.grown hg7 (by simp; omega)
  have hp7 := hp6.grown hg7 (by simp; omega)
  have hg7' := only_then hg6 hg7 hr2
  have cq7 : w7.cell? ⟨cb, 0, none⟩ = some (.pointer (some ⟨pb, 6, none⟩)) := hq7.cell 0
  have c15 : w7.cell? ⟨pb, 15, none⟩ = some (.bool h6.p.rct) := hp7.cell 15
  have f15 := hp7.frozen 15
  go_wp2_with fail
  have hp8 : Blk (w7.setCell ⟨pb, 15, none⟩ (.bool ((d.turn : Int) == 1))) pb 66 (prsA rb mb { h6 with p := { h6.p with rct := ((d.turn : Int) == 1) } } cv mv) := hp7.set_ 15 (.bool ((d.turn : Int) == 1))
  have hq8 := hq7.far (p := ⟨pb, 15, none⟩) (by simp; omega) (.bool ((d.turn : Int) == 1))
  have hR8 := hR7.stored (.bool ((d.turn : Int) == 1)) (by omega) c15 (by simp)
  have hg8 := only_setCell hg7' (p := ⟨pb, 15, none⟩) (.inl rfl) (.bool ((d.turn : Int) == 1))
  generalize (w7.setCell ⟨pb, 15, none⟩ (.bool ((d.turn : Int) == 1))) = w8 at *
  clear c15 f15 hp7 hq7 hR7 hg7 hg7' hp6 hq6 hR6 hg6 cq7
  generalize hh8 : ({ h6 with p := { h6.p with rct := ((d.turn : Int) == 1) } } : HeadM) = h8 at *
  have HH8 := Lib.hid hh8
  clear hh8
  have e8 := HE.out.2.2.2.2.1
  have e9 := HE.out.2.2.2.2.2.1
  have e10 := HE.out.2.2.2.2.2.2.1
  have hR8d : Rdr w8.drew rb2 (UInt8.ofNat d.lv :: T6 d) 0 := hR8
  have HR8d := Lib.hid hR8d
  clear hR8d
  have hq8d : Blk w8.drew cb 109 #[.pointer (some ⟨pb, 6, none⟩)] := hq8
  have hp8d : Blk w8.drew pb 66 (prsA rb mb h8 cv mv) := hp8
  have hg8d : w.grownBy w8.drew (some pb) := only_drew hg8
  have cq8 : w8.cell? ⟨cb, 0, none⟩ = some (.pointer (some ⟨pb, 6, none⟩)) := hq8.cell 0
  have cq8d : w8.drew.cell? ⟨cb, 0, none⟩ = some (.pointer (some ⟨pb, 6, none⟩)) := cq8
  go_region_held3 (fun w' => w'.cell? ⟨cb, 0, none⟩ = some (.pointer (some ⟨pb, 6, none⟩)))
    (first | (with_reducible exact cq8d) | (with_reducible exact cq13) | (with_reducible exact cq12) | (with_reducible exact cq11) | (with_reducible exact cq10) | (with_reducible exact cq8) | exact (World.cell?_setCell_other _ _ _ _ (by simp)).trans cq13 | exact (World.cell?_setCell_other _ _ _ _ (by simp)).trans ((World.cell?_setCell_other _ _ _ _ (by simp)).trans cq13) | exact (World.cell?_setCell_other _ _ _ _ (by simp)).trans ((World.cell?_setCell_other _ _ _ _ (by simp)).trans ((World.cell?_setCell_other _ _ _ _ (by simp)).trans cq13)) | exact (World.cell?_setCell_other _ _ _ _ (by simp)).trans ((World.cell?_setCell_other _ _ _ _ (by simp)).trans ((World.cell?_setCell_other _ _ _ _ (by simp)).trans ((World.cell?_setCell_other _ _ _ _ (by simp)).trans cq13))))
    (first | (go_at_call 45; (with_reducible refine (get_one rb2 d.style ?_ (T9 d) _ ?_ ?_).mono ?_); omega; exact hR12; exact T9_len d e7; rintro e w13 ⟨rfl, hR13, hg13⟩; have hq13 := hq12.grown hg13 (by simp; omega); have hp13 := hp12.grown hg13 (by simp; omega); have cq13 : w13.cell? ⟨cb, 0, none⟩ = some (.pointer (some ⟨pb, 6, none⟩)) := hq13.cell 0; have hg13' := only_then hg12' hg13 hr2; have f8 := hp13.frozen 8; have f9 := hp13.frozen 9; have f10 := hp13.frozen 10; have f12 := hp13.frozen 12; have c8 : w13.cell? ⟨pb, 8, none⟩ = some (.int .i64 h8.p.lv) := hp13.cell 8; have c9 : w13.cell? ⟨pb, 9, none⟩ = some (.int .i64 h8.p.cbw) := hp13.cell 9; have c10 : w13.cell? ⟨pb, 10, none⟩ = some (.int .i64 h8.p.cbh) := hp13.cell 10; have c12 : w13.cell? ⟨pb, 12, none⟩ = some (.int .i64 h8.p.style) := hp13.cell 12) | (go_at_call 45; (with_reducible refine (get_one rb2 d.cbh ?_ (T8 d) _ ?_ ?_).mono ?_); omega; exact hR11; exact T8_len d e7; rintro e w12 ⟨rfl, hR12, hg12⟩; have hq12 := hq11.grown hg12 (by simp; omega); have hp12 := hp11.grown hg12 (by simp; omega); have cq12 : w12.cell? ⟨cb, 0, none⟩ = some (.pointer (some ⟨pb, 6, none⟩)) := hq12.cell 0; have hg12' := only_then hg11' hg12 hr2) | (go_at_call 45; (with_reducible refine (get_one rb2 d.cbw ?_ (T7 d) _ ?_ ?_).mono ?_); omega; exact hR10; exact T7_len d e7; rintro e w11 ⟨rfl, hR11, hg11⟩; have hq11 := hq10.grown hg11 (by simp; omega); have hp11 := hp10.grown hg11 (by simp; omega); have cq11 : w11.cell? ⟨cb, 0, none⟩ = some (.pointer (some ⟨pb, 6, none⟩)) := hq11.cell 0; have hg11' := only_then hg10' hg11 hr2) | (go_at_call 45; (with_reducible refine (get_one rb2 d.lv ?_ (T6 d) _ ?_ ?_).mono ?_); omega; exact HR8d.out; exact T6_len d e7; rintro e w10 ⟨rfl, hR10, hg10⟩; have hq10 := hq8d.grown hg10 (by simp; omega); have hp10 := hp8d.grown hg10 (by simp; omega); have cq10 : w10.cell? ⟨cb, 0, none⟩ = some (.pointer (some ⟨pb, 6, none⟩)) := hq10.cell 0; have hg10' := only_then hg8d hg10 hr2))
  have hp14 : Blk ((((w13.setCell ⟨pb, 8, none⟩ (.int .i64 d.lv)).setCell ⟨pb, 9, none⟩ (.int .i64 ((d.cbw : Int) + 2))).setCell ⟨pb, 10, none⟩ (.int .i64 ((d.cbh : Int) + 2))).setCell ⟨pb, 12, none⟩ (.int .i64 d.style)) pb 66 (prsA rb mb { h8 with p := { h8.p with lv := d.lv, cbw := (d.cbw : Int) + 2, cbh := (d.cbh : Int) + 2, style := d.style } } cv mv) := (((hp13.set_ 8 (.int .i64 d.lv)).set_ 9 (.int .i64 ((d.cbw : Int) + 2))).set_ 10 (.int .i64 ((d.cbh : Int) + 2))).set_ 12 (.int .i64 d.style)
  have hq14 := (((hq13.far (p := ⟨pb, 8, none⟩) (by simp; omega) (.int .i64 d.lv)).far (p := ⟨pb, 9, none⟩) (by simp; omega) (.int .i64 ((d.cbw : Int) + 2))).far (p := ⟨pb, 10, none⟩) (by simp; omega) (.int .i64 ((d.cbh : Int) + 2))).far (p := ⟨pb, 12, none⟩) (by simp; omega) (.int .i64 d.style)
  have hR14 := (((hR13.stored (.int .i64 d.lv) (by omega) c8 (by simp)).stored (g := pb) (k := 9) (u0 := .int .i64 h8.p.cbw) (.int .i64 ((d.cbw : Int) + 2)) (by omega) ((hp13.set_ 8 (.int .i64 d.lv)).cell 9) (by simp)).stored (g := pb) (k := 10) (u0 := .int .i64 h8.p.cbh) (.int .i64 ((d.cbh : Int) + 2)) (by omega) (((hp13.set_ 8 (.int .i64 d.lv)).set_ 9 (.int .i64 ((d.cbw : Int) + 2))).cell 10) (by simp)).stored (g := pb) (k := 12) (u0 := .int .i64 h8.p.style) (.int .i64 d.style) (by omega) ((((hp13.set_ 8 (.int .i64 d.lv)).set_ 9 (.int .i64 ((d.cbw : Int) + 2))).set_ 10 (.int .i64 ((d.cbh : Int) + 2))).cell 12) (by simp)
  have hg14 := only_setCell (only_setCell (only_setCell (only_setCell hg13' (p := ⟨pb, 8, none⟩) (.inl rfl) (.int .i64 d.lv)) (p := ⟨pb, 9, none⟩) (.inl rfl) (.int .i64 ((d.cbw : Int) + 2))) (p := ⟨pb, 10, none⟩) (.inl rfl) (.int .i64 ((d.cbh : Int) + 2))) (p := ⟨pb, 12, none⟩) (.inl rfl) (.int .i64 d.style)
  have wb : IntKind.i64.wrap ((d.cbw : Int) + 2) = (d.cbw : Int) + 2 := IntWalk.i64_in _ (by omega)
  have wh : IntKind.i64.wrap ((d.cbh : Int) + 2) = (d.cbh : Int) + 2 := IntWalk.i64_in _ (by omega)
  rw [wb, wh]
  clear wb wh
  generalize ((((w13.setCell ⟨pb, 8, none⟩ (.int .i64 d.lv)).setCell ⟨pb, 9, none⟩ (.int .i64 ((d.cbw : Int) + 2))).setCell ⟨pb, 10, none⟩ (.int .i64 ((d.cbh : Int) + 2))).setCell ⟨pb, 12, none⟩ (.int .i64 d.style)) = w14 at *
  clear c8 c9 c10 c12 f8 f9 f10 f12 hp13 hq13 hR13 hg13 hg13' hp12 hq12 hR12 hg12 hg12' hp11 hq11 hR11 hg11 hg11' hp10 hq10 hR10 hg10 hg10' hp8 hq8 hR8 hg8 HR8d hq8d hp8d hg8d cq8d cq8 cq10 cq11 cq12 cq13
  generalize hh14 : ({ h8 with p := { h8.p with lv := (d.lv : Int), cbw := (d.cbw : Int) + 2, cbh := (d.cbh : Int) + 2, style := (d.style : Int) } } : HeadM) = h14 at *
  have HH14 := Lib.hid hh14
  clear hh14
  have cq14 : w14.cell? ⟨cb, 0, none⟩ = some (.pointer (some ⟨pb, 6, none⟩)) := hq14.cell 0
  go_wp2_with fail
  refine (get_one rb2 1 (by decide) (cS d) _ hR14 (cS_len d e7)).mono ?_
  rintro e w15 ⟨rfl, hR15, hg15⟩
  have hq15 := hq14.grown hg15 (by simp; omega)
  have hp15 := hp14.grown hg15 (by simp; omega)
  have hg15' := only_then hg14 hg15 hr2
  go_wp2_with fail
  refine (left_any rb2 (cS d) 0 _ hR15).mono ?_
  rintro e w' ⟨rfl, rfl⟩
  rw [leftI_ok]
  go_wp2_with fail
  refine (take_ok rb2 (cS d) (cS d).length _ hR15 (by have := cS_len d e7; omega) (Nat.le_refl _)).mono ?_
  rintro e w16 ⟨v16, rfl, ho16, hR16, hg16⟩
  rw [List.take_length] at ho16
  have hb16 : BV w16 v16 (cS d) := BV.of_owns ho16
  have HOB := Lib.hid (OB.of ho16)
  have hq16 := hq15.grown hg16 (by simp; omega)
  have hp16 := hp15.grown hg16 (by simp; omega)
  have hg16' := only_then hg15' hg16 hr2
  have HB16 := Lib.hid hb16
  obtain ⟨A16, c16, rfl, k1, k2, k3⟩ := hb16
  obtain ⟨a16, rfl, -, s0⟩ := k3.cell (show (cS d)[0]? = some (UInt8.ofNat (17 * d.prec)) by simp [cS])
  clear hR16 hR15 hg16 hg15 hg15' hq15 hp15 hq14 hp14 hR14 hg14 cq14 k3 ho16
  have e11 := HE.out.2.2.2.2.2.2.2.1
  have e12 := HE.out.2.2.2.2.2.2.2.2
  have e1 := HE.out.1
  have e2 := HE.out.2.1
  have e4 := HE.out.2.2.1
  have hn17 : (UInt8.ofNat (17 * d.prec)).toNat = 17 * d.prec := by simp; omega
  rw [hn17] at s0
  clear hn17
  have ha0 : a16.add 0 = a16 := by simp [Addr.add]
  rw [ha0] at s0
  clear ha0
  replace s0 : w16.cell? a16 = some (.int .u8 (17 * (d.prec : Int))) := by
    rw [s0, Int.natCast_mul]
    rfl
  have hcl : (cS d).length = d.lv + 1 := by simp [cS]
  generalize hnc : (cS d).length = nc at *
  subst hcl
  have HNC := Lib.hid hnc
  clear hnc
  have cq16 : w16.cell? ⟨cb, 0, none⟩ = some (.pointer (some ⟨pb, 6, none⟩)) := hq16.cell 0
  have l8 : h14.p.lv = (d.lv : Int) := by rw [← HH14.out]
  have l12 : h14.p.style = (d.style : Int) := by rw [← HH14.out]
  have l14 : h14.p.layers = (d.layers : Int) := by rw [← HH14.out, ← HH8.out, ← HH6.out]
  have c8 : w16.cell? ⟨pb, 8, none⟩ = some (.int .i64 h14.p.lv) := hp16.cell 8
  have c12 : w16.cell? ⟨pb, 12, none⟩ = some (.int .i64 h14.p.style) := hp16.cell 12
  have c14 : w16.cell? ⟨pb, 14, none⟩ = some (.int .i64 h14.p.layers) := hp16.cell 14
  have c11 : w16.cell? ⟨pb, 11, none⟩ = some (.int .i64 h14.p.prec) := hp16.cell 11
  have f11 := hp16.frozen 11
  rw [l8] at c8
  rw [l12] at c12
  rw [l14] at c14
  clear l8 l12 l14
  obtain ⟨y1, hy1, ht1⟩ := and_small d.mks 1 (by omega) (by omega)
  replace hy1 : bits .and .i64 (d.mks : Int) 1 = y1 := hy1
  have ht1' : (y1 == 0) = false := by rw [ht1]; simp; omega
  clear ht1
  have d7 : decide ((7 : Int) < d.mks) = false := by simp; omega
  have dt : decide ((1 : Int) < d.turn) = false := by simp; omega
  have dl1 : decide ((d.layers : Int) < 1) = false := by simp; omega
  have dl8 : decide ((8 : Int) < d.layers) = false := by simp; omega
  have ds : decide ((63 : Int) < d.style) = false := by simp; omega
  have dn : (((11 + d.lv : Nat) : Int) != 11 + (d.lv : Int)) = false := by simp
  go_wp2_with fail
  clear ht1' d7 dt dl1 dl8 ds dn c8 c12 c14 hy1
  go_region
  have hp17 : Blk (w16.setCell ⟨pb, 11, none⟩ (.int .i64 d.prec)).drew pb 66 (prsA rb mb { h14 with p := { h14.p with prec := (d.prec : Int) } } cv mv) := hp16.set_ 11 (.int .i64 d.prec)
  have hq17 := (hq16.far (p := ⟨pb, 11, none⟩) (by simp; omega) (.int .i64 d.prec)).drew
  have hg17 := only_drew (only_setCell hg16' (p := ⟨pb, 11, none⟩) (.inl rfl) (.int .i64 d.prec))
  have hb17 : BV (w16.setCell ⟨pb, 11, none⟩ (.int .i64 d.prec)).drew (.slice (some a16) (d.lv + 1) c16) (cS d) := by
    have hgg : w16.grownBy (w16.setCell ⟨pb, 11, none⟩ (.int .i64 d.prec)).drew (some pb) := only_drew (only_setCell (World.grownBy.refl w16 (some pb)) (p := ⟨pb, 11, none⟩) (.inl rfl) (.int .i64 d.prec))
    exact (HOB.out.grown hgg (by intro g hg; cases hg; exact hp16.noB (by decide))).bv
  have cq17 : (w16.setCell ⟨pb, 11, none⟩ (.int .i64 d.prec)).drew.cell? ⟨cb, 0, none⟩ = some (.pointer (some ⟨pb, 6, none⟩)) := hq17.cell 0
  have c11' : (w16.setCell ⟨pb, 11, none⟩ (.int .i64 d.prec)).drew.cell? ⟨pb, 11, none⟩ = some (.int .i64 d.prec) := hp17.cell 11
  generalize (w16.setCell ⟨pb, 11, none⟩ (.int .i64 d.prec)).drew = w17 at *
  clear c11 f11 hp16 hq16 hg16' s0 cq16
  have d15 : decide ((15 : Int) < d.prec) = false := by simp; omega
  have d1' : decide ((d.prec : Int) < 1) = false := by simp; omega
  have HA : (cS d).any (offB d.prec) = false := by
    rw [List.any_eq_false]
    intro x hx
    rw [List.eq_of_mem_replicate hx]
    unfold offB
    simp
    omega
  go_wp2_with fail
  refine (contains_any _ (cS d) d.prec cb pb _ hb17 (cS_len d e7) cq17 c11' (by omega) (by omega)).mono ?_
  rintro e w' ⟨rfl, rfl⟩
  rw [HA]
  go_wp2_with fail
  go_ret
  refine ⟨rfl, ?_, hg17⟩
  obtain ⟨t2, t4, u2, u4⟩ := HT.out
  obtain ⟨x2, hx2, hz2⟩ := and_small d.mks 2 (by omega) (by omega)
  obtain ⟨x4, hx4, hz4⟩ := and_small d.mks 4 (by omega) (by omega)
  have q2 : b2 = decide (d.mks / 2 % 2 = 1) := by
    rw [← t2, ← u2]
    refine Eq.trans (b := (x2 != 0)) ?_ (by unfold bne; rw [hz2]; simp)
    exact congrArg (· != (0 : Int)) hx2
  have q4 : b4 = decide (d.mks / 4 % 2 = 1) := by
    rw [← t4, ← u4]
    refine Eq.trans (b := (x4 != 0)) ?_ (by unfold bne; rw [hz4]; simp)
    exact congrArg (· != (0 : Int)) hx4
  have qt : ((d.turn : Int) == 1) = decide (d.turn = 1) := by
    have := HE.out.2.2.2.1
    obtain h | h : d.turn = 0 ∨ d.turn = 1 := by omega
    · rw [h]; rfl
    · rw [h]; rfl
  rw [← HH14.out, ← HH8.out, ← HH6.out, ← HH3.out, q2, q4, qt] at hp17
  exact hp17
end Go.Proofs.Ytlhlhlabnjfhcaa
