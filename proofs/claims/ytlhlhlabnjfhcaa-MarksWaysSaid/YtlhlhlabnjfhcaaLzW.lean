/- MarksWays: the law's walk. -/
import Derived.Test.YtlhlhlabnjfhcaaLwA
import Derived.Test.YtlhlhlabnjfhcaaHdC
import Derived.OwnWalk
import Derived.Deep.AppendLies
namespace Go.Proofs.Ytlhlhlabnjfhcaa
open Go.RowKit Go.Maps

theorem u8_turn : ∀ t : Fin 31, IntKind.u8.wrap (96 + IntKind.u8.wrap (1 + ((t : Nat) : Int))) = ((UInt8.ofNat (97 + (t : Nat))).toNat : Int) := by decide +kernel
theorem BV.of_owns' {w : World} {base : Nat} {v : Value} {n : Nat} {l : List UInt8} (h : w.ownsRow base 5 1 v n (cellsB l)) (hl : l.length = n) : BV w v l := by
  subst hl
  exact BV.of_owns h

set_option maxRecDepth 100000 in
set_option maxHeartbeats 4000000 in
theorem ways_law (f : FormD) (ns : Value) (nl : List Int) (q : Int) (both : Bool) (w : World) (hn : RdI w ns nl) :
    Calls Try.prog 8 #[.agg (formA f ns), .int .i64 q, .bool both] w fun e w' => e = .returned (.bool true) ∧ Below w.heap.size w w' := by
  have HN := Lib.hid hn
  obtain ⟨na, nc, rfl, -⟩ := hn
  have KN := Lib.hid known_any
  have WI := Lib.hid fun W => lwithin q 31 W (by decide) (by decide)
  obtain ⟨t, ht⟩ := Int.eq_ofNat_of_zero_le (Int.emod_nonneg q (show (31 : Int) ≠ 0 by decide))
  have ht2 := Int.emod_lt_of_pos q (show (0 : Int) < 31 by decide)
  rw [ht] at WI ht2
  have ht3 : t < 31 := by omega
  clear ht ht2
  unfold formA
  go_enter Try.func8, Try.ntmps8
  go_upto_region 1 with fail
  obtain ⟨wA, hwA⟩ : ∃ wA, wA = w.alloc (.cells (formA f (.slice na nl.length nc)) 24) := ⟨_, rfl⟩
  have hh : Blk wA w.heap.size 24 (formA f (.slice na nl.length nc)) := by rw [hwA]; exact Blk.new _ _ _
  have hBA : Below w.heap.size w wA := by rw [hwA]; exact (Below.refl _ _).alloc (Nat.le_refl _) _
  have hsA : w.heap.size < wA.heap.size := by rw [hwA]; simp
  unfold formA at hwA
  simp only [← hwA]
  clear hwA
  have HH := Lib.hid (And.intro hh hBA)
  clear hh hBA
  go_upto_region 3 with (go_at_call 11; refine (KN.out _).mono ?_; rintro e w1 ⟨rfl, hB1⟩)
  have hh1 := HH.out.1.below hB1 hsA
  have hw1 := HH.out.2.trans (hB1.mono HH.out.2.size)
  have HG : Hid (w1.heap[w.heap.size]? = some (.cells (formA f (.slice na nl.length nc)) 24 (0, 0))) := hh1
  have HD := Lib.hid (head_any1 f (.slice na nl.length nc) nl (.slice none 0 0) w1 (HN.out.keep hw1) ⟨_, _, _, rfl⟩)
  have HW1 := Lib.hid hw1
  clear hh1 hw1 hB1 HH hsA KN HN
  go_step
  refine wpList_load_row rfl 24 (.tmp 3) rfl w.heap.size rfl 24 (formA f (.slice na nl.length nc)) (0, 0) _ HG.out Try.underlying24 rfl (by kernel_rfl) ?_
  go_upto_region 4 with (go_at_call 12; refine HD.out.mono ?_; rintro e w2 ⟨m, p, va, vc, A, hA, hE, rfl, hco, hok, hb2⟩; have hA1 := hA.1; have hst := store_head hA; have HHD := Lib.hid (And.intro hA (And.intro hE (And.intro hco (And.intro hok hb2)))); clear hA hE hco hok hb2)
  obtain ⟨hA, hE, hco, hok, hb2⟩ := HHD.out
  obtain ⟨w3, hw3⟩ : ∃ w3, w3 = newHead w2 A := ⟨_, rfl⟩
  have hb3 : Blk w3 w2.heap.size 33 A := by rw [hw3]; exact newHead_blk w2 hA
  have hb23 : Below w2.heap.size w2 w3 := by rw [hw3]; exact newHead_below w2 A
  have hco3 := hco.keep hb23
  have hW3 := HW1.out.trans ((hb2.trans (hb23.mono hb2.size)).mono HW1.out.size)
  simp only [← hw3]
  clear hw3
  have HG3 : Hid (w3.heap[w2.heap.size]? = some (.cells A 33 (0, 0))) := hb3
  have MA := main_any m (.slice va m.cs.length vc) p (.slice none 0 0) [] w3 (CompsRd.of_owns hco3) (BV.nil _) (by decide) (frame_ok hok) hok.n4 (depth_ok hok) hok.par
  rw [hE] at MA
  have HM := Lib.hid MA
  have HB3 := Lib.hid hb3
  have HW3 := Lib.hid hW3
  have HML := Lib.hid (main_small hok [] (by decide))
  have sg := hb3.lt
  clear hA hco hb2 hb3 hb23 hco3 hW3 MA HHD hst HW1 HG HD
  go_step
  refine wpList_load_row rfl 33 (.tmp 7) rfl w2.heap.size rfl 33 A (0, 0) _ HG3.out Try.underlying33 rfl (by rw [hA1]; kernel_rfl) ?_
  go_upto_region 5 with (first | (go_at_call 18; refine HM.out.mono ?_; rintro e w4 ⟨v4, rfl, ho4, hb4⟩; obtain ⟨a4, c4, rfl⟩ := owns_slice ho4; have HO4 := Lib.hid (And.intro ho4 hb4); clear ho4 hb4) | (at_builtin; go_must (refine wpList_app rfl (.tmp 24) (.tmp 25) rfl w3.heap.size _ (mainM m p []) [255, 144] rfl (World.ownsRow.alloc HO4.out.1 _) _ rfl (BV.two w4 255 144 _ rfl) HML.out (by have := HO4.out.2.size; simp; omega) ?_; intro v5 w5 ho5 hb5 hg5; obtain ⟨M, hM⟩ : ∃ M, mainM m p [] ++ [255, 144] = M := ⟨_, rfl⟩; rw [hM] at ho5; have HMM := Lib.hid hM; clear hM; obtain ⟨N, hN⟩ : ∃ N, M.length = N := ⟨_, rfl⟩; rw [hN] at ho5; have HN := Lib.hid hN; clear hN; obtain ⟨a5, c5, rfl⟩ := owns_slice ho5)))
  have hb35 : Below w3.heap.size w3 w5 := (HO4.out.2.alloc HO4.out.2.size _).trans hb5
  have hb5' := HB3.out.below hb35 sg
  have hW5 := HW3.out.trans (hb35.mono HW3.out.size)
  rw [← hE] at hb5'
  have c4' : w5.cell? ⟨w2.heap.size, 4, none⟩ = some (.slice va m.cs.length vc) := hb5'.cell 4
  have c7 : w5.cell? ⟨w2.heap.size, 7, none⟩ = some (.int .i64 p.lv) := hb5'.cell 7
  rw [← HN.out] at ho5
  have HBV := Lib.hid (BV.of_owns ho5)
  have hMl : (mainM m p [] ++ [255, 144]).length ≤ 1000000 := by rw [List.length_append]; exact HML.out
  have hcf := hok.par.fit
  have hlw := len_ways (m := m) hcf
  have hgq := get_q (m := m) hcf [255, 144]
  have htx := turn_x (m := m) hcf [255, 144]
  have hty := turn_y (m := m) hcf (UInt8.ofNat (97 + t)) [255, 144]
  rw [HMM.out] at hMl hlw hgq htx hty
  rw [HN.out] at hMl hlw
  have hs := sizOk_of hok
  have WX := ways_x (m := m) (p := p) hs (by have := hok.n4; omega) hcf (qcdM m p) [255, 144]
  have WY := ways_y (m := m) (p := p) hs (by have := hok.n4; omega) hcf t ht3 [255, 144]
  have WXY := ways_x (m := m) (p := p) hs (by have := hok.n4; omega) hcf ((qcdM m p).set 0 (UInt8.ofNat (97 + t))) [255, 144]
  have htxy := turn_xy (m := m) (p := p) hcf ((qcdM m p).set 0 (UInt8.ofNat (97 + t))) [255, 144]
  rw [← hty] at WY htxy
  rw [← htx] at WX
  rw [← htxy] at WXY
  obtain ⟨lv, hlv⟩ : ∃ lv : Nat, p.lv = lv := Int.eq_ofNat_of_zero_le hcf.1.1
  have hlv2 := hcf.1.2
  have hlv3 : p.lv.toNat = lv := by omega
  rw [hlv3] at hlw hgq WY WXY
  rw [hlv] at c7 hlv2
  have hn4 := hok.n4
  generalize m.cs.length = n at *
  have HW := Lib.hid (And.intro WX (And.intro WY WXY))
  have HQ := Lib.hid hgq
  have HW5 := Lib.hid hW5
  clear hb35 hb5' hW5 ho5 hb5 hg5 HML HO4 HM HB3 HW3 HMM hcf htx hty htxy WX WY WXY hs hlv hlv3 hgq hok HG3 sg hE hA1
  go_upto_region 7 with fail
  have e9 : 42 + 3 * (n : Int) = ((42 + 3 * n : Nat) : Int) := by simp
  simp only [e9]
  obtain ⟨cod, hcod⟩ : ∃ cod : Nat, 42 + 3 * n = cod := ⟨_, rfl⟩
  rw [hcod] at HW HQ hlw
  simp only [hcod]
  have e10 : (cod : Int) + 15 + (lv : Int) = ((cod + 15 + lv : Nat) : Int) := by simp
  simp only [e10]
  obtain ⟨qcd, hqcd⟩ : ∃ qcd : Nat, cod + 15 + lv = qcd := ⟨_, rfl⟩
  rw [hqcd] at HW HQ hlw
  simp only [hqcd]
  have hq1 : cod + 15 ≤ qcd := by omega
  have hc5 : (42 : Nat) ≤ cod := by omega
  clear e9 e10 hcod hqcd c4' c7 hlv2
  have hnp : 0 < N := by omega
  go_upto_region 8 with (at_builtin; go_must (refine wpList_app rfl (.tmp 39) (.tmp 40) rfl w5.heap.size _ [] M rfl (own_lit w5 #[] 5 0 _ rfl rfl (Nat.le_refl _) (by decide)) _ rfl (by have := HBV.out.keep ((Below.refl _ _).alloc (Nat.le_refl _) (.cells #[] 5)); rw [HN.out] at this; exact this) (by rw [HN.out]; simp; omega) (by simp) ?_; intro v6 w6 ho6 hb6 hg6; rw [List.nil_append, HN.out] at ho6; obtain ⟨gx, cx, rfl, hgx, -⟩ := ho6.form hnp))
  have hb56 : Below w5.heap.size w5 w6 := ((Below.refl _ _).alloc (Nat.le_refl _) _).trans hb6
  clear hb6 hg6
  obtain ⟨cx9, hcx9⟩ : ∃ c9, M[cod + 13]? = some c9 := ⟨_, List.getElem?_eq_getElem (by rw [HN.out]; omega)⟩
  obtain ⟨k1, k2⟩ := owns_byte_at ho6 hcx9
  have HO6 := Lib.hid ho6
  have HB56 := Lib.hid hb56
  have z1 : (cod : Int) + 4 + 9 < (N : Int) := by omega
  have z2 : (cod : Int) + 13 < (N : Int) := by omega
  clear ho6 hcx9 hb56
  go_upto_region 9 with fail
  obtain ⟨w7, hw7⟩ : ∃ w7, w7 = w6.setCell ⟨gx, cod + 4 + 9, none⟩ (.int .u8 0) := ⟨_, rfl⟩
  have hx7 : w7.ownsRow w5.heap.size 5 1 (.slice (some ⟨gx, 0, none⟩) N cx) N (cellsB (M.set (cod + 13) 0)) := by rw [hw7]; exact owns_byte HO6.out (cod + 13) 0
  have hb57 : Below w5.heap.size w5 w7 := by rw [hw7]; exact HB56.out.setCell hgx _
  simp only [← hw7]
  have HX7 := Lib.hid hx7
  have HB57 := Lib.hid hb57
  clear k1 k2 HO6 HB56 hw7 hx7 hb57
  go_upto_region 10 with (at_builtin; go_must (refine wpList_app rfl (.tmp 47) (.tmp 48) rfl w7.heap.size _ [] M rfl (own_lit w7 #[] 5 0 _ rfl rfl (Nat.le_refl _) (by decide)) _ rfl (by have := (HBV.out.keep HB57.out).keep ((Below.refl _ _).alloc (Nat.le_refl _) (.cells #[] 5)); rw [HN.out] at this; exact this) (by rw [HN.out]; simp; omega) (by simp) ?_; intro v8 w8 ho8 hb8 hg8; rw [List.nil_append, HN.out] at ho8; obtain ⟨gy, cy, rfl, hgy, -⟩ := ho8.form hnp))
  have hb78 : Below w7.heap.size w7 w8 := ((Below.refl _ _).alloc (Nat.le_refl _) _).trans hb8
  obtain ⟨k1, k2⟩ := owns_byte_at ho8 HQ.out
  have k1' : w8.cell? ⟨gy, qcd + 4, none⟩ = some (.int .u8 96) := k1
  have HX8 := Lib.hid (owns_keepAll HX7.out hb78)
  have HY8 := Lib.hid ho8
  have hb58 : Below w5.heap.size w5 w8 := HB57.out.trans (hb78.mono HB57.out.size)
  have HB58 := Lib.hid hb58
  have sgx : gx < w7.heap.size := (HX7.out.lt gx rfl).2
  have hs8 : w5.heap.size ≤ gy := Nat.le_trans HB57.out.size hgy
  clear hb8 hg8 hb78 ho8 hb58 HX7 HB57 HBV k1
  have z3 : (qcd : Int) + 4 < (N : Int) := by omega
  have z4 : (0 : Int) ≤ (qcd : Int) + 4 := by omega
  have z5 : ((qcd : Int) + 4).toNat = qcd + 4 := by omega
  have z6 : ((qcd : Int) + 4 < 0) = False := by simp; omega
  have y1 : IntKind.i64.wrap ((qcd : Int) + 4) = (qcd : Int) + 4 := IntWalk.i64_in _ (by omega)
  have y2 : IntKind.i64.wrap (1 + (t : Int)) = 1 + (t : Int) := IntWalk.i64_in _ (by omega)
  have sgy : gy < w8.heap.size := by have := (HY8.out.lt gy rfl).2; exact this
  go_region_law (go_simp; go_at_call 15; refine (WI.out _).mono ?_; rintro e w' ⟨rfl, rfl⟩)
  all_goals
    obtain ⟨w9, hw9⟩ : ∃ w9, w9 = (w8.setCell ⟨gy, qcd + 4, none⟩ (.int .u8 (IntKind.u8.wrap (96 + IntKind.u8.wrap (1 + (t : Int)))))).drew := ⟨_, rfl⟩
    have hy9 : w9.ownsRow w7.heap.size 5 1 (.slice (some ⟨gy, 0, none⟩) N cy) N (cellsB (M.set (qcd + 4) (UInt8.ofNat (97 + t)))) := by
      rw [hw9, u8_turn ⟨t, ht3⟩]
      exact owns_byte HY8.out (qcd + 4) _
    have hx9 : w9.ownsRow w5.heap.size 5 1 (.slice (some ⟨gx, 0, none⟩) N cx) N (cellsB (M.set (cod + 13) 0)) := by
      rw [hw9]
      exact World.ownsRow.drew (ownsRow_setCell_other HX8.out (by simp [Value.ownBlock]; omega) _)
    have hb59 : Below w5.heap.size w5 w9 := by rw [hw9]; exact (HB58.out.setCell hs8 _).drew
    simp only [← hw9]
    clear hw9 HX8 HY8 HB58 k1' k2 z3 z4 z5 z6 y1 y2 WI
    have HX9 := Lib.hid hx9
    have HY9 := Lib.hid hy9
    have HB59 := Lib.hid hb59
    clear hx9 hy9 hb59
    cases both
    · have hbx : BV w9 (.slice (some ⟨gx, 0, none⟩) N cx) (M.set (cod + 13) 0) := BV.of_owns' HX9.out (by rw [List.length_set]; exact HN.out)
      have hby : BV w9 (.slice (some ⟨gy, 0, none⟩) N cy) (M.set (qcd + 4) (UInt8.ofNat (97 + t))) := BV.of_owns' HY9.out (by rw [List.length_set]; exact HN.out)
      obtain ⟨hx2, lx2, hax⟩ := HW.out.1
      obtain ⟨hy2, ly2, hay⟩ := HW.out.2.1
      have PX := Lib.hid (parse_err1 _ _ lx2 13 hx2 w9 hbx (by rw [List.length_set, HN.out]; omega) hax (by decide))
      have PY := Lib.hid (fun W hb => parse_err1 _ _ ly2 13 hy2 W (hby.keep hb) (by rw [List.length_set, HN.out]; omega) hay (by decide))
      clear hbx hby hax hay HX9 HY9 HW HQ
      go_wp2_with (first | (go_at_call 16; refine (PY.out _ HB10.out).mono ?_; rintro e wc ⟨A2, hA2, rfl, hB11⟩; have hA3 := hA2.1; have hst2 := store_head hA2; have HB11 := Lib.hid (hB11.trans ((newHead_below wc A2).mono hB11.size)); clear hB11) | (go_at_call 16; refine PX.out.mono ?_; rintro e wb ⟨A1, hA1, rfl, hB10⟩; have hA1' := hA1.1; have hst1 := store_head hA1; have HB10 := Lib.hid (hB10.trans ((newHead_below wb A1).mono hB10.size)); clear hB10))
      go_ret
      have h59 := HW5.out.trans (HB59.out.mono HW5.out.size)
      have h9 := h59.trans (HB10.out.mono h59.size)
      exact ⟨rfl, h9.trans (HB11.out.mono h9.size)⟩
    · obtain ⟨c10, hc10⟩ : ∃ c10, (M.set (qcd + 4) (UInt8.ofNat (97 + t)))[cod + 13]? = some c10 := ⟨_, List.getElem?_eq_getElem (by rw [List.length_set, HN.out]; omega)⟩
      obtain ⟨k3, k4⟩ := owns_byte_at HY9.out hc10
      clear hc10
      go_upto_region 13 with fail
      obtain ⟨w10, hw10⟩ : ∃ w10, w10 = w9.setCell ⟨gy, cod + 4 + 9, none⟩ (.int .u8 0) := ⟨_, rfl⟩
      have hy10 : w10.ownsRow w7.heap.size 5 1 (.slice (some ⟨gy, 0, none⟩) N cy) N (cellsB ((M.set (qcd + 4) (UInt8.ofNat (97 + t))).set (cod + 13) 0)) := by rw [hw10]; exact owns_byte HY9.out (cod + 13) 0
      have hx10 : w10.ownsRow w5.heap.size 5 1 (.slice (some ⟨gx, 0, none⟩) N cx) N (cellsB (M.set (cod + 13) 0)) := by
        rw [hw10]
        exact ownsRow_setCell_other HX9.out (by simp [Value.ownBlock]; omega) _
      have hb510 : Below w5.heap.size w5 w10 := by rw [hw10]; exact HB59.out.setCell hs8 _
      simp only [← hw10]
      clear hw10 k3 k4
      have hbx : BV w10 (.slice (some ⟨gx, 0, none⟩) N cx) (M.set (cod + 13) 0) := BV.of_owns' hx10 (by rw [List.length_set]; exact HN.out)
      have hby : BV w10 (.slice (some ⟨gy, 0, none⟩) N cy) ((M.set (qcd + 4) (UInt8.ofNat (97 + t))).set (cod + 13) 0) := BV.of_owns' hy10 (by rw [List.length_set, List.length_set]; exact HN.out)
      obtain ⟨hx2, lx2, hax⟩ := HW.out.1
      obtain ⟨hy2, ly2, hay⟩ := HW.out.2.2
      have PX := Lib.hid (parse_err1 _ _ lx2 13 hx2 w10 hbx (by rw [List.length_set, HN.out]; omega) hax (by decide))
      have PY := Lib.hid (fun W hb => parse_err1 _ _ ly2 13 hy2 W (hby.keep hb) (by rw [List.length_set, List.length_set, HN.out]; omega) hay (by decide))
      have HB510 := Lib.hid hb510
      clear hbx hby hax hay HX9 HY9 HW HQ hx10 hy10 hb510 HB59
      go_wp2_with (first | (go_at_call 16; refine (PY.out _ HB10.out).mono ?_; rintro e wc ⟨A2, hA2, rfl, hB11⟩; have hA3 := hA2.1; have hst2 := store_head hA2; have HB11 := Lib.hid (hB11.trans ((newHead_below wc A2).mono hB11.size)); clear hB11) | (go_at_call 16; refine PX.out.mono ?_; rintro e wb ⟨A1, hA1, rfl, hB10⟩; have hA1' := hA1.1; have hst1 := store_head hA1; have HB10 := Lib.hid (hB10.trans ((newHead_below wb A1).mono hB10.size)); clear hB10))
      go_ret
      have h59 := HW5.out.trans (HB510.out.mono HW5.out.size)
      have h9 := h59.trans (HB10.out.mono h59.size)
      exact ⟨rfl, h9.trans (HB11.out.mono h9.size)⟩
end Go.Proofs.Ytlhlhlabnjfhcaa
