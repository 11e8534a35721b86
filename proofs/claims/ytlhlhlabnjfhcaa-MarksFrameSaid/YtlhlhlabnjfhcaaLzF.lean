/- MarksFrame: the law's walk. -/
import Derived.Test.YtlhlhlabnjfhcaaCsD
import Derived.Deep.AppendLies
namespace Go.Proofs.Ytlhlhlabnjfhcaa
open Go.RowKit Go.Maps

def newHeadR (W : World) (A : Array Value) : World := (W.alloc (.cells (headA ⟨0, 0, 0, 0, []⟩ nilV zP nilV) 36)).setCells W.heap.size 0 A.toList
theorem newHeadR_blk (W : World) {A : Array Value} (h : Head1 A) : Blk (newHeadR W A) W.heap.size 36 A := by
  have hb := Blk.cells_ A.toList 0 (Blk.new W 36 (headA ⟨0, 0, 0, 0, []⟩ nilV zP nilV))
  rw [putAt_all _ _ (by rw [Array.length_toList, h.1]; rfl)] at hb
  exact hb
theorem newHeadR_below (W : World) (A : Array Value) : Below W.heap.size W (newHeadR W A) :=
  ((Below.refl _ _).alloc (Nat.le_refl _) _).trans (below_grown (only_cells A.toList 0 (World.grownBy.refl _ (some W.heap.size))) (by simp) (by rintro k ⟨⟩; exact Nat.le_refl _))
theorem store_headR {A : Array Value} (h : Head1 A) (W : World) :
    (storeCells ⟨W.heap.size, 0, none⟩ A.toList).run Try.prog (W.alloc (.cells #[.int .i64 0, .int .i64 0, .int .i64 0, .int .i64 0, .slice none 0 0, .int .i64 0, .int .i64 0, .int .i64 0, .int .i64 0, .int .i64 0, .int .i64 0, .int .i64 0, .int .i64 0, .int .i64 0, .bool false, .bool false, .bool false, .slice none 0 0] 36)) = .ok () (newHeadR W A) := by
  have hb := Blk.new W 36 (headA ⟨0, 0, 0, 0, []⟩ nilV zP nilV)
  refine run_storeCells_cells (P := Try.prog) W.heap.size 0 A.toList 0 _ (fun j hj => ?_) (fun j hj => hb.frozen _) h.2
  rw [Array.length_toList, h.1] at hj
  have hc := hb.cell (0 + 0 + j)
  rw [Array.getElem?_eq_getElem (by simp [headA]; omega)] at hc
  exact Option.isSome_iff_exists.2 ⟨_, hc⟩

set_option maxRecDepth 100000 in
set_option maxHeartbeats 4000000 in
theorem frame_law (f : FormD) (ns : Value) (nl : List Int) (q : Int) (w : World) (hn : RdI w ns nl) :
    Calls Try.prog 4 #[.agg (formA f ns), .int .i64 q] w fun e w' => e = .returned (.bool true) ∧ Below w.heap.size w w' := by
  have HN := Lib.hid hn
  obtain ⟨na, nc, rfl, -⟩ := hn
  have KN := Lib.hid known_any
  have WI := Lib.hid fun W => lwithin q 7 W (by decide) (by decide)
  obtain ⟨t, ht⟩ := Int.eq_ofNat_of_zero_le (Int.emod_nonneg q (show (7 : Int) ≠ 0 by decide))
  have ht2 := Int.emod_lt_of_pos q (show (0 : Int) < 7 by decide)
  rw [ht] at WI ht2
  have ht3 : t < 7 := by omega
  clear ht ht2
  unfold formA
  go_enter Try.func4, Try.ntmps4
  go_upto_region 1 with fail
  obtain ⟨wA, hwA⟩ : ∃ wA, wA = w.alloc (.cells (formA f (.slice na nl.length nc)) 24) := ⟨_, rfl⟩
  have hh : Blk wA w.heap.size 24 (formA f (.slice na nl.length nc)) := by rw [hwA]; exact Blk.new _ _ _
  have hBA : Below w.heap.size w wA := by rw [hwA]; exact (Below.refl _ _).alloc (Nat.le_refl _) _
  have hsA : w.heap.size < wA.heap.size := by rw [hwA]; simp
  unfold formA at hwA
  simp only [← hwA]
  clear hwA
  have HH := Lib.hid (And.intro hh hBA)
  clear hh hBA
  go_upto_region 3 with (go_at_call 11; refine (KN.out _).mono ?_; rintro e w1 ⟨rfl, hB1⟩)
  have hh1 := HH.out.1.below hB1 hsA
  have hw1 := HH.out.2.trans (hB1.mono HH.out.2.size)
  have HG : Hid (w1.heap[w.heap.size]? = some (.cells (formA f (.slice na nl.length nc)) 24 (0, 0))) := hh1
  have HD := Lib.hid (head_any1 f (.slice na nl.length nc) nl (.slice none 0 0) w1 (HN.out.keep hw1) ⟨_, _, _, rfl⟩)
  have HW1 := Lib.hid hw1
  clear hh1 hw1 hB1 HH hsA KN HN
  go_step
  refine wpList_load_row rfl 24 (.tmp 2) rfl w.heap.size rfl 24 (formA f (.slice na nl.length nc)) (0, 0) _ HG.out Try.underlying24 rfl (by kernel_rfl) ?_
  go_upto_region 4 with (first | (go_at_call 14; refine (HTR.out).mono ?_; rintro e wt ⟨rfl, hbt⟩; have hst := store_headR HHD.out.1; have hA1 := HHD.out.1.1; have HBT := Lib.hid hbt; clear hbt) | (go_at_call 12; refine HD.out.mono ?_; rintro e w2 ⟨m, p, va, vc, A, hA, hE, rfl, hco, hok, hb2⟩; have HTR : Hid (Calls Try.prog 14 #[.agg A] w2 fun e w' => e = .returned (.agg A) ∧ Below w2.heap.size w2 w') := Lib.hid (by rw [← hE]; exact toref_any m _ p _ w2 ⟨_, _, _, rfl⟩ ⟨_, _, _, rfl⟩); have HHD := Lib.hid (And.intro hA (And.intro hE (And.intro hco (And.intro hok hb2)))); clear hA hE hco hok hb2))
  obtain ⟨hA, hE, hco, hok, hb2⟩ := HHD.out
  obtain ⟨w3, hw3⟩ : ∃ w3, w3 = newHeadR wt A := ⟨_, rfl⟩
  have hb3 : Blk w3 wt.heap.size 36 A := by rw [hw3]; exact newHeadR_blk wt hA
  have hbt3 : Below wt.heap.size wt w3 := by rw [hw3]; exact newHeadR_below wt A
  simp only [← hw3]
  clear hw3 hst
  have hb23 : Below w2.heap.size w2 w3 := HBT.out.trans (hbt3.mono HBT.out.size)
  have hco3 := hco.keep hb23
  have hW3 := HW1.out.trans ((hb2.trans (hb23.mono hb2.size)).mono HW1.out.size)
  obtain ⟨g, hg⟩ : ∃ g, wt.heap.size = g := ⟨_, rfl⟩
  rw [hg] at hb3
  simp only [hg]
  have hgB : w.heap.size ≤ g := by
    rw [← hg]
    exact Nat.le_trans HW1.out.size (Nat.le_trans hb2.size HBT.out.size)
  rw [← hE] at hb3
  have HC3 := Lib.hid hco3
  have HB3 := Lib.hid hb3
  have HW3 := Lib.hid hW3
  have HOK := Lib.hid hok
  have hw1B : w.heap.size ≤ w1.heap.size := HW1.out.size
  clear hg hA hE hco hok hb2 hb3 hbt3 hb23 hco3 hW3 HHD HBT HTR HW1 HD HG
  have c0 : w3.cell? ⟨g, 0, none⟩ = some (.int .i64 m.x) := HB3.out.cell 0
  have c2 : w3.cell? ⟨g, 2, none⟩ = some (.int .i64 m.ox) := HB3.out.cell 2
  have c4 : w3.cell? ⟨g, 4, none⟩ = some (.slice va m.cs.length vc) := HB3.out.cell 4
  have c5 : w3.cell? ⟨g, 5, none⟩ = some (.int .i64 p.tx) := HB3.out.cell 5
  have c8 : w3.cell? ⟨g, 8, none⟩ = some (.int .i64 p.cbw) := HB3.out.cell 8
  have c12 : w3.cell? ⟨g, 12, none⟩ = some (.int .i64 p.order) := HB3.out.cell 12
  have f0 := HB3.out.frozen 0
  have f2 := HB3.out.frozen 2
  have f4 := HB3.out.frozen 4
  have f5 := HB3.out.frozen 5
  have f8 := HB3.out.frozen 8
  have f12 := HB3.out.frozen 12
  have ht : t = 0 ∨ t = 1 ∨ t = 2 ∨ t = 3 ∨ t = 4 ∨ t = 5 ∨ t = 6 := by omega
  rcases ht with rfl | rfl | rfl | rfl | rfl | rfl | rfl
  · go_upto_region 22 with (go_at_call 15; refine (WI.out _).mono ?_; rintro e w' ⟨rfl, rfl⟩)
    obtain ⟨w4, hw4⟩ : ∃ w4, w4 = w3.setCell ⟨g, 0, none⟩ (.int .i64 65) := ⟨_, rfl⟩
    have hb4 : Blk w4 g 36 (headA (turnM 0 m) (.slice va (turnM 0 m).cs.length vc) (turnP 0 m p) (.slice none 0 0)) := by rw [hw4]; exact HB3.out.set_ 0 (.int .i64 65)
    have hc4 : CompsOwn w4 w1.heap.size (.slice va (turnM 0 m).cs.length vc) (turnM 0 m).cs := by rw [hw4]; exact HC3.out.off HB3.out (by decide) (by decide) (only_setCell (World.grownBy.refl _ _) (p := ⟨g, 0, none⟩) (.inl rfl) _)
    have hW4 : Below w.heap.size w w4 := by rw [hw4]; exact HW3.out.setCell hgB _
    simp only [← hw4]
    clear hw4
    have hn5 := turn_comps HOK.out 0
    have MA := rmain_any (turnM 0 m) (.slice va (turnM 0 m).cs.length vc) (turnP 0 m p) (.slice none 0 0) [] w4 (CompsRd.of_owns hc4) (BV.nil _) (by decide) hn5.1 hn5.2 (turn_fit HOK.out 0).1 (turn_fit HOK.out 0).2
    have AL : All (mainM (turnM 0 m) (turnP 0 m p) [] ++ [255, 144]) 14 (headOf (turnM 0 m) (turnP 0 m p) []) [] := turn_all HOK.out 0 (by decide)
    have hml := turn_len HOK.out 0
    obtain ⟨A4, hA4⟩ : ∃ A, headA (turnM 0 m) (.slice va (turnM 0 m).cs.length vc) (turnP 0 m p) (.slice none 0 0) = A := ⟨_, rfl⟩
    rw [hA4] at MA hb4
    have hsz : A4.size = 18 := by rw [← hA4]; rfl
    obtain ⟨M, hM⟩ : ∃ M, mainM (turnM 0 m) (turnP 0 m p) [] = M := ⟨_, rfl⟩
    rw [hM] at MA AL hml
    have PE := Lib.hid (fun W v hb => parse_err1 v (M ++ [255, 144]) [] 14 _ W hb (by rw [List.length_append]; simp; omega) AL (by decide))
    have HG4 : Hid (w4.heap[g]? = some (.cells A4 36 (0, 0))) := hb4
    have HM4 := Lib.hid MA
    have HW4 := Lib.hid hW4
    have HML := Lib.hid hml
    clear hn5 MA AL hml hA4 hM hb4 hc4 hW4
    go_step
    refine wpList_load_row rfl 36 (.tmp 5) rfl g rfl 36 A4 (0, 0) _ HG4.out Try.underlying36 rfl (by rw [hsz]; kernel_rfl) ?_
    go_wp2_with (first | (go_at_call 16; refine (PE.out _ _ HBV8.out).mono ?_; rintro r wb ⟨A1, hA1, rfl, hB10⟩; have hA1' := hA1.1; have hst1 := store_head hA1; have HB10 := Lib.hid (hB10.trans ((newHead_below wb A1).mono hB10.size)); clear hB10) | (go_at_call 13; refine HM4.out.mono ?_; rintro e w5 ⟨v5, rfl, ho5, hb5⟩; obtain ⟨a5, n5, q5, rfl⟩ := owns_isSlice ho5; have HO5 := Lib.hid (And.intro ho5 hb5); clear ho5 hb5) | (at_builtin; go_must (refine wpList_app rfl (.tmp 71) (.tmp 72) rfl w4.heap.size _ M [255, 144] rfl (World.ownsRow.alloc HO5.out.1 _) _ rfl (BV.two w5 255 144 _ rfl) (by have := HML.out; simp; omega) (by have := HO5.out.2.size; simp; omega) ?_; intro v8 w8 ho8 hb8 hg8; have HBV8 := Lib.hid (BV.of_owns ho8); obtain ⟨a8, n8, c8', rfl⟩ := owns_isSlice ho8; have HB8 := Lib.hid ((HO5.out.2.alloc HO5.out.2.size _).trans hb8); clear ho8 hb8 hg8)))
    go_ret
    have h48 := HW4.out.trans (HB8.out.mono HW4.out.size)
    exact ⟨rfl, h48.trans (HB10.out.mono h48.size)⟩
  · go_upto_region 22 with (go_at_call 15; refine (WI.out _).mono ?_; rintro e w' ⟨rfl, rfl⟩)
    obtain ⟨w4, hw4⟩ : ∃ w4, w4 = w3.setCell ⟨g, 2, none⟩ (.int .i64 m.x) := ⟨_, rfl⟩
    have hb4 : Blk w4 g 36 (headA (turnM 1 m) (.slice va (turnM 1 m).cs.length vc) (turnP 1 m p) (.slice none 0 0)) := by rw [hw4]; exact HB3.out.set_ 2 (.int .i64 m.x)
    have hc4 : CompsOwn w4 w1.heap.size (.slice va (turnM 1 m).cs.length vc) (turnM 1 m).cs := by rw [hw4]; exact HC3.out.off HB3.out (by decide) (by decide) (only_setCell (World.grownBy.refl _ _) (p := ⟨g, 2, none⟩) (.inl rfl) _)
    have hW4 : Below w.heap.size w w4 := by rw [hw4]; exact HW3.out.setCell hgB _
    simp only [← hw4]
    clear hw4
    have hn5 := turn_comps HOK.out 1
    have MA := rmain_any (turnM 1 m) (.slice va (turnM 1 m).cs.length vc) (turnP 1 m p) (.slice none 0 0) [] w4 (CompsRd.of_owns hc4) (BV.nil _) (by decide) hn5.1 hn5.2 (turn_fit HOK.out 1).1 (turn_fit HOK.out 1).2
    have AL : All (mainM (turnM 1 m) (turnP 1 m p) [] ++ [255, 144]) 1 (headOf (turnM 1 m) (turnP 1 m p) []) [] := turn_all HOK.out 1 (by decide)
    have hml := turn_len HOK.out 1
    obtain ⟨A4, hA4⟩ : ∃ A, headA (turnM 1 m) (.slice va (turnM 1 m).cs.length vc) (turnP 1 m p) (.slice none 0 0) = A := ⟨_, rfl⟩
    rw [hA4] at MA hb4
    have hsz : A4.size = 18 := by rw [← hA4]; rfl
    obtain ⟨M, hM⟩ : ∃ M, mainM (turnM 1 m) (turnP 1 m p) [] = M := ⟨_, rfl⟩
    rw [hM] at MA AL hml
    have PE := Lib.hid (fun W v hb => parse_err1 v (M ++ [255, 144]) [] 1 _ W hb (by rw [List.length_append]; simp; omega) AL (by decide))
    have HG4 : Hid (w4.heap[g]? = some (.cells A4 36 (0, 0))) := hb4
    have HM4 := Lib.hid MA
    have HW4 := Lib.hid hW4
    have HML := Lib.hid hml
    clear hn5 MA AL hml hA4 hM hb4 hc4 hW4
    go_step
    refine wpList_load_row rfl 36 (.tmp 5) rfl g rfl 36 A4 (0, 0) _ HG4.out Try.underlying36 rfl (by rw [hsz]; kernel_rfl) ?_
    go_wp2_with (first | (go_at_call 16; refine (PE.out _ _ HBV8.out).mono ?_; rintro r wb ⟨A1, hA1, rfl, hB10⟩; have hA1' := hA1.1; have hst1 := store_head hA1; have HB10 := Lib.hid (hB10.trans ((newHead_below wb A1).mono hB10.size)); clear hB10) | (go_at_call 13; refine HM4.out.mono ?_; rintro e w5 ⟨v5, rfl, ho5, hb5⟩; obtain ⟨a5, n5, q5, rfl⟩ := owns_isSlice ho5; have HO5 := Lib.hid (And.intro ho5 hb5); clear ho5 hb5) | (at_builtin; go_must (refine wpList_app rfl (.tmp 71) (.tmp 72) rfl w4.heap.size _ M [255, 144] rfl (World.ownsRow.alloc HO5.out.1 _) _ rfl (BV.two w5 255 144 _ rfl) (by have := HML.out; simp; omega) (by have := HO5.out.2.size; simp; omega) ?_; intro v8 w8 ho8 hb8 hg8; have HBV8 := Lib.hid (BV.of_owns ho8); obtain ⟨a8, n8, c8', rfl⟩ := owns_isSlice ho8; have HB8 := Lib.hid ((HO5.out.2.alloc HO5.out.2.size _).trans hb8); clear ho8 hb8 hg8)))
    go_ret
    have h48 := HW4.out.trans (HB8.out.mono HW4.out.size)
    exact ⟨rfl, h48.trans (HB10.out.mono h48.size)⟩
  · obtain ⟨c00, hc00⟩ : ∃ c00, m.cs[0]? = some c00 := ⟨_, List.getElem?_eq_getElem (by have := HOK.out.n1; omega)⟩
    obtain ⟨g2, d0, dvs, rfl, hgB2, hglt2, -, -, hO, -, -, -, -, e2, -, -⟩ := comps_open HC3.out hc00
    have hne : g ≠ g2 := fun e => own_blk_ne hO HB3.out (by decide) (by rw [e]; rfl)
    have n1 : 0 < m.cs.length := HOK.out.n1
    have fz : w3.frozen? ⟨g2, 2, none⟩ = false := by
      obtain ⟨-, h⟩ := hO
      rcases h with ⟨h, -⟩ | ⟨gg, cap', cur, hv, -, hgg, -⟩
      · cases h
      · simp only [Value.slice.injEq, Option.some.injEq, Addr.mk.injEq, and_true] at hv
        obtain ⟨rfl, -⟩ := hv
        exact frozen_of_row w3 _ 2 cur _ hgg
    clear hO
    go_upto_region 22 with (go_at_call 15; refine (WI.out _).mono ?_; rintro e w' ⟨rfl, rfl⟩)
    obtain ⟨w4, hw4⟩ : ∃ w4, w4 = w3.setCell ⟨g2, 2, none⟩ (.int .i64 5) := ⟨_, rfl⟩
    have hb4 : Blk w4 g 36 (headA (turnM 2 m) (.slice (some ⟨g2, 0, none⟩) (turnM 2 m).cs.length vc) (turnP 2 m p) (.slice none 0 0)) := by
      rw [hw4, show (turnM 2 m).cs.length = m.cs.length from dx5_len _]
      exact HB3.out.far hne _
    have hc4 : CompsOwn w4 w1.heap.size (.slice (some ⟨g2, 0, none⟩) (turnM 2 m).cs.length vc) (turnM 2 m).cs := by
      rw [hw4, show (turnM 2 m).cs.length = m.cs.length from dx5_len _]
      exact (CompsOwn.setDx HC3.out n1).1
    have hW4 : Below w.heap.size w w4 := by rw [hw4]; exact HW3.out.setCell (Nat.le_trans hw1B hgB2) _
    simp only [← hw4]
    clear hw4 hne e2 fz
    have hn5 := turn_comps HOK.out 2
    have MA := rmain_any (turnM 2 m) (.slice (some ⟨g2, 0, none⟩) (turnM 2 m).cs.length vc) (turnP 2 m p) (.slice none 0 0) [] w4 (CompsRd.of_owns hc4) (BV.nil _) (by decide) hn5.1 hn5.2 (turn_fit HOK.out 2).1 (turn_fit HOK.out 2).2
    have AL : All (mainM (turnM 2 m) (turnP 2 m p) [] ++ [255, 144]) 1 (headOf (turnM 2 m) (turnP 2 m p) []) [] := turn_all HOK.out 2 (by decide)
    have hml := turn_len HOK.out 2
    obtain ⟨A4, hA4⟩ : ∃ A, headA (turnM 2 m) (.slice (some ⟨g2, 0, none⟩) (turnM 2 m).cs.length vc) (turnP 2 m p) (.slice none 0 0) = A := ⟨_, rfl⟩
    rw [hA4] at MA hb4
    have hsz : A4.size = 18 := by rw [← hA4]; rfl
    obtain ⟨M, hM⟩ : ∃ M, mainM (turnM 2 m) (turnP 2 m p) [] = M := ⟨_, rfl⟩
    rw [hM] at MA AL hml
    have PE := Lib.hid (fun W v hb => parse_err1 v (M ++ [255, 144]) [] 1 _ W hb (by rw [List.length_append]; simp; omega) AL (by decide))
    have HG4 : Hid (w4.heap[g]? = some (.cells A4 36 (0, 0))) := hb4
    have HM4 := Lib.hid MA
    have HW4 := Lib.hid hW4
    have HML := Lib.hid hml
    clear hn5 MA AL hml hA4 hM hb4 hc4 hW4
    go_step
    refine wpList_load_row rfl 36 (.tmp 5) rfl g rfl 36 A4 (0, 0) _ HG4.out Try.underlying36 rfl (by rw [hsz]; kernel_rfl) ?_
    go_wp2_with (first | (go_at_call 16; refine (PE.out _ _ HBV8.out).mono ?_; rintro r wb ⟨A1, hA1, rfl, hB10⟩; have hA1' := hA1.1; have hst1 := store_head hA1; have HB10 := Lib.hid (hB10.trans ((newHead_below wb A1).mono hB10.size)); clear hB10) | (go_at_call 13; refine HM4.out.mono ?_; rintro e w5 ⟨v5, rfl, ho5, hb5⟩; obtain ⟨a5, n5, q5, rfl⟩ := owns_isSlice ho5; have HO5 := Lib.hid (And.intro ho5 hb5); clear ho5 hb5) | (at_builtin; go_must (refine wpList_app rfl (.tmp 71) (.tmp 72) rfl w4.heap.size _ M [255, 144] rfl (World.ownsRow.alloc HO5.out.1 _) _ rfl (BV.two w5 255 144 _ rfl) (by have := HML.out; simp; omega) (by have := HO5.out.2.size; simp; omega) ?_; intro v8 w8 ho8 hb8 hg8; have HBV8 := Lib.hid (BV.of_owns ho8); obtain ⟨a8, n8, c8', rfl⟩ := owns_isSlice ho8; have HB8 := Lib.hid ((HO5.out.2.alloc HO5.out.2.size _).trans hb8); clear ho8 hb8 hg8)))
    go_ret
    have h48 := HW4.out.trans (HB8.out.mono HW4.out.size)
    exact ⟨rfl, h48.trans (HB10.out.mono h48.size)⟩
  · go_upto_region 22 with (go_at_call 15; refine (WI.out _).mono ?_; rintro e w' ⟨rfl, rfl⟩)
    obtain ⟨w4, hw4⟩ : ∃ w4, w4 = w3.setCell ⟨g, 5, none⟩ (.int .i64 m.ox) := ⟨_, rfl⟩
    have hb4 : Blk w4 g 36 (headA (turnM 3 m) (.slice va (turnM 3 m).cs.length vc) (turnP 3 m p) (.slice none 0 0)) := by rw [hw4]; exact HB3.out.set_ 5 (.int .i64 m.ox)
    have hc4 : CompsOwn w4 w1.heap.size (.slice va (turnM 3 m).cs.length vc) (turnM 3 m).cs := by rw [hw4]; exact HC3.out.off HB3.out (by decide) (by decide) (only_setCell (World.grownBy.refl _ _) (p := ⟨g, 5, none⟩) (.inl rfl) _)
    have hW4 : Below w.heap.size w w4 := by rw [hw4]; exact HW3.out.setCell hgB _
    simp only [← hw4]
    clear hw4
    have hn5 := turn_comps HOK.out 3
    have MA := rmain_any (turnM 3 m) (.slice va (turnM 3 m).cs.length vc) (turnP 3 m p) (.slice none 0 0) [] w4 (CompsRd.of_owns hc4) (BV.nil _) (by decide) hn5.1 hn5.2 (turn_fit HOK.out 3).1 (turn_fit HOK.out 3).2
    have AL : All (mainM (turnM 3 m) (turnP 3 m p) [] ++ [255, 144]) 1 (headOf (turnM 3 m) (turnP 3 m p) []) [] := turn_all HOK.out 3 (by decide)
    have hml := turn_len HOK.out 3
    obtain ⟨A4, hA4⟩ : ∃ A, headA (turnM 3 m) (.slice va (turnM 3 m).cs.length vc) (turnP 3 m p) (.slice none 0 0) = A := ⟨_, rfl⟩
    rw [hA4] at MA hb4
    have hsz : A4.size = 18 := by rw [← hA4]; rfl
    obtain ⟨M, hM⟩ : ∃ M, mainM (turnM 3 m) (turnP 3 m p) [] = M := ⟨_, rfl⟩
    rw [hM] at MA AL hml
    have PE := Lib.hid (fun W v hb => parse_err1 v (M ++ [255, 144]) [] 1 _ W hb (by rw [List.length_append]; simp; omega) AL (by decide))
    have HG4 : Hid (w4.heap[g]? = some (.cells A4 36 (0, 0))) := hb4
    have HM4 := Lib.hid MA
    have HW4 := Lib.hid hW4
    have HML := Lib.hid hml
    clear hn5 MA AL hml hA4 hM hb4 hc4 hW4
    go_step
    refine wpList_load_row rfl 36 (.tmp 5) rfl g rfl 36 A4 (0, 0) _ HG4.out Try.underlying36 rfl (by rw [hsz]; kernel_rfl) ?_
    go_wp2_with (first | (go_at_call 16; refine (PE.out _ _ HBV8.out).mono ?_; rintro r wb ⟨A1, hA1, rfl, hB10⟩; have hA1' := hA1.1; have hst1 := store_head hA1; have HB10 := Lib.hid (hB10.trans ((newHead_below wb A1).mono hB10.size)); clear hB10) | (go_at_call 13; refine HM4.out.mono ?_; rintro e w5 ⟨v5, rfl, ho5, hb5⟩; obtain ⟨a5, n5, q5, rfl⟩ := owns_isSlice ho5; have HO5 := Lib.hid (And.intro ho5 hb5); clear ho5 hb5) | (at_builtin; go_must (refine wpList_app rfl (.tmp 71) (.tmp 72) rfl w4.heap.size _ M [255, 144] rfl (World.ownsRow.alloc HO5.out.1 _) _ rfl (BV.two w5 255 144 _ rfl) (by have := HML.out; simp; omega) (by have := HO5.out.2.size; simp; omega) ?_; intro v8 w8 ho8 hb8 hg8; have HBV8 := Lib.hid (BV.of_owns ho8); obtain ⟨a8, n8, c8', rfl⟩ := owns_isSlice ho8; have HB8 := Lib.hid ((HO5.out.2.alloc HO5.out.2.size _).trans hb8); clear ho8 hb8 hg8)))
    go_ret
    have h48 := HW4.out.trans (HB8.out.mono HW4.out.size)
    exact ⟨rfl, h48.trans (HB10.out.mono h48.size)⟩
  · go_upto_region 22 with (go_at_call 15; refine (WI.out _).mono ?_; rintro e w' ⟨rfl, rfl⟩)
    obtain ⟨w4, hw4⟩ : ∃ w4, w4 = w3.setCell ⟨g, 12, none⟩ (.int .i64 5) := ⟨_, rfl⟩
    have hb4 : Blk w4 g 36 (headA (turnM 4 m) (.slice va (turnM 4 m).cs.length vc) (turnP 4 m p) (.slice none 0 0)) := by rw [hw4]; exact HB3.out.set_ 12 (.int .i64 5)
    have hc4 : CompsOwn w4 w1.heap.size (.slice va (turnM 4 m).cs.length vc) (turnM 4 m).cs := by rw [hw4]; exact HC3.out.off HB3.out (by decide) (by decide) (only_setCell (World.grownBy.refl _ _) (p := ⟨g, 12, none⟩) (.inl rfl) _)
    have hW4 : Below w.heap.size w w4 := by rw [hw4]; exact HW3.out.setCell hgB _
    simp only [← hw4]
    clear hw4
    have hn5 := turn_comps HOK.out 4
    have MA := rmain_any (turnM 4 m) (.slice va (turnM 4 m).cs.length vc) (turnP 4 m p) (.slice none 0 0) [] w4 (CompsRd.of_owns hc4) (BV.nil _) (by decide) hn5.1 hn5.2 (turn_fit HOK.out 4).1 (turn_fit HOK.out 4).2
    have AL : All (mainM (turnM 4 m) (turnP 4 m p) [] ++ [255, 144]) 1 (headOf (turnM 4 m) (turnP 4 m p) []) [] := turn_all HOK.out 4 (by decide)
    have hml := turn_len HOK.out 4
    obtain ⟨A4, hA4⟩ : ∃ A, headA (turnM 4 m) (.slice va (turnM 4 m).cs.length vc) (turnP 4 m p) (.slice none 0 0) = A := ⟨_, rfl⟩
    rw [hA4] at MA hb4
    have hsz : A4.size = 18 := by rw [← hA4]; rfl
    obtain ⟨M, hM⟩ : ∃ M, mainM (turnM 4 m) (turnP 4 m p) [] = M := ⟨_, rfl⟩
    rw [hM] at MA AL hml
    have PE := Lib.hid (fun W v hb => parse_err1 v (M ++ [255, 144]) [] 1 _ W hb (by rw [List.length_append]; simp; omega) AL (by decide))
    have HG4 : Hid (w4.heap[g]? = some (.cells A4 36 (0, 0))) := hb4
    have HM4 := Lib.hid MA
    have HW4 := Lib.hid hW4
    have HML := Lib.hid hml
    clear hn5 MA AL hml hA4 hM hb4 hc4 hW4
    go_step
    refine wpList_load_row rfl 36 (.tmp 5) rfl g rfl 36 A4 (0, 0) _ HG4.out Try.underlying36 rfl (by rw [hsz]; kernel_rfl) ?_
    go_wp2_with (first | (go_at_call 16; refine (PE.out _ _ HBV8.out).mono ?_; rintro r wb ⟨A1, hA1, rfl, hB10⟩; have hA1' := hA1.1; have hst1 := store_head hA1; have HB10 := Lib.hid (hB10.trans ((newHead_below wb A1).mono hB10.size)); clear hB10) | (go_at_call 13; refine HM4.out.mono ?_; rintro e w5 ⟨v5, rfl, ho5, hb5⟩; obtain ⟨a5, n5, q5, rfl⟩ := owns_isSlice ho5; have HO5 := Lib.hid (And.intro ho5 hb5); clear ho5 hb5) | (at_builtin; go_must (refine wpList_app rfl (.tmp 71) (.tmp 72) rfl w4.heap.size _ M [255, 144] rfl (World.ownsRow.alloc HO5.out.1 _) _ rfl (BV.two w5 255 144 _ rfl) (by have := HML.out; simp; omega) (by have := HO5.out.2.size; simp; omega) ?_; intro v8 w8 ho8 hb8 hg8; have HBV8 := Lib.hid (BV.of_owns ho8); obtain ⟨a8, n8, c8', rfl⟩ := owns_isSlice ho8; have HB8 := Lib.hid ((HO5.out.2.alloc HO5.out.2.size _).trans hb8); clear ho8 hb8 hg8)))
    go_ret
    have h48 := HW4.out.trans (HB8.out.mono HW4.out.size)
    exact ⟨rfl, h48.trans (HB10.out.mono h48.size)⟩
  · go_upto_region 22 with (go_at_call 15; refine (WI.out _).mono ?_; rintro e w' ⟨rfl, rfl⟩)
    obtain ⟨w4, hw4⟩ : ∃ w4, w4 = w3.setCell ⟨g, 8, none⟩ (.int .i64 7) := ⟨_, rfl⟩
    have hb4 : Blk w4 g 36 (headA (turnM 5 m) (.slice va (turnM 5 m).cs.length vc) (turnP 5 m p) (.slice none 0 0)) := by rw [hw4]; exact HB3.out.set_ 8 (.int .i64 7)
    have hc4 : CompsOwn w4 w1.heap.size (.slice va (turnM 5 m).cs.length vc) (turnM 5 m).cs := by rw [hw4]; exact HC3.out.off HB3.out (by decide) (by decide) (only_setCell (World.grownBy.refl _ _) (p := ⟨g, 8, none⟩) (.inl rfl) _)
    have hW4 : Below w.heap.size w w4 := by rw [hw4]; exact HW3.out.setCell hgB _
    simp only [← hw4]
    clear hw4
    have hn5 := turn_comps HOK.out 5
    have MA := rmain_any (turnM 5 m) (.slice va (turnM 5 m).cs.length vc) (turnP 5 m p) (.slice none 0 0) [] w4 (CompsRd.of_owns hc4) (BV.nil _) (by decide) hn5.1 hn5.2 (turn_fit HOK.out 5).1 (turn_fit HOK.out 5).2
    have AL : All (mainM (turnM 5 m) (turnP 5 m p) [] ++ [255, 144]) 1 (headOf (turnM 5 m) (turnP 5 m p) []) [] := turn_all HOK.out 5 (by decide)
    have hml := turn_len HOK.out 5
    obtain ⟨A4, hA4⟩ : ∃ A, headA (turnM 5 m) (.slice va (turnM 5 m).cs.length vc) (turnP 5 m p) (.slice none 0 0) = A := ⟨_, rfl⟩
    rw [hA4] at MA hb4
    have hsz : A4.size = 18 := by rw [← hA4]; rfl
    obtain ⟨M, hM⟩ : ∃ M, mainM (turnM 5 m) (turnP 5 m p) [] = M := ⟨_, rfl⟩
    rw [hM] at MA AL hml
    have PE := Lib.hid (fun W v hb => parse_err1 v (M ++ [255, 144]) [] 1 _ W hb (by rw [List.length_append]; simp; omega) AL (by decide))
    have HG4 : Hid (w4.heap[g]? = some (.cells A4 36 (0, 0))) := hb4
    have HM4 := Lib.hid MA
    have HW4 := Lib.hid hW4
    have HML := Lib.hid hml
    clear hn5 MA AL hml hA4 hM hb4 hc4 hW4
    go_step
    refine wpList_load_row rfl 36 (.tmp 5) rfl g rfl 36 A4 (0, 0) _ HG4.out Try.underlying36 rfl (by rw [hsz]; kernel_rfl) ?_
    go_wp2_with (first | (go_at_call 16; refine (PE.out _ _ HBV8.out).mono ?_; rintro r wb ⟨A1, hA1, rfl, hB10⟩; have hA1' := hA1.1; have hst1 := store_head hA1; have HB10 := Lib.hid (hB10.trans ((newHead_below wb A1).mono hB10.size)); clear hB10) | (go_at_call 13; refine HM4.out.mono ?_; rintro e w5 ⟨v5, rfl, ho5, hb5⟩; obtain ⟨a5, n5, q5, rfl⟩ := owns_isSlice ho5; have HO5 := Lib.hid (And.intro ho5 hb5); clear ho5 hb5) | (at_builtin; go_must (refine wpList_app rfl (.tmp 71) (.tmp 72) rfl w4.heap.size _ M [255, 144] rfl (World.ownsRow.alloc HO5.out.1 _) _ rfl (BV.two w5 255 144 _ rfl) (by have := HML.out; simp; omega) (by have := HO5.out.2.size; simp; omega) ?_; intro v8 w8 ho8 hb8 hg8; have HBV8 := Lib.hid (BV.of_owns ho8); obtain ⟨a8, n8, c8', rfl⟩ := owns_isSlice ho8; have HB8 := Lib.hid ((HO5.out.2.alloc HO5.out.2.size _).trans hb8); clear ho8 hb8 hg8)))
    go_ret
    have h48 := HW4.out.trans (HB8.out.mono HW4.out.size)
    exact ⟨rfl, h48.trans (HB10.out.mono h48.size)⟩
  · obtain ⟨c00, hc00⟩ : ∃ c00, m.cs[0]? = some c00 := ⟨_, List.getElem?_eq_getElem (by have := HOK.out.n1; omega)⟩
    obtain ⟨n0, hn0⟩ : ∃ n0, m.cs.length = n0 := ⟨_, rfl⟩
    have n1 : 1 ≤ n0 := by have := HOK.out.n1; omega
    have n4 : n0 ≤ 4 := by have := HOK.out.n4; omega
    obtain ⟨i1, ci, cz0, cz1, cz2⟩ := info_parts Try.infoComp
    have HN0 := Lib.hid hn0
    clear c0 c2 c5 c8 c12 f0 f2 f4 f5 f8 f12
    rw [hn0] at HB3 HC3 c4
    clear hn0
    go_wp2_with (go_at_call 15; refine (WI.out _).mono ?_; rintro e w' ⟨rfl, rfl⟩)
    go_loopg [] (5 - n0) (fun gk wx => ∃ (j : Nat) (va' : Option Addr) (vc' : Nat), n0 + j ≤ 5 ∧ gk = 5 - n0 - j ∧ Blk wx g 36 (headA m (.slice va' (n0 + j) vc') p (.slice none 0 0)) ∧ CompsOwn wx w1.heap.size (.slice va' (n0 + j) vc') (m.cs ++ List.replicate j c00) ∧ Below w.heap.size w wx)
    case atStart => exact ⟨0, va, vc, by omega, rfl, HB3.out, by simpa using HC3.out, HW3.out⟩
    case round =>
      obtain ⟨wy, rfl⟩ : ∃ wy : World, wy = wr := ⟨_, rfl⟩
      obtain ⟨j, va', vc', hj, rfl, hb, hc, hW⟩ := hrel
      clear HB3 HC3 HW3 c4
      have c4 : wy.cell? ⟨g, 4, none⟩ = some (.slice va' (n0 + j) vc') := hb.cell 4
      by_cases hjn : n0 + j < 5
      · have hcj := five_step m.cs c00 hc00 j
        have hlj : (m.cs ++ List.replicate j c00).length = n0 + j := by simp [HN0.out]
        obtain ⟨csj, hcsj⟩ : ∃ csj, m.cs ++ List.replicate j c00 = csj := ⟨_, rfl⟩
        have hcs1 : m.cs ++ List.replicate (j + 1) c00 = csj ++ [c00] := by rw [← hcsj, List.replicate_succ', List.append_assoc]
        rw [hcsj] at hc hcj hlj
        obtain ⟨g2, d0, dvs, rfl, hgB2, hglt2, -, hdl, ho, hds, hd, e0, e1, e2, e3, e4⟩ := comps_open hc hcj
        obtain ⟨da, dc, rfl⟩ := owns_slice hd
        have hnd : decide (((n0 + j : Nat) : Int) < 5) = true := by simp; omega
        have hnd' : decide ((n0 : Int) + (j : Int) < 5) = true := by simp; omega
        have hn0j : 0 < n0 + j := by omega
        have hn0ji : (0 : Int) < (n0 : Int) + (j : Int) := by omega
        rw [hlj] at ho
        have hne : g ≠ g2 := fun e => own_blk_ne ho hb (by decide) (by rw [e]; rfl)
        have HJ := Lib.hid (And.intro hb (And.intro hc (And.intro hW (And.intro hdl (And.intro ho (And.intro hds (And.intro hd (And.intro hcs1 (And.intro hcsj hlj)))))))))
        have c4d : (wy.alloc (.cells #[.int .i64 c00.depth, .bool c00.signed, .int .i64 c00.dx, .int .i64 c00.dy, .slice da c00.data.length dc] 45)).cell? ⟨g, 4, none⟩ = some (.slice (some ⟨g2, 0, none⟩) (n0 + j) vc') := (Blk.alloc hb _).cell 4
        clear hb hc hW hdl ho hds hd hcsj hcj hlj hcs1
        go_upto_region 20 with fail
        go_region_law ((with_reducible refine step_append_own (o := ⟨some 66, _, _, _, _, _⟩) rfl (.tmp 59) (.tmp 65) 27 rfl w1.heap.size 45 i1 (.agg #[.int .i64 0, .bool false, .int .i64 0, .int .i64 0, .slice none 0 0]) 5 56 Try.underlying27 ci cz0 cz1 cz2 rfl (by decide) (.slice (some ⟨g2, 0, none⟩) (n0 + j) vc') (n0 + j) (compFlat csj dvs) ?_ ?_ ⟨wy.heap.size, 0, none⟩ 1 1 [.int .i64 c00.depth, .bool c00.signed, .int .i64 c00.dx, .int .i64 c00.dy, .slice da c00.data.length dc] ?_ ?_ ?_ ?_ ?_ ?_ ?_ ?_); simp [Act.eval]; exact World.ownsRow.alloc HJ.out.2.2.2.2.1 _; simp [Act.eval]; rfl; exact news_block _ _ _; simp [Value.oneCell']; unfold maxLen; omega; omega; (simp; omega); intro v6 w6 hown6 hg6 hn6; obtain ⟨a6, p6, rfl⟩ := owns_slice hown6; have HX6 := Blk.grown (Blk.alloc (Blk.drew HJ.out.1) _) hg6 (fun e => own_blk_ne HJ.out.2.2.2.2.1 HJ.out.1 (by decide) e.symm); have y4 : w6.cell? ⟨g, 4, none⟩ = some (.slice (some ⟨g2, 0, none⟩) (n0 + j) vc') := HX6.cell 4; have y5 := HX6.frozen 4)
        all_goals
          obtain ⟨hb, hc, hW, hdl, ho, hds, hd, hcs1, hcsj, hlj⟩ := HJ.out
          have hb7 : Blk (w6.setCell ⟨g, 4, none⟩ (.slice a6 (n0 + j + 1) p6)) g 36 (headA m (.slice a6 (n0 + (j + 1)) p6) p (.slice none 0 0)) := HX6.set_ 4 (.slice a6 (n0 + j + 1) p6)
          have hc7 : CompsOwn (w6.setCell ⟨g, 4, none⟩ (.slice a6 (n0 + j + 1) p6)) w1.heap.size (.slice a6 (n0 + (j + 1)) p6) (m.cs ++ List.replicate (j + 1) c00) := by
            rw [hcs1]
            refine CompsOwn.off (CompsOwn.snoc (dvs := dvs) (v := .slice (some ⟨g2, 0, none⟩) (n0 + j) vc') hdl (World.ownsRow.drew (World.ownsRow.alloc (by rw [hlj]; exact ho) _)) (fun i c dv hc hd => World.ownsRow.drew (World.ownsRow.alloc (hds i c dv hc hd) _)) (World.ownsRow.drew (World.ownsRow.alloc hd _)) ?_ hg6) HX6 (by decide) (by decide) (only_setCell (World.grownBy.refl _ _) (p := ⟨g, 4, none⟩) (.inl rfl) _)
            rw [hlj]
            exact hown6
          have hW7 : Below w.heap.size w (w6.setCell ⟨g, 4, none⟩ (.slice a6 (n0 + j + 1) p6)) := ((hW.alloc hW.size _).drew.grown hg6 (by simpa using Nat.le_trans hW.size (Nat.le_succ _)) (by rintro k hk; have := (ho.lt k hk).1; omega)).setCell hgB _
          generalize w6.setCell ⟨g, 4, none⟩ (.slice a6 (n0 + j + 1) p6) = w7 at *
          have HF := Lib.hid (And.intro hb7 (And.intro hc7 hW7))
          clear hb7 hc7 hW7 hb hc hW hdl ho hds hd hcs1 hcsj hlj HJ y4 y5 hn6 hg6 hown6 HX6
          go_wp2_with fail
          go_roundg (5 - n0 - (j + 1))
          case measure => omega
          case rel =>
            obtain ⟨hb7, hc7, hW7⟩ := HF.out
            exact ⟨j + 1, a6, p6, by omega, rfl, hb7, hc7, hW7⟩
      · have hnd : decide (((n0 + j : Nat) : Int) < 5) = false := by simp; omega
        have hnd' : decide ((n0 : Int) + (j : Int) < 5) = false := by simp; omega
        have hj5 : n0 + j = 5 := by omega
        go_upto_region 22 with fail
        have hf5 : m.cs ++ List.replicate j c00 = (turnM 6 m).cs := by
          show _ = five m.cs
          rw [five_is _ _ hc00, HN0.out, show j = 5 - n0 by omega]
        have hl5 : (turnM 6 m).cs.length = n0 + j := by rw [← hf5]; simp [HN0.out]
        obtain ⟨w4, rfl⟩ : ∃ w4 : World, w4 = wy := ⟨_, rfl⟩
        have hb4 : Blk w4 g 36 (headA (turnM 6 m) (.slice va' (turnM 6 m).cs.length vc') (turnP 6 m p) (.slice none 0 0)) := by rw [hl5]; exact hb
        have hc4 : CompsOwn w4 w1.heap.size (.slice va' (turnM 6 m).cs.length vc') (turnM 6 m).cs := by rw [hl5, ← hf5]; exact hc
        have hW4 := hW
        clear hb hc hW hf5 hl5 c4
        have hn5 := turn_comps HOK.out 6
        have MA := rmain_any (turnM 6 m) (.slice va' (turnM 6 m).cs.length vc') (turnP 6 m p) (.slice none 0 0) [] w4 (CompsRd.of_owns hc4) (BV.nil _) (by decide) hn5.1 hn5.2 (turn_fit HOK.out 6).1 (turn_fit HOK.out 6).2
        have AL : All (mainM (turnM 6 m) (turnP 6 m p) [] ++ [255, 144]) 4 (headOf (turnM 6 m) (turnP 6 m p) []) [] := turn_all HOK.out 6 (by decide)
        have hml := turn_len HOK.out 6
        obtain ⟨A4, hA4⟩ : ∃ A, headA (turnM 6 m) (.slice va' (turnM 6 m).cs.length vc') (turnP 6 m p) (.slice none 0 0) = A := ⟨_, rfl⟩
        rw [hA4] at MA hb4
        have hsz : A4.size = 18 := by rw [← hA4]; rfl
        obtain ⟨M, hM⟩ : ∃ M, mainM (turnM 6 m) (turnP 6 m p) [] = M := ⟨_, rfl⟩
        rw [hM] at MA AL hml
        have PE := Lib.hid (fun W v hb => parse_err1 v (M ++ [255, 144]) [] 4 _ W hb (by rw [List.length_append]; simp; omega) AL (by decide))
        have HG4 : Hid (w4.heap[g]? = some (.cells A4 36 (0, 0))) := hb4
        have HM4 := Lib.hid MA
        have HW4 := Lib.hid hW4
        have HML := Lib.hid hml
        clear hn5 MA AL hml hA4 hM hb4 hc4 hW4
        go_step
        refine wpList_load_row rfl 36 (.tmp 5) rfl g rfl 36 A4 (0, 0) _ HG4.out Try.underlying36 rfl (by rw [hsz]; kernel_rfl) ?_
        go_wp2_with (first | (go_at_call 16; refine (PE.out _ _ HBV8.out).mono ?_; rintro r wb ⟨A1, hA1, rfl, hB10⟩; have hA1' := hA1.1; have hst1 := store_head hA1; have HB10 := Lib.hid (hB10.trans ((newHead_below wb A1).mono hB10.size)); clear hB10) | (go_at_call 13; refine HM4.out.mono ?_; rintro e w5 ⟨v5, rfl, ho5, hb5⟩; obtain ⟨a5, n5, q5, rfl⟩ := owns_isSlice ho5; have HO5 := Lib.hid (And.intro ho5 hb5); clear ho5 hb5) | (at_builtin; go_must (refine wpList_app rfl (.tmp 71) (.tmp 72) rfl w4.heap.size _ M [255, 144] rfl (World.ownsRow.alloc HO5.out.1 _) _ rfl (BV.two w5 255 144 _ rfl) (by have := HML.out; simp; omega) (by have := HO5.out.2.size; simp; omega) ?_; intro v8 w8 ho8 hb8 hg8; have HBV8 := Lib.hid (BV.of_owns ho8); obtain ⟨a8, n8, c8', rfl⟩ := owns_isSlice ho8; have HB8 := Lib.hid ((HO5.out.2.alloc HO5.out.2.size _).trans hb8); clear ho8 hb8 hg8)))
        go_ret
        have h48 := HW4.out.trans (HB8.out.mono HW4.out.size)
        exact ⟨rfl, h48.trans (HB10.out.mono h48.size)⟩
end Go.Proofs.Ytlhlhlabnjfhcaa
