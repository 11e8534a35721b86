/- MarksMain: the law's walk. -/
import Derived.Test.YtlhlhlabnjfhcaaLzN
import Derived.Test.YtlhlhlabnjfhcaaRsG
import Derived.Test.YtlhlhlabnjfhcaaHdH
namespace Go.Proofs.Ytlhlhlabnjfhcaa
open Go.RowKit Go.Maps

theorem main_mid {f : FormD} {m : ImgD} {p : ParD} (h : MadeOk f 8 m p) (cl : List UInt8) (hl : cl.length ≤ 300) : (mainM m p cl).length ≤ 2000 := by
  have h1 := mainM_length m p cl h.par.1
  have h2 := h.n4
  have h3 := h.par.2.1
  have h4 : ((if cl = [] then 0 else 6 + cl.length : Nat) : Int) ≤ 306 := by split <;> omega
  omega

theorem sameCs_bare2 (m : ImgD) : SameCs (bareM m).cs m.cs := by
  refine ⟨List.length_map _, fun k c d h1 h2 => ?_⟩
  have h1' : (m.cs.map CompD.bare)[k]? = some c := h1
  rw [List.getElem?_map, h2] at h1'
  simp only [Option.map_some, Option.some.injEq] at h1'
  subst h1'
  simp [sameC, CompD.bare]

set_option maxRecDepth 100000 in
set_option maxHeartbeats 8000000 in
theorem main_law (f : FormD) (ns : Value) (nl : List Int) (cv : Value) (cl : List UInt8) (mv : Value) (ml : List UInt8) (w : World) (hn : RdI w ns nl) (hc : BV w cv cl) (hm : BV w mv ml) :
    Calls Try.prog 9 #[.agg (formA f ns), cv, mv] w fun e w' => e = .returned (.bool true) ∧ Below w.heap.size w w' := by
  have HN := Lib.hid hn
  have HC := Lib.hid hc
  have HM := Lib.hid hm
  obtain ⟨na, nc, rfl, -⟩ := hn
  obtain ⟨ca, cc, rfl, -⟩ := hc
  obtain ⟨ma, mc, rfl, -⟩ := hm
  have KN := Lib.hid known_any
  unfold formA
  go_enter Try.func9, Try.ntmps9
  go_upto_region 1 with fail
  obtain ⟨wA, hwA⟩ : ∃ wA, wA = w.alloc (.cells (formA f (.slice na nl.length nc)) 24) := ⟨_, rfl⟩
  have hh : Blk wA w.heap.size 24 (formA f (.slice na nl.length nc)) := by rw [hwA]; exact Blk.new _ _ _
  have hBA : Below w.heap.size w wA := by rw [hwA]; exact (Below.refl _ _).alloc (Nat.le_refl _) _
  have hsA : w.heap.size < wA.heap.size := by rw [hwA]; simp
  unfold formA at hwA
  simp only [← hwA]
  clear hwA
  have HH := Lib.hid (And.intro hh hBA)
  clear hh hBA
  go_upto_region 3 with (go_at_call 11; refine (KN.out _).mono ?_; rintro e w1 ⟨rfl, hB1⟩)
  have hh1 := HH.out.1.below hB1 hsA
  have hw1 := HH.out.2.trans (hB1.mono HH.out.2.size)
  have HG : Hid (w1.heap[w.heap.size]? = some (.cells (formA f (.slice na nl.length nc)) 24 (0, 0))) := hh1
  have HD := Lib.hid (head_any1 f (.slice na nl.length nc) nl (.slice ca cl.length cc) w1 (HN.out.keep hw1) ⟨_, _, _, rfl⟩)
  have HW1 := Lib.hid hw1
  clear hh1 hw1 hB1 HH hsA KN HN
  by_cases q1 : 300 < cl.length
  · have d1 : decide (300 < (cl.length : Int)) = true := by simp; omega
    go_wp2_with fail
    go_ret
    exact ⟨rfl, HW1.out⟩
  have d1 : decide (300 < (cl.length : Int)) = false := by simp; omega
  by_cases q2 : 100 < ml.length
  · have d2 : decide (100 < (ml.length : Int)) = true := by simp; omega
    go_wp2_with fail
    go_ret
    exact ⟨rfl, HW1.out⟩
  have d2 : decide (100 < (ml.length : Int)) = false := by simp; omega
  go_upto_region 5 with fail
  clear d1 d2
  go_step
  refine wpList_load_row rfl 24 (.tmp 3) rfl w.heap.size rfl 24 (formA f (.slice na nl.length nc)) (0, 0) _ HG.out Try.underlying24 rfl (by kernel_rfl) ?_
  go_upto_region 6 with (go_at_call 12; refine HD.out.mono ?_; rintro e w2 ⟨m, p, va, vc, A, hA, hE, rfl, hco, hok, hb2⟩; have hA1 := hA.1; have hst := store_head hA; have HHD := Lib.hid (And.intro hA (And.intro hE (And.intro hco (And.intro hok hb2)))); clear hA hE hco hok hb2)
  obtain ⟨hA, hE, hco, hok, hb2⟩ := HHD.out
  obtain ⟨w3, hw3⟩ : ∃ w3, w3 = newHead w2 A := ⟨_, rfl⟩
  have hb3 : Blk w3 w2.heap.size 33 A := by rw [hw3]; exact newHead_blk w2 hA
  have hb23 : Below w2.heap.size w2 w3 := by rw [hw3]; exact newHead_below w2 A
  have hco3 := hco.keep hb23
  have hW3 := HW1.out.trans ((hb2.trans (hb23.mono hb2.size)).mono HW1.out.size)
  simp only [← hw3]
  clear hw3
  have HG3 : Hid (w3.heap[w2.heap.size]? = some (.cells A 33 (0, 0))) := hb3
  have hC3 := HC.out.keep hW3
  have MA := main_any m (.slice va m.cs.length vc) p (.slice ca cl.length cc) cl w3 (CompsRd.of_owns hco3) hC3 (by omega) (frame_ok hok) hok.n4 (depth_ok hok) hok.par
  rw [hE] at MA
  have HMA := Lib.hid MA
  have HB3 := Lib.hid hb3
  have HW3 := Lib.hid hW3
  have HOK := Lib.hid (And.intro hok hco3)
  have HEE := Lib.hid hE
  have HA1 := Lib.hid hA
  obtain ⟨g7, hg7⟩ : ∃ g, w2.heap.size = g := ⟨_, rfl⟩
  rw [hg7] at HG3 HB3
  simp only [hg7]
  have sg := hb3.lt
  rw [hg7] at sg
  clear hA hco hb2 hb3 hb23 hco3 hW3 hC3 MA HHD hst HW1 HG HD hE hok hg7
  go_step
  refine wpList_load_row rfl 33 (.tmp 7) rfl g7 rfl 33 A (0, 0) _ HG3.out Try.underlying33 rfl (by rw [hA1]; kernel_rfl) ?_
  go_upto_region 7 with (go_at_call 18; refine HMA.out.mono ?_; rintro e w4 ⟨v4, rfl, ho4, hb4⟩; obtain ⟨a4, n4, c4, rfl⟩ := owns_isSlice ho4; have HO4 := Lib.hid (And.intro ho4 hb4); clear ho4 hb4)
  obtain ⟨ho4, hb4⟩ := HO4.out
  obtain ⟨M, hM⟩ : ∃ M, mainM m p cl = M := ⟨_, rfl⟩
  rw [hM] at ho4
  obtain ⟨a, c, e⟩ := owns_slice ho4
  simp only [Value.slice.injEq] at e
  obtain ⟨rfl, rfl, rfl⟩ := e
  have hv4 : BV w4 (.slice a4 M.length c4) M := BV.of_owns ho4
  have hW4 := HW3.out.trans (hb4.mono HW3.out.size)
  have hb7 := HB3.out.below hb4 sg
  have hco4 := HOK.out.2.keep hb4
  have hC4 := HC.out.keep hW4
  have hdep : ∀ c ∈ m.cs, 1 ≤ c.depth ∧ c.depth ≤ 16 ∧ 0 ≤ c.dx ∧ c.dx ≤ 100 ∧ 0 ≤ c.dy ∧ c.dy ≤ 100 := by
    obtain ⟨d, -, -, hd⟩ := HOK.out.1.comps
    intro c hc
    obtain ⟨h1, h2, h3, h4, h5, h6, -⟩ := hd c hc
    omega
  have hT7 : ∀ W, Below w4.heap.size w4 W → Calls Try.prog 14 #[.agg A] W fun e w' => e = .returned (.agg A) ∧ Below W.heap.size W w' := fun W _ => by
    rw [← HEE.out]
    exact toref_any m _ p _ W ⟨_, _, _, rfl⟩ ⟨_, _, _, rfl⟩
  have hM7 : ∀ W, Below w4.heap.size w4 W → Calls Try.prog 13 #[.agg A] W fun e w' => ∃ v, e = .returned v ∧ BV w' v M ∧ Below W.heap.size W w' := fun W hb => by
    rw [← HEE.out, ← hM]
    refine (rmain_any m (.slice va m.cs.length vc) p (.slice ca cl.length cc) cl W (CompsRd.of_owns (hco4.keep hb)) (hC4.keep hb) (by omega) (by have := HOK.out.1.n4; omega) hdep HOK.out.1.par.fit HOK.out.1.par.2.1).mono ?_
    rintro e w' ⟨v, rfl, ho, hb⟩
    exact ⟨v, rfl, BV.of_owns ho, hb⟩
  have HML := Lib.hid (show M.length ≤ 2000 by rw [← hM]; exact main_mid HOK.out.1 cl (by omega))
  have HALL := Lib.hid (show All (M ++ ([255, 144] ++ ml)) 0 (headOf m p cl) ml by
    have := head_all (sizOk_of HOK.out.1) (by have := HOK.out.1.n4; omega) HOK.out.1.par.fit cl ml (by omega)
    rw [hM, frame_ok HOK.out.1] at this
    exact this)
  have HB7 := Lib.hid hb7
  have HV4 := Lib.hid hv4
  have HCO := Lib.hid (And.intro hco4 hC4)
  have HW4 := Lib.hid hW4
  clear hM ho4 hb4 hW4 hco4 hC4 HO4 HMA HB3 HG3 HW3
  refine wp_piece (main_r7 _ g7 A (.slice a4 M.length c4) M w4 _ _ _ _ _ _ _ _ _ _ _ _ _ _ _ _ _ _ _ _ _ _ _ _ _ _ _ _ _ _ _ _ _ _ _ _ _ _ _ _ _ _ _ _ _ _ _ _ _ _ _ _ _ _ _ _ _ _ _ _ _ _ _ _ _ _ _ _ _ _ _ _ _ _ hA1 hb7 hv4 hT7 hM7 ?_)
  rintro _ _ _ _ _ _ _ w5 hb5 rfl
  clear hb7 hv4 hT7 hM7
  have hw5s := hb5.size
  have HV5 := Lib.hid (HV4.out.keep hb5)
  have HB5 := Lib.hid (HB7.out.below hb5 HB7.out.lt)
  have HCO5 := Lib.hid (And.intro (HCO.out.1.keep hb5) (HCO.out.2.keep hb5))
  have HW5 := Lib.hid (HW4.out.trans (hb5.mono HW4.out.size))
  clear HV4 HB7 HCO HW4 hb5 hw5s
  have HM5 := Lib.hid (HM.out.keep HW5.out)
  have HLN := Lib.hid (show M.length ≤ 2000 ∧ ml.length ≤ 100 from ⟨HML.out, by omega⟩)
  obtain ⟨N, hN⟩ : ∃ N, M.length = N := ⟨_, rfl⟩
  rw [hN] at HV5
  simp only [hN]
  have HNN := Lib.hid hN
  clear hN
  have PO : Hid (∀ W v, BV W v (M ++ [255, 144] ++ ml) → Calls Try.prog 16 #[v] W fun e w' => ∃ A cv mv, Head1 A ∧ headA (bareM m) cv p mv = A ∧ e = .returned (.tuple #[.agg A, .int .i64 (N : Int), .int .i64 0]) ∧ CompsRd w' cv (bareM m).cs ∧ BV w' mv cl ∧ Below W.heap.size W w') := Lib.hid fun W v hb => by
    rw [List.append_assoc] at hb
    have h := parse_ok1 v (M ++ ([255, 144] ++ ml)) ml (headOf m p cl) W hb (by have := HLN.out; simp; omega) HALL.out
    have hn9 : (((M ++ ([255, 144] ++ ml)).length : Int) - ((ml.length : Nat) : Int) - 2) = (N : Int) := by rw [List.length_append, HNN.out]; simp; omega
    rw [hn9] at h
    exact h
  go_upto_region 10 with (first
    | (at_builtin; refine wpList_app rfl (.tmp 35) (.tmp 36) rfl w5.heap.size _ [] M rfl (own_lit w5 #[] 5 0 w5.heap.size rfl rfl (Nat.le_refl _) (by decide)) _ rfl ((HNN.out ▸ HV5.out : BV w5 (.slice a4 N c4) M).keep ((Below.refl _ _).alloc (Nat.le_refl _) _)) (by have := HLN.out; simp; omega) (by simp) ?_; intro v6 w6 ho6 hb6 hg6; rw [List.nil_append] at ho6; obtain ⟨a6, n6, c6, rfl⟩ := owns_isSlice ho6; have H6 := Lib.hid (And.intro ho6 (((Below.refl _ _).alloc (Nat.le_refl _) _).trans hb6)); clear ho6 hb6 hg6)
    | (at_builtin; refine wpList_app rfl (.tmp 37) (.tmp 38) rfl w5.heap.size _ M [255, 144] rfl (World.ownsRow.alloc H6.out.1 _) _ rfl (BV.two w6 255 144 _ rfl) (by have := HLN.out; simp; omega) (by have := H6.out.2.size; simp; omega) ?_; intro v7 w7 ho7 hb7 hg7; obtain ⟨a7, n7, c7, rfl⟩ := owns_isSlice ho7; have H7 := Lib.hid (And.intro ho7 ((H6.out.2.alloc H6.out.2.size _).trans hb7)); clear ho7 hb7 hg7)
    | (at_builtin; refine wpList_app rfl (.tmp 39) (.tmp 40) rfl w5.heap.size _ (M ++ [255, 144]) ml rfl H7.out.1 _ rfl (HM5.out.keep H7.out.2) (by have := HLN.out; simp; omega) H7.out.2.size ?_; intro v8 w8 ho8 hb8 hg8; obtain ⟨a8, n8, c8, rfl⟩ := owns_isSlice ho8; have HBV8 := Lib.hid (BV.of_owns ho8); have H8 := Lib.hid (H7.out.2.trans hb8); clear ho8 hb8 hg8)
    | (go_at_call 16; refine (PO.out _ _ HBV8.out).mono ?_; rintro e wb ⟨A1, xv, yv, hA1, hE1, rfl, hcr, hmv, hB10⟩; have hA1' := hA1.1; have hst1 := store_head hA1; have HP1 := Lib.hid (And.intro hA1 (And.intro hE1 (And.intro hcr (And.intro hmv hB10)))); clear hA1 hE1 hcr hmv hB10))
  obtain ⟨hA1n, hE1, hcr, hmv, hB10⟩ := HP1.out
  obtain ⟨w9, hw9⟩ : ∃ w9, w9 = newHead wb A1 := ⟨_, rfl⟩
  have hb9 : Blk w9 wb.heap.size 33 A1 := by rw [hw9]; exact newHead_blk wb hA1n
  have hbb9 : Below wb.heap.size wb w9 := by rw [hw9]; exact newHead_below wb A1
  simp only [← hw9]
  clear hw9 hst1
  have hb59 : Below w5.heap.size w5 w9 := H8.out.trans ((hB10.trans (hbb9.mono hB10.size)).mono H8.out.size)
  have hh9 := HB5.out.below hb59 HB5.out.lt
  have hco9 := CompsRd.of_owns (HCO5.out.1.keep hb59)
  have hc9 := HCO5.out.2.keep hb59
  have hcr9 := hcr.keep hbb9
  have hmv9 := hmv.keep hbb9
  obtain ⟨c0, hc0⟩ := made_first HOK.out.1
  have hb0 : (bareM m).cs[0]? = some c0.bare := by
    show (m.cs.map CompD.bare)[0]? = _
    rw [List.getElem?_map, hc0]
    rfl
  have hnb : 0 < (bareM m).cs.length := (List.getElem?_eq_some_iff.1 hb0).1
  have hnb4 : (bareM m).cs.length ≤ 4 := by rw [show (bareM m).cs.length = m.cs.length from List.length_map _]; exact HOK.out.1.n4
  have hcr9' := hcr9
  obtain ⟨xa, xc, rfl, -, -, x3⟩ := hcr9'
  obtain ⟨gc, oc, dv, rfl, -, -, -, -, p4, pd⟩ := x3 0 _ hb0
  have hdv : ∃ a c, dv = .slice a 0 c := by
    obtain ⟨a, c, h, -⟩ := pd
    exact ⟨a, c, h⟩
  rw [Nat.zero_mul, Nat.add_zero] at p4
  have hmv9' := hmv9
  obtain ⟨ya, yc, rfl, -⟩ := hmv9'
  have hsc := sameCs_bare2 m
  have hc4 : w9.cell? ⟨wb.heap.size, 4, none⟩ = some (.slice (some ⟨gc, oc, none⟩) (bareM m).cs.length xc) := by
    have h := hb9.cell 4
    rw [← hE1] at h
    exact h
  have HW9 := Lib.hid (HW5.out.trans (hb59.mono HW5.out.size))
  refine wp_piece (main_r10 _ g7 wb.heap.size gc oc N A A1 (.slice a4 N c4) (.slice (some ⟨gc, oc, none⟩) (bareM m).cs.length xc) dv w9 _ _ _ _ _ _ _ _ _ _ _ _ _ _ _ _ _ _ _ _ _ _ _ _ _ _ _ _ _ _ _ _ _ _ _ _ _ _ _ _ _ _ _ _ _ _ _ _ _ _ _ _ _ _ _ _ _ _ _ _ _ _ _ _ _ _ _ _ _ _ _ HA1.out.1 hA1' hh9 hb9 ⟨_, _, rfl⟩ ⟨_, _, rfl, hnb⟩ hdv hc4 p4 (World.block_lt_of_cell? w9 _ p4) (fun W _ => by rw [← hE1]; exact toref_any (bareM m) _ p _ W ⟨_, _, _, rfl⟩ ⟨_, _, _, rfl⟩) (fun W _ => by rw [← HEE.out]; exact toref_any m _ p _ W ⟨_, _, _, rfl⟩ ⟨_, _, _, rfl⟩) (fun W hb => by rw [← hE1, ← HEE.out]; exact rsame_true (bareM m) m.cs _ _ p _ _ cl W (hcr9.keep hb) (hco9.keep hb) hsc (hmv9.keep hb) (hc9.keep hb) (by omega)) (fun W hb => by rw [← hE1, ← HEE.out]; exact same_true (hcr9.keep hb) (hco9.keep hb) (hmv9.keep hb) (hc9.keep hb) (by omega) (by omega) ⟨hsc, rfl, rfl, rfl, rfl, rfl, rfl⟩) ?_)
  rintro _ _ _ _ _ _ _ _ _ _ _ _ _ _ _ _ _ _ _ _ _ _ _ _ _ _ _ _ _ _ _ wz hBz rfl
  have HBZ := Lib.hid (HW9.out.trans (hBz.mono HW9.out.size))
  clear hBz hb9 hh9 hco9 hc9 hcr9 hmv9 hc4 p4 hb59 hbb9 hB10 hcr hmv HP1 hE1 hA1n x3
  go_wp2_with fail
  go_ret
  exact ⟨rfl, HBZ.out⟩
end Go.Proofs.Ytlhlhlabnjfhcaa
