/- MarksSames: the law's walk. -/
import Derived.Test.YtlhlhlabnjfhcaaHdH
namespace Go.Proofs.Ytlhlhlabnjfhcaa
open Go.RowKit Go.Maps

theorem made_small {f : FormD} {m : ImgD} {p : ParD} (h : MadeOk f 8 m p) {k : Nat} {c : CompD} (hc : m.cs[k]? = some c) : 1 ≤ c.depth ∧ c.depth ≤ 10 ∧ 1 ≤ c.dx ∧ c.dx ≤ 3 := by
  obtain ⟨d, -, -, hd⟩ := h.comps
  obtain ⟨h1, h2, h3, h4, -⟩ := hd c (List.mem_of_getElem? hc)
  exact ⟨h1, h2, h3, h4⟩

theorem CompsRd.front {w : World} {a : Option Addr} {n c : Nat} {cs : List CompD} (h : CompsRd w (.slice a n c) cs) (k : Nat) (hk : k ≤ cs.length) : CompsRd w (.slice a k c) (cs.take k) := by
  obtain ⟨a', c', e, h1, h2, h3⟩ := h
  simp only [Value.slice.injEq] at e
  obtain ⟨rfl, -, rfl⟩ := e
  have e : (cs.take k).length = k := by rw [List.length_take]; omega
  refine ⟨a, c, by rw [e], by omega, h2, fun i x hi => h3 i x ?_⟩
  have hl := (List.getElem?_eq_some_iff.1 hi).1
  rw [List.getElem?_take_of_lt (by omega)] at hi
  exact hi

set_option maxRecDepth 100000 in
set_option maxHeartbeats 8000000 in
theorem sames_law (f : FormD) (ns : Value) (nl : List Int) (q n : Int) (w : World) (hn : RdI w ns nl) :
    Calls Try.prog 5 #[.agg (formA f ns), .int .i64 q, .int .i64 n] w fun e w' => e = .returned (.bool true) ∧ Below w.heap.size w w' := by
  have HN := Lib.hid hn
  obtain ⟨na, nc, rfl, -⟩ := hn
  have KN := Lib.hid known_any
  have WI := Lib.hid fun W => lwithin q 12 W (by decide) (by decide)
  obtain ⟨t, ht⟩ := Int.eq_ofNat_of_zero_le (Int.emod_nonneg q (show (12 : Int) ≠ 0 by decide))
  have ht2 := Int.emod_lt_of_pos q (show (0 : Int) < 12 by decide)
  rw [ht] at WI ht2
  have ht3 : t < 12 := by omega
  clear ht ht2
  unfold formA
  go_enter Try.func5, Try.ntmps5
  go_upto_region 1 with fail
  obtain ⟨wA, hwA⟩ : ∃ wA, wA = w.alloc (.cells (formA f (.slice na nl.length nc)) 24) := ⟨_, rfl⟩
  have hh : Blk wA w.heap.size 24 (formA f (.slice na nl.length nc)) := by rw [hwA]; exact Blk.new _ _ _
  have hBA : Below w.heap.size w wA := by rw [hwA]; exact (Below.refl _ _).alloc (Nat.le_refl _) _
  have hsA : w.heap.size < wA.heap.size := by rw [hwA]; simp
  unfold formA at hwA
  simp only [← hwA]
  clear hwA
  have HH := Lib.hid (And.intro hh hBA)
  clear hh hBA
  go_upto_region 3 with (go_at_call 11; refine (KN.out _).mono ?_; rintro e w1 ⟨rfl, hB1⟩)
  have hh1 := HH.out.1.below hB1 hsA
  have hw1 := HH.out.2.trans (hB1.mono HH.out.2.size)
  have R1 : Hid (Rg f (.slice na nl.length nc) nl w w1) := Lib.hid ⟨hw1, hh1, HN.out.keep hw1⟩
  clear hh1 hw1 hB1 HH hsA KN
  refine wp_piece (sames_r3 _ f (.slice na nl.length nc) nl w w1 _ _ _ _ _ _ _ _ _ _ _ _ _ _ _ _ _ _ _ _ _ _ _ _ _ _ _ _ _ _ _ _ _ _ _ _ _ _ _ _ _ _ _ _ _ _ _ _ _ _ _ _ _ _ _ _ _ _ _ _ _ _ _ _ _ _ _ _ _ _ _ _ _ _ _ _ _ _ _ _ _ _ _ _ _ _ _ _ _ _ _ _ _ _ _ _ _ _ _ _ _ _ _ _ _ _ _ _ _ _ _ _ _ _ _ _ _ _ _ _ _ _ _ _ _ _ _ _ _ _ _ _ _ _ _ _ _ _ _ _ _ _ _ _ _ _ _ _ _ _ _ HN.out R1.out ?_)
  rintro u12 u13 u14 u15 u16 u17 g7 g8 ga gb m p vc ca m' p' vc' cb w2 T hB2
  have T2 := Lib.hid T
  have HB2 := Lib.hid hB2
  clear T hB2 HN R1
  go_upto_region 4 with fail
  have M2 := made_par T2.out.k7.2 T2.out.k8.2
  have n4 : m.cs.length ≤ 4 := T2.out.k7.1.n4
  have n1 : 1 ≤ m.cs.length := T2.out.k7.1.n1
  have n4' : m'.cs.length ≤ 4 := T2.out.k8.1.n4
  have n1' : 1 ≤ m'.cs.length := T2.out.k8.1.n1
  refine wp_piece (sames_r4 _ g7 g8 _ _ rfl rfl w2 _ _ _ _ _ _ _ _ _ _ _ _ _ _ _ _ _ _ _ _ _ _ _ _ _ _ _ _ _ _ _ _ _ _ _ _ _ _ _ _ _ _ _ _ _ _ _ _ _ _ _ _ _ _ _ _ _ _ _ _ _ _ _ _ _ _ _ _ _ _ _ _ _ _ _ _ _ _ _ _ _ _ _ _ _ _ _ _ _ _ _ _ _ _ _ _ _ _ _ _ _ _ _ _ _ _ _ _ _ _ _ _ _ _ _ _ _ _ _ _ _ _ _ _ _ _ _ _ _ _ _ _ _ _ _ _ _ _ _ _ _ _ _ _ _ _ _ _ _ _ T2.out.b7 T2.out.b8 (same_true (CompsRd.of_owns T2.out.c7) (CompsRd.of_owns T2.out.c8) T2.out.o7.bv T2.out.o8.bv (by omega) (by decide) ⟨made_same T2.out.k7.2 T2.out.k8.2, M2.2.1, M2.2.2.1, M2.2.2.2.1, M2.2.2.2.2.1, M2.2.2.2.2.2, rfl⟩) ?_)
  rintro u18 u19 w3 hb3
  have T3 := Lib.hid (T2.out.keep hb3)
  have HB3 := Lib.hid (HB2.out.trans (hb3.mono HB2.out.size))
  have HM2 := Lib.hid M2
  clear hb3 T2 HB2 M2
  have c4 : w3.cell? ⟨g8, 4, none⟩ = some (.slice (some ⟨gb, 0, none⟩) m'.cs.length vc') := T3.out.b8.cell 4
  obtain ⟨kn, hkn⟩ := Int.eq_ofNat_of_zero_le (Int.emod_nonneg n (show (m'.cs.length : Int) ≠ 0 by omega))
  have hkl := Int.emod_lt_of_pos n (show (0 : Int) < (m'.cs.length : Int) by omega)
  have WK := Lib.hid fun W => lwithin n m'.cs.length W (by omega) (by omega)
  rw [hkn] at hkl WK
  have hkl2 : kn < m'.cs.length := by omega
  clear hkn
  go_upto_region 7 with (go_at_call 15; refine (WK.out _).mono ?_; rintro e w' ⟨rfl, rfl⟩)
  have hdk : m'.cs[kn]? = some (m'.cs[kn]'hkl2) := List.getElem?_eq_getElem _
  have hck : m.cs[kn]? = some (m.cs[kn]'(by have := HM2.out.1; omega)) := List.getElem?_eq_getElem _
  obtain ⟨dk, hdk'⟩ : ∃ d, m'.cs[kn]'hkl2 = d := ⟨_, rfl⟩
  obtain ⟨ck, hck'⟩ : ∃ d, m.cs[kn]'(by have := HM2.out.1; omega) = d := ⟨_, rfl⟩
  rw [hdk'] at hdk
  rw [hck'] at hck
  clear hdk' hck'
  obtain ⟨gb2, dv, e, hgB, hgl, -, hdo, hcell, hfz, hput, hother, hbyte, hhead⟩ := comps_at T3.out.c8 hdk
  simp only [Option.some.injEq, Addr.mk.injEq, and_true] at e
  subst e
  have HC := Lib.hid (And.intro hcell (And.intro hfz (And.intro hput (And.intro hother (And.intro hbyte (And.intro hhead (And.intro hdo hgB)))))))
  have HK := Lib.hid (And.intro hck hdk)
  have MC := Lib.hid (made_cs T3.out.k7.2 T3.out.k8.2 kn ck dk hck hdk)
  have MS := Lib.hid (made_small T3.out.k8.1 hdk)
  clear hcell hfz hput hother hbyte hhead hgB hdo hck hdk hgl
  have ht : t = 0 ∨ t = 1 ∨ t = 2 ∨ t = 3 ∨ t = 4 ∨ t = 5 ∨ t = 6 ∨ t = 7 ∨ t = 8 ∨ t = 9 ∨ t = 10 ∨ t = 11 := by omega
  clear ht3 c4
  rcases ht with rfl | rfl | rfl | rfl | rfl | rfl | rfl | rfl | rfl | rfl | rfl | rfl
  · have c : w3.cell? ⟨g8, 0, none⟩ = some (.int .i64 m'.x) := T3.out.b8.cell 0
    have fz := T3.out.b8.frozen 0
    have h1 := T3.out.k8.1.x1
    have h2 := T3.out.k8.1.ox1
    have h3 := T3.out.k8.1.x0
    have h4 := T3.out.k8.1.ox0
    have hwr : IntKind.i64.wrap (m'.x + 1) = m'.x + 1 := IntWalk.i64_in _ (by omega)
    go_upto_region 33 with (go_at_call 15; refine (WI.out _).mono ?_; rintro e w' ⟨rfl, rfl⟩)
    try rw [hwr]
    obtain ⟨w4, hw4⟩ : ∃ w4, w4 = w3.setCell ⟨g8, 0, none⟩ (.int .i64 (m'.x + 1)) := ⟨_, rfl⟩
    have hgr : w3.grownBy w4 (some g8) := by rw [hw4]; exact only_setCell (World.grownBy.refl _ _) (p := ⟨g8, 0, none⟩) (.inl rfl) _
    have q7 : Blk w4 g7 33 (headA m (.slice (some ⟨ga, 0, none⟩) m.cs.length vc) p ca) := T3.out.b7.grown hgr (by have := T3.out.n2; simpa using this)
    have q8 : Blk w4 g8 33 (headA { m' with x := m'.x + 1 } (.slice (some ⟨gb, 0, none⟩) m'.cs.length vc') p' cb) := by rw [hw4]; exact T3.out.b8.set_ 0 _
    have d7 := CompsRd.of_owns (CompsOwn.off T3.out.c7 T3.out.b8 (by decide) (by decide) hgr)
    have d8 := CompsRd.of_owns (CompsOwn.off T3.out.c8 T3.out.b8 (by decide) (by decide) hgr)
    have v7 := (Own1.off T3.out.o7 T3.out.b8 hgr).bv
    have v8 := (Own1.off T3.out.o8 T3.out.b8 hgr).bv
    have hB4 := HB3.out.trans (below_grown (B := w.heap.size) hgr HB3.out.size (by rintro k ⟨⟩; exact T3.out.l8))
    have ne1 : ¬ (SameCs m.cs m'.cs ∧ m.x = ({ m' with x := m'.x + 1 } : ImgD).x ∧ m.y = ({ m' with x := m'.x + 1 } : ImgD).y ∧ m.ox = ({ m' with x := m'.x + 1 } : ImgD).ox ∧ m.oy = ({ m' with x := m'.x + 1 } : ImgD).oy ∧ p = p' ∧ ([1] : List UInt8) = [1]) := fun h => by have h1 := h.2.1; have h2 := HM2.out.2.1; simp only at h1; omega
    have ne2 : ¬ (SameCs m'.cs m.cs ∧ ({ m' with x := m'.x + 1 } : ImgD).x = m.x ∧ ({ m' with x := m'.x + 1 } : ImgD).y = m.y ∧ ({ m' with x := m'.x + 1 } : ImgD).ox = m.ox ∧ ({ m' with x := m'.x + 1 } : ImgD).oy = m.oy ∧ p' = p ∧ ([1] : List UInt8) = [1]) := fun h => by have h1 := h.2.1; have h2 := HM2.out.2.1; simp only at h1; omega
    simp only [← hw4]
    clear hw4
    refine wp_piece (sames_r33 _ g7 g8 _ _ rfl rfl w4 _ _ _ _ _ _ _ _ _ _ _ _ _ _ _ _ _ _ _ _ _ _ _ _ _ _ _ _ _ _ _ _ _ _ _ _ _ _ _ _ _ _ _ _ _ _ _ _ _ _ _ _ _ _ _ _ _ _ _ _ _ _ _ _ _ _ _ _ _ _ _ _ _ _ _ _ _ _ _ _ _ _ _ _ _ _ _ _ _ _ _ _ _ _ _ _ _ _ _ _ _ _ _ _ _ _ _ _ _ _ _ _ _ _ _ _ _ _ _ _ _ _ _ _ _ _ _ _ _ _ _ _ _ _ _ _ _ _ _ _ _ _ _ _ _ _ _ _ _ _ q7 q8 (same_false (m' := { m' with x := m'.x + 1 }) (p' := p') d7 d8 v7 v8 (by omega) (by decide) ne1) (fun W hb => same_false (m := { m' with x := m'.x + 1 }) (p := p') (d8.keep hb) (d7.keep hb) (v8.keep hb) (v7.keep hb) (by first | omega | (simp only; omega)) (by decide) ne2) ?_)
    rintro _ _ _ _ _ _ _ _ _ _ w5 hb5
    have HB5 := Lib.hid (hB4.trans (hb5.mono hB4.size))
    clear hb5 hB4 d7 d8 v7 v8 q7 q8 ne1 ne2 hgr
    go_wp2_with fail
    go_ret
    exact ⟨rfl, HB5.out⟩
  · have c : w3.cell? ⟨g8, 3, none⟩ = some (.int .i64 m'.oy) := T3.out.b8.cell 3
    have fz := T3.out.b8.frozen 3
    have h1 := T3.out.k8.1.oy0
    have h2 := T3.out.k8.1.oy1
    have hwr : IntKind.i64.wrap (m'.oy + 1) = m'.oy + 1 := IntWalk.i64_in _ (by omega)
    go_upto_region 33 with (go_at_call 15; refine (WI.out _).mono ?_; rintro e w' ⟨rfl, rfl⟩)
    try rw [hwr]
    obtain ⟨w4, hw4⟩ : ∃ w4, w4 = w3.setCell ⟨g8, 3, none⟩ (.int .i64 (m'.oy + 1)) := ⟨_, rfl⟩
    have hgr : w3.grownBy w4 (some g8) := by rw [hw4]; exact only_setCell (World.grownBy.refl _ _) (p := ⟨g8, 3, none⟩) (.inl rfl) _
    have q7 : Blk w4 g7 33 (headA m (.slice (some ⟨ga, 0, none⟩) m.cs.length vc) p ca) := T3.out.b7.grown hgr (by have := T3.out.n2; simpa using this)
    have q8 : Blk w4 g8 33 (headA { m' with oy := m'.oy + 1 } (.slice (some ⟨gb, 0, none⟩) m'.cs.length vc') p' cb) := by rw [hw4]; exact T3.out.b8.set_ 3 _
    have d7 := CompsRd.of_owns (CompsOwn.off T3.out.c7 T3.out.b8 (by decide) (by decide) hgr)
    have d8 := CompsRd.of_owns (CompsOwn.off T3.out.c8 T3.out.b8 (by decide) (by decide) hgr)
    have v7 := (Own1.off T3.out.o7 T3.out.b8 hgr).bv
    have v8 := (Own1.off T3.out.o8 T3.out.b8 hgr).bv
    have hB4 := HB3.out.trans (below_grown (B := w.heap.size) hgr HB3.out.size (by rintro k ⟨⟩; exact T3.out.l8))
    have ne1 : ¬ (SameCs m.cs m'.cs ∧ m.x = ({ m' with oy := m'.oy + 1 } : ImgD).x ∧ m.y = ({ m' with oy := m'.oy + 1 } : ImgD).y ∧ m.ox = ({ m' with oy := m'.oy + 1 } : ImgD).ox ∧ m.oy = ({ m' with oy := m'.oy + 1 } : ImgD).oy ∧ p = p' ∧ ([1] : List UInt8) = [1]) := fun h => by have h1 := h.2.2.2.2.1; have h2 := HM2.out.2.2.2.2.1; simp only at h1; omega
    have ne2 : ¬ (SameCs m'.cs m.cs ∧ ({ m' with oy := m'.oy + 1 } : ImgD).x = m.x ∧ ({ m' with oy := m'.oy + 1 } : ImgD).y = m.y ∧ ({ m' with oy := m'.oy + 1 } : ImgD).ox = m.ox ∧ ({ m' with oy := m'.oy + 1 } : ImgD).oy = m.oy ∧ p' = p ∧ ([1] : List UInt8) = [1]) := fun h => by have h1 := h.2.2.2.2.1; have h2 := HM2.out.2.2.2.2.1; simp only at h1; omega
    simp only [← hw4]
    clear hw4
    refine wp_piece (sames_r33 _ g7 g8 _ _ rfl rfl w4 _ _ _ _ _ _ _ _ _ _ _ _ _ _ _ _ _ _ _ _ _ _ _ _ _ _ _ _ _ _ _ _ _ _ _ _ _ _ _ _ _ _ _ _ _ _ _ _ _ _ _ _ _ _ _ _ _ _ _ _ _ _ _ _ _ _ _ _ _ _ _ _ _ _ _ _ _ _ _ _ _ _ _ _ _ _ _ _ _ _ _ _ _ _ _ _ _ _ _ _ _ _ _ _ _ _ _ _ _ _ _ _ _ _ _ _ _ _ _ _ _ _ _ _ _ _ _ _ _ _ _ _ _ _ _ _ _ _ _ _ _ _ _ _ _ _ _ _ _ _ q7 q8 (same_false (m' := { m' with oy := m'.oy + 1 }) (p' := p') d7 d8 v7 v8 (by omega) (by decide) ne1) (fun W hb => same_false (m := { m' with oy := m'.oy + 1 }) (p := p') (d8.keep hb) (d7.keep hb) (v8.keep hb) (v7.keep hb) (by first | omega | (simp only; omega)) (by decide) ne2) ?_)
    rintro _ _ _ _ _ _ _ _ _ _ w5 hb5
    have HB5 := Lib.hid (hB4.trans (hb5.mono hB4.size))
    clear hb5 hB4 d7 d8 v7 v8 q7 q8 ne1 ne2 hgr
    go_wp2_with fail
    go_ret
    exact ⟨rfl, HB5.out⟩
  · have c4 : w3.cell? ⟨g8, 4, none⟩ = some (.slice (some ⟨gb, 0, none⟩) m'.cs.length vc') := T3.out.b8.cell 4
    have c : w3.cell? ⟨gb, kn * 5, none⟩ = some (.int .i64 dk.depth) := HC.out.1 0 _ rfl
    have fz : w3.frozen? ⟨gb, kn * 5, none⟩ = false := HC.out.2.1 _
    obtain ⟨h1, h2, h3, h4⟩ := MS.out
    have hwr : IntKind.i64.wrap (dk.depth + 1) = dk.depth + 1 := IntWalk.i64_in _ (by omega)
    go_upto_region 33 with (go_at_call 15; refine (WI.out _).mono ?_; rintro e w' ⟨rfl, rfl⟩)
    try rw [hwr]
    obtain ⟨w4, hw4⟩ : ∃ w4, w4 = w3.setCell ⟨gb, kn * 5, none⟩ (.int .i64 (dk.depth + 1)) := ⟨_, rfl⟩
    have hgr : w3.grownBy w4 (some gb) := by rw [hw4]; exact only_setCell (World.grownBy.refl _ _) (p := ⟨gb, kn * 5, none⟩) (.inl rfl) _
    have q7 : Blk w4 g7 33 (headA m (.slice (some ⟨ga, 0, none⟩) m.cs.length vc) p ca) := T3.out.b7.grown hgr (by have := HC.out.2.2.2.2.2.1 _ _ T3.out.b7; simpa using this)
    have hlk : (m'.cs.set kn { dk with depth := dk.depth + 1 }).length = m'.cs.length := List.length_set
    have q8 : Blk w4 g8 33 (headA { m' with cs := m'.cs.set kn { dk with depth := dk.depth + 1 } } (.slice (some ⟨gb, 0, none⟩) m'.cs.length vc') p' cb) := T3.out.b8.grown hgr (by have := HC.out.2.2.2.2.2.1 _ _ T3.out.b8; simpa using this)
    have d7 := CompsRd.of_owns (HC.out.2.2.2.1 _ _ _ _ _ T3.out.c7 T3.out.n1 (kn * 5) (.int .i64 (dk.depth + 1)))
    have d8 := CompsRd.of_owns (HC.out.2.2.1 { dk with depth := dk.depth + 1 } dv 0 (.int .i64 (dk.depth + 1)) (by decide) rfl HC.out.2.2.2.2.2.2.1)
    have v7 := (show Own1 w.heap.size (w3.setCell ⟨gb, kn * 5, none⟩ (.int .i64 (dk.depth + 1))) ca from by obtain ⟨g, rfl, h⟩ := T3.out.o7; exact ⟨g, rfl, HC.out.2.2.2.2.1 _ _ _ _ h _ _⟩).bv
    have v8 := (show Own1 w.heap.size (w3.setCell ⟨gb, kn * 5, none⟩ (.int .i64 (dk.depth + 1))) cb from by obtain ⟨g, rfl, h⟩ := T3.out.o8; exact ⟨g, rfl, HC.out.2.2.2.2.1 _ _ _ _ h _ _⟩).bv
    simp only [Nat.add_zero] at d8
    rw [← hw4] at d7 d8 v7 v8
    have hB4 := HB3.out.trans (below_grown (B := w.heap.size) hgr HB3.out.size (by rintro k ⟨⟩; exact HC.out.2.2.2.2.2.2.2))
    have NS := not_same_set HK.out.1 HK.out.2 (c' := { dk with depth := dk.depth + 1 }) (by have := MC.out.1; simp [sameC, this] <;> (intros; omega)) (by have := MC.out.1; simp [sameC, this] <;> (intros; omega))
    have ne1 : ¬ (SameCs m.cs (m'.cs.set kn { dk with depth := dk.depth + 1 }) ∧ m.x = m'.x ∧ m.y = m'.y ∧ m.ox = m'.ox ∧ m.oy = m'.oy ∧ p = p' ∧ ([1] : List UInt8) = [1]) := fun h => NS.1 h.1
    have ne2 : ¬ (SameCs (m'.cs.set kn { dk with depth := dk.depth + 1 }) m.cs ∧ m'.x = m.x ∧ m'.y = m.y ∧ m'.ox = m.ox ∧ m'.oy = m.oy ∧ p' = p ∧ ([1] : List UInt8) = [1]) := fun h => NS.2 h.1
    simp only [← hw4]
    clear hw4
    refine wp_piece (sames_r33 _ g7 g8 _ _ rfl rfl w4 _ _ _ _ _ _ _ _ _ _ _ _ _ _ _ _ _ _ _ _ _ _ _ _ _ _ _ _ _ _ _ _ _ _ _ _ _ _ _ _ _ _ _ _ _ _ _ _ _ _ _ _ _ _ _ _ _ _ _ _ _ _ _ _ _ _ _ _ _ _ _ _ _ _ _ _ _ _ _ _ _ _ _ _ _ _ _ _ _ _ _ _ _ _ _ _ _ _ _ _ _ _ _ _ _ _ _ _ _ _ _ _ _ _ _ _ _ _ _ _ _ _ _ _ _ _ _ _ _ _ _ _ _ _ _ _ _ _ _ _ _ _ _ _ _ _ _ _ _ _ q7 q8 (same_false (m' := { m' with cs := m'.cs.set kn { dk with depth := dk.depth + 1 } }) (p' := p') d7 d8 v7 v8 (by omega) (by decide) ne1) (fun W hb => same_false (m := { m' with cs := m'.cs.set kn { dk with depth := dk.depth + 1 } }) (p := p') (d8.keep hb) (d7.keep hb) (v8.keep hb) (v7.keep hb) (by simp only [List.length_set]; omega) (by decide) ne2) ?_)
    rintro _ _ _ _ _ _ _ _ _ _ w5 hb5
    have HB5 := Lib.hid (hB4.trans (hb5.mono hB4.size))
    clear hb5 hB4 d7 d8 v7 v8 q7 q8 ne1 ne2 hgr
    go_wp2_with fail
    go_ret
    exact ⟨rfl, HB5.out⟩
  · have c4 : w3.cell? ⟨g8, 4, none⟩ = some (.slice (some ⟨gb, 0, none⟩) m'.cs.length vc') := T3.out.b8.cell 4
    have c : w3.cell? ⟨gb, kn * 5 + 1, none⟩ = some (.bool dk.signed) := HC.out.1 1 _ rfl
    have fz : w3.frozen? ⟨gb, kn * 5 + 1, none⟩ = false := HC.out.2.1 _
    go_upto_region 15 with (go_at_call 15; refine (WI.out _).mono ?_; rintro e w' ⟨rfl, rfl⟩)
    go_region
    go_upto_region 33 with (go_at_call 15; refine (WI.out _).mono ?_; rintro e w' ⟨rfl, rfl⟩)
    obtain ⟨w4, hw4⟩ : ∃ w4, w4 = w3.setCell ⟨gb, kn * 5 + 1, none⟩ (.bool (!dk.signed)) := ⟨_, rfl⟩
    have hgr : w3.grownBy w4 (some gb) := by rw [hw4]; exact only_setCell (World.grownBy.refl _ _) (p := ⟨gb, kn * 5 + 1, none⟩) (.inl rfl) _
    have q7 : Blk w4 g7 33 (headA m (.slice (some ⟨ga, 0, none⟩) m.cs.length vc) p ca) := T3.out.b7.grown hgr (by have := HC.out.2.2.2.2.2.1 _ _ T3.out.b7; simpa using this)
    have hlk : (m'.cs.set kn { dk with signed := !dk.signed }).length = m'.cs.length := List.length_set
    have q8 : Blk w4 g8 33 (headA { m' with cs := m'.cs.set kn { dk with signed := !dk.signed } } (.slice (some ⟨gb, 0, none⟩) m'.cs.length vc') p' cb) := T3.out.b8.grown hgr (by have := HC.out.2.2.2.2.2.1 _ _ T3.out.b8; simpa using this)
    have d7 := CompsRd.of_owns (HC.out.2.2.2.1 _ _ _ _ _ T3.out.c7 T3.out.n1 (kn * 5 + 1) (.bool (!dk.signed)))
    have d8 := CompsRd.of_owns (HC.out.2.2.1 { dk with signed := !dk.signed } dv 1 (.bool (!dk.signed)) (by decide) rfl HC.out.2.2.2.2.2.2.1)
    have v7 := (show Own1 w.heap.size (w3.setCell ⟨gb, kn * 5 + 1, none⟩ (.bool (!dk.signed))) ca from by obtain ⟨g, rfl, h⟩ := T3.out.o7; exact ⟨g, rfl, HC.out.2.2.2.2.1 _ _ _ _ h _ _⟩).bv
    have v8 := (show Own1 w.heap.size (w3.setCell ⟨gb, kn * 5 + 1, none⟩ (.bool (!dk.signed))) cb from by obtain ⟨g, rfl, h⟩ := T3.out.o8; exact ⟨g, rfl, HC.out.2.2.2.2.1 _ _ _ _ h _ _⟩).bv
    rw [← hw4] at d7 d8 v7 v8
    have hB4 := HB3.out.trans (below_grown (B := w.heap.size) hgr HB3.out.size (by rintro k ⟨⟩; exact HC.out.2.2.2.2.2.2.2))
    have NS := not_same_set HK.out.1 HK.out.2 (c' := { dk with signed := !dk.signed }) (by have := MC.out.2.1; simp [sameC, this] <;> (intros; omega)) (by have := MC.out.2.1; simp [sameC, this] <;> (intros; omega))
    have ne1 : ¬ (SameCs m.cs (m'.cs.set kn { dk with signed := !dk.signed }) ∧ m.x = m'.x ∧ m.y = m'.y ∧ m.ox = m'.ox ∧ m.oy = m'.oy ∧ p = p' ∧ ([1] : List UInt8) = [1]) := fun h => NS.1 h.1
    have ne2 : ¬ (SameCs (m'.cs.set kn { dk with signed := !dk.signed }) m.cs ∧ m'.x = m.x ∧ m'.y = m.y ∧ m'.ox = m.ox ∧ m'.oy = m.oy ∧ p' = p ∧ ([1] : List UInt8) = [1]) := fun h => NS.2 h.1
    simp only [← hw4]
    clear hw4
    have dr : Below w4.heap.size w4 w4.drew := (Below.refl _ _).drew
    have l7 := q7.lt
    have l8 := q8.lt
    replace q7 := q7.below dr l7
    replace q8 := q8.below dr l8
    replace d7 := d7.keep dr
    replace d8 := d8.keep dr
    replace v7 := v7.keep dr
    replace v8 := v8.keep dr
    replace hB4 := hB4.trans (dr.mono hB4.size)
    clear dr hgr
    generalize w4.drew = w4 at *
    have hgr := trivial
    refine wp_piece (sames_r33 _ g7 g8 _ _ rfl rfl w4 _ _ _ _ _ _ _ _ _ _ _ _ _ _ _ _ _ _ _ _ _ _ _ _ _ _ _ _ _ _ _ _ _ _ _ _ _ _ _ _ _ _ _ _ _ _ _ _ _ _ _ _ _ _ _ _ _ _ _ _ _ _ _ _ _ _ _ _ _ _ _ _ _ _ _ _ _ _ _ _ _ _ _ _ _ _ _ _ _ _ _ _ _ _ _ _ _ _ _ _ _ _ _ _ _ _ _ _ _ _ _ _ _ _ _ _ _ _ _ _ _ _ _ _ _ _ _ _ _ _ _ _ _ _ _ _ _ _ _ _ _ _ _ _ _ _ _ _ _ _ q7 q8 (same_false (m' := { m' with cs := m'.cs.set kn { dk with signed := !dk.signed } }) (p' := p') d7 d8 v7 v8 (by omega) (by decide) ne1) (fun W hb => same_false (m := { m' with cs := m'.cs.set kn { dk with signed := !dk.signed } }) (p := p') (d8.keep hb) (d7.keep hb) (v8.keep hb) (v7.keep hb) (by simp only [List.length_set]; omega) (by decide) ne2) ?_)
    rintro _ _ _ _ _ _ _ _ _ _ w5 hb5
    have HB5 := Lib.hid (hB4.trans (hb5.mono hB4.size))
    clear hb5 hB4 d7 d8 v7 v8 q7 q8 ne1 ne2 hgr
    go_wp2_with fail
    go_ret
    exact ⟨rfl, HB5.out⟩
  · have c4 : w3.cell? ⟨g8, 4, none⟩ = some (.slice (some ⟨gb, 0, none⟩) m'.cs.length vc') := T3.out.b8.cell 4
    have c : w3.cell? ⟨gb, kn * 5 + 2, none⟩ = some (.int .i64 dk.dx) := HC.out.1 2 _ rfl
    have fz : w3.frozen? ⟨gb, kn * 5 + 2, none⟩ = false := HC.out.2.1 _
    obtain ⟨h1, h2, h3, h4⟩ := MS.out
    have hwr : IntKind.i64.wrap (dk.dx + 1) = dk.dx + 1 := IntWalk.i64_in _ (by omega)
    go_upto_region 33 with (go_at_call 15; refine (WI.out _).mono ?_; rintro e w' ⟨rfl, rfl⟩)
    try rw [hwr]
    obtain ⟨w4, hw4⟩ : ∃ w4, w4 = w3.setCell ⟨gb, kn * 5 + 2, none⟩ (.int .i64 (dk.dx + 1)) := ⟨_, rfl⟩
    have hgr : w3.grownBy w4 (some gb) := by rw [hw4]; exact only_setCell (World.grownBy.refl _ _) (p := ⟨gb, kn * 5 + 2, none⟩) (.inl rfl) _
    have q7 : Blk w4 g7 33 (headA m (.slice (some ⟨ga, 0, none⟩) m.cs.length vc) p ca) := T3.out.b7.grown hgr (by have := HC.out.2.2.2.2.2.1 _ _ T3.out.b7; simpa using this)
    have hlk : (m'.cs.set kn { dk with dx := dk.dx + 1 }).length = m'.cs.length := List.length_set
    have q8 : Blk w4 g8 33 (headA { m' with cs := m'.cs.set kn { dk with dx := dk.dx + 1 } } (.slice (some ⟨gb, 0, none⟩) m'.cs.length vc') p' cb) := T3.out.b8.grown hgr (by have := HC.out.2.2.2.2.2.1 _ _ T3.out.b8; simpa using this)
    have d7 := CompsRd.of_owns (HC.out.2.2.2.1 _ _ _ _ _ T3.out.c7 T3.out.n1 (kn * 5 + 2) (.int .i64 (dk.dx + 1)))
    have d8 := CompsRd.of_owns (HC.out.2.2.1 { dk with dx := dk.dx + 1 } dv 2 (.int .i64 (dk.dx + 1)) (by decide) rfl HC.out.2.2.2.2.2.2.1)
    have v7 := (show Own1 w.heap.size (w3.setCell ⟨gb, kn * 5 + 2, none⟩ (.int .i64 (dk.dx + 1))) ca from by obtain ⟨g, rfl, h⟩ := T3.out.o7; exact ⟨g, rfl, HC.out.2.2.2.2.1 _ _ _ _ h _ _⟩).bv
    have v8 := (show Own1 w.heap.size (w3.setCell ⟨gb, kn * 5 + 2, none⟩ (.int .i64 (dk.dx + 1))) cb from by obtain ⟨g, rfl, h⟩ := T3.out.o8; exact ⟨g, rfl, HC.out.2.2.2.2.1 _ _ _ _ h _ _⟩).bv
    rw [← hw4] at d7 d8 v7 v8
    have hB4 := HB3.out.trans (below_grown (B := w.heap.size) hgr HB3.out.size (by rintro k ⟨⟩; exact HC.out.2.2.2.2.2.2.2))
    have NS := not_same_set HK.out.1 HK.out.2 (c' := { dk with dx := dk.dx + 1 }) (by have := MC.out.2.2.1; simp [sameC, this] <;> (intros; omega)) (by have := MC.out.2.2.1; simp [sameC, this] <;> (intros; omega))
    have ne1 : ¬ (SameCs m.cs (m'.cs.set kn { dk with dx := dk.dx + 1 }) ∧ m.x = m'.x ∧ m.y = m'.y ∧ m.ox = m'.ox ∧ m.oy = m'.oy ∧ p = p' ∧ ([1] : List UInt8) = [1]) := fun h => NS.1 h.1
    have ne2 : ¬ (SameCs (m'.cs.set kn { dk with dx := dk.dx + 1 }) m.cs ∧ m'.x = m.x ∧ m'.y = m.y ∧ m'.ox = m.ox ∧ m'.oy = m.oy ∧ p' = p ∧ ([1] : List UInt8) = [1]) := fun h => NS.2 h.1
    simp only [← hw4]
    clear hw4
    refine wp_piece (sames_r33 _ g7 g8 _ _ rfl rfl w4 _ _ _ _ _ _ _ _ _ _ _ _ _ _ _ _ _ _ _ _ _ _ _ _ _ _ _ _ _ _ _ _ _ _ _ _ _ _ _ _ _ _ _ _ _ _ _ _ _ _ _ _ _ _ _ _ _ _ _ _ _ _ _ _ _ _ _ _ _ _ _ _ _ _ _ _ _ _ _ _ _ _ _ _ _ _ _ _ _ _ _ _ _ _ _ _ _ _ _ _ _ _ _ _ _ _ _ _ _ _ _ _ _ _ _ _ _ _ _ _ _ _ _ _ _ _ _ _ _ _ _ _ _ _ _ _ _ _ _ _ _ _ _ _ _ _ _ _ _ _ q7 q8 (same_false (m' := { m' with cs := m'.cs.set kn { dk with dx := dk.dx + 1 } }) (p' := p') d7 d8 v7 v8 (by omega) (by decide) ne1) (fun W hb => same_false (m := { m' with cs := m'.cs.set kn { dk with dx := dk.dx + 1 } }) (p := p') (d8.keep hb) (d7.keep hb) (v8.keep hb) (v7.keep hb) (by simp only [List.length_set]; omega) (by decide) ne2) ?_)
    rintro _ _ _ _ _ _ _ _ _ _ w5 hb5
    have HB5 := Lib.hid (hB4.trans (hb5.mono hB4.size))
    clear hb5 hB4 d7 d8 v7 v8 q7 q8 ne1 ne2 hgr
    go_wp2_with fail
    go_ret
    exact ⟨rfl, HB5.out⟩
  · have c4 : w3.cell? ⟨g8, 4, none⟩ = some (.slice (some ⟨gb, 0, none⟩) m'.cs.length vc') := T3.out.b8.cell 4
    have fz := T3.out.b8.frozen 4
    have hcap : m'.cs.length ≤ vc' := by obtain ⟨a, c, e, h1, -⟩ := CompsRd.of_owns T3.out.c8; simp only [Value.slice.injEq] at e; omega
    have hkv : kn ≤ vc' := by omega
    have hkvi : (kn : Int) ≤ (vc' : Int) := by omega
    go_upto_region 33 with (go_at_call 15; refine (WI.out _).mono ?_; rintro e w' ⟨rfl, rfl⟩)
    obtain ⟨w4, hw4⟩ : ∃ w4, w4 = w3.setCell ⟨g8, 4, none⟩ (.slice (some ⟨gb, 0, none⟩) kn vc') := ⟨_, rfl⟩
    have hgr : w3.grownBy w4 (some g8) := by rw [hw4]; exact only_setCell (World.grownBy.refl _ _) (p := ⟨g8, 4, none⟩) (.inl rfl) _
    have q7 : Blk w4 g7 33 (headA m (.slice (some ⟨ga, 0, none⟩) m.cs.length vc) p ca) := T3.out.b7.grown hgr (by have := T3.out.n2; simpa using this)
    have q8 : Blk w4 g8 33 (headA { m' with cs := m'.cs.take kn } (.slice (some ⟨gb, 0, none⟩) kn vc') p' cb) := by rw [hw4]; exact T3.out.b8.set_ 4 _
    have d7 := CompsRd.of_owns (CompsOwn.off T3.out.c7 T3.out.b8 (by decide) (by decide) hgr)
    have d8 : CompsRd w4 (.slice (some ⟨gb, 0, none⟩) kn vc') (m'.cs.take kn) := (CompsRd.of_owns (CompsOwn.off T3.out.c8 T3.out.b8 (by decide) (by decide) hgr)).front kn (by omega)
    have v7 := (Own1.off T3.out.o7 T3.out.b8 hgr).bv
    have v8 := (Own1.off T3.out.o8 T3.out.b8 hgr).bv
    have hB4 := HB3.out.trans (below_grown (B := w.heap.size) hgr HB3.out.size (by rintro k ⟨⟩; exact T3.out.l8))
    have hlt : (m'.cs.take kn).length = kn := by rw [List.length_take]; omega
    have ne1 : ¬ (SameCs m.cs (m'.cs.take kn) ∧ m.x = m'.x ∧ m.y = m'.y ∧ m.ox = m'.ox ∧ m.oy = m'.oy ∧ p = p' ∧ ([1] : List UInt8) = [1]) := fun h => by have h1 := h.1.1; have h2 := HM2.out.1; omega
    have ne2 : ¬ (SameCs (m'.cs.take kn) m.cs ∧ m'.x = m.x ∧ m'.y = m.y ∧ m'.ox = m.ox ∧ m'.oy = m.oy ∧ p' = p ∧ ([1] : List UInt8) = [1]) := fun h => by have h1 := h.1.1; have h2 := HM2.out.1; omega
    simp only [← hw4]
    clear hw4
    refine wp_piece (sames_r33 _ g7 g8 _ _ rfl rfl w4 _ _ _ _ _ _ _ _ _ _ _ _ _ _ _ _ _ _ _ _ _ _ _ _ _ _ _ _ _ _ _ _ _ _ _ _ _ _ _ _ _ _ _ _ _ _ _ _ _ _ _ _ _ _ _ _ _ _ _ _ _ _ _ _ _ _ _ _ _ _ _ _ _ _ _ _ _ _ _ _ _ _ _ _ _ _ _ _ _ _ _ _ _ _ _ _ _ _ _ _ _ _ _ _ _ _ _ _ _ _ _ _ _ _ _ _ _ _ _ _ _ _ _ _ _ _ _ _ _ _ _ _ _ _ _ _ _ _ _ _ _ _ _ _ _ _ _ _ _ _ q7 q8 (same_false (m' := { m' with cs := m'.cs.take kn }) (p' := p') d7 d8 v7 v8 (by omega) (by decide) ne1) (fun W hb => same_false (m := { m' with cs := m'.cs.take kn }) (p := p') (d8.keep hb) (d7.keep hb) (v8.keep hb) (v7.keep hb) (by simp only [hlt]; omega) (by decide) ne2) ?_)
    rintro _ _ _ _ _ _ _ _ _ _ w5 hb5
    have HB5 := Lib.hid (hB4.trans (hb5.mono hB4.size))
    clear hb5 hB4 d7 d8 v7 v8 q7 q8 ne1 ne2 hgr
    go_wp2_with fail
    go_ret
    exact ⟨rfl, HB5.out⟩
  · have c : w3.cell? ⟨g8, 5, none⟩ = some (.int .i64 p'.tx) := T3.out.b8.cell 5
    have fz := T3.out.b8.frozen 5
    have h1 := T3.out.k8.1.tx1
    have h2 := T3.out.k8.1.tx0
    have h3 := T3.out.k8.1.ox0
    have hwr : IntKind.i64.wrap (p'.tx + 1) = p'.tx + 1 := IntWalk.i64_in _ (by omega)
    go_upto_region 33 with (go_at_call 15; refine (WI.out _).mono ?_; rintro e w' ⟨rfl, rfl⟩)
    try rw [hwr]
    obtain ⟨w4, hw4⟩ : ∃ w4, w4 = w3.setCell ⟨g8, 5, none⟩ (.int .i64 (p'.tx + 1)) := ⟨_, rfl⟩
    have hgr : w3.grownBy w4 (some g8) := by rw [hw4]; exact only_setCell (World.grownBy.refl _ _) (p := ⟨g8, 5, none⟩) (.inl rfl) _
    have q7 : Blk w4 g7 33 (headA m (.slice (some ⟨ga, 0, none⟩) m.cs.length vc) p ca) := T3.out.b7.grown hgr (by have := T3.out.n2; simpa using this)
    have q8 : Blk w4 g8 33 (headA m' (.slice (some ⟨gb, 0, none⟩) m'.cs.length vc') { p' with tx := p'.tx + 1 } cb) := by rw [hw4]; exact T3.out.b8.set_ 5 _
    have d7 := CompsRd.of_owns (CompsOwn.off T3.out.c7 T3.out.b8 (by decide) (by decide) hgr)
    have d8 := CompsRd.of_owns (CompsOwn.off T3.out.c8 T3.out.b8 (by decide) (by decide) hgr)
    have v7 := (Own1.off T3.out.o7 T3.out.b8 hgr).bv
    have v8 := (Own1.off T3.out.o8 T3.out.b8 hgr).bv
    have hB4 := HB3.out.trans (below_grown (B := w.heap.size) hgr HB3.out.size (by rintro k ⟨⟩; exact T3.out.l8))
    have ne1 : ¬ (SameCs m.cs m'.cs ∧ m.x = m'.x ∧ m.y = m'.y ∧ m.ox = m'.ox ∧ m.oy = m'.oy ∧ p = { p' with tx := p'.tx + 1 } ∧ ([1] : List UInt8) = [1]) := fun h => by have h3 := congrArg ParD.tx h.2.2.2.2.2.1; have h2 := congrArg ParD.tx HM2.out.2.2.2.2.2; (try simp only at h3); omega
    have ne2 : ¬ (SameCs m'.cs m.cs ∧ m'.x = m.x ∧ m'.y = m.y ∧ m'.ox = m.ox ∧ m'.oy = m.oy ∧ { p' with tx := p'.tx + 1 } = p ∧ ([1] : List UInt8) = [1]) := fun h => by have h3 := congrArg ParD.tx h.2.2.2.2.2.1; have h2 := congrArg ParD.tx HM2.out.2.2.2.2.2; (try simp only at h3); omega
    simp only [← hw4]
    clear hw4
    refine wp_piece (sames_r33 _ g7 g8 _ _ rfl rfl w4 _ _ _ _ _ _ _ _ _ _ _ _ _ _ _ _ _ _ _ _ _ _ _ _ _ _ _ _ _ _ _ _ _ _ _ _ _ _ _ _ _ _ _ _ _ _ _ _ _ _ _ _ _ _ _ _ _ _ _ _ _ _ _ _ _ _ _ _ _ _ _ _ _ _ _ _ _ _ _ _ _ _ _ _ _ _ _ _ _ _ _ _ _ _ _ _ _ _ _ _ _ _ _ _ _ _ _ _ _ _ _ _ _ _ _ _ _ _ _ _ _ _ _ _ _ _ _ _ _ _ _ _ _ _ _ _ _ _ _ _ _ _ _ _ _ _ _ _ _ _ q7 q8 (same_false (m' := m') (p' := { p' with tx := p'.tx + 1 }) d7 d8 v7 v8 (by omega) (by decide) ne1) (fun W hb => same_false (m := m') (p := { p' with tx := p'.tx + 1 }) (d8.keep hb) (d7.keep hb) (v8.keep hb) (v7.keep hb) (by first | omega | (simp only; omega)) (by decide) ne2) ?_)
    rintro _ _ _ _ _ _ _ _ _ _ w5 hb5
    have HB5 := Lib.hid (hB4.trans (hb5.mono hB4.size))
    clear hb5 hB4 d7 d8 v7 v8 q7 q8 ne1 ne2 hgr
    go_wp2_with fail
    go_ret
    exact ⟨rfl, HB5.out⟩
  · have c : w3.cell? ⟨g8, 11, none⟩ = some (.int .i64 p'.style) := T3.out.b8.cell 11
    have fz := T3.out.b8.frozen 11
    obtain ⟨-, -, -, -, -, -, -, -, h1, h2, -⟩ := T3.out.k8.1.par
    have hwr : IntKind.i64.wrap (p'.style + 1) = p'.style + 1 := IntWalk.i64_in _ (by omega)
    go_upto_region 33 with (go_at_call 15; refine (WI.out _).mono ?_; rintro e w' ⟨rfl, rfl⟩)
    try rw [hwr]
    obtain ⟨w4, hw4⟩ : ∃ w4, w4 = w3.setCell ⟨g8, 11, none⟩ (.int .i64 (p'.style + 1)) := ⟨_, rfl⟩
    have hgr : w3.grownBy w4 (some g8) := by rw [hw4]; exact only_setCell (World.grownBy.refl _ _) (p := ⟨g8, 11, none⟩) (.inl rfl) _
    have q7 : Blk w4 g7 33 (headA m (.slice (some ⟨ga, 0, none⟩) m.cs.length vc) p ca) := T3.out.b7.grown hgr (by have := T3.out.n2; simpa using this)
    have q8 : Blk w4 g8 33 (headA m' (.slice (some ⟨gb, 0, none⟩) m'.cs.length vc') { p' with style := p'.style + 1 } cb) := by rw [hw4]; exact T3.out.b8.set_ 11 _
    have d7 := CompsRd.of_owns (CompsOwn.off T3.out.c7 T3.out.b8 (by decide) (by decide) hgr)
    have d8 := CompsRd.of_owns (CompsOwn.off T3.out.c8 T3.out.b8 (by decide) (by decide) hgr)
    have v7 := (Own1.off T3.out.o7 T3.out.b8 hgr).bv
    have v8 := (Own1.off T3.out.o8 T3.out.b8 hgr).bv
    have hB4 := HB3.out.trans (below_grown (B := w.heap.size) hgr HB3.out.size (by rintro k ⟨⟩; exact T3.out.l8))
    have ne1 : ¬ (SameCs m.cs m'.cs ∧ m.x = m'.x ∧ m.y = m'.y ∧ m.ox = m'.ox ∧ m.oy = m'.oy ∧ p = { p' with style := p'.style + 1 } ∧ ([1] : List UInt8) = [1]) := fun h => by have h3 := congrArg ParD.style h.2.2.2.2.2.1; have h2 := congrArg ParD.style HM2.out.2.2.2.2.2; (try simp only at h3); omega
    have ne2 : ¬ (SameCs m'.cs m.cs ∧ m'.x = m.x ∧ m'.y = m.y ∧ m'.ox = m.ox ∧ m'.oy = m.oy ∧ { p' with style := p'.style + 1 } = p ∧ ([1] : List UInt8) = [1]) := fun h => by have h3 := congrArg ParD.style h.2.2.2.2.2.1; have h2 := congrArg ParD.style HM2.out.2.2.2.2.2; (try simp only at h3); omega
    simp only [← hw4]
    clear hw4
    refine wp_piece (sames_r33 _ g7 g8 _ _ rfl rfl w4 _ _ _ _ _ _ _ _ _ _ _ _ _ _ _ _ _ _ _ _ _ _ _ _ _ _ _ _ _ _ _ _ _ _ _ _ _ _ _ _ _ _ _ _ _ _ _ _ _ _ _ _ _ _ _ _ _ _ _ _ _ _ _ _ _ _ _ _ _ _ _ _ _ _ _ _ _ _ _ _ _ _ _ _ _ _ _ _ _ _ _ _ _ _ _ _ _ _ _ _ _ _ _ _ _ _ _ _ _ _ _ _ _ _ _ _ _ _ _ _ _ _ _ _ _ _ _ _ _ _ _ _ _ _ _ _ _ _ _ _ _ _ _ _ _ _ _ _ _ _ q7 q8 (same_false (m' := m') (p' := { p' with style := p'.style + 1 }) d7 d8 v7 v8 (by omega) (by decide) ne1) (fun W hb => same_false (m := m') (p := { p' with style := p'.style + 1 }) (d8.keep hb) (d7.keep hb) (v8.keep hb) (v7.keep hb) (by first | omega | (simp only; omega)) (by decide) ne2) ?_)
    rintro _ _ _ _ _ _ _ _ _ _ w5 hb5
    have HB5 := Lib.hid (hB4.trans (hb5.mono hB4.size))
    clear hb5 hB4 d7 d8 v7 v8 q7 q8 ne1 ne2 hgr
    go_wp2_with fail
    go_ret
    exact ⟨rfl, HB5.out⟩
  · have c : w3.cell? ⟨g8, 16, none⟩ = some (.bool p'.eph) := T3.out.b8.cell 16
    have fz := T3.out.b8.frozen 16
    go_upto_region 33 with (go_at_call 15; refine (WI.out _).mono ?_; rintro e w' ⟨rfl, rfl⟩)
    obtain ⟨w4, hw4⟩ : ∃ w4, w4 = w3.setCell ⟨g8, 16, none⟩ (.bool (!p'.eph)) := ⟨_, rfl⟩
    have hgr : w3.grownBy w4 (some g8) := by rw [hw4]; exact only_setCell (World.grownBy.refl _ _) (p := ⟨g8, 16, none⟩) (.inl rfl) _
    have q7 : Blk w4 g7 33 (headA m (.slice (some ⟨ga, 0, none⟩) m.cs.length vc) p ca) := T3.out.b7.grown hgr (by have := T3.out.n2; simpa using this)
    have q8 : Blk w4 g8 33 (headA m' (.slice (some ⟨gb, 0, none⟩) m'.cs.length vc') { p' with eph := !p'.eph } cb) := by rw [hw4]; exact T3.out.b8.set_ 16 _
    have d7 := CompsRd.of_owns (CompsOwn.off T3.out.c7 T3.out.b8 (by decide) (by decide) hgr)
    have d8 := CompsRd.of_owns (CompsOwn.off T3.out.c8 T3.out.b8 (by decide) (by decide) hgr)
    have v7 := (Own1.off T3.out.o7 T3.out.b8 hgr).bv
    have v8 := (Own1.off T3.out.o8 T3.out.b8 hgr).bv
    have hB4 := HB3.out.trans (below_grown (B := w.heap.size) hgr HB3.out.size (by rintro k ⟨⟩; exact T3.out.l8))
    have ne1 : ¬ (SameCs m.cs m'.cs ∧ m.x = m'.x ∧ m.y = m'.y ∧ m.ox = m'.ox ∧ m.oy = m'.oy ∧ p = { p' with eph := !p'.eph } ∧ ([1] : List UInt8) = [1]) := fun h => by have h3 := congrArg ParD.eph h.2.2.2.2.2.1; have h2 := congrArg ParD.eph HM2.out.2.2.2.2.2; (try simp only at h3); rw [h2] at h3; simp at h3
    have ne2 : ¬ (SameCs m'.cs m.cs ∧ m'.x = m.x ∧ m'.y = m.y ∧ m'.ox = m.ox ∧ m'.oy = m.oy ∧ { p' with eph := !p'.eph } = p ∧ ([1] : List UInt8) = [1]) := fun h => by have h3 := congrArg ParD.eph h.2.2.2.2.2.1; have h2 := congrArg ParD.eph HM2.out.2.2.2.2.2; (try simp only at h3); rw [h2] at h3; simp at h3
    simp only [← hw4]
    clear hw4
    refine wp_piece (sames_r33 _ g7 g8 _ _ rfl rfl w4 _ _ _ _ _ _ _ _ _ _ _ _ _ _ _ _ _ _ _ _ _ _ _ _ _ _ _ _ _ _ _ _ _ _ _ _ _ _ _ _ _ _ _ _ _ _ _ _ _ _ _ _ _ _ _ _ _ _ _ _ _ _ _ _ _ _ _ _ _ _ _ _ _ _ _ _ _ _ _ _ _ _ _ _ _ _ _ _ _ _ _ _ _ _ _ _ _ _ _ _ _ _ _ _ _ _ _ _ _ _ _ _ _ _ _ _ _ _ _ _ _ _ _ _ _ _ _ _ _ _ _ _ _ _ _ _ _ _ _ _ _ _ _ _ _ _ _ _ _ _ q7 q8 (same_false (m' := m') (p' := { p' with eph := !p'.eph }) d7 d8 v7 v8 (by omega) (by decide) ne1) (fun W hb => same_false (m := m') (p := { p' with eph := !p'.eph }) (d8.keep hb) (d7.keep hb) (v8.keep hb) (v7.keep hb) (by first | omega | (simp only; omega)) (by decide) ne2) ?_)
    rintro _ _ _ _ _ _ _ _ _ _ w5 hb5
    have HB5 := Lib.hid (hB4.trans (hb5.mono hB4.size))
    clear hb5 hB4 d7 d8 v7 v8 q7 q8 ne1 ne2 hgr
    go_wp2_with fail
    go_ret
    exact ⟨rfl, HB5.out⟩
  · have c : w3.cell? ⟨g8, 14, none⟩ = some (.bool p'.rct) := T3.out.b8.cell 14
    have fz := T3.out.b8.frozen 14
    go_upto_region 33 with (go_at_call 15; refine (WI.out _).mono ?_; rintro e w' ⟨rfl, rfl⟩)
    obtain ⟨w4, hw4⟩ : ∃ w4, w4 = w3.setCell ⟨g8, 14, none⟩ (.bool (!p'.rct)) := ⟨_, rfl⟩
    have hgr : w3.grownBy w4 (some g8) := by rw [hw4]; exact only_setCell (World.grownBy.refl _ _) (p := ⟨g8, 14, none⟩) (.inl rfl) _
    have q7 : Blk w4 g7 33 (headA m (.slice (some ⟨ga, 0, none⟩) m.cs.length vc) p ca) := T3.out.b7.grown hgr (by have := T3.out.n2; simpa using this)
    have q8 : Blk w4 g8 33 (headA m' (.slice (some ⟨gb, 0, none⟩) m'.cs.length vc') { p' with rct := !p'.rct } cb) := by rw [hw4]; exact T3.out.b8.set_ 14 _
    have d7 := CompsRd.of_owns (CompsOwn.off T3.out.c7 T3.out.b8 (by decide) (by decide) hgr)
    have d8 := CompsRd.of_owns (CompsOwn.off T3.out.c8 T3.out.b8 (by decide) (by decide) hgr)
    have v7 := (Own1.off T3.out.o7 T3.out.b8 hgr).bv
    have v8 := (Own1.off T3.out.o8 T3.out.b8 hgr).bv
    have hB4 := HB3.out.trans (below_grown (B := w.heap.size) hgr HB3.out.size (by rintro k ⟨⟩; exact T3.out.l8))
    have ne1 : ¬ (SameCs m.cs m'.cs ∧ m.x = m'.x ∧ m.y = m'.y ∧ m.ox = m'.ox ∧ m.oy = m'.oy ∧ p = { p' with rct := !p'.rct } ∧ ([1] : List UInt8) = [1]) := fun h => by have h3 := congrArg ParD.rct h.2.2.2.2.2.1; have h2 := congrArg ParD.rct HM2.out.2.2.2.2.2; (try simp only at h3); rw [h2] at h3; simp at h3
    have ne2 : ¬ (SameCs m'.cs m.cs ∧ m'.x = m.x ∧ m'.y = m.y ∧ m'.ox = m.ox ∧ m'.oy = m.oy ∧ { p' with rct := !p'.rct } = p ∧ ([1] : List UInt8) = [1]) := fun h => by have h3 := congrArg ParD.rct h.2.2.2.2.2.1; have h2 := congrArg ParD.rct HM2.out.2.2.2.2.2; (try simp only at h3); rw [h2] at h3; simp at h3
    simp only [← hw4]
    clear hw4
    refine wp_piece (sames_r33 _ g7 g8 _ _ rfl rfl w4 _ _ _ _ _ _ _ _ _ _ _ _ _ _ _ _ _ _ _ _ _ _ _ _ _ _ _ _ _ _ _ _ _ _ _ _ _ _ _ _ _ _ _ _ _ _ _ _ _ _ _ _ _ _ _ _ _ _ _ _ _ _ _ _ _ _ _ _ _ _ _ _ _ _ _ _ _ _ _ _ _ _ _ _ _ _ _ _ _ _ _ _ _ _ _ _ _ _ _ _ _ _ _ _ _ _ _ _ _ _ _ _ _ _ _ _ _ _ _ _ _ _ _ _ _ _ _ _ _ _ _ _ _ _ _ _ _ _ _ _ _ _ _ _ _ _ _ _ _ _ q7 q8 (same_false (m' := m') (p' := { p' with rct := !p'.rct }) d7 d8 v7 v8 (by omega) (by decide) ne1) (fun W hb => same_false (m := m') (p := { p' with rct := !p'.rct }) (d8.keep hb) (d7.keep hb) (v8.keep hb) (v7.keep hb) (by first | omega | (simp only; omega)) (by decide) ne2) ?_)
    rintro _ _ _ _ _ _ _ _ _ _ w5 hb5
    have HB5 := Lib.hid (hB4.trans (hb5.mono hB4.size))
    clear hb5 hB4 d7 d8 v7 v8 q7 q8 ne1 ne2 hgr
    go_wp2_with fail
    go_ret
    exact ⟨rfl, HB5.out⟩
  · have l8 := T3.out.b8.lt
    have c : w3.cell? ⟨g8, 17, none⟩ = some cb := T3.out.b8.cell 17
    have fz := T3.out.b8.frozen 17
    have cA : (w3.alloc (.cells #[.int .u8 2] 5)).cell? ⟨g8, 17, none⟩ = some cb := (T3.out.b8.alloc _).cell 17
    have fA := (T3.out.b8.alloc (.cells #[.int .u8 2] 5)).frozen 17
    go_upto_region 33 with (go_at_call 15; refine (WI.out _).mono ?_; rintro e w' ⟨rfl, rfl⟩)
    obtain ⟨wb, hwb⟩ : ∃ wb, wb = w3.setCell ⟨g8, 17, none⟩ (.slice (some ⟨w3.heap.size, 0, none⟩) 1 1) := ⟨_, rfl⟩
    have hgr : w3.grownBy wb (some g8) := by rw [hwb]; exact only_setCell (World.grownBy.refl _ _) (p := ⟨g8, 17, none⟩) (.inl rfl) _
    have q7b : Blk wb g7 33 (headA m (.slice (some ⟨ga, 0, none⟩) m.cs.length vc) p ca) := T3.out.b7.grown hgr (by have := T3.out.n2; simpa using this)
    have q8b : Blk wb g8 33 (headA m' (.slice (some ⟨gb, 0, none⟩) m'.cs.length vc') p' (.slice (some ⟨w3.heap.size, 0, none⟩) 1 1)) := by rw [hwb]; exact T3.out.b8.set_ 17 _
    have hsz : w3.heap.size = wb.heap.size := by rw [hwb]; simp
    obtain ⟨w4, hw4⟩ : ∃ w4, w4 = wb.alloc (.cells #[.int .u8 2] 5) := ⟨_, rfl⟩
    have hb4 : Below wb.heap.size wb w4 := by rw [hw4]; exact (Below.refl _ _).alloc (Nat.le_refl _) _
    have q7 := q7b.below hb4 q7b.lt
    have q8 := q8b.below hb4 q8b.lt
    have d7 := CompsRd.of_owns ((CompsOwn.off T3.out.c7 T3.out.b8 (by decide) (by decide) hgr).keep hb4)
    have d8 := CompsRd.of_owns ((CompsOwn.off T3.out.c8 T3.out.b8 (by decide) (by decide) hgr).keep hb4)
    have v7 := ((Own1.off T3.out.o7 T3.out.b8 hgr).keep hb4).bv
    have v8 : BV w4 (.slice (some ⟨w3.heap.size, 0, none⟩) 1 1) [2] := by rw [hw4]; exact BV.of_owns (l := [2]) (own_lit wb #[.int .u8 2] 5 1 w3.heap.size rfl hsz (Nat.zero_le _) (by decide))
    have hB3 := HB3.out.trans (below_grown (B := w.heap.size) hgr HB3.out.size (by rintro k ⟨⟩; exact T3.out.l8))
    have hB4 := hB3.trans (hb4.mono hB3.size)
    have ne1 : ¬ (SameCs m.cs m'.cs ∧ m.x = m'.x ∧ m.y = m'.y ∧ m.ox = m'.ox ∧ m.oy = m'.oy ∧ p = p' ∧ ([1] : List UInt8) = [2]) := fun h => by have h1 := h.2.2.2.2.2.2; simp at h1
    have ne2 : ¬ (SameCs m'.cs m.cs ∧ m'.x = m.x ∧ m'.y = m.y ∧ m'.ox = m.ox ∧ m'.oy = m.oy ∧ p' = p ∧ ([2] : List UInt8) = [1]) := fun h => by have h1 := h.2.2.2.2.2.2; simp at h1
    simp only [← hwb, ← hw4]
    clear hw4 hwb q7b q8b hB3 hb4
    refine wp_piece (sames_r33 _ g7 g8 _ _ rfl rfl w4 _ _ _ _ _ _ _ _ _ _ _ _ _ _ _ _ _ _ _ _ _ _ _ _ _ _ _ _ _ _ _ _ _ _ _ _ _ _ _ _ _ _ _ _ _ _ _ _ _ _ _ _ _ _ _ _ _ _ _ _ _ _ _ _ _ _ _ _ _ _ _ _ _ _ _ _ _ _ _ _ _ _ _ _ _ _ _ _ _ _ _ _ _ _ _ _ _ _ _ _ _ _ _ _ _ _ _ _ _ _ _ _ _ _ _ _ _ _ _ _ _ _ _ _ _ _ _ _ _ _ _ _ _ _ _ _ _ _ _ _ _ _ _ _ _ _ _ _ _ _ q7 q8 (same_false (m' := m') (p' := p') d7 d8 v7 v8 (by omega) (by decide) ne1) (fun W hb => same_false (m := m') (p := p') (d8.keep hb) (d7.keep hb) (v8.keep hb) (v7.keep hb) (by omega) (by decide) ne2) ?_)
    rintro _ _ _ _ _ _ _ _ _ _ w5 hb5
    have HB5 := Lib.hid (hB4.trans (hb5.mono hB4.size))
    clear hb5 hB4 d7 d8 v7 v8 q7 q8 ne1 ne2 hgr
    go_wp2_with fail
    go_ret
    exact ⟨rfl, HB5.out⟩
  · have c4 : w3.cell? ⟨g8, 4, none⟩ = some (.slice (some ⟨gb, 0, none⟩) m'.cs.length vc') := T3.out.b8.cell 4
    have c : w3.cell? ⟨gb, kn * 5 + 4, none⟩ = some dv := HC.out.1 4 _ rfl
    have fz : w3.frozen? ⟨gb, kn * 5 + 4, none⟩ = false := HC.out.2.1 _
    go_upto_region 32 with (go_at_call 15; refine (WI.out _).mono ?_; rintro e w' ⟨rfl, rfl⟩)
    obtain ⟨w4, hw4⟩ : ∃ w4, w4 = w3.setCell ⟨gb, kn * 5 + 4, none⟩ (.slice none 0 0) := ⟨_, rfl⟩
    have hgr : w3.grownBy w4 (some gb) := by rw [hw4]; exact only_setCell (World.grownBy.refl _ _) (p := ⟨gb, kn * 5 + 4, none⟩) (.inl rfl) _
    have q7 : Blk w4 g7 33 (headA m (.slice (some ⟨ga, 0, none⟩) m.cs.length vc) p ca) := T3.out.b7.grown hgr (by have := HC.out.2.2.2.2.2.1 _ _ T3.out.b7; simpa using this)
    have hlk : (m'.cs.set kn { dk with data := [] }).length = m'.cs.length := List.length_set
    have q8 : Blk w4 g8 33 (headA { m' with cs := m'.cs.set kn { dk with data := [] } } (.slice (some ⟨gb, 0, none⟩) m'.cs.length vc') p' cb) := T3.out.b8.grown hgr (by have := HC.out.2.2.2.2.2.1 _ _ T3.out.b8; simpa using this)
    have d7 := CompsRd.of_owns (HC.out.2.2.2.1 _ _ _ _ _ T3.out.c7 T3.out.n1 (kn * 5 + 4) (.slice none 0 0))
    have d8 := CompsRd.of_owns (HC.out.2.2.1 { dk with data := [] } (.slice none 0 0) 4 (.slice none 0 0) (by decide) rfl (World.ownsRow_nil _ _ _ _))
    have v7 := (show Own1 w.heap.size (w3.setCell ⟨gb, kn * 5 + 4, none⟩ (.slice none 0 0)) ca from by obtain ⟨g, rfl, h⟩ := T3.out.o7; exact ⟨g, rfl, HC.out.2.2.2.2.1 _ _ _ _ h _ _⟩).bv
    have v8 := (show Own1 w.heap.size (w3.setCell ⟨gb, kn * 5 + 4, none⟩ (.slice none 0 0)) cb from by obtain ⟨g, rfl, h⟩ := T3.out.o8; exact ⟨g, rfl, HC.out.2.2.2.2.1 _ _ _ _ h _ _⟩).bv
    rw [← hw4] at d7 d8 v7 v8
    have hB4 := HB3.out.trans (below_grown (B := w.heap.size) hgr HB3.out.size (by rintro k ⟨⟩; exact HC.out.2.2.2.2.2.2.2))
    have SS := same_set_data (made_same T3.out.k7.2 T3.out.k8.2) HK.out.1 HK.out.2 []
    simp only [← hw4]
    clear hw4
    refine wp_piece (sames_r32 _ g7 g8 _ _ rfl rfl w4 _ _ _ _ _ _ _ _ _ _ _ _ _ _ _ _ _ _ _ _ _ _ _ _ _ _ _ _ _ _ _ _ _ _ _ _ _ _ _ _ _ _ _ _ _ _ _ _ _ _ _ _ _ _ _ _ _ _ _ _ _ _ _ _ _ _ _ _ _ _ _ _ _ _ _ _ _ _ _ _ _ _ _ _ _ _ _ _ _ _ _ _ _ _ _ _ _ _ _ _ _ _ _ _ _ _ _ _ _ _ _ _ _ _ _ _ _ _ _ _ _ _ _ _ _ _ _ _ _ _ _ _ _ _ _ _ _ _ _ _ _ _ _ _ _ _ _ _ _ _ q7 q8 (same_true (m' := { m' with cs := m'.cs.set kn { dk with data := [] } }) d7 d8 v7 v8 (by omega) (by decide) ⟨SS, HM2.out.2.1, HM2.out.2.2.1, HM2.out.2.2.2.1, HM2.out.2.2.2.2.1, HM2.out.2.2.2.2.2, rfl⟩) ?_)
    rintro _ _ _ w5 hb5
    have HB5 := Lib.hid (hB4.trans (hb5.mono hB4.size))
    clear hb5 hB4 d7 d8 v7 v8 q7 q8 SS hgr
    go_wp2_with fail
    go_ret
    exact ⟨rfl, HB5.out⟩
end Go.Proofs.Ytlhlhlabnjfhcaa
