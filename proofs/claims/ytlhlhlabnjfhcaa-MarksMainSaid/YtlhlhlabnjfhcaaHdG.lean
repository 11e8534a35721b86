/- MarksSames: the region that makes its two heads. -/
import Derived.Test.YtlhlhlabnjfhcaaHdF
namespace Go.Proofs.Ytlhlhlabnjfhcaa
open Go.RowKit Go.Maps

/-- two heads of one form -/
structure Two (f : FormD) (B g7 g8 ga gb : Nat) (m : ImgD) (p : ParD) (vc : Nat) (ca : Value) (m' : ImgD) (p' : ParD) (vc' : Nat) (cb : Value) (w : World) : Prop where
  b7 : Blk w g7 33 (headA m (.slice (some ⟨ga, 0, none⟩) m.cs.length vc) p ca)
  b8 : Blk w g8 33 (headA m' (.slice (some ⟨gb, 0, none⟩) m'.cs.length vc') p' cb)
  c7 : CompsOwn w B (.slice (some ⟨ga, 0, none⟩) m.cs.length vc) m.cs
  c8 : CompsOwn w B (.slice (some ⟨gb, 0, none⟩) m'.cs.length vc') m'.cs
  n1 : ga ≠ gb
  n2 : g7 ≠ g8
  o7 : Own1 B w ca
  o8 : Own1 B w cb
  k7 : MadeOk f 8 m p ∧ MadeIs f 8 m p
  k8 : MadeOk f 8 m' p' ∧ MadeIs f 8 m' p'
  l7 : B ≤ g7
  l8 : B ≤ g8

set_option maxRecDepth 100000 in
set_option maxHeartbeats 4000000 in
theorem sames_r3 (K : Act → World → Prop) (f : FormD) (ns : Value) (nl : List Int) (w0 w : World) (s0 s1 s2 s4 s5 s6 s7 s8 s9 s10 s11 s12 s13 s14 s15 s16 s17 s18 s19 s20 s21 s22 s23 s24 s25 s26 s27 s28 s29 s30 s31 s32 s33 s34 s35 s36 s37 s38 s39 s40 s41 s42 s43 s44 s45 s46 s47 s48 s49 s50 s51 s52 s53 s54 s55 s56 s57 s58 s59 s60 s61 s62 s63 s64 s65 s66 s67 s68 s69 s70 s71 s72 s73 s74 s75 s76 s77 s78 s79 s80 s81 s82 s83 s84 s85 s86 s87 s88 s89 s90 s91 s92 s93 s94 s95 s96 s97 s98 s99 s100 s101 s102 s103 s104 s105 s106 s107 s108 s109 s110 s111 s112 s113 s114 s115 s116 s117 s118 s119 s120 s121 s122 s123 s124 s125 s126 s127 s128 s129 s130 s131 s132 s133 s134 s135 s136 s137 s138 s139 s140 s141 s142 s143 s144 s145 s146 s147 s148 s149 s150 s151 : Value) (hn : RdI w0 ns nl) (R : Rg f ns nl w0 w)
    (hk : ∀ (u12 u13 u14 u15 u16 u17 : Value) (g7 g8 ga gb : Nat) (m : ImgD) (p : ParD) (vc : Nat) (ca : Value) (m' : ImgD) (p' : ParD) (vc' : Nat) (cb : Value) (wx : World), Two f w0.heap.size g7 g8 ga gb m p vc ca m' p' vc' cb wx → Below w0.heap.size w0 wx →
      K ⟨List.toArray (s0 :: s1 :: s2 :: (.pointer (some ⟨w0.heap.size, 0, none⟩)) :: s4 :: s5 :: s6 :: (.pointer (some ⟨g7, 0, none⟩)) :: (.pointer (some ⟨g8, 0, none⟩)) :: s9 :: s10 :: s11 :: u12 :: u13 :: u14 :: u15 :: u16 :: u17 :: s18 :: s19 :: s20 :: s21 :: s22 :: s23 :: s24 :: s25 :: s26 :: s27 :: s28 :: s29 :: s30 :: s31 :: s32 :: s33 :: s34 :: s35 :: s36 :: s37 :: s38 :: s39 :: s40 :: s41 :: s42 :: s43 :: s44 :: s45 :: s46 :: s47 :: s48 :: s49 :: s50 :: s51 :: s52 :: s53 :: s54 :: s55 :: s56 :: s57 :: s58 :: s59 :: s60 :: s61 :: s62 :: s63 :: s64 :: s65 :: s66 :: s67 :: s68 :: s69 :: s70 :: s71 :: s72 :: s73 :: s74 :: s75 :: s76 :: s77 :: s78 :: s79 :: s80 :: s81 :: s82 :: s83 :: s84 :: s85 :: s86 :: s87 :: s88 :: s89 :: s90 :: s91 :: s92 :: s93 :: s94 :: s95 :: s96 :: s97 :: s98 :: s99 :: s100 :: s101 :: s102 :: s103 :: s104 :: s105 :: s106 :: s107 :: s108 :: s109 :: s110 :: s111 :: s112 :: s113 :: s114 :: s115 :: s116 :: s117 :: s118 :: s119 :: s120 :: s121 :: s122 :: s123 :: s124 :: s125 :: s126 :: s127 :: s128 :: s129 :: s130 :: s131 :: s132 :: s133 :: s134 :: s135 :: s136 :: s137 :: s138 :: s139 :: s140 :: s141 :: s142 :: s143 :: s144 :: s145 :: s146 :: s147 :: s148 :: s149 :: s150 :: s151 :: []), []⟩ wx) :
    (regionOf 3 Try.f5).wp Try.prog (Exit.then K noQ) ⟨List.toArray (s0 :: s1 :: s2 :: (.pointer (some ⟨w0.heap.size, 0, none⟩)) :: s4 :: s5 :: s6 :: s7 :: s8 :: s9 :: s10 :: s11 :: s12 :: s13 :: s14 :: s15 :: s16 :: s17 :: s18 :: s19 :: s20 :: s21 :: s22 :: s23 :: s24 :: s25 :: s26 :: s27 :: s28 :: s29 :: s30 :: s31 :: s32 :: s33 :: s34 :: s35 :: s36 :: s37 :: s38 :: s39 :: s40 :: s41 :: s42 :: s43 :: s44 :: s45 :: s46 :: s47 :: s48 :: s49 :: s50 :: s51 :: s52 :: s53 :: s54 :: s55 :: s56 :: s57 :: s58 :: s59 :: s60 :: s61 :: s62 :: s63 :: s64 :: s65 :: s66 :: s67 :: s68 :: s69 :: s70 :: s71 :: s72 :: s73 :: s74 :: s75 :: s76 :: s77 :: s78 :: s79 :: s80 :: s81 :: s82 :: s83 :: s84 :: s85 :: s86 :: s87 :: s88 :: s89 :: s90 :: s91 :: s92 :: s93 :: s94 :: s95 :: s96 :: s97 :: s98 :: s99 :: s100 :: s101 :: s102 :: s103 :: s104 :: s105 :: s106 :: s107 :: s108 :: s109 :: s110 :: s111 :: s112 :: s113 :: s114 :: s115 :: s116 :: s117 :: s118 :: s119 :: s120 :: s121 :: s122 :: s123 :: s124 :: s125 :: s126 :: s127 :: s128 :: s129 :: s130 :: s131 :: s132 :: s133 :: s134 :: s135 :: s136 :: s137 :: s138 :: s139 :: s140 :: s141 :: s142 :: s143 :: s144 :: s145 :: s146 :: s147 :: s148 :: s149 :: s150 :: s151 :: []), []⟩ w := by
  conv in (regionOf _ _) => whnf
  unfold noQ
  have HK := Lib.hid hk
  clear hk
  have HD := Lib.hid (head_is f ns nl)
  obtain ⟨na, nc, rfl⟩ : ∃ a c, ns = .slice a nl.length c := by
    obtain ⟨a, c, h, -⟩ := hn
    exact ⟨a, c, h⟩
  refine wp_region_inv (by kernel_rfl) (fun listed a w => ∃ (b0 b1 b2 b3 b4 b5 b6 b7 b8 b9 : Bool) (u7 u8 u12 u13 u14 u15 u16 u17 : Value) (ga gb g7 g8 : Nat), listed = #[b0, b1, b2, b3, b4, b5, b6, b7, b8, b9] ∧
    a = ⟨List.toArray (s0 :: s1 :: s2 :: (.pointer (some ⟨w0.heap.size, 0, none⟩)) :: s4 :: s5 :: s6 :: u7 :: u8 :: s9 :: s10 :: s11 :: u12 :: u13 :: u14 :: u15 :: u16 :: u17 :: s18 :: s19 :: s20 :: s21 :: s22 :: s23 :: s24 :: s25 :: s26 :: s27 :: s28 :: s29 :: s30 :: s31 :: s32 :: s33 :: s34 :: s35 :: s36 :: s37 :: s38 :: s39 :: s40 :: s41 :: s42 :: s43 :: s44 :: s45 :: s46 :: s47 :: s48 :: s49 :: s50 :: s51 :: s52 :: s53 :: s54 :: s55 :: s56 :: s57 :: s58 :: s59 :: s60 :: s61 :: s62 :: s63 :: s64 :: s65 :: s66 :: s67 :: s68 :: s69 :: s70 :: s71 :: s72 :: s73 :: s74 :: s75 :: s76 :: s77 :: s78 :: s79 :: s80 :: s81 :: s82 :: s83 :: s84 :: s85 :: s86 :: s87 :: s88 :: s89 :: s90 :: s91 :: s92 :: s93 :: s94 :: s95 :: s96 :: s97 :: s98 :: s99 :: s100 :: s101 :: s102 :: s103 :: s104 :: s105 :: s106 :: s107 :: s108 :: s109 :: s110 :: s111 :: s112 :: s113 :: s114 :: s115 :: s116 :: s117 :: s118 :: s119 :: s120 :: s121 :: s122 :: s123 :: s124 :: s125 :: s126 :: s127 :: s128 :: s129 :: s130 :: s131 :: s132 :: s133 :: s134 :: s135 :: s136 :: s137 :: s138 :: s139 :: s140 :: s141 :: s142 :: s143 :: s144 :: s145 :: s146 :: s147 :: s148 :: s149 :: s150 :: s151 :: []), []⟩ ∧ Tw f (.slice na nl.length nc) nl w0 b0 b1 b2 b3 b4 b5 b6 b7 b8 b9 u7 u8 u12 u13 u14 u15 u16 u17 ga gb g7 g8 w) ?_ ?_ ?_
  · refine ⟨false, false, false, false, false, false, false, false, false, false, s7, s8, s12, s13, s14, s15, s16, s17, 0, 0, 0, 0, rfl, rfl, ?_⟩
    exact ⟨R.below (Below.refl _ _).drew, by simp, by simp, by simp, by simp, by simp, by simp, by simp, by simp, by simp, by simp, by simp⟩
  · rintro listed a w1 ⟨b0, b1, b2, b3, b4, b5, b6, b7, b8, b9, u7, u8, u12, u13, u14, u15, u16, u17, ga, gb, g7, g8, rfl, rfl, T⟩ hr
    obtain rfl : b0 = true := by cases b0; exact (not_ready hr 0 _ rfl rfl (by simp)).elim; rfl
    obtain rfl : b1 = true := by cases b1; exact (not_ready hr 1 _ rfl rfl (by simp)).elim; rfl
    obtain rfl : b3 = true := by cases b3; exact (not_ready hr 3 _ rfl rfl (by simp)).elim; rfl
    obtain rfl : b4 = true := by cases b4; exact (not_ready hr 4 _ rfl rfl (by simp)).elim; rfl
    obtain rfl : b6 = true := by cases b6; exact (not_ready hr 6 _ rfl rfl (by simp)).elim; rfl
    obtain rfl : b7 = true := by cases b7; exact (not_ready hr 7 _ rfl rfl (by simp)).elim; rfl
    obtain rfl : b2 = true := by cases b2; exact (not_ready hr 2 _ rfl rfl (by simp)).elim; rfl
    obtain rfl : b5 = true := by cases b5; exact (not_ready hr 5 _ rfl rfl (by simp)).elim; rfl
    obtain rfl : b8 = true := by cases b8; exact (not_ready hr 8 _ rfl rfl (by simp)).elim; rfl
    obtain rfl : b9 = true := by cases b9; exact (not_ready hr 9 _ rfl rfl (by simp)).elim; rfl
    obtain ⟨-, m, p, vc, h14, c7, k7⟩ := T.e2 rfl
    obtain ⟨-, -, ⟨m', p', vc', h17, c8, k8⟩, n1⟩ := T.e5 rfl
    obtain ⟨rfl, l7, A, -, q7, e7⟩ := T.e6 rfl
    obtain ⟨rfl, l8, A', -, q8, e8⟩ := T.e7 rfl
    have e7 := h14.symm.trans (e7 rfl)
    have e8 := h17.symm.trans (e8 rfl)
    simp only [Value.agg.injEq] at e7 e8
    rw [← e7] at q7
    rw [← e8] at q8
    exact HK.out u12 u13 u14 u15 u16 u17 g7 g8 ga gb m p vc u13 m' p' vc' u16 w1 ⟨q7, q8, c7, c8, n1, T.n67 rfl rfl, T.e1 rfl, T.e4 rfl, k7, k8, l7, l8⟩ T.rg.1
  · rintro listed a w1 i ⟨b0, b1, b2, b3, b4, b5, b6, b7, b8, b9, u7, u8, u12, u13, u14, u15, u16, u17, ga, gb, g7, g8, rfl, rfl, T⟩ hi
    obtain ⟨hi1, hi2, hi3⟩ := mem_ready hi
    clear hi
    have hi4 : i = 0 ∨ i = 1 ∨ i = 2 ∨ i = 3 ∨ i = 4 ∨ i = 5 ∨ i = 6 ∨ i = 7 ∨ i = 8 ∨ i = 9 := by
      have : i < 10 := hi1
      omega
    clear hi1
    rcases hi4 with rfl | rfl | rfl | rfl | rfl | rfl | rfl | rfl | rfl | rfl
    · obtain rfl : b0 = false := hi2
      refine wpOp_step rfl (fun K hK => ?_)
      refine step_load_row rfl 24 (.tmp 3) rfl w0.heap.size 24 (formA f (.slice na nl.length nc)) _ Try.underlying24 rfl (by kernel_rfl) rfl T.rg.2.1 ?_
      refine hK _ _ ⟨true, b1, b2, b3, b4, b5, b6, b7, b8, b9, u7, u8, .agg (formA f (.slice na nl.length nc)), u13, u14, u15, u16, u17, ga, gb, g7, g8, rfl, rfl, ?_⟩
      exact { T with e0 := fun _ => rfl }
    · obtain rfl : b1 = false := hi2
      refine wpOp_step rfl (fun K hK => ?_)
      go_simp
      refine hK _ _ ⟨b0, true, b2, b3, b4, b5, b6, b7, b8, b9, u7, u8, u12, .slice (some ⟨w1.heap.size, 0, none⟩) 1 1, u14, u15, u16, u17, ga, gb, g7, g8, rfl, rfl, ?_⟩
      have hb : Below w1.heap.size w1 (w1.alloc (.cells #[.int .u8 1] 5)) := (Below.refl _ _).alloc (Nat.le_refl _) _
      have T' := T.keep hb
      have hb2 : b2 = false := by cases b2; rfl; exact absurd (T.e2 rfl).1 (by simp)
      exact { T' with e1 := fun _ => ⟨_, rfl, own_lit w1 #[.int .u8 1] 5 1 _ rfl rfl T.rg.1.size (by decide)⟩, e2 := (fun e => by rw [hb2] at e; cases e) }
    · obtain rfl : b2 = false := hi2
      have ha := hi3 _ rfl
      simp [Region.binds] at ha
      obtain ⟨rfl, rfl⟩ := ha
      obtain rfl := T.e0 rfl
      obtain ⟨g13, rfl, h13⟩ := T.e1 rfl
      have hb5 : b5 = false := by cases b5; rfl; exact absurd (T.e5 rfl).1 (by simp)
      have hb8 : b8 = false := by cases b8; rfl; exact absurd (T.e8 rfl).1 (by simp)
      refine wpOp_step rfl (fun K hK => ?_)
      go_simp
      go_at_call 12
      refine (HD.out _ w1 T.rg.2.2 ⟨_, _, _, rfl⟩).mono ?_
      rintro e w2 ⟨m, p, v, rfl, hco, hok, hb⟩
      have T' := T.keep hb
      obtain ⟨gA, hgA, hV⟩ := HdV.new (cu := .slice (some ⟨g13, 0, none⟩) 1 1) hco hok.1 hok.2 T.rg.1.size
      simp only []
      refine hK _ _ ⟨true, true, true, b3, b4, b5, b6, b7, b8, b9, u7, u8, _, _, .agg (headA m v p (.slice (some ⟨g13, 0, none⟩) 1 1)), u15, u16, u17, gA, gb, g7, g8, rfl, rfl, ?_⟩
      exact { T' with e2 := fun _ => ⟨rfl, hV⟩, e5 := (fun e => by rw [hb5] at e; cases e)
                      e6 := fun e => by
                        obtain ⟨q1, q2, A, q3, q4, q5⟩ := T'.e6 e
                        exact ⟨q1, q2, A, q3, q4, (fun e => by rw [hb8] at e; cases e)⟩
                      e8 := (fun e => by rw [hb8] at e; cases e) }
    · obtain rfl : b3 = false := hi2
      refine wpOp_step rfl (fun K hK => ?_)
      refine step_load_row rfl 24 (.tmp 3) rfl w0.heap.size 24 (formA f (.slice na nl.length nc)) _ Try.underlying24 rfl (by kernel_rfl) rfl T.rg.2.1 ?_
      refine hK _ _ ⟨b0, b1, b2, true, b4, b5, b6, b7, b8, b9, u7, u8, u12, u13, u14, .agg (formA f (.slice na nl.length nc)), u16, u17, ga, gb, g7, g8, rfl, rfl, ?_⟩
      exact { T with e3 := fun _ => rfl }
    · obtain rfl : b4 = false := hi2
      refine wpOp_step rfl (fun K hK => ?_)
      go_simp
      refine hK _ _ ⟨b0, b1, b2, b3, true, b5, b6, b7, b8, b9, u7, u8, u12, u13, u14, u15, .slice (some ⟨w1.heap.size, 0, none⟩) 1 1, u17, ga, gb, g7, g8, rfl, rfl, ?_⟩
      have hb : Below w1.heap.size w1 (w1.alloc (.cells #[.int .u8 1] 5)) := (Below.refl _ _).alloc (Nat.le_refl _) _
      have T' := T.keep hb
      have hb5 : b5 = false := by cases b5; rfl; exact absurd (T.e5 rfl).2.1 (by simp)
      exact { T' with e4 := fun _ => ⟨_, rfl, own_lit w1 #[.int .u8 1] 5 1 _ rfl rfl T.rg.1.size (by decide)⟩, e5 := (fun e => by rw [hb5] at e; cases e) }
    · obtain rfl : b5 = false := hi2
      have ha := hi3 _ rfl
      simp [Region.binds] at ha
      obtain ⟨rfl, rfl, rfl⟩ := ha
      obtain rfl := T.e3 rfl
      obtain ⟨g16, rfl, h16⟩ := T.e4 rfl
      have hb9 : b9 = false := by cases b9; rfl; exact absurd (T.e9 rfl).1 (by simp)
      have hga := (T.e2 rfl).2.lt
      refine wpOp_step rfl (fun K hK => ?_)
      go_simp
      go_at_call 12
      refine (HD.out _ w1 T.rg.2.2 ⟨_, _, _, rfl⟩).mono ?_
      rintro e w2 ⟨m, p, v, rfl, hco, hok, hb⟩
      have T' := T.keep hb
      obtain ⟨gB, hgB, hV⟩ := HdV.new (cu := .slice (some ⟨g16, 0, none⟩) 1 1) hco hok.1 hok.2 T.rg.1.size
      simp only []
      refine hK _ _ ⟨b0, b1, true, true, true, true, b6, b7, b8, b9, u7, u8, u12, u13, u14, _, _, .agg (headA m v p (.slice (some ⟨g16, 0, none⟩) 1 1)), ga, gB, g7, g8, rfl, rfl, ?_⟩
      exact { T' with e5 := fun _ => ⟨rfl, rfl, hV, by omega⟩
                      e7 := fun e => by
                        obtain ⟨q1, q2, A, q3, q4, q5⟩ := T'.e7 e
                        exact ⟨q1, q2, A, q3, q4, (fun e => by rw [hb9] at e; cases e)⟩
                      e9 := (fun e => by rw [hb9] at e; cases e) }
    · obtain rfl : b6 = false := hi2
      have hb8 : b8 = false := by cases b8; rfl; exact absurd (T.e8 rfl).2 (by simp)
      refine wpOp_step rfl (fun K hK => ?_)
      go_simp
      refine hK _ _ ⟨b0, b1, b2, b3, b4, b5, true, b7, b8, b9, .pointer (some ⟨w1.heap.size, 0, none⟩), u8, u12, u13, u14, u15, u16, u17, ga, gb, w1.heap.size, g8, rfl, rfl, ?_⟩
      have hb : Below w1.heap.size w1 (w1.alloc (.cells (headA ⟨0, 0, 0, 0, []⟩ nilV zP nilV) 33)) := (Below.refl _ _).alloc (Nat.le_refl _) _
      have T' := T.keep hb
      refine { T' with e6 := fun _ => ⟨rfl, T.rg.1.size, _, rfl, Blk.new _ _ _, (fun e => by rw [hb8] at e; cases e)⟩, e8 := (fun e => by rw [hb8] at e; cases e), n67 := fun _ e => ?_ }
      obtain ⟨q1, q2, A, q3, q4, q5⟩ := T.e7 e
      have := q4.lt
      omega
    · obtain rfl : b7 = false := hi2
      have hb9 : b9 = false := by cases b9; rfl; exact absurd (T.e9 rfl).2 (by simp)
      refine wpOp_step rfl (fun K hK => ?_)
      go_simp
      refine hK _ _ ⟨b0, b1, b2, b3, b4, b5, b6, true, b8, b9, u7, .pointer (some ⟨w1.heap.size, 0, none⟩), u12, u13, u14, u15, u16, u17, ga, gb, g7, w1.heap.size, rfl, rfl, ?_⟩
      have hb : Below w1.heap.size w1 (w1.alloc (.cells (headA ⟨0, 0, 0, 0, []⟩ nilV zP nilV) 33)) := (Below.refl _ _).alloc (Nat.le_refl _) _
      have T' := T.keep hb
      refine { T' with e7 := fun _ => ⟨rfl, T.rg.1.size, _, rfl, Blk.new _ _ _, (fun e => by rw [hb9] at e; cases e)⟩, e9 := (fun e => by rw [hb9] at e; cases e), n67 := fun e _ => ?_ }
      obtain ⟨q1, q2, A, q3, q4, q5⟩ := T.e6 e
      have := q4.lt
      omega
    · obtain rfl : b8 = false := hi2
      have ha := hi3 _ rfl
      simp [Region.binds] at ha
      obtain ⟨rfl, rfl⟩ : b6 = true ∧ b2 = true := by simp_all
      obtain ⟨rfl, l7, A, hA, q7, -⟩ := T.e6 rfl
      obtain ⟨-, m, p, vc, rfl, -, -⟩ := T.e2 rfl
      obtain ⟨g13, rfl, -⟩ := T.e1 (T.e2 rfl).1
      refine wpOp_step rfl (fun K hK => ?_)
      refine step_store_row rfl 33 (.tmp 7) (.tmp 14) rfl g7 33 (headA m (.slice (some ⟨ga, 0, none⟩) m.cs.length vc) p (.slice (some ⟨g13, 0, none⟩) 1 1)) A (by kernel_rfl) hA (by simp [headA, Value.oneCell']) rfl rfl q7 ?_
      refine hK _ _ ⟨b0, b1, true, b3, b4, b5, true, b7, true, b9, _, u8, u12, _, _, u15, u16, u17, ga, gb, g7, g8, rfl, rfl, ?_⟩
      have hne := T.rg.2.1.ne_ q7 (by decide)
      have hgr : w1.grownBy (w1.setRow g7 (headA m (.slice (some ⟨ga, 0, none⟩) m.cs.length vc) p (.slice (some ⟨g13, 0, none⟩) 1 1))) (some g7) := only_row (World.grownBy.refl _ _) _
      have hns := hn.keep (T.rg.1.trans (below_grown hgr T.rg.1.size (by rintro k ⟨⟩; exact l7)))
      have hq := Blk.row q7 (headA m (.slice (some ⟨ga, 0, none⟩) m.cs.length vc) p (.slice (some ⟨g13, 0, none⟩) 1 1))
      have T' := { T with e6 := fun _ => ⟨rfl, l7, A, hA, q7, fun e => by cases e⟩ : Tw f _ nl w0 b0 b1 true b3 b4 b5 true b7 false b9 _ u8 u12 _ _ u15 u16 u17 ga gb g7 g8 w1 }
      have T2 := T'.off q7 hgr (by omega) (fun _ => ⟨rfl, l7, _, rfl, hq, fun e => by cases e⟩) (fun e => by
        obtain ⟨q1, q2, A2, q3, q4, q5⟩ := T.e7 e
        exact ⟨q1, q2, A2, q3, q4.grown hgr (by have := T.n67 rfl e; simp; omega), q5⟩) hns
      exact { T2 with e6 := fun _ => ⟨rfl, l7, _, rfl, hq, fun _ => rfl⟩, e8 := fun _ => ⟨rfl, rfl⟩ }
    · obtain rfl : b9 = false := hi2
      have ha := hi3 _ rfl
      simp [Region.binds] at ha
      obtain ⟨rfl, rfl⟩ : b7 = true ∧ b5 = true := by simp_all
      obtain ⟨rfl, l8, A, hA, q8, -⟩ := T.e7 rfl
      obtain ⟨-, -, ⟨m, p, vc, rfl, -, -⟩, -⟩ := T.e5 rfl
      obtain ⟨g16, rfl, -⟩ := T.e4 (T.e5 rfl).2.1
      refine wpOp_step rfl (fun K hK => ?_)
      refine step_store_row rfl 33 (.tmp 8) (.tmp 17) rfl g8 33 (headA m (.slice (some ⟨gb, 0, none⟩) m.cs.length vc) p (.slice (some ⟨g16, 0, none⟩) 1 1)) A (by kernel_rfl) hA (by simp [headA, Value.oneCell']) rfl rfl q8 ?_
      refine hK _ _ ⟨b0, b1, b2, b3, b4, true, b6, true, b8, true, u7, _, u12, u13, u14, u15, _, _, ga, gb, g7, g8, rfl, rfl, ?_⟩
      have hne := T.rg.2.1.ne_ q8 (by decide)
      have hgr : w1.grownBy (w1.setRow g8 (headA m (.slice (some ⟨gb, 0, none⟩) m.cs.length vc) p (.slice (some ⟨g16, 0, none⟩) 1 1))) (some g8) := only_row (World.grownBy.refl _ _) _
      have hns := hn.keep (T.rg.1.trans (below_grown hgr T.rg.1.size (by rintro k ⟨⟩; exact l8)))
      have hq := Blk.row q8 (headA m (.slice (some ⟨gb, 0, none⟩) m.cs.length vc) p (.slice (some ⟨g16, 0, none⟩) 1 1))
      have T2 := T.off q8 hgr (by omega) (fun e => by
        obtain ⟨q1, q2, A2, q3, q4, q5⟩ := T.e6 e
        exact ⟨q1, q2, A2, q3, q4.grown hgr (by have := T.n67 e rfl; simp; omega), q5⟩) (fun _ => ⟨rfl, l8, _, rfl, hq, fun e => by cases e⟩) hns
      exact { T2 with e7 := fun _ => ⟨rfl, l8, _, rfl, hq, fun _ => rfl⟩, e9 := fun _ => ⟨rfl, rfl⟩ }
end Go.Proofs.Ytlhlhlabnjfhcaa
