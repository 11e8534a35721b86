/- MarksSames: its comparisons, as pieces; what two heads of one form are. -/
import Derived.Test.YtlhlhlabnjfhcaaHdG
import Derived.Test.YtlhlhlabnjfhcaaLzU
namespace Go.Proofs.Ytlhlhlabnjfhcaa
open Go.RowKit Go.Maps

set_option maxRecDepth 100000 in
set_option maxHeartbeats 4000000 in
theorem sames_r4 (K : Act → World → Prop) (g7 g8 : Nat) (A7 A8 : Array Value) (z7 : A7.size = 18) (z8 : A8.size = 18) (w : World) (s0 s1 s2 s3 s4 s5 s6 s9 s10 s11 s12 s13 s14 s15 s16 s17 s18 s19 s20 s21 s22 s23 s24 s25 s26 s27 s28 s29 s30 s31 s32 s33 s34 s35 s36 s37 s38 s39 s40 s41 s42 s43 s44 s45 s46 s47 s48 s49 s50 s51 s52 s53 s54 s55 s56 s57 s58 s59 s60 s61 s62 s63 s64 s65 s66 s67 s68 s69 s70 s71 s72 s73 s74 s75 s76 s77 s78 s79 s80 s81 s82 s83 s84 s85 s86 s87 s88 s89 s90 s91 s92 s93 s94 s95 s96 s97 s98 s99 s100 s101 s102 s103 s104 s105 s106 s107 s108 s109 s110 s111 s112 s113 s114 s115 s116 s117 s118 s119 s120 s121 s122 s123 s124 s125 s126 s127 s128 s129 s130 s131 s132 s133 s134 s135 s136 s137 s138 s139 s140 s141 s142 s143 s144 s145 s146 s147 s148 s149 s150 s151 : Value) (h7 : Blk w g7 33 A7) (h8 : Blk w g8 33 A8)
    (hs : Calls Try.prog 17 #[.agg A7, .agg A8] w fun e w' => e = .returned (.bool true) ∧ Below w.heap.size w w')
    (hk : ∀ (u18 u19 : Value) (wx : World), Below w.heap.size w wx → K ⟨List.toArray (s0 :: s1 :: s2 :: s3 :: s4 :: s5 :: s6 :: (.pointer (some ⟨g7, 0, none⟩)) :: (.pointer (some ⟨g8, 0, none⟩)) :: s9 :: s10 :: s11 :: s12 :: s13 :: s14 :: s15 :: s16 :: s17 :: u18 :: u19 :: (.bool true) :: (.bool false) :: s22 :: s23 :: s24 :: s25 :: s26 :: s27 :: s28 :: s29 :: s30 :: s31 :: s32 :: s33 :: s34 :: s35 :: s36 :: s37 :: s38 :: s39 :: s40 :: s41 :: s42 :: s43 :: s44 :: s45 :: s46 :: s47 :: s48 :: s49 :: s50 :: s51 :: s52 :: s53 :: s54 :: s55 :: s56 :: s57 :: s58 :: s59 :: s60 :: s61 :: s62 :: s63 :: s64 :: s65 :: s66 :: s67 :: s68 :: s69 :: s70 :: s71 :: s72 :: s73 :: s74 :: s75 :: s76 :: s77 :: s78 :: s79 :: s80 :: s81 :: s82 :: s83 :: s84 :: s85 :: s86 :: s87 :: s88 :: s89 :: s90 :: s91 :: s92 :: s93 :: s94 :: s95 :: s96 :: s97 :: s98 :: s99 :: s100 :: s101 :: s102 :: s103 :: s104 :: s105 :: s106 :: s107 :: s108 :: s109 :: s110 :: s111 :: s112 :: s113 :: s114 :: s115 :: s116 :: s117 :: s118 :: s119 :: s120 :: s121 :: s122 :: s123 :: s124 :: s125 :: s126 :: s127 :: s128 :: s129 :: s130 :: s131 :: s132 :: s133 :: s134 :: s135 :: s136 :: s137 :: s138 :: s139 :: s140 :: s141 :: s142 :: s143 :: s144 :: s145 :: s146 :: s147 :: s148 :: s149 :: s150 :: s151 :: []), []⟩ wx) :
    (regionOf 4 Try.f5).wp Try.prog (Exit.then K noQ) ⟨List.toArray (s0 :: s1 :: s2 :: s3 :: s4 :: s5 :: s6 :: (.pointer (some ⟨g7, 0, none⟩)) :: (.pointer (some ⟨g8, 0, none⟩)) :: s9 :: s10 :: s11 :: s12 :: s13 :: s14 :: s15 :: s16 :: s17 :: s18 :: s19 :: s20 :: s21 :: s22 :: s23 :: s24 :: s25 :: s26 :: s27 :: s28 :: s29 :: s30 :: s31 :: s32 :: s33 :: s34 :: s35 :: s36 :: s37 :: s38 :: s39 :: s40 :: s41 :: s42 :: s43 :: s44 :: s45 :: s46 :: s47 :: s48 :: s49 :: s50 :: s51 :: s52 :: s53 :: s54 :: s55 :: s56 :: s57 :: s58 :: s59 :: s60 :: s61 :: s62 :: s63 :: s64 :: s65 :: s66 :: s67 :: s68 :: s69 :: s70 :: s71 :: s72 :: s73 :: s74 :: s75 :: s76 :: s77 :: s78 :: s79 :: s80 :: s81 :: s82 :: s83 :: s84 :: s85 :: s86 :: s87 :: s88 :: s89 :: s90 :: s91 :: s92 :: s93 :: s94 :: s95 :: s96 :: s97 :: s98 :: s99 :: s100 :: s101 :: s102 :: s103 :: s104 :: s105 :: s106 :: s107 :: s108 :: s109 :: s110 :: s111 :: s112 :: s113 :: s114 :: s115 :: s116 :: s117 :: s118 :: s119 :: s120 :: s121 :: s122 :: s123 :: s124 :: s125 :: s126 :: s127 :: s128 :: s129 :: s130 :: s131 :: s132 :: s133 :: s134 :: s135 :: s136 :: s137 :: s138 :: s139 :: s140 :: s141 :: s142 :: s143 :: s144 :: s145 :: s146 :: s147 :: s148 :: s149 :: s150 :: s151 :: []), []⟩ w := by
  conv in (regionOf _ _) => whnf
  unfold noQ
  have HK := Lib.hid hk
  have HS := Lib.hid hs
  clear hk hs
  have H7 : Hid (w.heap[g7]? = some (.cells A7 33 (0, 0))) := h7
  have H8 : Hid (w.heap[g8]? = some (.cells A8 33 (0, 0))) := h8
  clear h7 h8
  iterate 2 go_step
  refine wpList_load_row rfl 33 (.tmp 7) rfl g7 rfl 33 A7 (0, 0) _ H7.out Try.underlying33 rfl (by rw [z7]; kernel_rfl) ?_
  refine wpList_load_row rfl 33 (.tmp 8) rfl g8 rfl 33 A8 (0, 0) _ H8.out Try.underlying33 rfl (by rw [z8]; kernel_rfl) ?_
  go_wp2_with (go_at_call 17; refine HS.out.mono ?_; rintro e w10 ⟨rfl, hB10⟩)
  exact HK.out _ _ _ hB10

set_option maxRecDepth 100000 in
set_option maxHeartbeats 4000000 in
theorem sames_r32 (K : Act → World → Prop) (g7 g8 : Nat) (A7 A8 : Array Value) (z7 : A7.size = 18) (z8 : A8.size = 18) (w : World) (s0 s1 s2 s3 s4 s5 s6 s9 s10 s11 s12 s13 s14 s15 s16 s17 s18 s19 s20 s21 s22 s23 s24 s25 s26 s27 s28 s29 s30 s31 s32 s33 s34 s35 s36 s37 s38 s39 s40 s41 s42 s43 s44 s45 s46 s47 s48 s49 s50 s51 s52 s53 s54 s55 s56 s57 s58 s59 s60 s61 s62 s63 s64 s65 s66 s67 s68 s69 s70 s71 s72 s73 s74 s75 s76 s77 s78 s79 s80 s81 s82 s83 s84 s85 s86 s87 s88 s89 s90 s91 s92 s93 s94 s95 s96 s97 s98 s99 s100 s101 s102 s103 s104 s105 s106 s107 s108 s109 s110 s111 s112 s113 s114 s115 s116 s117 s118 s119 s120 s121 s122 s123 s124 s125 s126 s127 s128 s129 s130 s131 s132 s133 s134 s135 s136 s137 s138 s139 s140 s141 s142 s143 s144 s145 s146 s147 s148 s149 s150 s151 : Value) (h7 : Blk w g7 33 A7) (h8 : Blk w g8 33 A8)
    (hs : Calls Try.prog 17 #[.agg A7, .agg A8] w fun e w' => e = .returned (.bool true) ∧ Below w.heap.size w w')
    (hk : ∀ (u139 u140 u141 : Value) (wx : World), Below w.heap.size w wx → K ⟨List.toArray (s0 :: s1 :: s2 :: s3 :: s4 :: s5 :: (.bool true) :: (.pointer (some ⟨g7, 0, none⟩)) :: (.pointer (some ⟨g8, 0, none⟩)) :: s9 :: s10 :: s11 :: s12 :: s13 :: s14 :: s15 :: s16 :: s17 :: s18 :: s19 :: s20 :: s21 :: s22 :: s23 :: s24 :: s25 :: s26 :: s27 :: s28 :: s29 :: s30 :: s31 :: s32 :: s33 :: s34 :: s35 :: s36 :: s37 :: s38 :: s39 :: s40 :: s41 :: s42 :: s43 :: s44 :: s45 :: s46 :: s47 :: s48 :: s49 :: s50 :: s51 :: s52 :: s53 :: s54 :: s55 :: s56 :: s57 :: s58 :: s59 :: s60 :: s61 :: s62 :: s63 :: s64 :: s65 :: s66 :: s67 :: s68 :: s69 :: s70 :: s71 :: s72 :: s73 :: s74 :: s75 :: s76 :: s77 :: s78 :: s79 :: s80 :: s81 :: s82 :: s83 :: s84 :: s85 :: s86 :: s87 :: s88 :: s89 :: s90 :: s91 :: s92 :: s93 :: s94 :: s95 :: s96 :: s97 :: s98 :: s99 :: s100 :: s101 :: s102 :: s103 :: s104 :: s105 :: s106 :: s107 :: s108 :: s109 :: s110 :: s111 :: s112 :: s113 :: s114 :: s115 :: s116 :: s117 :: s118 :: s119 :: s120 :: s121 :: s122 :: s123 :: s124 :: s125 :: s126 :: s127 :: s128 :: s129 :: s130 :: s131 :: s132 :: s133 :: s134 :: s135 :: s136 :: s137 :: s138 :: u139 :: u140 :: u141 :: s142 :: s143 :: s144 :: s145 :: s146 :: s147 :: s148 :: s149 :: s150 :: s151 :: []), []⟩ wx) :
    (regionOf 32 Try.f5).wp Try.prog (Exit.then K noQ) ⟨List.toArray (s0 :: s1 :: s2 :: s3 :: s4 :: s5 :: s6 :: (.pointer (some ⟨g7, 0, none⟩)) :: (.pointer (some ⟨g8, 0, none⟩)) :: s9 :: s10 :: s11 :: s12 :: s13 :: s14 :: s15 :: s16 :: s17 :: s18 :: s19 :: s20 :: s21 :: s22 :: s23 :: s24 :: s25 :: s26 :: s27 :: s28 :: s29 :: s30 :: s31 :: s32 :: s33 :: s34 :: s35 :: s36 :: s37 :: s38 :: s39 :: s40 :: s41 :: s42 :: s43 :: s44 :: s45 :: s46 :: s47 :: s48 :: s49 :: s50 :: s51 :: s52 :: s53 :: s54 :: s55 :: s56 :: s57 :: s58 :: s59 :: s60 :: s61 :: s62 :: s63 :: s64 :: s65 :: s66 :: s67 :: s68 :: s69 :: s70 :: s71 :: s72 :: s73 :: s74 :: s75 :: s76 :: s77 :: s78 :: s79 :: s80 :: s81 :: s82 :: s83 :: s84 :: s85 :: s86 :: s87 :: s88 :: s89 :: s90 :: s91 :: s92 :: s93 :: s94 :: s95 :: s96 :: s97 :: s98 :: s99 :: s100 :: s101 :: s102 :: s103 :: s104 :: s105 :: s106 :: s107 :: s108 :: s109 :: s110 :: s111 :: s112 :: s113 :: s114 :: s115 :: s116 :: s117 :: s118 :: s119 :: s120 :: s121 :: s122 :: s123 :: s124 :: s125 :: s126 :: s127 :: s128 :: s129 :: s130 :: s131 :: s132 :: s133 :: s134 :: s135 :: s136 :: s137 :: s138 :: s139 :: s140 :: s141 :: s142 :: s143 :: s144 :: s145 :: s146 :: s147 :: s148 :: s149 :: s150 :: s151 :: []), []⟩ w := by
  conv in (regionOf _ _) => whnf
  unfold noQ
  have HK := Lib.hid hk
  have HS := Lib.hid hs
  clear hk hs
  have H7 : Hid (w.heap[g7]? = some (.cells A7 33 (0, 0))) := h7
  have H8 : Hid (w.heap[g8]? = some (.cells A8 33 (0, 0))) := h8
  clear h7 h8
  iterate 2 go_step
  refine wpList_load_row rfl 33 (.tmp 7) rfl g7 rfl 33 A7 (0, 0) _ H7.out Try.underlying33 rfl (by rw [z7]; kernel_rfl) ?_
  refine wpList_load_row rfl 33 (.tmp 8) rfl g8 rfl 33 A8 (0, 0) _ H8.out Try.underlying33 rfl (by rw [z8]; kernel_rfl) ?_
  go_wp2_with (go_at_call 17; refine HS.out.mono ?_; rintro e w10 ⟨rfl, hB10⟩)
  exact HK.out _ _ _ _ hB10

set_option maxRecDepth 100000 in
set_option maxHeartbeats 4000000 in
theorem sames_r33 (K : Act → World → Prop) (g7 g8 : Nat) (A7 A8 : Array Value) (z7 : A7.size = 18) (z8 : A8.size = 18) (w : World) (s0 s1 s2 s3 s4 s5 s6 s9 s10 s11 s12 s13 s14 s15 s16 s17 s18 s19 s20 s21 s22 s23 s24 s25 s26 s27 s28 s29 s30 s31 s32 s33 s34 s35 s36 s37 s38 s39 s40 s41 s42 s43 s44 s45 s46 s47 s48 s49 s50 s51 s52 s53 s54 s55 s56 s57 s58 s59 s60 s61 s62 s63 s64 s65 s66 s67 s68 s69 s70 s71 s72 s73 s74 s75 s76 s77 s78 s79 s80 s81 s82 s83 s84 s85 s86 s87 s88 s89 s90 s91 s92 s93 s94 s95 s96 s97 s98 s99 s100 s101 s102 s103 s104 s105 s106 s107 s108 s109 s110 s111 s112 s113 s114 s115 s116 s117 s118 s119 s120 s121 s122 s123 s124 s125 s126 s127 s128 s129 s130 s131 s132 s133 s134 s135 s136 s137 s138 s139 s140 s141 s142 s143 s144 s145 s146 s147 s148 s149 s150 s151 : Value) (h7 : Blk w g7 33 A7) (h8 : Blk w g8 33 A8)
    (hs : Calls Try.prog 17 #[.agg A7, .agg A8] w fun e w' => e = .returned (.bool false) ∧ Below w.heap.size w w')
    (hs2 : ∀ W, Below w.heap.size w W → Calls Try.prog 17 #[.agg A8, .agg A7] W fun e w' => e = .returned (.bool false) ∧ Below W.heap.size W w')
    (hk : ∀ (u142 u143 u144 u145 u146 u147 u148 u149 u150 u151 : Value) (wx : World), Below w.heap.size w wx → K ⟨List.toArray (s0 :: s1 :: s2 :: s3 :: s4 :: s5 :: (.bool true) :: (.pointer (some ⟨g7, 0, none⟩)) :: (.pointer (some ⟨g8, 0, none⟩)) :: s9 :: s10 :: s11 :: s12 :: s13 :: s14 :: s15 :: s16 :: s17 :: s18 :: s19 :: s20 :: s21 :: s22 :: s23 :: s24 :: s25 :: s26 :: s27 :: s28 :: s29 :: s30 :: s31 :: s32 :: s33 :: s34 :: s35 :: s36 :: s37 :: s38 :: s39 :: s40 :: s41 :: s42 :: s43 :: s44 :: s45 :: s46 :: s47 :: s48 :: s49 :: s50 :: s51 :: s52 :: s53 :: s54 :: s55 :: s56 :: s57 :: s58 :: s59 :: s60 :: s61 :: s62 :: s63 :: s64 :: s65 :: s66 :: s67 :: s68 :: s69 :: s70 :: s71 :: s72 :: s73 :: s74 :: s75 :: s76 :: s77 :: s78 :: s79 :: s80 :: s81 :: s82 :: s83 :: s84 :: s85 :: s86 :: s87 :: s88 :: s89 :: s90 :: s91 :: s92 :: s93 :: s94 :: s95 :: s96 :: s97 :: s98 :: s99 :: s100 :: s101 :: s102 :: s103 :: s104 :: s105 :: s106 :: s107 :: s108 :: s109 :: s110 :: s111 :: s112 :: s113 :: s114 :: s115 :: s116 :: s117 :: s118 :: s119 :: s120 :: s121 :: s122 :: s123 :: s124 :: s125 :: s126 :: s127 :: s128 :: s129 :: s130 :: s131 :: s132 :: s133 :: s134 :: s135 :: s136 :: s137 :: s138 :: s139 :: s140 :: s141 :: u142 :: u143 :: u144 :: u145 :: u146 :: u147 :: u148 :: u149 :: u150 :: u151 :: []), []⟩ wx) :
    (regionOf 33 Try.f5).wp Try.prog (Exit.then K noQ) ⟨List.toArray (s0 :: s1 :: s2 :: s3 :: s4 :: s5 :: s6 :: (.pointer (some ⟨g7, 0, none⟩)) :: (.pointer (some ⟨g8, 0, none⟩)) :: s9 :: s10 :: s11 :: s12 :: s13 :: s14 :: s15 :: s16 :: s17 :: s18 :: s19 :: s20 :: s21 :: s22 :: s23 :: s24 :: s25 :: s26 :: s27 :: s28 :: s29 :: s30 :: s31 :: s32 :: s33 :: s34 :: s35 :: s36 :: s37 :: s38 :: s39 :: s40 :: s41 :: s42 :: s43 :: s44 :: s45 :: s46 :: s47 :: s48 :: s49 :: s50 :: s51 :: s52 :: s53 :: s54 :: s55 :: s56 :: s57 :: s58 :: s59 :: s60 :: s61 :: s62 :: s63 :: s64 :: s65 :: s66 :: s67 :: s68 :: s69 :: s70 :: s71 :: s72 :: s73 :: s74 :: s75 :: s76 :: s77 :: s78 :: s79 :: s80 :: s81 :: s82 :: s83 :: s84 :: s85 :: s86 :: s87 :: s88 :: s89 :: s90 :: s91 :: s92 :: s93 :: s94 :: s95 :: s96 :: s97 :: s98 :: s99 :: s100 :: s101 :: s102 :: s103 :: s104 :: s105 :: s106 :: s107 :: s108 :: s109 :: s110 :: s111 :: s112 :: s113 :: s114 :: s115 :: s116 :: s117 :: s118 :: s119 :: s120 :: s121 :: s122 :: s123 :: s124 :: s125 :: s126 :: s127 :: s128 :: s129 :: s130 :: s131 :: s132 :: s133 :: s134 :: s135 :: s136 :: s137 :: s138 :: s139 :: s140 :: s141 :: s142 :: s143 :: s144 :: s145 :: s146 :: s147 :: s148 :: s149 :: s150 :: s151 :: []), []⟩ w := by
  conv in (regionOf _ _) => whnf
  unfold noQ
  have HK := Lib.hid hk
  have HS := Lib.hid hs
  have HS2 := Lib.hid hs2
  clear hk hs hs2
  have l7 := h7.lt
  have l8 := h8.lt
  have H7 : Hid (w.heap[g7]? = some (.cells A7 33 (0, 0))) := h7
  have H8 : Hid (w.heap[g8]? = some (.cells A8 33 (0, 0))) := h8
  clear h7 h8
  iterate 2 go_step
  refine wpList_load_row rfl 33 (.tmp 7) rfl g7 rfl 33 A7 (0, 0) _ H7.out Try.underlying33 rfl (by rw [z7]; kernel_rfl) ?_
  refine wpList_load_row rfl 33 (.tmp 8) rfl g8 rfl 33 A8 (0, 0) _ H8.out Try.underlying33 rfl (by rw [z8]; kernel_rfl) ?_
  iterate 2 go_step
  go_at_call 17
  refine HS.out.mono ?_
  rintro e w10 ⟨rfl, hB10⟩
  have G7 : Hid (w10.heap[g7]? = some (.cells A7 33 (0, 0))) := (show Blk w g7 33 A7 from H7.out).below hB10 l7
  have G8 : Hid (w10.heap[g8]? = some (.cells A8 33 (0, 0))) := (show Blk w g8 33 A8 from H8.out).below hB10 l8
  have HS3 := Lib.hid (HS2.out w10 hB10)
  have HB := Lib.hid hB10
  clear hB10 HS2 HS
  simp only []
  iterate 7 go_step
  refine wpList_load_row_want (by rfl) 33 (.tmp 8) rfl g8 rfl 33 A8 (0, 0) _ G8.out Try.underlying33 rfl (by rw [z8]; kernel_rfl) ?_
  refine wpList_load_row_want (by rfl) 33 (.tmp 7) rfl g7 rfl 33 A7 (0, 0) _ G7.out Try.underlying33 rfl (by rw [z7]; kernel_rfl) ?_
  go_wp2_with (go_at_call 17; refine HS3.out.mono ?_; rintro e w11 ⟨rfl, hB11⟩)
  exact HK.out _ _ _ _ _ _ _ _ _ _ _ (HB.out.trans (hB11.mono HB.out.size))

theorem Two.keep {f : FormD} {B g7 g8 ga gb : Nat} {m : ImgD} {p : ParD} {vc : Nat} {ca : Value} {m' : ImgD} {p' : ParD} {vc' : Nat} {cb : Value} {w w' : World} (h : Two f B g7 g8 ga gb m p vc ca m' p' vc' cb w) (hb : Below w.heap.size w w') :
    Two f B g7 g8 ga gb m p vc ca m' p' vc' cb w' :=
  ⟨h.b7.below hb h.b7.lt, h.b8.below hb h.b8.lt, h.c7.keep hb, h.c8.keep hb, h.n1, h.n2, h.o7.keep hb, h.o8.keep hb, h.k7, h.k8, h.l7, h.l8⟩

theorem made_par {f : FormD} {m m' : ImgD} {p p' : ParD} (h : MadeIs f 8 m p) (h' : MadeIs f 8 m' p') : m.cs.length = m'.cs.length ∧ m.x = m'.x ∧ m.y = m'.y ∧ m.ox = m'.ox ∧ m.oy = m'.oy ∧ p = p' := by
  have a1 := h.ox.symm.trans h'.ox
  have a2 := h.oy.symm.trans h'.oy
  have a3 : m.x = m'.x := by rw [← h.x, ← h'.x, a1]
  have a4 : m.y = m'.y := by rw [← h.y, ← h'.y, a2]
  have a5 : m.cs.length = m'.cs.length := by
    have := h.n.symm.trans h'.n
    omega
  have hd := h'.dbl
  rw [← a1, ← a2, ← a3, ← a4] at hd
  have a6 := h.dbl.one hd
  refine ⟨a5, a3, a4, a1, a2, ?_⟩
  rw [h.par, h'.par, a5, a6.1, a6.2]
theorem made_cs {f : FormD} {m m' : ImgD} {p p' : ParD} (h : MadeIs f 8 m p) (h' : MadeIs f 8 m' p') (k : Nat) (c d : CompD) (hc : m.cs[k]? = some c) (hd : m'.cs[k]? = some d) : c.depth = d.depth ∧ c.signed = d.signed ∧ c.dx = d.dx ∧ c.dy = d.dy := by
  have e := (h.comps k c hc).trans (h'.comps k d hd).symm
  simp only [Prod.mk.injEq] at e
  have s1 := h.sg c (List.mem_of_getElem? hc)
  have s2 := h'.sg d (List.mem_of_getElem? hd)
  exact ⟨e.1, s1.trans s2.symm, e.2.1, e.2.2⟩
theorem made_same {f : FormD} {m m' : ImgD} {p p' : ParD} (h : MadeIs f 8 m p) (h' : MadeIs f 8 m' p') : SameCs m.cs m'.cs := by
  refine ⟨(made_par h h').1, fun k c d hc hd => ?_⟩
  obtain ⟨e1, e2, e3, e4⟩ := made_cs h h' k c d hc hd
  simp [sameC, e1, e2, e3, e4]
theorem not_same_set {a b : List CompD} {k : Nat} {c d c' : CompD} (hc : a[k]? = some c) (hd : b[k]? = some d) (h : sameC c c' = false) (h' : sameC c' c = false) : ¬ SameCs a (b.set k c') ∧ ¬ SameCs (b.set k c') a := by
  have hl := (List.getElem?_eq_some_iff.1 hd).1
  have e : (b.set k c')[k]? = some c' := List.getElem?_set_self hl
  exact ⟨(fun g => by rw [g.2 k c c' hc e] at h; cases h), (fun g => by rw [g.2 k c' c e hc] at h'; cases h')⟩
theorem same_set_data {a b : List CompD} (h : SameCs a b) {k : Nat} {c d : CompD} (hc : a[k]? = some c) (hd : b[k]? = some d) (l : List Int) : SameCs a (b.set k { d with data := l }) := by
  have hl := (List.getElem?_eq_some_iff.1 hd).1
  refine ⟨by rw [List.length_set]; exact h.1, fun i x y hx hy => ?_⟩
  by_cases hik : k = i
  · subst hik
    rw [List.getElem?_set_self hl] at hy
    cases hy
    have := h.2 k x d hx hd
    simpa [sameC] using this
  · rw [List.getElem?_set_ne hik] at hy
    exact h.2 i x y hx hy
/-- a comparison's answer -/
theorem same_true {m m' : ImgD} {v v' : Value} {p p' : ParD} {cv cv' : Value} {cl cl' : List UInt8} {w : World} (hv : CompsRd w v m.cs) (hv' : CompsRd w v' m'.cs) (hc : BV w cv cl) (hc' : BV w cv' cl') (hl : m.cs.length ≤ 1000000000) (hcl : cl.length ≤ 1000000000)
    (h : SameCs m.cs m'.cs ∧ m.x = m'.x ∧ m.y = m'.y ∧ m.ox = m'.ox ∧ m.oy = m'.oy ∧ p = p' ∧ cl = cl') :
    Calls Try.prog 17 #[.agg (headA m v p cv), .agg (headA m' v' p' cv')] w fun e w' => e = .returned (.bool true) ∧ Below w.heap.size w w' := by
  refine (same_any m m' v v' p p' cv cv' cl cl' w hv hv' hc hc' hl hcl).mono ?_
  rintro e w' ⟨r, rfl, hr, hb⟩
  rw [hr.2 h]
  exact ⟨rfl, hb⟩
theorem same_false {m m' : ImgD} {v v' : Value} {p p' : ParD} {cv cv' : Value} {cl cl' : List UInt8} {w : World} (hv : CompsRd w v m.cs) (hv' : CompsRd w v' m'.cs) (hc : BV w cv cl) (hc' : BV w cv' cl') (hl : m.cs.length ≤ 1000000000) (hcl : cl.length ≤ 1000000000)
    (h : ¬ (SameCs m.cs m'.cs ∧ m.x = m'.x ∧ m.y = m'.y ∧ m.ox = m'.ox ∧ m.oy = m'.oy ∧ p = p' ∧ cl = cl')) :
    Calls Try.prog 17 #[.agg (headA m v p cv), .agg (headA m' v' p' cv')] w fun e w' => e = .returned (.bool false) ∧ Below w.heap.size w w' := by
  refine (same_any m m' v v' p p' cv cv' cl cl' w hv hv' hc hc' hl hcl).mono ?_
  rintro e w' ⟨r, rfl, hr, hb⟩
  have : r = false := by
    cases r
    · rfl
    · exact absurd (hr.1 rfl) h
  rw [this]
  exact ⟨rfl, hb⟩
end Go.Proofs.Ytlhlhlabnjfhcaa
