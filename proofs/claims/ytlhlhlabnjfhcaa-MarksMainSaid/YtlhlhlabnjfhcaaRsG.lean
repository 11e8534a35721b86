/- waveletref17: Same, of two heads that are the same. -/
import Derived.Test.YtlhlhlabnjfhcaaRsF
namespace Go.Proofs.Ytlhlhlabnjfhcaa
open Go.RowKit Go.Maps

inductive rsame_r6_S (ga gb k ba o1 bb o2 : Nat) (v4 w4 cv dv : Value) (c d : CompD) (w : World) (s0 s1 s4 s6 s7 s8 s9 s10 s11 s12 s13 s14 s15 s16 s17 s18 s19 s20 s21 s22 s23 s24 s25 s26 s27 s28 s29 s30 s31 s32 s33 s34 s35 s36 s37 s38 s39 s40 s41 s42 s43 s44 s45 s46 s47 s48 s49 s50 s51 s52 s53 s54 s55 s56 s57 s58 s59 s60 s61 s62 s63 s64 s65 s66 s67 s68 s69 s70 s71 s72 s73 s74 s75 s76 s77 s78 s79 s80 s81 s82 s83 s84 s85 s86 s87 s88 s89 s90 s91 s92 s93 s94 s95 s96 s97 s98 s99 s100 s101 s102 s103 s104 s105 s106 s107 s108 s109 s110 s111 s112 s113 s114 : Value) (listed : Array Bool) (a : Act) (W : World) : Prop
  | mk (b0 b1 b2 b3 b4 b5 b6 b7 b8 b9 b10 b11 b12 b13 b14 b15 : Bool) (u77 u78 u79 u80 u81 u82 u83 u84 u85 u86 u87 u88 u6 u7 : Value) (g6 : Nat) (g7 : Nat) (hl : listed = #[b0, b1, b2, b3, b4, b5, b6, b7, b8, b9, b10, b11, b12, b13, b14, b15]) (ha : a = ⟨List.toArray (s0 :: s1 :: (.pointer (some ⟨ga, 0, none⟩)) :: (.pointer (some ⟨gb, 0, none⟩)) :: s4 :: (.int .i64 k) :: u6 :: u7 :: s8 :: s9 :: s10 :: s11 :: s12 :: s13 :: s14 :: s15 :: s16 :: s17 :: s18 :: s19 :: s20 :: s21 :: s22 :: s23 :: s24 :: s25 :: s26 :: s27 :: s28 :: s29 :: s30 :: s31 :: s32 :: s33 :: s34 :: s35 :: s36 :: s37 :: s38 :: s39 :: s40 :: s41 :: s42 :: s43 :: s44 :: s45 :: s46 :: s47 :: s48 :: s49 :: s50 :: s51 :: s52 :: s53 :: s54 :: s55 :: s56 :: s57 :: s58 :: s59 :: s60 :: s61 :: s62 :: s63 :: s64 :: s65 :: s66 :: s67 :: s68 :: s69 :: s70 :: s71 :: s72 :: s73 :: s74 :: s75 :: s76 :: u77 :: u78 :: u79 :: u80 :: u81 :: u82 :: u83 :: u84 :: u85 :: u86 :: u87 :: u88 :: s89 :: s90 :: s91 :: s92 :: s93 :: s94 :: s95 :: s96 :: s97 :: s98 :: s99 :: s100 :: s101 :: s102 :: s103 :: s104 :: s105 :: s106 :: s107 :: s108 :: s109 :: s110 :: s111 :: s112 :: s113 :: s114 :: []), []⟩) (HW : Below w.heap.size w W) (h0 : Hid (b0 = true → u77 = .pointer (some ⟨ga, 0, none⟩))) (h1 : Hid (b1 = true → u78 = .pointer (some ⟨ga, 4, none⟩))) (h2 : Hid (b2 = true → u79 = v4)) (h3 : Hid (b3 = true → u80 = .int .i64 k)) (h4 : Hid (b4 = true → u81 = .pointer (some ⟨ba, o1 + k * 5, none⟩))) (h5 : Hid (b5 = true → u82 = .agg #[.int .i64 c.depth, .bool c.signed, .int .i64 c.dx, .int .i64 c.dy, cv])) (h6 : Hid (b6 = true → u83 = .pointer (some ⟨gb, 0, none⟩))) (h7 : Hid (b7 = true → u84 = .pointer (some ⟨gb, 4, none⟩))) (h8 : Hid (b8 = true → u85 = w4)) (h9 : Hid (b9 = true → u86 = .int .i64 k)) (h10 : Hid (b10 = true → u87 = .pointer (some ⟨bb, o2 + k * 5, none⟩))) (h11 : Hid (b11 = true → u88 = .agg #[.int .i64 d.depth, .bool d.signed, .int .i64 d.dx, .int .i64 d.dy, dv])) (h12 : Hid (b12 = true → u6 = .pointer (some ⟨g6, 0, none⟩) ∧ w.heap.size ≤ g6 ∧ ∃ A, A.size = 5 ∧ Blk W g6 45 A ∧ (b14 = true → A = #[.int .i64 c.depth, .bool c.signed, .int .i64 c.dx, .int .i64 c.dy, cv]))) (h13 : Hid (b13 = true → u7 = .pointer (some ⟨g7, 0, none⟩) ∧ w.heap.size ≤ g7 ∧ (b12 = true → g6 ≠ g7) ∧ ∃ A, A.size = 5 ∧ Blk W g7 45 A ∧ (b15 = true → A = #[.int .i64 d.depth, .bool d.signed, .int .i64 d.dx, .int .i64 d.dy, dv]))) (h14 : Hid (b14 = true → b12 = true)) (h15 : Hid (b15 = true → b13 = true)) : rsame_r6_S ga gb k ba o1 bb o2 v4 w4 cv dv c d w s0 s1 s4 s6 s7 s8 s9 s10 s11 s12 s13 s14 s15 s16 s17 s18 s19 s20 s21 s22 s23 s24 s25 s26 s27 s28 s29 s30 s31 s32 s33 s34 s35 s36 s37 s38 s39 s40 s41 s42 s43 s44 s45 s46 s47 s48 s49 s50 s51 s52 s53 s54 s55 s56 s57 s58 s59 s60 s61 s62 s63 s64 s65 s66 s67 s68 s69 s70 s71 s72 s73 s74 s75 s76 s77 s78 s79 s80 s81 s82 s83 s84 s85 s86 s87 s88 s89 s90 s91 s92 s93 s94 s95 s96 s97 s98 s99 s100 s101 s102 s103 s104 s105 s106 s107 s108 s109 s110 s111 s112 s113 s114 listed a W
set_option maxRecDepth 100000 in
set_option maxHeartbeats 4000000 in
theorem rsame_r6 (K : Act → World → Prop) (ga gb k ba o1 bb o2 : Nat) (v4 w4 cv dv : Value) (c d : CompD) (w : World) (s0 s1 s4 s6 s7 s8 s9 s10 s11 s12 s13 s14 s15 s16 s17 s18 s19 s20 s21 s22 s23 s24 s25 s26 s27 s28 s29 s30 s31 s32 s33 s34 s35 s36 s37 s38 s39 s40 s41 s42 s43 s44 s45 s46 s47 s48 s49 s50 s51 s52 s53 s54 s55 s56 s57 s58 s59 s60 s61 s62 s63 s64 s65 s66 s67 s68 s69 s70 s71 s72 s73 s74 s75 s76 s77 s78 s79 s80 s81 s82 s83 s84 s85 s86 s87 s88 s89 s90 s91 s92 s93 s94 s95 s96 s97 s98 s99 s100 s101 s102 s103 s104 s105 s106 s107 s108 s109 s110 s111 s112 s113 s114 : Value) (hv4 : ∃ n c, v4 = .slice (some ⟨ba, o1, none⟩) n c ∧ k < n) (hw4 : ∃ n c, w4 = .slice (some ⟨bb, o2, none⟩) n c ∧ k < n) (hcs : ∃ a n c, cv = .slice a n c) (hds : ∃ a n c, dv = .slice a n c)
    (ca : w.cell? ⟨ga, 4, none⟩ = some v4) (cb : w.cell? ⟨gb, 4, none⟩ = some w4)
    (hc : w.cell? ⟨ba, o1 + k * 5, none⟩ = some (.int .i64 c.depth) ∧ w.cell? ⟨ba, o1 + k * 5 + 1, none⟩ = some (.bool c.signed) ∧ w.cell? ⟨ba, o1 + k * 5 + 2, none⟩ = some (.int .i64 c.dx) ∧ w.cell? ⟨ba, o1 + k * 5 + 3, none⟩ = some (.int .i64 c.dy) ∧ w.cell? ⟨ba, o1 + k * 5 + 4, none⟩ = some cv)
    (hd : w.cell? ⟨bb, o2 + k * 5, none⟩ = some (.int .i64 d.depth) ∧ w.cell? ⟨bb, o2 + k * 5 + 1, none⟩ = some (.bool d.signed) ∧ w.cell? ⟨bb, o2 + k * 5 + 2, none⟩ = some (.int .i64 d.dx) ∧ w.cell? ⟨bb, o2 + k * 5 + 3, none⟩ = some (.int .i64 d.dy) ∧ w.cell? ⟨bb, o2 + k * 5 + 4, none⟩ = some dv)
    (hk : ∀ (u77 u78 u79 u80 u81 u82 u83 u84 u85 u86 u87 u88 u6 u7 : Value) (g6 : Nat) (g7 : Nat) (W : World), Below w.heap.size w W → (u6 = .pointer (some ⟨g6, 0, none⟩) ∧ w.heap.size ≤ g6 ∧ ∃ A, A.size = 5 ∧ Blk W g6 45 A ∧ (true = true → A = #[.int .i64 c.depth, .bool c.signed, .int .i64 c.dx, .int .i64 c.dy, cv])) → (u7 = .pointer (some ⟨g7, 0, none⟩) ∧ w.heap.size ≤ g7 ∧ (true = true → g6 ≠ g7) ∧ ∃ A, A.size = 5 ∧ Blk W g7 45 A ∧ (true = true → A = #[.int .i64 d.depth, .bool d.signed, .int .i64 d.dx, .int .i64 d.dy, dv])) →  K ⟨List.toArray (s0 :: s1 :: (.pointer (some ⟨ga, 0, none⟩)) :: (.pointer (some ⟨gb, 0, none⟩)) :: s4 :: (.int .i64 k) :: u6 :: u7 :: s8 :: s9 :: s10 :: s11 :: s12 :: s13 :: s14 :: s15 :: s16 :: s17 :: s18 :: s19 :: s20 :: s21 :: s22 :: s23 :: s24 :: s25 :: s26 :: s27 :: s28 :: s29 :: s30 :: s31 :: s32 :: s33 :: s34 :: s35 :: s36 :: s37 :: s38 :: s39 :: s40 :: s41 :: s42 :: s43 :: s44 :: s45 :: s46 :: s47 :: s48 :: s49 :: s50 :: s51 :: s52 :: s53 :: s54 :: s55 :: s56 :: s57 :: s58 :: s59 :: s60 :: s61 :: s62 :: s63 :: s64 :: s65 :: s66 :: s67 :: s68 :: s69 :: s70 :: s71 :: s72 :: s73 :: s74 :: s75 :: s76 :: u77 :: u78 :: u79 :: u80 :: u81 :: u82 :: u83 :: u84 :: u85 :: u86 :: u87 :: u88 :: s89 :: s90 :: s91 :: s92 :: s93 :: s94 :: s95 :: s96 :: s97 :: s98 :: s99 :: s100 :: s101 :: s102 :: s103 :: s104 :: s105 :: s106 :: s107 :: s108 :: s109 :: s110 :: s111 :: s112 :: s113 :: s114 :: []), []⟩ W) :
    (regionOf 6 Try.f19).wp Try.prog (Exit.then K noQ) ⟨List.toArray (s0 :: s1 :: (.pointer (some ⟨ga, 0, none⟩)) :: (.pointer (some ⟨gb, 0, none⟩)) :: s4 :: (.int .i64 k) :: s6 :: s7 :: s8 :: s9 :: s10 :: s11 :: s12 :: s13 :: s14 :: s15 :: s16 :: s17 :: s18 :: s19 :: s20 :: s21 :: s22 :: s23 :: s24 :: s25 :: s26 :: s27 :: s28 :: s29 :: s30 :: s31 :: s32 :: s33 :: s34 :: s35 :: s36 :: s37 :: s38 :: s39 :: s40 :: s41 :: s42 :: s43 :: s44 :: s45 :: s46 :: s47 :: s48 :: s49 :: s50 :: s51 :: s52 :: s53 :: s54 :: s55 :: s56 :: s57 :: s58 :: s59 :: s60 :: s61 :: s62 :: s63 :: s64 :: s65 :: s66 :: s67 :: s68 :: s69 :: s70 :: s71 :: s72 :: s73 :: s74 :: s75 :: s76 :: s77 :: s78 :: s79 :: s80 :: s81 :: s82 :: s83 :: s84 :: s85 :: s86 :: s87 :: s88 :: s89 :: s90 :: s91 :: s92 :: s93 :: s94 :: s95 :: s96 :: s97 :: s98 :: s99 :: s100 :: s101 :: s102 :: s103 :: s104 :: s105 :: s106 :: s107 :: s108 :: s109 :: s110 :: s111 :: s112 :: s113 :: s114 :: []), []⟩ w := by
  conv in (regionOf _ _) => whnf
  unfold noQ
  have HK := Lib.hid hk
  clear hk
  refine wp_region_inv (by kernel_rfl) (rsame_r6_S ga gb k ba o1 bb o2 v4 w4 cv dv c d w s0 s1 s4 s6 s7 s8 s9 s10 s11 s12 s13 s14 s15 s16 s17 s18 s19 s20 s21 s22 s23 s24 s25 s26 s27 s28 s29 s30 s31 s32 s33 s34 s35 s36 s37 s38 s39 s40 s41 s42 s43 s44 s45 s46 s47 s48 s49 s50 s51 s52 s53 s54 s55 s56 s57 s58 s59 s60 s61 s62 s63 s64 s65 s66 s67 s68 s69 s70 s71 s72 s73 s74 s75 s76 s77 s78 s79 s80 s81 s82 s83 s84 s85 s86 s87 s88 s89 s90 s91 s92 s93 s94 s95 s96 s97 s98 s99 s100 s101 s102 s103 s104 s105 s106 s107 s108 s109 s110 s111 s112 s113 s114) ?_ ?_ ?_
  · exact ⟨false, false, false, false, false, false, false, false, false, false, false, false, false, false, false, false, s77, s78, s79, s80, s81, s82, s83, s84, s85, s86, s87, s88, s6, s7, 0, 0, rfl, rfl, (Below.refl _ _).drew, Lib.hid nofun, Lib.hid nofun, Lib.hid nofun, Lib.hid nofun, Lib.hid nofun, Lib.hid nofun, Lib.hid nofun, Lib.hid nofun, Lib.hid nofun, Lib.hid nofun, Lib.hid nofun, Lib.hid nofun, Lib.hid nofun, Lib.hid nofun, Lib.hid nofun, Lib.hid nofun⟩
  · rintro listed a W ⟨b0, b1, b2, b3, b4, b5, b6, b7, b8, b9, b10, b11, b12, b13, b14, b15, u77, u78, u79, u80, u81, u82, u83, u84, u85, u86, u87, u88, u6, u7, g6, g7, rfl, rfl, HW, h0, h1, h2, h3, h4, h5, h6, h7, h8, h9, h10, h11, h12, h13, h14, h15⟩ hr
    obtain rfl : b0 = true := by cases b0; exact (not_ready2 hr 0 _ rfl rfl (by simp [Region.binds])).elim; rfl
    obtain rfl : b1 = true := by cases b1; exact (not_ready2 hr 1 _ rfl rfl (by simp [Region.binds])).elim; rfl
    obtain rfl : b2 = true := by cases b2; exact (not_ready2 hr 2 _ rfl rfl (by simp [Region.binds])).elim; rfl
    obtain rfl : b3 = true := by cases b3; exact (not_ready2 hr 3 _ rfl rfl (by simp [Region.binds])).elim; rfl
    obtain rfl : b4 = true := by cases b4; exact (not_ready2 hr 4 _ rfl rfl (by simp [Region.binds])).elim; rfl
    obtain rfl : b5 = true := by cases b5; exact (not_ready2 hr 5 _ rfl rfl (by simp [Region.binds])).elim; rfl
    obtain rfl : b6 = true := by cases b6; exact (not_ready2 hr 6 _ rfl rfl (by simp [Region.binds])).elim; rfl
    obtain rfl : b7 = true := by cases b7; exact (not_ready2 hr 7 _ rfl rfl (by simp [Region.binds])).elim; rfl
    obtain rfl : b8 = true := by cases b8; exact (not_ready2 hr 8 _ rfl rfl (by simp [Region.binds])).elim; rfl
    obtain rfl : b9 = true := by cases b9; exact (not_ready2 hr 9 _ rfl rfl (by simp [Region.binds])).elim; rfl
    obtain rfl : b10 = true := by cases b10; exact (not_ready2 hr 10 _ rfl rfl (by simp [Region.binds])).elim; rfl
    obtain rfl : b11 = true := by cases b11; exact (not_ready2 hr 11 _ rfl rfl (by simp [Region.binds])).elim; rfl
    obtain rfl : b12 = true := by cases b12; exact (not_ready2 hr 12 _ rfl rfl (by simp [Region.binds])).elim; rfl
    obtain rfl : b13 = true := by cases b13; exact (not_ready2 hr 13 _ rfl rfl (by simp [Region.binds])).elim; rfl
    obtain rfl : b14 = true := by cases b14; exact (not_ready2 hr 14 _ rfl rfl (by simp [Region.binds])).elim; rfl
    obtain rfl : b15 = true := by cases b15; exact (not_ready2 hr 15 _ rfl rfl (by simp [Region.binds])).elim; rfl
    exact HK.out u77 u78 u79 u80 u81 u82 u83 u84 u85 u86 u87 u88 u6 u7 g6 g7 W HW (h12.out rfl) (h13.out rfl)
  · rintro listed a W i ⟨b0, b1, b2, b3, b4, b5, b6, b7, b8, b9, b10, b11, b12, b13, b14, b15, u77, u78, u79, u80, u81, u82, u83, u84, u85, u86, u87, u88, u6, u7, g6, g7, rfl, rfl, HW, h0, h1, h2, h3, h4, h5, h6, h7, h8, h9, h10, h11, h12, h13, h14, h15⟩ hi
    obtain ⟨hi1, hi2, hi3⟩ := mem_ready hi
    clear hi
    have hi4 : i = 0 ∨ i = 1 ∨ i = 2 ∨ i = 3 ∨ i = 4 ∨ i = 5 ∨ i = 6 ∨ i = 7 ∨ i = 8 ∨ i = 9 ∨ i = 10 ∨ i = 11 ∨ i = 12 ∨ i = 13 ∨ i = 14 ∨ i = 15 := by
      have : i < 16 := hi1
      omega
    clear hi1
    rcases hi4 with rfl | rfl | rfl | rfl | rfl | rfl | rfl | rfl | rfl | rfl | rfl | rfl | rfl | rfl | rfl | rfl
    · obtain rfl : b0 = false := hi2
      clear hi3
      refine wpOp_step rfl (fun K hK => ?_)
      go_simp
      refine hK _ _ ⟨true, _, _, _, _, _, _, _, _, _, _, _, _, _, _, _, (.pointer (some ⟨ga, 0, none⟩)), _, _, _, _, _, _, _, _, _, _, _, _, _, _, _, rfl, rfl, HW, Lib.hid (fun _ => rfl), h1, h2, h3, h4, h5, h6, h7, h8, h9, h10, h11, h12, h13, h14, h15⟩
    · obtain rfl : b1 = false := hi2
      obtain rfl : b0 = true := hi3 _ rfl ⟨0, .data⟩ (by simp) rfl
      obtain rfl := h0.out rfl
      clear hi3
      refine wpOp_step rfl (fun K hK => ?_)
      go_simp
      refine hK _ _ ⟨_, true, _, _, _, _, _, _, _, _, _, _, _, _, _, _, _, (.pointer (some ⟨ga, 4, none⟩)), _, _, _, _, _, _, _, _, _, _, _, _, _, _, rfl, rfl, HW, h0, Lib.hid (fun _ => rfl), h2, h3, h4, h5, h6, h7, h8, h9, h10, h11, h12, h13, h14, h15⟩
    · obtain rfl : b2 = false := hi2
      obtain rfl : b1 = true := hi3 _ rfl ⟨1, .data⟩ (by simp) rfl
      obtain rfl := h1.out rfl
      clear hi3
      have e := bcellC HW ca (World.block_lt_of_cell? w _ ca)
      refine wpOp_step rfl (fun K hK => ?_)
      go_simp
      refine hK _ _ ⟨_, _, true, _, _, _, _, _, _, _, _, _, _, _, _, _, _, _, (v4), _, _, _, _, _, _, _, _, _, _, _, _, _, rfl, rfl, HW, h0, h1, Lib.hid (fun _ => rfl), h3, h4, h5, h6, h7, h8, h9, h10, h11, h12, h13, h14, h15⟩
    · obtain rfl : b3 = false := hi2
      clear hi3
      refine wpOp_step rfl (fun K hK => ?_)
      go_simp
      refine hK _ _ ⟨_, _, _, true, _, _, _, _, _, _, _, _, _, _, _, _, _, _, _, (.int .i64 k), _, _, _, _, _, _, _, _, _, _, _, _, rfl, rfl, HW, h0, h1, h2, Lib.hid (fun _ => rfl), h4, h5, h6, h7, h8, h9, h10, h11, h12, h13, h14, h15⟩
    · obtain rfl : b4 = false := hi2
      obtain rfl : b2 = true := hi3 _ rfl ⟨2, .data⟩ (by simp) rfl
      obtain rfl : b3 = true := hi3 _ rfl ⟨3, .data⟩ (by simp) rfl
      obtain rfl := h2.out rfl
      obtain rfl := h3.out rfl
      clear hi3
      obtain ⟨n4, c4, rfl, hn4⟩ := hv4
      have hn4i : (k : Int) < (n4 : Int) := by omega
      refine wpOp_step rfl (fun K hK => ?_)
      go_simp
      refine hK _ _ ⟨_, _, _, _, true, _, _, _, _, _, _, _, _, _, _, _, _, _, _, _, (.pointer (some ⟨ba, o1 + k * 5, none⟩)), _, _, _, _, _, _, _, _, _, _, _, rfl, rfl, HW, h0, h1, h2, h3, Lib.hid (fun _ => rfl), h5, h6, h7, h8, h9, h10, h11, h12, h13, h14, h15⟩
    · obtain rfl : b5 = false := hi2
      obtain rfl : b4 = true := hi3 _ rfl ⟨4, .data⟩ (by simp) rfl
      obtain rfl := h4.out rfl
      clear hi3
      obtain ⟨d0, d1, d2, d3, d4⟩ := hc
      have e0 := bcellC HW d0 (World.block_lt_of_cell? w _ d0)
      have e1 := bcellC HW d1 (World.block_lt_of_cell? w _ d1)
      have e2 := bcellC HW d2 (World.block_lt_of_cell? w _ d2)
      have e3 := bcellC HW d3 (World.block_lt_of_cell? w _ d3)
      have e4 := bcellC HW d4 (World.block_lt_of_cell? w _ d4)
      refine wpOp_step rfl (fun K hK => ?_)
      go_simp
      refine hK _ _ ⟨_, _, _, _, _, true, _, _, _, _, _, _, _, _, _, _, _, _, _, _, _, (.agg #[.int .i64 c.depth, .bool c.signed, .int .i64 c.dx, .int .i64 c.dy, cv]), _, _, _, _, _, _, _, _, _, _, rfl, rfl, HW, h0, h1, h2, h3, h4, Lib.hid (fun _ => rfl), h6, h7, h8, h9, h10, h11, h12, h13, h14, h15⟩
    · obtain rfl : b6 = false := hi2
      clear hi3
      refine wpOp_step rfl (fun K hK => ?_)
      go_simp
      refine hK _ _ ⟨_, _, _, _, _, _, true, _, _, _, _, _, _, _, _, _, _, _, _, _, _, _, (.pointer (some ⟨gb, 0, none⟩)), _, _, _, _, _, _, _, _, _, rfl, rfl, HW, h0, h1, h2, h3, h4, h5, Lib.hid (fun _ => rfl), h7, h8, h9, h10, h11, h12, h13, h14, h15⟩
    · obtain rfl : b7 = false := hi2
      obtain rfl : b6 = true := hi3 _ rfl ⟨6, .data⟩ (by simp) rfl
      obtain rfl := h6.out rfl
      clear hi3
      refine wpOp_step rfl (fun K hK => ?_)
      go_simp
      refine hK _ _ ⟨_, _, _, _, _, _, _, true, _, _, _, _, _, _, _, _, _, _, _, _, _, _, _, (.pointer (some ⟨gb, 4, none⟩)), _, _, _, _, _, _, _, _, rfl, rfl, HW, h0, h1, h2, h3, h4, h5, h6, Lib.hid (fun _ => rfl), h8, h9, h10, h11, h12, h13, h14, h15⟩
    · obtain rfl : b8 = false := hi2
      obtain rfl : b7 = true := hi3 _ rfl ⟨7, .data⟩ (by simp) rfl
      obtain rfl := h7.out rfl
      clear hi3
      have e := bcellC HW cb (World.block_lt_of_cell? w _ cb)
      refine wpOp_step rfl (fun K hK => ?_)
      go_simp
      refine hK _ _ ⟨_, _, _, _, _, _, _, _, true, _, _, _, _, _, _, _, _, _, _, _, _, _, _, _, (w4), _, _, _, _, _, _, _, rfl, rfl, HW, h0, h1, h2, h3, h4, h5, h6, h7, Lib.hid (fun _ => rfl), h9, h10, h11, h12, h13, h14, h15⟩
    · obtain rfl : b9 = false := hi2
      clear hi3
      refine wpOp_step rfl (fun K hK => ?_)
      go_simp
      refine hK _ _ ⟨_, _, _, _, _, _, _, _, _, true, _, _, _, _, _, _, _, _, _, _, _, _, _, _, _, (.int .i64 k), _, _, _, _, _, _, rfl, rfl, HW, h0, h1, h2, h3, h4, h5, h6, h7, h8, Lib.hid (fun _ => rfl), h10, h11, h12, h13, h14, h15⟩
    · obtain rfl : b10 = false := hi2
      obtain rfl : b8 = true := hi3 _ rfl ⟨8, .data⟩ (by simp) rfl
      obtain rfl : b9 = true := hi3 _ rfl ⟨9, .data⟩ (by simp) rfl
      obtain rfl := h8.out rfl
      obtain rfl := h9.out rfl
      clear hi3
      obtain ⟨n4, c4, rfl, hn4⟩ := hw4
      have hn4i : (k : Int) < (n4 : Int) := by omega
      refine wpOp_step rfl (fun K hK => ?_)
      go_simp
      refine hK _ _ ⟨_, _, _, _, _, _, _, _, _, _, true, _, _, _, _, _, _, _, _, _, _, _, _, _, _, _, (.pointer (some ⟨bb, o2 + k * 5, none⟩)), _, _, _, _, _, rfl, rfl, HW, h0, h1, h2, h3, h4, h5, h6, h7, h8, h9, Lib.hid (fun _ => rfl), h11, h12, h13, h14, h15⟩
    · obtain rfl : b11 = false := hi2
      obtain rfl : b10 = true := hi3 _ rfl ⟨10, .data⟩ (by simp) rfl
      obtain rfl := h10.out rfl
      clear hi3
      obtain ⟨d0, d1, d2, d3, d4⟩ := hd
      have e0 := bcellC HW d0 (World.block_lt_of_cell? w _ d0)
      have e1 := bcellC HW d1 (World.block_lt_of_cell? w _ d1)
      have e2 := bcellC HW d2 (World.block_lt_of_cell? w _ d2)
      have e3 := bcellC HW d3 (World.block_lt_of_cell? w _ d3)
      have e4 := bcellC HW d4 (World.block_lt_of_cell? w _ d4)
      refine wpOp_step rfl (fun K hK => ?_)
      go_simp
      refine hK _ _ ⟨_, _, _, _, _, _, _, _, _, _, _, true, _, _, _, _, _, _, _, _, _, _, _, _, _, _, _, (.agg #[.int .i64 d.depth, .bool d.signed, .int .i64 d.dx, .int .i64 d.dy, dv]), _, _, _, _, rfl, rfl, HW, h0, h1, h2, h3, h4, h5, h6, h7, h8, h9, h10, Lib.hid (fun _ => rfl), h12, h13, h14, h15⟩
    · obtain rfl : b12 = false := hi2
      clear hi3
      have hB : Below W.heap.size W (W.alloc (.cells #[.int .i64 0, .bool false, .int .i64 0, .int .i64 0, .slice none 0 0] 45)) := (Below.refl _ _).alloc (Nat.le_refl _) _
      have hb14 : b14 = false := by cases b14; rfl; exact absurd (h14.out rfl) (by simp)
      refine wpOp_step rfl (fun K hK => ?_)
      go_simp
      refine hK _ _ ⟨_, _, _, _, _, _, _, _, _, _, _, _, true, _, _, _, _, _, _, _, _, _, _, _, _, _, _, _, .pointer (some ⟨W.heap.size, 0, none⟩), _, W.heap.size, _, rfl, rfl, HW.trans (hB.mono HW.size), h0, h1, h2, h3, h4, h5, h6, h7, h8, h9, h10, h11, Lib.hid (fun _ => ⟨rfl, HW.size, _, rfl, Blk.new _ _ _, (fun e => by rw [hb14] at e; cases e)⟩), Lib.hid (fun e => by obtain ⟨q1, q2, q0, A, q3, q4, q5⟩ := h13.out e; exact ⟨q1, q2, (fun _ => by have := q4.lt; omega), A, q3, q4.below hB q4.lt, q5⟩), Lib.hid (fun _ => rfl), Lib.hid (h15.out)⟩
    · obtain rfl : b13 = false := hi2
      clear hi3
      have hB : Below W.heap.size W (W.alloc (.cells #[.int .i64 0, .bool false, .int .i64 0, .int .i64 0, .slice none 0 0] 45)) := (Below.refl _ _).alloc (Nat.le_refl _) _
      have hb15 : b15 = false := by cases b15; rfl; exact absurd (h15.out rfl) (by simp)
      refine wpOp_step rfl (fun K hK => ?_)
      go_simp
      refine hK _ _ ⟨_, _, _, _, _, _, _, _, _, _, _, _, _, true, _, _, _, _, _, _, _, _, _, _, _, _, _, _, _, .pointer (some ⟨W.heap.size, 0, none⟩), _, W.heap.size, rfl, rfl, HW.trans (hB.mono HW.size), h0, h1, h2, h3, h4, h5, h6, h7, h8, h9, h10, h11, Lib.hid (fun e => by obtain ⟨q1, q2, A, q3, q4, q5⟩ := h12.out e; exact ⟨q1, q2, A, q3, q4.below hB q4.lt, q5⟩), Lib.hid (fun _ => ⟨rfl, HW.size, (fun e => by obtain ⟨q1, q2, A, q3, q4, q5⟩ := h12.out e; have := q4.lt; omega), _, rfl, Blk.new _ _ _, (fun e => by rw [hb15] at e; cases e)⟩), Lib.hid (h14.out), Lib.hid (fun _ => rfl)⟩
    · obtain rfl : b14 = false := hi2
      obtain rfl : b12 = true := hi3 _ rfl ⟨12, .data⟩ (by simp) rfl
      obtain rfl : b5 = true := hi3 _ rfl ⟨5, .data⟩ (by simp) rfl
      obtain rfl : b0 = true := hi3 _ rfl ⟨0, .phase⟩ (by simp) rfl
      obtain rfl : b1 = true := hi3 _ rfl ⟨1, .phase⟩ (by simp) rfl
      obtain rfl : b2 = true := hi3 _ rfl ⟨2, .phase⟩ (by simp) rfl
      obtain rfl : b3 = true := hi3 _ rfl ⟨3, .phase⟩ (by simp) rfl
      obtain rfl : b4 = true := hi3 _ rfl ⟨4, .phase⟩ (by simp) rfl
      obtain rfl : b13 = true := hi3 _ rfl ⟨13, .phase⟩ (by simp) rfl
      obtain rfl := h5.out rfl
      clear hi3
      obtain ⟨rfl, l6, A, hA, q6, -⟩ := h12.out rfl
      have e0 : True := trivial
      obtain ⟨xa, xn, xc, rfl⟩ := hcs
      refine wpOp_step rfl (fun K hK => ?_)
      refine step_store_row rfl 45 (.tmp 6) (.tmp 82) rfl g6 45 (#[.int .i64 c.depth, .bool c.signed, .int .i64 c.dx, .int .i64 c.dy, .slice xa xn xc]) A (by kernel_rfl) hA (by simp [Value.oneCell']) rfl rfl q6 ?_
      have hgr : W.grownBy (W.setRow g6 #[.int .i64 c.depth, .bool c.signed, .int .i64 c.dx, .int .i64 c.dy, .slice xa xn xc]) (some g6) := only_row (World.grownBy.refl _ _) _
      refine hK _ _ ⟨_, _, _, _, _, _, _, _, _, _, _, _, _, _, true, _, _, _, _, _, _, _, _, _, _, _, _, _, _, _, _, _, rfl, rfl, below_row HW l6 _, h0, h1, h2, h3, h4, h5, h6, h7, h8, h9, h10, h11, Lib.hid (fun _ => ⟨rfl, l6, _, rfl, Blk.row q6 _, fun _ => rfl⟩), Lib.hid (fun e => by obtain ⟨q1, q2, q0, A2, q3, q4, q5⟩ := h13.out e; exact ⟨q1, q2, q0, A2, q3, q4.grown hgr (by have := q0 rfl; simp; omega), q5⟩), Lib.hid (fun _ => rfl), Lib.hid (h15.out)⟩
    · obtain rfl : b15 = false := hi2
      obtain rfl : b13 = true := hi3 _ rfl ⟨13, .data⟩ (by simp) rfl
      obtain rfl : b11 = true := hi3 _ rfl ⟨11, .data⟩ (by simp) rfl
      obtain rfl : b14 = true := hi3 _ rfl ⟨14, .chain⟩ (by simp) rfl
      obtain rfl : b0 = true := hi3 _ rfl ⟨0, .phase⟩ (by simp) rfl
      obtain rfl : b1 = true := hi3 _ rfl ⟨1, .phase⟩ (by simp) rfl
      obtain rfl : b2 = true := hi3 _ rfl ⟨2, .phase⟩ (by simp) rfl
      obtain rfl : b3 = true := hi3 _ rfl ⟨3, .phase⟩ (by simp) rfl
      obtain rfl : b4 = true := hi3 _ rfl ⟨4, .phase⟩ (by simp) rfl
      obtain rfl : b5 = true := hi3 _ rfl ⟨5, .phase⟩ (by simp) rfl
      obtain rfl : b6 = true := hi3 _ rfl ⟨6, .phase⟩ (by simp) rfl
      obtain rfl : b7 = true := hi3 _ rfl ⟨7, .phase⟩ (by simp) rfl
      obtain rfl : b8 = true := hi3 _ rfl ⟨8, .phase⟩ (by simp) rfl
      obtain rfl : b9 = true := hi3 _ rfl ⟨9, .phase⟩ (by simp) rfl
      obtain rfl : b10 = true := hi3 _ rfl ⟨10, .phase⟩ (by simp) rfl
      obtain rfl : b12 = true := hi3 _ rfl ⟨12, .phase⟩ (by simp) rfl
      obtain rfl := h11.out rfl
      clear hi3
      obtain ⟨rfl, l6, ne, A, hA, q6, -⟩ := h13.out rfl
      have h13e : True := trivial
      have e0 : True := trivial
      obtain ⟨xa, xn, xc, rfl⟩ := hds
      refine wpOp_step rfl (fun K hK => ?_)
      refine step_store_row rfl 45 (.tmp 7) (.tmp 88) rfl g7 45 (#[.int .i64 d.depth, .bool d.signed, .int .i64 d.dx, .int .i64 d.dy, .slice xa xn xc]) A (by kernel_rfl) hA (by simp [Value.oneCell']) rfl rfl q6 ?_
      have hgr : W.grownBy (W.setRow g7 #[.int .i64 d.depth, .bool d.signed, .int .i64 d.dx, .int .i64 d.dy, .slice xa xn xc]) (some g7) := only_row (World.grownBy.refl _ _) _
      refine hK _ _ ⟨_, _, _, _, _, _, _, _, _, _, _, _, _, _, _, true, _, _, _, _, _, _, _, _, _, _, _, _, _, _, _, _, rfl, rfl, below_row HW l6 _, h0, h1, h2, h3, h4, h5, h6, h7, h8, h9, h10, h11, Lib.hid (fun e => by obtain ⟨q1, q2, A2, q3, q4, q5⟩ := h12.out e; exact ⟨q1, q2, A2, q3, q4.grown hgr (by have := ne e; simp; omega), q5⟩), Lib.hid (fun _ => ⟨rfl, l6, ne, _, rfl, Blk.row q6 _, fun _ => rfl⟩), Lib.hid (h14.out), Lib.hid (fun _ => rfl)⟩

set_option maxRecDepth 100000 in
set_option maxHeartbeats 4000000 in
theorem rsame_true (m : ImgD) (cs' : List CompD) (v v' : Value) (p : ParD) (cv cv' : Value) (cl : List UInt8) (w : World) (hv : CompsRd w v m.cs) (hv' : CompsRd w v' cs') (hs : SameCs m.cs cs') (hc : BV w cv cl) (hc' : BV w cv' cl) (hl : m.cs.length ≤ 1000000) :
    Calls Try.prog 19 #[.agg (headA m v p cv), .agg (headA { m with cs := cs' } v' p cv')] w fun e w' => e = .returned (.bool true) ∧ Below w.heap.size w w' := by
  have HV := Lib.hid hv
  have HV' := Lib.hid hv'
  have HC := Lib.hid hc
  have HC' := Lib.hid hc'
  obtain ⟨hs1, hs2⟩ := hs
  have HS2 := Lib.hid hs2
  obtain ⟨va, vc, rfl, -⟩ := hv
  obtain ⟨va', vc', rfl, -⟩ := hv'
  obtain ⟨ca, cc, rfl, -⟩ := hc
  obtain ⟨ca', cc', rfl, -⟩ := hc'
  have HS1 := Lib.hid hs1
  clear hs1 hs2
  unfold headA
  go_enter Try.func19, Try.ntmps19
  go_upto_region 1 with fail
  obtain ⟨wA, hwA⟩ : ∃ wA, wA = ((w.alloc (.cells (headA m (.slice va m.cs.length vc) p (.slice ca cl.length cc)) 36)).alloc (.cells (headA { m with cs := cs' } (.slice va' cs'.length vc') p (.slice ca' cl.length cc')) 36)) := ⟨_, rfl⟩
  have hBA : Below w.heap.size w wA := by rw [hwA]; exact ((Below.refl _ _).alloc (Nat.le_refl _) _).alloc (by simp) _
  have hA : Blk wA w.heap.size 36 (headA m (.slice va m.cs.length vc) p (.slice ca cl.length cc)) := by rw [hwA]; exact (Blk.new _ _ _).alloc _
  have hA' : Blk wA (w.heap.size + 1) 36 (headA { m with cs := cs' } (.slice va' cs'.length vc') p (.slice ca' cl.length cc')) := by
    rw [hwA]
    have := Blk.new (w.alloc (.cells (headA m (.slice va m.cs.length vc) p (.slice ca cl.length cc)) 36)) 36 (headA { m with cs := cs' } (.slice va' cs'.length vc') p (.slice ca' cl.length cc'))
    simpa using this
  unfold headA at hwA
  dsimp only at hwA
  simp only [← hwA]
  clear hwA
  obtain ⟨gA, hgA⟩ : ∃ g, w.heap.size = g := ⟨_, rfl⟩
  obtain ⟨gB, hgB⟩ : ∃ g, gA + 1 = g := ⟨_, rfl⟩
  have ac : ∀ k, wA.cell? ⟨gA, k, none⟩ = (headA m (.slice va m.cs.length vc) p (.slice ca cl.length cc))[k]? := by rw [← hgA]; exact hA.cell
  have bc : ∀ k, wA.cell? ⟨gB, k, none⟩ = (headA { m with cs := cs' } (.slice va' cs'.length vc') p (.slice ca' cl.length cc'))[k]? := by rw [← hgB, ← hgA]; exact hA'.cell
  have hs := (HC.out.keep hBA).str
  have hs' := (HC'.out.keep hBA).str
  have lA := hA.lt
  have lB := hA'.lt
  rw [hgA] at hA hA' lA lB
  rw [hgB] at hA' lB
  have HA := Lib.hid (And.intro hA (And.intro hA' hBA))
  have HGA := Lib.hid hgA
  simp only [hgA, hgB]
  clear hA hA' hBA hgA hgB
  unfold headA at ac bc
  obtain ⟨a0, a1, a2, a3, a4, a5, a6, a7, a8, a9, a10, a11, a12, a13, a14, a15, a16, a17⟩ := And.intro (ac 0) (And.intro (ac 1) (And.intro (ac 2) (And.intro (ac 3) (And.intro (ac 4) (And.intro (ac 5) (And.intro (ac 6) (And.intro (ac 7) (And.intro (ac 8) (And.intro (ac 9) (And.intro (ac 10) (And.intro (ac 11) (And.intro (ac 12) (And.intro (ac 13) (And.intro (ac 14) (And.intro (ac 15) (And.intro (ac 16) (ac 17)))))))))))))))))
  obtain ⟨b0, b1, b2, b3, b4, b5, b6, b7, b8, b9, b10, b11, b12, b13, b14, b15, b16, b17⟩ := And.intro (bc 0) (And.intro (bc 1) (And.intro (bc 2) (And.intro (bc 3) (And.intro (bc 4) (And.intro (bc 5) (And.intro (bc 6) (And.intro (bc 7) (And.intro (bc 8) (And.intro (bc 9) (And.intro (bc 10) (And.intro (bc 11) (And.intro (bc 12) (And.intro (bc 13) (And.intro (bc 14) (And.intro (bc 15) (And.intro (bc 16) (bc 17)))))))))))))))))
  clear ac bc
  simp only [List.getElem?_toArray, List.getElem?_cons_zero, List.getElem?_cons_succ] at a0 a1 a2 a3 a4 a5 a6 a7 a8 a9 a10 a11 a12 a13 a14 a15 a16 a17 b0 b1 b2 b3 b4 b5 b6 b7 b8 b9 b10 b11 b12 b13 b14 b15 b16 b17
  obtain ⟨rp, EP, hrp⟩ := eq_par p p
  obtain rfl : rp = true := hrp.2 rfl
  clear hrp
  unfold parV at EP
  obtain ⟨n, hn⟩ : ∃ n, m.cs.length = n := ⟨_, rfl⟩
  have hn' : cs'.length = n := HS1.out.symm.trans hn
  rw [hn] at a4 hl
  rw [hn'] at b4
  have HN := Lib.hid (And.intro hn hn')
  clear hn hn'
  go_upto_region 4 with fail
  clear a0 a1 a2 a3 a5 a6 a7 a8 a9 a10 a11 a12 a13 a14 a15 a16 a17 b0 b1 b2 b3 b5 b6 b7 b8 b9 b10 b11 b12 b13 b14 b15 b16 b17 EP hs hs'
  have H4 := Lib.hid (And.intro a4 b4)
  clear a4 b4
  go_loopg [5] n (fun g s5 wx => ∃ k : Nat, k ≤ n ∧ g = n - k ∧ s5 = .int .i64 k ∧ Below wA.heap.size wA wx)
  case atStart => exact ⟨0, Nat.zero_le _, rfl, rfl, Below.refl _ _⟩
  case round =>
    obtain ⟨wy, rfl⟩ : ∃ wy : World, wy = wr := ⟨_, rfl⟩
    obtain ⟨k, hk, rfl, rfl, hB⟩ := hrel
    have a4 := bcellC hB H4.out.1 lA
    have b4 := bcellC hB H4.out.2 lB
    by_cases hkn : k < n
    · have d1 : decide ((k : Int) < (n : Int)) = true := by simp; omega
      obtain ⟨c, hc⟩ : ∃ c, m.cs[k]? = some c := ⟨_, List.getElem?_eq_getElem (by rw [HN.out.1]; exact hkn)⟩
      obtain ⟨d, hd⟩ : ∃ d, cs'[k]? = some d := ⟨_, List.getElem?_eq_getElem (by rw [HN.out.2]; exact hkn)⟩
      have hsc := HS2.out k c d hc hd
      obtain ⟨x1, x2, e1, -, -, k3⟩ := (HV.out.keep HA.out.2.2).keep hB
      obtain ⟨y1, y2, e2, -, -, l3⟩ := (HV'.out.keep HA.out.2.2).keep hB
      simp only [Value.slice.injEq] at e1 e2
      obtain ⟨rfl, -, rfl⟩ := e1
      obtain ⟨rfl, -, rfl⟩ := e2
      obtain ⟨bb1, o1, dv1, rfl, p0, p1, p2, p3, p4, pd⟩ := k3 k c hc
      obtain ⟨bb2, o2, dv2, rfl, q0, q1, q2, q3, q4, qd⟩ := l3 k d hd
      have PD := Lib.hid (And.intro pd qd)
      have HB := Lib.hid hB
      simp only [sameC, Bool.and_eq_true, beq_iff_eq] at hsc
      obtain ⟨⟨⟨f1, f2⟩, f3⟩, f4⟩ := hsc
      have HP := Lib.hid (And.intro (And.intro p0 (And.intro p1 (And.intro p2 (And.intro p3 p4)))) (And.intro q0 (And.intro q1 (And.intro q2 (And.intro q3 q4)))))
      clear p0 p1 p2 p3 p4 q0 q1 q2 q3 q4 pd qd k3 l3 hB hc hd
      go_upto_region 6 with fail
      refine wp_piece (rsame_r6 _ gA gB k bb1 o1 bb2 o2 _ _ dv1 dv2 c d wy _ _ _ _ _ _ _ _ _ _ _ _ _ _ _ _ _ _ _ _ _ _ _ _ _ _ _ _ _ _ _ _ _ _ _ _ _ _ _ _ _ _ _ _ _ _ _ _ _ _ _ _ _ _ _ _ _ _ _ _ _ _ _ _ _ _ _ _ _ _ _ _ _ _ _ _ _ _ _ _ _ _ _ _ _ _ _ _ _ _ _ _ _ _ _ _ _ _ _ _ _ _ _ _ _ _ _ _ _ _ _ _ ⟨_, _, rfl, hkn⟩ ⟨_, _, rfl, hkn⟩ (by obtain ⟨a, c, h, -⟩ := PD.out.1; exact ⟨_, _, _, h⟩) (by obtain ⟨a, c, h, -⟩ := PD.out.2; exact ⟨_, _, _, h⟩) a4 b4 HP.out.1 HP.out.2 ?_)
      rintro _ _ _ _ _ _ _ _ _ _ _ _ _ _ g6 g7 W5 hB5 ⟨rfl, l6, A, hA, z6, e6⟩ ⟨rfl, l7, ne, A', hA', z7, e7⟩
      have e6 := e6 rfl
      have e7 := e7 rfl
      subst e6 e7
      have x0 := z6.cell 0
      have x1 := z6.cell 1
      have x2 := z6.cell 2
      have x3 := z6.cell 3
      have y0 := z7.cell 0
      have y1 := z7.cell 1
      have y2 := z7.cell 2
      have y3 := z7.cell 3
      simp only [List.getElem?_toArray, List.getElem?_cons_zero, List.getElem?_cons_succ] at x0 x1 x2 x3 y0 y1 y2 y3
      rw [f1] at x0
      rw [f2] at x1
      rw [f3] at x2
      rw [f4] at x3
      have HB5 := Lib.hid (HB.out.trans (hB5.mono HB.out.size))
      clear z6 z7 hB5 a4 b4 f1 f2 f3 f4
      go_wp2_with fail
      go_roundg (n - (k + 1))
      case measure => omega
      case rel => exact ⟨k + 1, by omega, rfl, by go_num, HB5.out⟩
    · obtain rfl : k = n := by omega
      have d1 : decide ((k : Int) < (k : Int)) = false := by simp
      go_wp2_with fail
      go_ret
      exact ⟨rfl, HA.out.2.2.trans (hB.mono HA.out.2.2.size)⟩
end Go.Proofs.Ytlhlhlabnjfhcaa
