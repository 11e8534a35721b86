/- packet: a piece is told: a region of read, whatever its order. -/
import Derived.Test.YtnpoakabheeoeaaPk22
import Derived.Test.YtnpoakabheeoeaaPk15
set_option maxRecDepth 100000
namespace Go.Proofs.Ytnpoakabheeoeaa
section
open Go.RowKit
inductive read_r16_S (d : BandA) (bG : BandG) (k g rb lb en ln qn i pc9 : Nat) (pa9 : Option Addr) (l : List UInt8) (r r9 : RdM) (PL : List PcM) (HRi Hv H1 X H0 : List Ytnpoakabheeoeaa.HB) (w0 : World) (w : World) (s0 s2 s4 s5 s6 s7 s8 s9 s10 s11 s13 s15 s16 s17 s18 s19 s20 s21 s22 s23 s24 s25 s26 s27 s28 s29 s30 s31 s32 s33 s34 s35 s36 s37 s38 s39 s40 s41 s42 s43 s44 s45 s46 s47 s48 s49 s50 s51 s52 s53 s54 s55 s56 s57 s58 s59 s60 s61 s62 s63 s64 s65 s66 s67 s68 s69 s70 s71 s72 s73 s74 s75 s76 s77 s78 s79 s80 s81 s82 s83 s84 s85 s86 s87 s88 s89 s90 s91 s92 s93 s94 s95 s96 s97 s98 s99 s100 s101 s102 s103 : Value) (listed : Array Bool) (a : Act) (W : World) : Prop
 | mk (b0 b1 b2 b3 b4 b5 b6 b7 b8 b9 b10 b11 b12 b13 b14 b15 b16 : Bool) (u86 u87 u88 u89 u90 u91 u92 u93 u94 u95 u96 u97 u98 u99 u100 u101 u12 : Value) (g8 : Nat) (HB : List Ytnpoakabheeoeaa.HB) (HRx : List Ytnpoakabheeoeaa.HB) (hl : listed = #[b0,b1,b2,b3,b4,b5,b6,b7,b8,b9,b10,b11,b12,b13,b14,b15,b16]) (ha : a = ⟨List.toArray (s0::(.pointer (some ⟨rb,0,none⟩))::s2::(.pointer (some ⟨g,0,none⟩))::s4::s5::s6::s7::s8::s9::s10::s11::u12::s13::(.int .i64 (en : Int))::s15::s16::s17::s18::s19::s20::s21::s22::s23::s24::s25::s26::s27::s28::s29::s30::s31::s32::s33::s34::s35::s36::s37::s38::s39::s40::s41::s42::s43::s44::s45::s46::s47::s48::s49::s50::s51::s52::s53::s54::s55::s56::s57::s58::s59::s60::s61::s62::s63::s64::s65::s66::s67::s68::s69::s70::s71::s72::s73::s74::s75::s76::s77::s78::s79::s80::s81::s82::s83::s84::s85::u86::u87::u88::u89::u90::u91::u92::u93::u94::u95::u96::u97::u98::u99::u100::u101::s102::s103::[]),[]⟩) (HW : (Mv w0 H0 W (HRx ++ (oh b14 ⟨g8,116,#[.pointer (some ⟨d.lb,k * 5,none⟩),.pointer (some ⟨d.bb,0,none⟩),.int .i64 (k : Int),.int .i64 (en : Int),.int .i64 (qn : Int)]⟩ ++ (HB ++ (H1 ++ (X ++ bG.heap d))))) ∧ (b12 = false → HRx = HRi) ∧ (b15 = false → HB = Hv) ∧ (b16 = false → u12 = .slice pa9 i pc9) ∧ (b15 = true → b14 = true ∧ b0 = true) ∧ (b13 = true → b12 = true) ∧ (b14 = true → b13 = true) ∧ (b16 = true → b15 = true))) (h0 : Hid (b0 = true → u86 = .slice pa9 i pc9)) (h1 : Hid (b1 = true → u87 = .agg #[.pointer (some ⟨d.lb,k * 5,none⟩),.pointer (some ⟨d.bb,0,none⟩),.int .i64 (k : Int)])) (h2 : Hid (b2 = true → u88 = .int .i64 (en : Int))) (h3 : Hid (b3 = true → u89 = .pointer (some ⟨rb,0,none⟩))) (h4 : Hid (b4 = true → u90 = .pointer (some ⟨g,0,none⟩))) (h5 : Hid (b5 = true → u91 = .pointer (some ⟨d.lb,k * 5,none⟩))) (h6 : Hid (b6 = true → u92 = .pointer (some ⟨d.lb,k * 5,none⟩))) (h7 : Hid (b7 = true → u93 = .pointer (some ⟨d.lb,k * 5 + 4,none⟩))) (h8 : Hid (b8 = true → u94 = .int .i64 (lb : Int))) (h9 : Hid (b9 = true → u95 = .int .i64 (en : Int))) (h10 : Hid (b10 = true → u96 = .int .i64 (ln : Int))) (h11 : Hid (b11 = true → u97 = .int .i64 ((lb : Int) + (ln : Int)))) (h12 : Hid (b12 = true → u98 = .int .i64 (qn : Int) ∧ ReadH rb l r9 HRx)) (h13 : Hid (b13 = true → u99 = .agg #[.pointer (some ⟨d.lb,k * 5,none⟩),.pointer (some ⟨d.bb,0,none⟩),.int .i64 (k : Int),.int .i64 (en : Int),.int .i64 (qn : Int)])) (h14 : Hid (b14 = true → u100 = .slice (some ⟨g8,0,none⟩) 1 1)) (h15 : Hid (b15 = true → RowH 116 5 u101 (i + 1) (pcsV (PL ++ [⟨⟨d,k⟩,en,qn⟩])) HB)) (h16 : Hid (b16 = true → u12 = u101)) : read_r16_S d bG k g rb lb en ln qn i pc9 pa9 l r r9 PL HRi Hv H1 X H0 w0 w s0 s2 s4 s5 s6 s7 s8 s9 s10 s11 s13 s15 s16 s17 s18 s19 s20 s21 s22 s23 s24 s25 s26 s27 s28 s29 s30 s31 s32 s33 s34 s35 s36 s37 s38 s39 s40 s41 s42 s43 s44 s45 s46 s47 s48 s49 s50 s51 s52 s53 s54 s55 s56 s57 s58 s59 s60 s61 s62 s63 s64 s65 s66 s67 s68 s69 s70 s71 s72 s73 s74 s75 s76 s77 s78 s79 s80 s81 s82 s83 s84 s85 s86 s87 s88 s89 s90 s91 s92 s93 s94 s95 s96 s97 s98 s99 s100 s101 s102 s103 listed a W
set_option maxHeartbeats 4000000 in
theorem read_r16 (K : Act → World → Prop) (d : BandA) (bG : BandG) (k g rb lb en ln qn i pc9 : Nat) (pa9 : Option Addr) (l : List UInt8) (r r9 : RdM) (PL : List PcM) (HRi Hv H1 X H0 : List Ytnpoakabheeoeaa.HB) (w0 : World) (w : World) (s0 s2 s4 s5 s6 s7 s8 s9 s10 s11 s13 s15 s16 s17 s18 s19 s20 s21 s22 s23 s24 s25 s26 s27 s28 s29 s30 s31 s32 s33 s34 s35 s36 s37 s38 s39 s40 s41 s42 s43 s44 s45 s46 s47 s48 s49 s50 s51 s52 s53 s54 s55 s56 s57 s58 s59 s60 s61 s62 s63 s64 s65 s66 s67 s68 s69 s70 s71 s72 s73 s74 s75 s76 s77 s78 s79 s80 s81 s82 s83 s84 s85 s86 s87 s88 s89 s90 s91 s92 s93 s94 s95 s96 s97 s98 s99 s100 s101 s102 s103 : Value) (CE : Hid (∀ V A',Mv w0 H0 V (A' ++ (X ++ bG.heap d)) → V.cell? ⟨g,0,none⟩ = some (.pointer (some ⟨d.lb,k * 5,none⟩)) ∧ V.cell? ⟨g,1,none⟩ = some (.pointer (some ⟨d.bb,0,none⟩)) ∧ V.cell? ⟨g,2,none⟩ = some (.int .i64 (k : Int)) ∧ V.cell? ⟨d.lb,k * 5 + 4,none⟩ = some (.int .i64 (lb : Int)))) (LG : Hid (∀ V,Calls Try.prog 64 #[.int .i64 (en : Int)] V fun e w' => e = .returned (.int .i64 (ln : Int)) ∧ w' = V)) (BI : Hid (∀ V R,Mv w0 H0 V (HRi ++ R) → Calls Try.prog 97 #[.pointer (some ⟨rb,0,none⟩),.int .i64 ((lb : Int) + (ln : Int))] V fun e w' => e = .returned (.int .i64 (qn : Int)) ∧ ∃ HR',ReadH rb l r9 HR' ∧ Mv w0 H0 w' (HR' ++ R))) (hl2 : lb ≤ 24) (hln : ln ≤ 10) (hi : i ≤ 1000) (hrow : RowH 116 5 (.slice pa9 i pc9) i (pcsV PL) Hv) (hM : Mv w0 H0 w (HRi ++ (Hv ++ (H1 ++ (X ++ bG.heap d)))))
  (hk : ∀ (u86 u87 u88 u89 u90 u91 u92 u93 u94 u95 u96 u97 u98 u99 u100 u101 u12 : Value) (g8 : Nat) (HB : List Ytnpoakabheeoeaa.HB) (HRx : List Ytnpoakabheeoeaa.HB) (W : World),(Mv w0 H0 W (HRx ++ (oh true ⟨g8,116,#[.pointer (some ⟨d.lb,k * 5,none⟩),.pointer (some ⟨d.bb,0,none⟩),.int .i64 (k : Int),.int .i64 (en : Int),.int .i64 (qn : Int)]⟩ ++ (HB ++ (H1 ++ (X ++ bG.heap d))))) ∧ (true = false → HRx = HRi) ∧ (true = false → HB = Hv) ∧ (true = false → u12 = .slice pa9 i pc9) ∧ (true = true → true = true ∧ true = true) ∧ (true = true → true = true) ∧ (true = true → true = true) ∧ (true = true → true = true)) → (u98 = .int .i64 (qn : Int) ∧ ReadH rb l r9 HRx) → (RowH 116 5 u101 (i + 1) (pcsV (PL ++ [⟨⟨d,k⟩,en,qn⟩])) HB) → (u12 = u101) →  K ⟨List.toArray (s0::(.pointer (some ⟨rb,0,none⟩))::s2::(.pointer (some ⟨g,0,none⟩))::s4::s5::s6::s7::s8::s9::s10::s11::u12::s13::(.int .i64 (en : Int))::s15::s16::s17::s18::s19::s20::s21::s22::s23::s24::s25::s26::s27::s28::s29::s30::s31::s32::s33::s34::s35::s36::s37::s38::s39::s40::s41::s42::s43::s44::s45::s46::s47::s48::s49::s50::s51::s52::s53::s54::s55::s56::s57::s58::s59::s60::s61::s62::s63::s64::s65::s66::s67::s68::s69::s70::s71::s72::s73::s74::s75::s76::s77::s78::s79::s80::s81::s82::s83::s84::s85::u86::u87::u88::u89::u90::u91::u92::u93::u94::u95::u96::u97::u98::u99::u100::u101::s102::s103::[]),[]⟩ W) :
  (regionOf 16 Try.f76).wp Try.prog (Exit.then K noQ) ⟨List.toArray (s0::(.pointer (some ⟨rb,0,none⟩))::s2::(.pointer (some ⟨g,0,none⟩))::s4::s5::s6::s7::s8::s9::s10::s11::(.slice pa9 i pc9)::s13::(.int .i64 (en : Int))::s15::s16::s17::s18::s19::s20::s21::s22::s23::s24::s25::s26::s27::s28::s29::s30::s31::s32::s33::s34::s35::s36::s37::s38::s39::s40::s41::s42::s43::s44::s45::s46::s47::s48::s49::s50::s51::s52::s53::s54::s55::s56::s57::s58::s59::s60::s61::s62::s63::s64::s65::s66::s67::s68::s69::s70::s71::s72::s73::s74::s75::s76::s77::s78::s79::s80::s81::s82::s83::s84::s85::s86::s87::s88::s89::s90::s91::s92::s93::s94::s95::s96::s97::s98::s99::s100::s101::s102::s103::[]),[]⟩ w := by
 conv in (regionOf _ _) => whnf
 unfold noQ
 have HK := Lib.hid hk
 clear hk
 refine wp_region_inv (by kernel_rfl) (read_r16_S d bG k g rb lb en ln qn i pc9 pa9 l r r9 PL HRi Hv H1 X H0 w0 w s0 s2 s4 s5 s6 s7 s8 s9 s10 s11 s13 s15 s16 s17 s18 s19 s20 s21 s22 s23 s24 s25 s26 s27 s28 s29 s30 s31 s32 s33 s34 s35 s36 s37 s38 s39 s40 s41 s42 s43 s44 s45 s46 s47 s48 s49 s50 s51 s52 s53 s54 s55 s56 s57 s58 s59 s60 s61 s62 s63 s64 s65 s66 s67 s68 s69 s70 s71 s72 s73 s74 s75 s76 s77 s78 s79 s80 s81 s82 s83 s84 s85 s86 s87 s88 s89 s90 s91 s92 s93 s94 s95 s96 s97 s98 s99 s100 s101 s102 s103) ?_ ?_ ?_
 ·exact ⟨false,false,false,false,false,false,false,false,false,false,false,false,false,false,false,false,false,s86,s87,s88,s89,s90,s91,s92,s93,s94,s95,s96,s97,s98,s99,s100,s101,(.slice pa9 i pc9),0,Hv,HRi,rfl,rfl,⟨by simpa [oh_false] using hM.drew,fun _ => rfl,fun _ => rfl,fun _ => rfl,(fun e => nomatch e),(fun e => nomatch e),(fun e => nomatch e),(fun e => nomatch e)⟩,Lib.hid nofun,Lib.hid nofun,Lib.hid nofun,Lib.hid nofun,Lib.hid nofun,Lib.hid nofun,Lib.hid nofun,Lib.hid nofun,Lib.hid nofun,Lib.hid nofun,Lib.hid nofun,Lib.hid nofun,Lib.hid nofun,Lib.hid nofun,Lib.hid nofun,Lib.hid nofun,Lib.hid nofun⟩
 ·rintro listed a W ⟨b0,b1,b2,b3,b4,b5,b6,b7,b8,b9,b10,b11,b12,b13,b14,b15,b16,u86,u87,u88,u89,u90,u91,u92,u93,u94,u95,u96,u97,u98,u99,u100,u101,u12,g8,HB,HRx,rfl,rfl,HW,h0,h1,h2,h3,h4,h5,h6,h7,h8,h9,h10,h11,h12,h13,h14,h15,h16⟩ hr
  obtain rfl : b0 = true := by cases b0; exact (not_ready2 hr 0 _ rfl rfl (by simp [Region.binds])).elim; rfl
  obtain rfl : b1 = true := by cases b1; exact (not_ready2 hr 1 _ rfl rfl (by simp [Region.binds])).elim; rfl
  obtain rfl : b2 = true := by cases b2; exact (not_ready2 hr 2 _ rfl rfl (by simp [Region.binds])).elim; rfl
  obtain rfl : b3 = true := by cases b3; exact (not_ready2 hr 3 _ rfl rfl (by simp [Region.binds])).elim; rfl
  obtain rfl : b4 = true := by cases b4; exact (not_ready2 hr 4 _ rfl rfl (by simp [Region.binds])).elim; rfl
  obtain rfl : b5 = true := by cases b5; exact (not_ready2 hr 5 _ rfl rfl (by simp [Region.binds])).elim; rfl
  obtain rfl : b6 = true := by cases b6; exact (not_ready2 hr 6 _ rfl rfl (by simp [Region.binds])).elim; rfl
  obtain rfl : b7 = true := by cases b7; exact (not_ready2 hr 7 _ rfl rfl (by simp [Region.binds])).elim; rfl
  obtain rfl : b8 = true := by cases b8; exact (not_ready2 hr 8 _ rfl rfl (by simp [Region.binds])).elim; rfl
  obtain rfl : b9 = true := by cases b9; exact (not_ready2 hr 9 _ rfl rfl (by simp [Region.binds])).elim; rfl
  obtain rfl : b10 = true := by cases b10; exact (not_ready2 hr 10 _ rfl rfl (by simp [Region.binds])).elim; rfl
  obtain rfl : b11 = true := by cases b11; exact (not_ready2 hr 11 _ rfl rfl (by simp [Region.binds])).elim; rfl
  obtain rfl : b12 = true := by cases b12; exact (not_ready2 hr 12 _ rfl rfl (by simp [Region.binds])).elim; rfl
  obtain rfl : b13 = true := by cases b13; exact (not_ready2 hr 13 _ rfl rfl (by simp [Region.binds])).elim; rfl
  obtain rfl : b14 = true := by cases b14; exact (not_ready2 hr 14 _ rfl rfl (by simp [Region.binds])).elim; rfl
  obtain rfl : b15 = true := by cases b15; exact (not_ready2 hr 15 _ rfl rfl (by simp [Region.binds])).elim; rfl
  obtain rfl : b16 = true := by cases b16; exact (not_ready2 hr 16 _ rfl rfl (by simp [Region.binds])).elim; rfl
  exact HK.out u86 u87 u88 u89 u90 u91 u92 u93 u94 u95 u96 u97 u98 u99 u100 u101 u12 g8 HB HRx W HW (h12.out rfl) (h15.out rfl) (h16.out rfl)
 ·rintro listed a W i ⟨b0,b1,b2,b3,b4,b5,b6,b7,b8,b9,b10,b11,b12,b13,b14,b15,b16,u86,u87,u88,u89,u90,u91,u92,u93,u94,u95,u96,u97,u98,u99,u100,u101,u12,g8,HB,HRx,rfl,rfl,HW,h0,h1,h2,h3,h4,h5,h6,h7,h8,h9,h10,h11,h12,h13,h14,h15,h16⟩ hi
  obtain ⟨hi1,hi2,hi3⟩ := mem_ready hi
  clear hi
  have hi4 : i = 0 ∨ i = 1 ∨ i = 2 ∨ i = 3 ∨ i = 4 ∨ i = 5 ∨ i = 6 ∨ i = 7 ∨ i = 8 ∨ i = 9 ∨ i = 10 ∨ i = 11 ∨ i = 12 ∨ i = 13 ∨ i = 14 ∨ i = 15 ∨ i = 16 := by
   have : i < 17 := hi1
   omega
  clear hi1
  rcases hi4 with rfl | rfl | rfl | rfl | rfl | rfl | rfl | rfl | rfl | rfl | rfl | rfl | rfl | rfl | rfl | rfl | rfl
  ·obtain rfl : b0 = false := hi2
   clear hi3
   obtain rfl : b15 = false := by cases b15; rfl; cases (HW.2.2.2.2.1 rfl).2
   obtain rfl : b16 = false := by cases b16; rfl; cases (HW.2.2.2.2.2.2.2 rfl)
   obtain rfl := HW.2.2.2.1 rfl
   refine wpOp_step rfl (fun K hK => ?_)
   go_simp
   refine hK _ _ ⟨true,_,_,_,_,_,_,_,_,_,_,_,_,_,_,_,_,(.slice pa9 i pc9),_,_,_,_,_,_,_,_,_,_,_,_,_,_,_,_,_,_,_,rfl,rfl,⟨HW.1,HW.2.1,HW.2.2.1,HW.2.2.2.1,(fun e => nomatch e),HW.2.2.2.2.2.1,HW.2.2.2.2.2.2.1,HW.2.2.2.2.2.2.2⟩,Lib.hid (fun _ => rfl),h1,h2,h3,h4,h5,h6,h7,h8,h9,h10,h11,h12,h13,h14,h15,h16⟩
  ·obtain rfl : b1 = false := hi2
   clear hi3
   obtain ⟨y0,y1,y2,y4⟩ := CE.out W (HRx ++ (oh b14 ⟨g8,116,#[.pointer (some ⟨d.lb,k * 5,none⟩),.pointer (some ⟨d.bb,0,none⟩),.int .i64 (k : Int),.int .i64 (en : Int),.int .i64 (qn : Int)]⟩ ++ (HB ++ H1))) (by simpa only [List.append_assoc] using HW.1)
   refine wpOp_step rfl (fun K hK => ?_)
   go_simp
   refine hK _ _ ⟨_,true,_,_,_,_,_,_,_,_,_,_,_,_,_,_,_,_,(.agg #[.pointer (some ⟨d.lb,k * 5,none⟩),.pointer (some ⟨d.bb,0,none⟩),.int .i64 (k : Int)]),_,_,_,_,_,_,_,_,_,_,_,_,_,_,_,_,_,_,rfl,rfl,HW,h0,Lib.hid (fun _ => rfl),h2,h3,h4,h5,h6,h7,h8,h9,h10,h11,h12,h13,h14,h15,h16⟩
  ·obtain rfl : b2 = false := hi2
   clear hi3
   refine wpOp_step rfl (fun K hK => ?_)
   go_simp
   refine hK _ _ ⟨_,_,true,_,_,_,_,_,_,_,_,_,_,_,_,_,_,_,_,(.int .i64 (en : Int)),_,_,_,_,_,_,_,_,_,_,_,_,_,_,_,_,_,rfl,rfl,HW,h0,h1,Lib.hid (fun _ => rfl),h3,h4,h5,h6,h7,h8,h9,h10,h11,h12,h13,h14,h15,h16⟩
  ·obtain rfl : b3 = false := hi2
   clear hi3
   refine wpOp_step rfl (fun K hK => ?_)
   go_simp
   refine hK _ _ ⟨_,_,_,true,_,_,_,_,_,_,_,_,_,_,_,_,_,_,_,_,(.pointer (some ⟨rb,0,none⟩)),_,_,_,_,_,_,_,_,_,_,_,_,_,_,_,_,rfl,rfl,HW,h0,h1,h2,Lib.hid (fun _ => rfl),h4,h5,h6,h7,h8,h9,h10,h11,h12,h13,h14,h15,h16⟩
  ·obtain rfl : b4 = false := hi2
   clear hi3
   refine wpOp_step rfl (fun K hK => ?_)
   go_simp
   refine hK _ _ ⟨_,_,_,_,true,_,_,_,_,_,_,_,_,_,_,_,_,_,_,_,_,(.pointer (some ⟨g,0,none⟩)),_,_,_,_,_,_,_,_,_,_,_,_,_,_,_,rfl,rfl,HW,h0,h1,h2,h3,Lib.hid (fun _ => rfl),h5,h6,h7,h8,h9,h10,h11,h12,h13,h14,h15,h16⟩
  ·obtain rfl : b5 = false := hi2
   obtain rfl : b4 = true := hi3 _ rfl ⟨4,.data⟩ (by simp) rfl
   obtain rfl := h4.out rfl
   clear hi3
   obtain ⟨y0,y1,y2,y4⟩ := CE.out W (HRx ++ (oh b14 ⟨g8,116,#[.pointer (some ⟨d.lb,k * 5,none⟩),.pointer (some ⟨d.bb,0,none⟩),.int .i64 (k : Int),.int .i64 (en : Int),.int .i64 (qn : Int)]⟩ ++ (HB ++ H1))) (by simpa only [List.append_assoc] using HW.1)
   refine wpOp_step rfl (fun K hK => ?_)
   go_simp
   refine hK _ _ ⟨_,_,_,_,_,true,_,_,_,_,_,_,_,_,_,_,_,_,_,_,_,_,(.pointer (some ⟨d.lb,k * 5,none⟩)),_,_,_,_,_,_,_,_,_,_,_,_,_,_,rfl,rfl,HW,h0,h1,h2,h3,h4,Lib.hid (fun _ => rfl),h6,h7,h8,h9,h10,h11,h12,h13,h14,h15,h16⟩
  ·obtain rfl : b6 = false := hi2
   obtain rfl : b5 = true := hi3 _ rfl ⟨5,.data⟩ (by simp) rfl
   obtain rfl := h5.out rfl
   clear hi3
   refine wpOp_step rfl (fun K hK => ?_)
   go_simp
   refine hK _ _ ⟨_,_,_,_,_,_,true,_,_,_,_,_,_,_,_,_,_,_,_,_,_,_,_,(.pointer (some ⟨d.lb,k * 5,none⟩)),_,_,_,_,_,_,_,_,_,_,_,_,_,rfl,rfl,HW,h0,h1,h2,h3,h4,h5,Lib.hid (fun _ => rfl),h7,h8,h9,h10,h11,h12,h13,h14,h15,h16⟩
  ·obtain rfl : b7 = false := hi2
   obtain rfl : b6 = true := hi3 _ rfl ⟨6,.data⟩ (by simp) rfl
   obtain rfl := h6.out rfl
   clear hi3
   refine wpOp_step rfl (fun K hK => ?_)
   go_simp
   refine hK _ _ ⟨_,_,_,_,_,_,_,true,_,_,_,_,_,_,_,_,_,_,_,_,_,_,_,_,(.pointer (some ⟨d.lb,k * 5 + 4,none⟩)),_,_,_,_,_,_,_,_,_,_,_,_,rfl,rfl,HW,h0,h1,h2,h3,h4,h5,h6,Lib.hid (fun _ => rfl),h8,h9,h10,h11,h12,h13,h14,h15,h16⟩
  ·obtain rfl : b8 = false := hi2
   obtain rfl : b7 = true := hi3 _ rfl ⟨7,.data⟩ (by simp) rfl
   obtain rfl := h7.out rfl
   clear hi3
   obtain ⟨y0,y1,y2,y4⟩ := CE.out W (HRx ++ (oh b14 ⟨g8,116,#[.pointer (some ⟨d.lb,k * 5,none⟩),.pointer (some ⟨d.bb,0,none⟩),.int .i64 (k : Int),.int .i64 (en : Int),.int .i64 (qn : Int)]⟩ ++ (HB ++ H1))) (by simpa only [List.append_assoc] using HW.1)
   refine wpOp_step rfl (fun K hK => ?_)
   go_simp
   refine hK _ _ ⟨_,_,_,_,_,_,_,_,true,_,_,_,_,_,_,_,_,_,_,_,_,_,_,_,_,(.int .i64 (lb : Int)),_,_,_,_,_,_,_,_,_,_,_,rfl,rfl,HW,h0,h1,h2,h3,h4,h5,h6,h7,Lib.hid (fun _ => rfl),h9,h10,h11,h12,h13,h14,h15,h16⟩
  ·obtain rfl : b9 = false := hi2
   clear hi3
   refine wpOp_step rfl (fun K hK => ?_)
   go_simp
   refine hK _ _ ⟨_,_,_,_,_,_,_,_,_,true,_,_,_,_,_,_,_,_,_,_,_,_,_,_,_,_,(.int .i64 (en : Int)),_,_,_,_,_,_,_,_,_,_,rfl,rfl,HW,h0,h1,h2,h3,h4,h5,h6,h7,h8,Lib.hid (fun _ => rfl),h10,h11,h12,h13,h14,h15,h16⟩
  ·obtain rfl : b10 = false := hi2
   obtain rfl : b9 = true := hi3 _ rfl ⟨9,.data⟩ (by simp) rfl
   obtain rfl := h9.out rfl
   clear hi3
   refine wpOp_step rfl (fun K hK => ?_)
   go_simp
   go_at_call 64
   (with_reducible refine (LG.out _).mono ?_)
   rintro e w10 ⟨rfl,rfl⟩
   refine hK _ _ ⟨_,_,_,_,_,_,_,_,_,_,true,_,_,_,_,_,_,_,_,_,_,_,_,_,_,_,_,(.int .i64 (ln : Int)),_,_,_,_,_,_,_,_,_,rfl,rfl,HW,h0,h1,h2,h3,h4,h5,h6,h7,h8,h9,Lib.hid (fun _ => rfl),h11,h12,h13,h14,h15,h16⟩
  ·obtain rfl : b11 = false := hi2
   obtain rfl : b8 = true := hi3 _ rfl ⟨8,.data⟩ (by simp) rfl
   obtain rfl : b10 = true := hi3 _ rfl ⟨10,.data⟩ (by simp) rfl
   obtain rfl := h8.out rfl
   obtain rfl := h10.out rfl
   clear hi3
   have ew := IntWalk.i64_in ((lb : Int) + (ln : Int)) ⟨by omega,by omega⟩
   refine wpOp_step rfl (fun K hK => ?_)
   go_simp
   refine hK _ _ ⟨_,_,_,_,_,_,_,_,_,_,_,true,_,_,_,_,_,_,_,_,_,_,_,_,_,_,_,_,(.int .i64 ((lb : Int) + (ln : Int))),_,_,_,_,_,_,_,_,rfl,rfl,HW,h0,h1,h2,h3,h4,h5,h6,h7,h8,h9,h10,Lib.hid (fun _ => rfl),h12,h13,h14,h15,h16⟩
  ·obtain rfl : b12 = false := hi2
   obtain rfl : b3 = true := hi3 _ rfl ⟨3,.data⟩ (by simp) rfl
   obtain rfl : b11 = true := hi3 _ rfl ⟨11,.data⟩ (by simp) rfl
   obtain rfl : b10 = true := hi3 _ rfl ⟨10,.chain⟩ (by simp) rfl
   obtain rfl := h3.out rfl
   obtain rfl := h10.out rfl
   obtain rfl := h11.out rfl
   clear hi3
   obtain rfl : b13 = false := by cases b13; rfl; cases (HW.2.2.2.2.2.1 rfl)
   obtain rfl : b14 = false := by cases b14; rfl; cases (HW.2.2.2.2.2.2.1 rfl)
   obtain rfl := HW.2.1 rfl
   refine wpOp_step rfl (fun K hK => ?_)
   go_simp
   go_at_call 97
   refine (BI.out W _ HW.1).mono ?_
   rintro e w11 ⟨rfl,HR',p1,p2⟩
   refine hK _ _ ⟨_,_,_,_,_,_,_,_,_,_,_,_,true,_,_,_,_,_,_,_,_,_,_,_,_,_,_,_,_,(.int .i64 (qn : Int)),_,_,_,_,g8,HB,HR',rfl,rfl,⟨p2,(fun e => nomatch e),HW.2.2.1,HW.2.2.2.1,HW.2.2.2.2.1,(fun e => nomatch e),HW.2.2.2.2.2.2.1,HW.2.2.2.2.2.2.2⟩,h0,h1,h2,h3,h4,h5,h6,h7,h8,h9,h10,h11,Lib.hid (fun _ => ⟨rfl,p1⟩),h13,h14,h15,h16⟩
  ·obtain rfl : b13 = false := hi2
   obtain rfl : b1 = true := hi3 _ rfl ⟨1,.data⟩ (by simp) rfl
   obtain rfl : b2 = true := hi3 _ rfl ⟨2,.data⟩ (by simp) rfl
   obtain rfl : b12 = true := hi3 _ rfl ⟨12,.data⟩ (by simp) rfl
   obtain rfl := h1.out rfl
   obtain rfl := h2.out rfl
   clear hi3
   obtain rfl := (h12.out rfl).1
   refine wpOp_step rfl (fun K hK => ?_)
   go_simp
   refine hK _ _ ⟨_,_,_,_,_,_,_,_,_,_,_,_,_,true,_,_,_,_,_,_,_,_,_,_,_,_,_,_,_,_,(.agg #[.pointer (some ⟨d.lb,k * 5,none⟩),.pointer (some ⟨d.bb,0,none⟩),.int .i64 (k : Int),.int .i64 (en : Int),.int .i64 (qn : Int)]),_,_,_,_,_,_,rfl,rfl,⟨HW.1,HW.2.1,HW.2.2.1,HW.2.2.2.1,HW.2.2.2.2.1,fun _ => rfl,fun _ => rfl,HW.2.2.2.2.2.2.2⟩,h0,h1,h2,h3,h4,h5,h6,h7,h8,h9,h10,h11,h12,Lib.hid (fun _ => rfl),h14,h15,h16⟩
  ·obtain rfl : b14 = false := hi2
   obtain rfl : b13 = true := hi3 _ rfl ⟨13,.data⟩ (by simp) rfl
   obtain rfl := h13.out rfl
   clear hi3
   obtain rfl : b15 = false := by cases b15; rfl; cases (HW.2.2.2.2.1 rfl).1
   obtain rfl := HW.2.2.1 rfl
   have M9 := HW.1.alloc 116 #[.pointer (some ⟨d.lb,k * 5,none⟩),.pointer (some ⟨d.bb,0,none⟩),.int .i64 (k : Int),.int .i64 (en : Int),.int .i64 (qn : Int)]
   refine wpOp_step rfl (fun K hK => ?_)
   go_simp
   refine hK _ _ ⟨_,_,_,_,_,_,_,_,_,_,_,_,_,_,true,_,_,_,_,_,_,_,_,_,_,_,_,_,_,_,_,(.slice (some ⟨W.heap.size,0,none⟩) 1 1),_,_,W.heap.size,_,HRx,rfl,rfl,⟨M9.sub (fun g => by simp only [oh_true,oh_false,cnt_append,cnt_cons,cnt_nil]; omega) (fun c hc => by simp only [oh_true,oh_false,List.mem_append,List.mem_cons,List.not_mem_nil,or_false] at hc ⊢; grind),HW.2.1,HW.2.2.1,HW.2.2.2.1,(fun e => nomatch e),HW.2.2.2.2.2.1,fun _ => rfl,HW.2.2.2.2.2.2.2⟩,h0,h1,h2,h3,h4,h5,h6,h7,h8,h9,h10,h11,h12,h13,Lib.hid (fun _ => rfl),h15,h16⟩
  ·obtain rfl : b15 = false := hi2
   obtain rfl : b0 = true := hi3 _ rfl ⟨0,.data⟩ (by simp) rfl
   obtain rfl : b14 = true := hi3 _ rfl ⟨14,.data⟩ (by simp) rfl
   obtain rfl : b12 = true := hi3 _ rfl ⟨12,.chain⟩ (by simp) rfl
   obtain rfl := h0.out rfl
   obtain rfl := h14.out rfl
   clear hi3
   obtain rfl := HW.2.2.1 rfl
   obtain rfl : b16 = false := by cases b16; rfl; cases (HW.2.2.2.2.2.2.2 rfl)
   have M9 : Mv w0 H0 W (HB ++ (⟨g8,116,#[.pointer (some ⟨d.lb,k * 5,none⟩),.pointer (some ⟨d.bb,0,none⟩),.int .i64 (k : Int),.int .i64 (en : Int),.int .i64 (qn : Int)]⟩ :: (HRx ++ (H1 ++ (X ++ bG.heap d))))) := HW.1.sub (fun g => by simp only [oh_true,oh_false,cnt_append,cnt_cons,cnt_nil]; omega) (fun c hc => by simp only [oh_true,oh_false,List.mem_append,List.mem_cons,List.not_mem_nil,or_false] at hc ⊢; grind)
   have RD : Reads W W.heap.size 5 (some ⟨g8,0,none⟩) 1 (pieceV ⟨⟨d,k⟩,en,qn⟩) := Reads.of_own (RowH.owns (H := [⟨g8,116,#[.pointer (some ⟨d.lb,k * 5,none⟩),.pointer (some ⟨d.bb,0,none⟩),.int .i64 (k : Int),.int .i64 (en : Int),.int .i64 (qn : Int)]⟩]) (RowH.new 116 g8 1 #[.pointer (some ⟨d.lb,k * 5,none⟩),.pointer (some ⟨d.bb,0,none⟩),.int .i64 (k : Int),.int .i64 (en : Int),.int .i64 (qn : Int)] rfl (by decide)) (M9.sat.sub (fun g => by simp only [cnt_append,cnt_cons,cnt_nil]; omega) (fun c hc => by simp only [List.mem_append,List.mem_cons,List.not_mem_nil,or_false] at hc ⊢; grind)) (B := 0) (fun _ _ => Nat.zero_le _))
   refine wpOp_step rfl (fun K hK => ?_)
   refine step_appR (A := some ⟨g8,0,none⟩) (m := 1) (c := 1) Try.underlying111 infoPc rfl (by decide) (by decide) rfl (.tmp 86) (.tmp 100) rfl (.slice pa9 i pc9) (by simp [Act.eval]) (by simp [Act.eval]) hrow M9.sat.left RD (fun u hu => pcsV_one [⟨⟨d,k⟩,en,qn⟩] u (by simpa [pcsV] using hu)) (by omega) ?_
   intro v9 w9 H9 r10 m9
   have N9 := Mv.call M9 m9
   refine hK _ _ ⟨_,_,_,_,_,_,_,_,_,_,_,_,_,_,_,true,_,_,_,_,_,_,_,_,_,_,_,_,_,_,_,_,v9,_,g8,H9,HRx,rfl,rfl,⟨N9.sub (fun g => by simp only [oh_true,oh_false,cnt_append,cnt_cons,cnt_nil]; omega) (fun c hc => by simp only [oh_true,oh_false,List.mem_append,List.mem_cons,List.not_mem_nil,or_false] at hc ⊢; grind),HW.2.1,(fun e => nomatch e),HW.2.2.2.1,fun _ => ⟨rfl,rfl⟩,HW.2.2.2.2.2.1,HW.2.2.2.2.2.2.1,(fun e => nomatch e)⟩,h0,h1,h2,h3,h4,h5,h6,h7,h8,h9,h10,h11,h12,h13,h14,Lib.hid (fun _ => by rw [pcsV_append]; exact r10),Lib.hid ((fun e => nomatch e))⟩
  ·obtain rfl : b16 = false := hi2
   obtain rfl : b15 = true := hi3 _ rfl ⟨15,.data⟩ (by simp) rfl
   obtain rfl : b0 = true := hi3 _ rfl ⟨0,.phase⟩ (by simp) rfl
   obtain rfl : b1 = true := hi3 _ rfl ⟨1,.phase⟩ (by simp) rfl
   obtain rfl : b2 = true := hi3 _ rfl ⟨2,.phase⟩ (by simp) rfl
   obtain rfl : b3 = true := hi3 _ rfl ⟨3,.phase⟩ (by simp) rfl
   obtain rfl : b4 = true := hi3 _ rfl ⟨4,.phase⟩ (by simp) rfl
   obtain rfl : b5 = true := hi3 _ rfl ⟨5,.phase⟩ (by simp) rfl
   obtain rfl : b6 = true := hi3 _ rfl ⟨6,.phase⟩ (by simp) rfl
   obtain rfl : b7 = true := hi3 _ rfl ⟨7,.phase⟩ (by simp) rfl
   obtain rfl : b8 = true := hi3 _ rfl ⟨8,.phase⟩ (by simp) rfl
   obtain rfl : b9 = true := hi3 _ rfl ⟨9,.phase⟩ (by simp) rfl
   obtain rfl : b10 = true := hi3 _ rfl ⟨10,.phase⟩ (by simp) rfl
   obtain rfl : b11 = true := hi3 _ rfl ⟨11,.phase⟩ (by simp) rfl
   obtain rfl : b12 = true := hi3 _ rfl ⟨12,.phase⟩ (by simp) rfl
   obtain rfl : b13 = true := hi3 _ rfl ⟨13,.phase⟩ (by simp) rfl
   obtain rfl : b14 = true := hi3 _ rfl ⟨14,.phase⟩ (by simp) rfl
   obtain rfl := h0.out rfl
   obtain rfl := h1.out rfl
   obtain rfl := h2.out rfl
   obtain rfl := h3.out rfl
   obtain rfl := h4.out rfl
   obtain rfl := h5.out rfl
   obtain rfl := h6.out rfl
   obtain rfl := h7.out rfl
   obtain rfl := h8.out rfl
   obtain rfl := h9.out rfl
   obtain rfl := h10.out rfl
   obtain rfl := h11.out rfl
   obtain rfl := h13.out rfl
   obtain rfl := h14.out rfl
   clear hi3
   refine wpOp_step rfl (fun K hK => ?_)
   go_simp
   refine hK _ _ ⟨_,_,_,_,_,_,_,_,_,_,_,_,_,_,_,_,true,_,_,_,_,_,_,_,_,_,_,_,_,_,_,_,_,_,_,_,_,rfl,rfl,⟨HW.1,HW.2.1,HW.2.2.1,(fun e => nomatch e),HW.2.2.2.2.1,HW.2.2.2.2.2.1,HW.2.2.2.2.2.2.1,fun _ => rfl⟩,h0,h1,h2,h3,h4,h5,h6,h7,h8,h9,h10,h11,h12,h13,h14,h15,Lib.hid (fun _ => rfl)⟩
end
end Go.Proofs.Ytnpoakabheeoeaa
