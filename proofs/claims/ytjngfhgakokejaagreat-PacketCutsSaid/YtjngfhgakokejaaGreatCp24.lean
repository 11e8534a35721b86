/- packet: a pass is laid behind a block's: a region of take, whatever its order. -/
import Derived.Test.YtjngfhgakokejaaGreatCp18
set_option maxRecDepth 100000
set_option maxHeartbeats 8000000
set_option linter.all false
namespace Go.Proofs.YtjngfhgakokejaaGreat
section
open Go.RowKit
inductive take_r4_S (k g lk style np pc nb bc:Nat) (tb:Bool) (pa ba:Option Addr) (ps:List (Int × Bool)) (Hp R H0:List YtjngfhgakokejaaGreat.HB) (w0:World) (w:World) (s0 s2 s4 s5 s6 s7 s8 s9 s10 s11 s12 s13 s14 s15 s16 s17 s18 s19 s20 s21 s22 s23 s24 s25 s26 s27 s28 s29 s30 s31 s32 s33 s34 s35 s36 s37 s38 s39 s40 s41 s42 s43 s44 s45 s46 s47 s48 s49 s50 s51 s52 s53 s54 s55 s56 s57 s58 s59:Value) (listed:Array Bool) (a:Act) (W:World):Prop
 | mk (b0 b1 b2 b3 b4 b5 b6 b7 b8 b9 b10 b11 b12 b13 b14 b15 b16 b17 b18 b19 b20 b21 b22 b23 b24 b25 b26 b27 b28 b29 b30 b31 b32 b33 b34:Bool) (u25 u26 u27 u28 u29 u30 u31 u32 u33 u34 u35 u36 u37 u38 u39 u40 u41 u42 u43 u44 u45 u46 u47 u48 u49 u50 u51 u52 u53 u54 u55 u56 u57 u58:Value) (g8:Nat) (HB:List YtjngfhgakokejaaGreat.HB) (Wp:World) (hl:listed=#[b0,b1,b2,b3,b4,b5,b6,b7,b8,b9,b10,b11,b12,b13,b14,b15,b16,b17,b18,b19,b20,b21,b22,b23,b24,b25,b26,b27,b28,b29,b30,b31,b32,b33,b34]) (ha:a=⟨List.toArray (s0::(.int .i64 (style:Int))::s2::(.pointer (some ⟨g,0,none⟩))::s4::s5::s6::s7::s8::s9::s10::s11::s12::s13::s14::s15::s16::s17::s18::s19::s20::s21::s22::s23::s24::u25::u26::u27::u28::u29::u30::u31::u32::u33::u34::u35::u36::u37::u38::u39::u40::u41::u42::u43::u44::u45::u46::u47::u48::u49::u50::u51::u52::u53::u54::u55::u56::u57::u58::s59::[]),[]⟩) (HW:(Mv w0 H0 Wp (oh b29 ⟨g8,142,#[.int .i64 (nb:Int),.bool tb]⟩++(HB++R))∧(b30=false→HB=Hp)∧(b30=true→b29=true)∧(b34=false→W=Wp)∧(b34=true→W=Wp.setCell ⟨lk,k * 5+1,none⟩ u55)∧(b34=true→b0=true∧b1=true∧b2=true∧b3=true∧b4=true∧b5=true∧b6=true∧b7=true∧b8=true∧b9=true∧b10=true∧b11=true∧b12=true∧b13=true∧b14=true∧b15=true∧b16=true∧b17=true∧b18=true∧b19=true∧b20=true∧b21=true∧b22=true∧b23=true∧b24=true∧b25=true∧b26=true∧b27=true∧b28=true∧b29=true∧b30=true∧b31=true∧b32=true∧b33=true)∧(b32=true→b31=true)∧(b33=true→b32=true))) (h0:Hid (b0=true→u25=.pointer (some ⟨g,0,none⟩))) (h1:Hid (b1=true→u26=.pointer (some ⟨g,0,none⟩))) (h2:Hid (b2=true→u27=.pointer (some ⟨lk,k * 5,none⟩))) (h3:Hid (b3=true→u28=.pointer (some ⟨g,0,none⟩))) (h4:Hid (b4=true→u29=.pointer (some ⟨g,0,none⟩))) (h5:Hid (b5=true→u30=.pointer (some ⟨lk,k * 5,none⟩))) (h6:Hid (b6=true→u31=.pointer (some ⟨lk,k * 5,none⟩))) (h7:Hid (b7=true→u32=.pointer (some ⟨lk,k * 5,none⟩))) (h8:Hid (b8=true→u33=.pointer (some ⟨lk,k * 5+1,none⟩))) (h9:Hid (b9=true→u34=.slice pa np pc)) (h10:Hid (b10=true→u35=.pointer (some ⟨g,0,none⟩))) (h11:Hid (b11=true→u36=.pointer (some ⟨g,0,none⟩))) (h12:Hid (b12=true→u37=.pointer (some ⟨lk,k * 5,none⟩))) (h13:Hid (b13=true→u38=.pointer (some ⟨lk,k * 5,none⟩))) (h14:Hid (b14=true→u39=.pointer (some ⟨lk,k * 5,none⟩))) (h15:Hid (b15=true→u40=.pointer (some ⟨lk,k * 5+2,none⟩))) (h16:Hid (b16=true→u41=.slice ba nb bc)) (h17:Hid (b17=true→u42=.int .i64 (nb:Int))) (h18:Hid (b18=true→u43=.int .i64 (style:Int))) (h19:Hid (b19=true→u44=.pointer (some ⟨g,0,none⟩))) (h20:Hid (b20=true→u45=.pointer (some ⟨g,0,none⟩))) (h21:Hid (b21=true→u46=.pointer (some ⟨lk,k * 5,none⟩))) (h22:Hid (b22=true→u47=.pointer (some ⟨lk,k * 5,none⟩))) (h23:Hid (b23=true→u48=.pointer (some ⟨lk,k * 5,none⟩))) (h24:Hid (b24=true→u49=.pointer (some ⟨lk,k * 5+1,none⟩))) (h25:Hid (b25=true→u50=.slice pa np pc)) (h26:Hid (b26=true→u51=.int .i64 (np:Int))) (h27:Hid (b27=true→u52=.bool tb)) (h28:Hid (b28=true→u53=.agg #[.int .i64 (nb:Int),.bool tb])) (h29:Hid (b29=true→u54=.slice (some ⟨g8,0,none⟩) 1 1)) (h30:Hid (b30=true→RowH 142 2 u55 (np+1) (passesV (ps++[((nb:Int),tb)])) HB)) (h31:Hid (b31=true→u56=.pointer (some ⟨lk,k * 5,none⟩))) (h32:Hid (b32=true→u57=.pointer (some ⟨lk,k * 5,none⟩))) (h33:Hid (b33=true→u58=.pointer (some ⟨lk,k * 5+1,none⟩))) (h34:Hid (b34=true→True)):take_r4_S k g lk style np pc nb bc tb pa ba ps Hp R H0 w0 w s0 s2 s4 s5 s6 s7 s8 s9 s10 s11 s12 s13 s14 s15 s16 s17 s18 s19 s20 s21 s22 s23 s24 s25 s26 s27 s28 s29 s30 s31 s32 s33 s34 s35 s36 s37 s38 s39 s40 s41 s42 s43 s44 s45 s46 s47 s48 s49 s50 s51 s52 s53 s54 s55 s56 s57 s58 s59 listed a W
theorem take_r4 (K:Act→World→Prop) (k g lk style np pc nb bc:Nat) (tb:Bool) (pa ba:Option Addr) (ps:List (Int × Bool)) (Hp R H0:List YtjngfhgakokejaaGreat.HB) (w0:World) (w:World) (s0 s2 s4 s5 s6 s7 s8 s9 s10 s11 s12 s13 s14 s15 s16 s17 s18 s19 s20 s21 s22 s23 s24 s25 s26 s27 s28 s29 s30 s31 s32 s33 s34 s35 s36 s37 s38 s39 s40 s41 s42 s43 s44 s45 s46 s47 s48 s49 s50 s51 s52 s53 s54 s55 s56 s57 s58 s59:Value) (CE:Hid (∀ V A',Mv w0 H0 V (A'++R)→V.cell? ⟨g,0,none⟩=some (.pointer (some ⟨lk,k * 5,none⟩))∧V.cell? ⟨lk,k * 5+1,none⟩=some (.slice pa np pc)∧V.cell? ⟨lk,k * 5+2,none⟩=some (.slice ba nb bc)∧V.frozen? ⟨lk,k * 5+1,none⟩=false)) (EN:Hid (∀ V,Calls Tryz.prog 92 #[.int .i64 (style:Int),.int .i64 (np:Int)] V fun e w'=>e=.returned (.bool tb)∧w'=V)) (hnp:np≤1000) (hrow:RowH 142 2 (.slice pa np pc) np (passesV ps) Hp) (hM:Mv w0 H0 w (Hp++R))
  (hk:∀ (u25 u26 u27 u28 u29 u30 u31 u32 u33 u34 u35 u36 u37 u38 u39 u40 u41 u42 u43 u44 u45 u46 u47 u48 u49 u50 u51 u52 u53 u54 u55 u56 u57 u58:Value) (g8:Nat) (HB:List YtjngfhgakokejaaGreat.HB) (Wp:World) (W:World),(Mv w0 H0 Wp (oh true ⟨g8,142,#[.int .i64 (nb:Int),.bool tb]⟩++(HB++R))∧(true=false→HB=Hp)∧(true=true→true=true)∧(true=false→W=Wp)∧(true=true→W=Wp.setCell ⟨lk,k * 5+1,none⟩ u55)∧(true=true→true=true∧true=true∧true=true∧true=true∧true=true∧true=true∧true=true∧true=true∧true=true∧true=true∧true=true∧true=true∧true=true∧true=true∧true=true∧true=true∧true=true∧true=true∧true=true∧true=true∧true=true∧true=true∧true=true∧true=true∧true=true∧true=true∧true=true∧true=true∧true=true∧true=true∧true=true∧true=true∧true=true∧true=true)∧(true=true→true=true)∧(true=true→true=true))→(RowH 142 2 u55 (np+1) (passesV (ps++[((nb:Int),tb)])) HB) →  K ⟨List.toArray (s0::(.int .i64 (style:Int))::s2::(.pointer (some ⟨g,0,none⟩))::s4::s5::s6::s7::s8::s9::s10::s11::s12::s13::s14::s15::s16::s17::s18::s19::s20::s21::s22::s23::s24::u25::u26::u27::u28::u29::u30::u31::u32::u33::u34::u35::u36::u37::u38::u39::u40::u41::u42::u43::u44::u45::u46::u47::u48::u49::u50::u51::u52::u53::u54::u55::u56::u57::u58::s59::[]),[]⟩ W) :
  (regionOf 4 Tryz.f41).wp Tryz.prog (Exit.then K noQ) ⟨List.toArray (s0::(.int .i64 (style:Int))::s2::(.pointer (some ⟨g,0,none⟩))::s4::s5::s6::s7::s8::s9::s10::s11::s12::s13::s14::s15::s16::s17::s18::s19::s20::s21::s22::s23::s24::s25::s26::s27::s28::s29::s30::s31::s32::s33::s34::s35::s36::s37::s38::s39::s40::s41::s42::s43::s44::s45::s46::s47::s48::s49::s50::s51::s52::s53::s54::s55::s56::s57::s58::s59::[]),[]⟩ w:=by
 conv in (regionOf _ _)=>whnf
 unfold noQ
 have HK:=Lib.hid hk
 clear hk
 refine wp_region_inv (by kernel_rfl) (take_r4_S k g lk style np pc nb bc tb pa ba ps Hp R H0 w0 w s0 s2 s4 s5 s6 s7 s8 s9 s10 s11 s12 s13 s14 s15 s16 s17 s18 s19 s20 s21 s22 s23 s24 s25 s26 s27 s28 s29 s30 s31 s32 s33 s34 s35 s36 s37 s38 s39 s40 s41 s42 s43 s44 s45 s46 s47 s48 s49 s50 s51 s52 s53 s54 s55 s56 s57 s58 s59) ?_ ?_ ?_
 ·exact⟨false,false,false,false,false,false,false,false,false,false,false,false,false,false,false,false,false,false,false,false,false,false,false,false,false,false,false,false,false,false,false,false,false,false,false,s25,s26,s27,s28,s29,s30,s31,s32,s33,s34,s35,s36,s37,s38,s39,s40,s41,s42,s43,s44,s45,s46,s47,s48,s49,s50,s51,s52,s53,s54,s55,s56,s57,s58,0,Hp,w.drew,rfl,rfl,⟨by simpa [oh_false] using hM.drew,fun _=>rfl,(fun e=>nomatch e),fun _=>rfl,(fun e=>nomatch e),(fun e=>nomatch e),(fun e=>nomatch e),(fun e=>nomatch e)⟩,Lib.hid nofun,Lib.hid nofun,Lib.hid nofun,Lib.hid nofun,Lib.hid nofun,Lib.hid nofun,Lib.hid nofun,Lib.hid nofun,Lib.hid nofun,Lib.hid nofun,Lib.hid nofun,Lib.hid nofun,Lib.hid nofun,Lib.hid nofun,Lib.hid nofun,Lib.hid nofun,Lib.hid nofun,Lib.hid nofun,Lib.hid nofun,Lib.hid nofun,Lib.hid nofun,Lib.hid nofun,Lib.hid nofun,Lib.hid nofun,Lib.hid nofun,Lib.hid nofun,Lib.hid nofun,Lib.hid nofun,Lib.hid nofun,Lib.hid nofun,Lib.hid nofun,Lib.hid nofun,Lib.hid nofun,Lib.hid nofun,Lib.hid nofun⟩
 ·rintro listed a W ⟨b0,b1,b2,b3,b4,b5,b6,b7,b8,b9,b10,b11,b12,b13,b14,b15,b16,b17,b18,b19,b20,b21,b22,b23,b24,b25,b26,b27,b28,b29,b30,b31,b32,b33,b34,u25,u26,u27,u28,u29,u30,u31,u32,u33,u34,u35,u36,u37,u38,u39,u40,u41,u42,u43,u44,u45,u46,u47,u48,u49,u50,u51,u52,u53,u54,u55,u56,u57,u58,g8,HB,Wp,rfl,rfl,HW,h0,h1,h2,h3,h4,h5,h6,h7,h8,h9,h10,h11,h12,h13,h14,h15,h16,h17,h18,h19,h20,h21,h22,h23,h24,h25,h26,h27,h28,h29,h30,h31,h32,h33,h34⟩ hr
  obtain rfl:b0=true:=by cases b0;exact(not_ready2 hr 0 _ rfl rfl (by simp[Region.binds])).elim;rfl
  obtain rfl:b1=true:=by cases b1;exact(not_ready2 hr 1 _ rfl rfl (by simp[Region.binds])).elim;rfl
  obtain rfl:b2=true:=by cases b2;exact(not_ready2 hr 2 _ rfl rfl (by simp[Region.binds])).elim;rfl
  obtain rfl:b3=true:=by cases b3;exact(not_ready2 hr 3 _ rfl rfl (by simp[Region.binds])).elim;rfl
  obtain rfl:b4=true:=by cases b4;exact(not_ready2 hr 4 _ rfl rfl (by simp[Region.binds])).elim;rfl
  obtain rfl:b5=true:=by cases b5;exact(not_ready2 hr 5 _ rfl rfl (by simp[Region.binds])).elim;rfl
  obtain rfl:b6=true:=by cases b6;exact(not_ready2 hr 6 _ rfl rfl (by simp[Region.binds])).elim;rfl
  obtain rfl:b7=true:=by cases b7;exact(not_ready2 hr 7 _ rfl rfl (by simp[Region.binds])).elim;rfl
  obtain rfl:b8=true:=by cases b8;exact(not_ready2 hr 8 _ rfl rfl (by simp[Region.binds])).elim;rfl
  obtain rfl:b9=true:=by cases b9;exact(not_ready2 hr 9 _ rfl rfl (by simp[Region.binds])).elim;rfl
  obtain rfl:b10=true:=by cases b10;exact(not_ready2 hr 10 _ rfl rfl (by simp[Region.binds])).elim;rfl
  obtain rfl:b11=true:=by cases b11;exact(not_ready2 hr 11 _ rfl rfl (by simp[Region.binds])).elim;rfl
  obtain rfl:b12=true:=by cases b12;exact(not_ready2 hr 12 _ rfl rfl (by simp[Region.binds])).elim;rfl
  obtain rfl:b13=true:=by cases b13;exact(not_ready2 hr 13 _ rfl rfl (by simp[Region.binds])).elim;rfl
  obtain rfl:b14=true:=by cases b14;exact(not_ready2 hr 14 _ rfl rfl (by simp[Region.binds])).elim;rfl
  obtain rfl:b15=true:=by cases b15;exact(not_ready2 hr 15 _ rfl rfl (by simp[Region.binds])).elim;rfl
  obtain rfl:b16=true:=by cases b16;exact(not_ready2 hr 16 _ rfl rfl (by simp[Region.binds])).elim;rfl
  obtain rfl:b17=true:=by cases b17;exact(not_ready2 hr 17 _ rfl rfl (by simp[Region.binds])).elim;rfl
  obtain rfl:b18=true:=by cases b18;exact(not_ready2 hr 18 _ rfl rfl (by simp[Region.binds])).elim;rfl
  obtain rfl:b19=true:=by cases b19;exact(not_ready2 hr 19 _ rfl rfl (by simp[Region.binds])).elim;rfl
  obtain rfl:b20=true:=by cases b20;exact(not_ready2 hr 20 _ rfl rfl (by simp[Region.binds])).elim;rfl
  obtain rfl:b21=true:=by cases b21;exact(not_ready2 hr 21 _ rfl rfl (by simp[Region.binds])).elim;rfl
  obtain rfl:b22=true:=by cases b22;exact(not_ready2 hr 22 _ rfl rfl (by simp[Region.binds])).elim;rfl
  obtain rfl:b23=true:=by cases b23;exact(not_ready2 hr 23 _ rfl rfl (by simp[Region.binds])).elim;rfl
  obtain rfl:b24=true:=by cases b24;exact(not_ready2 hr 24 _ rfl rfl (by simp[Region.binds])).elim;rfl
  obtain rfl:b25=true:=by cases b25;exact(not_ready2 hr 25 _ rfl rfl (by simp[Region.binds])).elim;rfl
  obtain rfl:b26=true:=by cases b26;exact(not_ready2 hr 26 _ rfl rfl (by simp[Region.binds])).elim;rfl
  obtain rfl:b27=true:=by cases b27;exact(not_ready2 hr 27 _ rfl rfl (by simp[Region.binds])).elim;rfl
  obtain rfl:b28=true:=by cases b28;exact(not_ready2 hr 28 _ rfl rfl (by simp[Region.binds])).elim;rfl
  obtain rfl:b29=true:=by cases b29;exact(not_ready2 hr 29 _ rfl rfl (by simp[Region.binds])).elim;rfl
  obtain rfl:b30=true:=by cases b30;exact(not_ready2 hr 30 _ rfl rfl (by simp[Region.binds])).elim;rfl
  obtain rfl:b31=true:=by cases b31;exact(not_ready2 hr 31 _ rfl rfl (by simp[Region.binds])).elim;rfl
  obtain rfl:b32=true:=by cases b32;exact(not_ready2 hr 32 _ rfl rfl (by simp[Region.binds])).elim;rfl
  obtain rfl:b33=true:=by cases b33;exact(not_ready2 hr 33 _ rfl rfl (by simp[Region.binds])).elim;rfl
  obtain rfl:b34=true:=by cases b34;exact(not_ready2 hr 34 _ rfl rfl (by simp[Region.binds])).elim;rfl
  exact HK.out u25 u26 u27 u28 u29 u30 u31 u32 u33 u34 u35 u36 u37 u38 u39 u40 u41 u42 u43 u44 u45 u46 u47 u48 u49 u50 u51 u52 u53 u54 u55 u56 u57 u58 g8 HB Wp W HW (h30.out rfl)
 ·rintro listed a W i ⟨b0,b1,b2,b3,b4,b5,b6,b7,b8,b9,b10,b11,b12,b13,b14,b15,b16,b17,b18,b19,b20,b21,b22,b23,b24,b25,b26,b27,b28,b29,b30,b31,b32,b33,b34,u25,u26,u27,u28,u29,u30,u31,u32,u33,u34,u35,u36,u37,u38,u39,u40,u41,u42,u43,u44,u45,u46,u47,u48,u49,u50,u51,u52,u53,u54,u55,u56,u57,u58,g8,HB,Wp,rfl,rfl,HW,h0,h1,h2,h3,h4,h5,h6,h7,h8,h9,h10,h11,h12,h13,h14,h15,h16,h17,h18,h19,h20,h21,h22,h23,h24,h25,h26,h27,h28,h29,h30,h31,h32,h33,h34⟩ hi
  obtain⟨hi1,hi2,hi3⟩:=mem_ready hi
  clear hi
  have hi4:i=0∨i=1∨i=2∨i=3∨i=4∨i=5∨i=6∨i=7∨i=8∨i=9∨i=10∨i=11∨i=12∨i=13∨i=14∨i=15∨i=16∨i=17∨i=18∨i=19∨i=20∨i=21∨i=22∨i=23∨i=24∨i=25∨i=26∨i=27∨i=28∨i=29∨i=30∨i=31∨i=32∨i=33∨i=34:=by
   have:i<35:=hi1
   omega
  clear hi1
  rcases hi4 with rfl | rfl | rfl | rfl | rfl | rfl | rfl | rfl | rfl | rfl | rfl | rfl | rfl | rfl | rfl | rfl | rfl | rfl | rfl | rfl | rfl | rfl | rfl | rfl | rfl | rfl | rfl | rfl | rfl | rfl | rfl | rfl | rfl | rfl | rfl
  ·obtain rfl:b0=false:=hi2
   clear hi3
   obtain rfl:b34=false:=by cases b34;rfl;have:=HW.2.2.2.2.2.1 rfl;simp at this
   obtain rfl:=HW.2.2.2.1 rfl
   refine wpOp_step rfl (fun K hK=>?_)
   go_simp
   refine hK _ _ ⟨true,_,_,_,_,_,_,_,_,_,_,_,_,_,_,_,_,_,_,_,_,_,_,_,_,_,_,_,_,_,_,_,_,_,_,(.pointer (some ⟨g,0,none⟩)),_,_,_,_,_,_,_,_,_,_,_,_,_,_,_,_,_,_,_,_,_,_,_,_,_,_,_,_,_,_,_,_,_,_,_,_,rfl,rfl,⟨HW.1,HW.2.1,HW.2.2.1,(fun _=>rfl),(fun e=>nomatch e),(fun e=>nomatch e),HW.2.2.2.2.2.2.1,HW.2.2.2.2.2.2.2⟩,Lib.hid (fun _=>rfl),h1,h2,h3,h4,h5,h6,h7,h8,h9,h10,h11,h12,h13,h14,h15,h16,h17,h18,h19,h20,h21,h22,h23,h24,h25,h26,h27,h28,h29,h30,h31,h32,h33,h34⟩
  ·obtain rfl:b1=false:=hi2
   obtain rfl:b0=true:=hi3 _ rfl ⟨0,.data⟩ (by simp) rfl
   obtain rfl:=h0.out rfl
   clear hi3
   obtain rfl:b34=false:=by cases b34;rfl;have:=HW.2.2.2.2.2.1 rfl;simp at this
   obtain rfl:=HW.2.2.2.1 rfl
   refine wpOp_step rfl (fun K hK=>?_)
   go_simp
   refine hK _ _ ⟨_,true,_,_,_,_,_,_,_,_,_,_,_,_,_,_,_,_,_,_,_,_,_,_,_,_,_,_,_,_,_,_,_,_,_,_,(.pointer (some ⟨g,0,none⟩)),_,_,_,_,_,_,_,_,_,_,_,_,_,_,_,_,_,_,_,_,_,_,_,_,_,_,_,_,_,_,_,_,_,_,_,rfl,rfl,⟨HW.1,HW.2.1,HW.2.2.1,(fun _=>rfl),(fun e=>nomatch e),(fun e=>nomatch e),HW.2.2.2.2.2.2.1,HW.2.2.2.2.2.2.2⟩,h0,Lib.hid (fun _=>rfl),h2,h3,h4,h5,h6,h7,h8,h9,h10,h11,h12,h13,h14,h15,h16,h17,h18,h19,h20,h21,h22,h23,h24,h25,h26,h27,h28,h29,h30,h31,h32,h33,h34⟩
  ·obtain rfl:b2=false:=hi2
   obtain rfl:b1=true:=hi3 _ rfl ⟨1,.data⟩ (by simp) rfl
   obtain rfl:=h1.out rfl
   clear hi3
   obtain rfl:b34=false:=by cases b34;rfl;have:=HW.2.2.2.2.2.1 rfl;simp at this
   obtain rfl:=HW.2.2.2.1 rfl
   obtain⟨y0,y1,y2,y3⟩:=CE.out W (oh b29 ⟨g8,142,#[.int .i64 (nb:Int),.bool tb]⟩++HB) (by simpa only[List.append_assoc] using HW.1)
   refine wpOp_step rfl (fun K hK=>?_)
   go_simp
   refine hK _ _ ⟨_,_,true,_,_,_,_,_,_,_,_,_,_,_,_,_,_,_,_,_,_,_,_,_,_,_,_,_,_,_,_,_,_,_,_,_,_,(.pointer (some ⟨lk,k * 5,none⟩)),_,_,_,_,_,_,_,_,_,_,_,_,_,_,_,_,_,_,_,_,_,_,_,_,_,_,_,_,_,_,_,_,_,_,rfl,rfl,⟨HW.1,HW.2.1,HW.2.2.1,(fun _=>rfl),(fun e=>nomatch e),(fun e=>nomatch e),HW.2.2.2.2.2.2.1,HW.2.2.2.2.2.2.2⟩,h0,h1,Lib.hid (fun _=>rfl),h3,h4,h5,h6,h7,h8,h9,h10,h11,h12,h13,h14,h15,h16,h17,h18,h19,h20,h21,h22,h23,h24,h25,h26,h27,h28,h29,h30,h31,h32,h33,h34⟩
  ·obtain rfl:b3=false:=hi2
   clear hi3
   obtain rfl:b34=false:=by cases b34;rfl;have:=HW.2.2.2.2.2.1 rfl;simp at this
   obtain rfl:=HW.2.2.2.1 rfl
   refine wpOp_step rfl (fun K hK=>?_)
   go_simp
   refine hK _ _ ⟨_,_,_,true,_,_,_,_,_,_,_,_,_,_,_,_,_,_,_,_,_,_,_,_,_,_,_,_,_,_,_,_,_,_,_,_,_,_,(.pointer (some ⟨g,0,none⟩)),_,_,_,_,_,_,_,_,_,_,_,_,_,_,_,_,_,_,_,_,_,_,_,_,_,_,_,_,_,_,_,_,_,rfl,rfl,⟨HW.1,HW.2.1,HW.2.2.1,(fun _=>rfl),(fun e=>nomatch e),(fun e=>nomatch e),HW.2.2.2.2.2.2.1,HW.2.2.2.2.2.2.2⟩,h0,h1,h2,Lib.hid (fun _=>rfl),h4,h5,h6,h7,h8,h9,h10,h11,h12,h13,h14,h15,h16,h17,h18,h19,h20,h21,h22,h23,h24,h25,h26,h27,h28,h29,h30,h31,h32,h33,h34⟩
  ·obtain rfl:b4=false:=hi2
   obtain rfl:b3=true:=hi3 _ rfl ⟨3,.data⟩ (by simp) rfl
   obtain rfl:=h3.out rfl
   clear hi3
   obtain rfl:b34=false:=by cases b34;rfl;have:=HW.2.2.2.2.2.1 rfl;simp at this
   obtain rfl:=HW.2.2.2.1 rfl
   refine wpOp_step rfl (fun K hK=>?_)
   go_simp
   refine hK _ _ ⟨_,_,_,_,true,_,_,_,_,_,_,_,_,_,_,_,_,_,_,_,_,_,_,_,_,_,_,_,_,_,_,_,_,_,_,_,_,_,_,(.pointer (some ⟨g,0,none⟩)),_,_,_,_,_,_,_,_,_,_,_,_,_,_,_,_,_,_,_,_,_,_,_,_,_,_,_,_,_,_,_,_,rfl,rfl,⟨HW.1,HW.2.1,HW.2.2.1,(fun _=>rfl),(fun e=>nomatch e),(fun e=>nomatch e),HW.2.2.2.2.2.2.1,HW.2.2.2.2.2.2.2⟩,h0,h1,h2,h3,Lib.hid (fun _=>rfl),h5,h6,h7,h8,h9,h10,h11,h12,h13,h14,h15,h16,h17,h18,h19,h20,h21,h22,h23,h24,h25,h26,h27,h28,h29,h30,h31,h32,h33,h34⟩
  ·obtain rfl:b5=false:=hi2
   obtain rfl:b4=true:=hi3 _ rfl ⟨4,.data⟩ (by simp) rfl
   obtain rfl:=h4.out rfl
   clear hi3
   obtain rfl:b34=false:=by cases b34;rfl;have:=HW.2.2.2.2.2.1 rfl;simp at this
   obtain rfl:=HW.2.2.2.1 rfl
   obtain⟨y0,y1,y2,y3⟩:=CE.out W (oh b29 ⟨g8,142,#[.int .i64 (nb:Int),.bool tb]⟩++HB) (by simpa only[List.append_assoc] using HW.1)
   refine wpOp_step rfl (fun K hK=>?_)
   go_simp
   refine hK _ _ ⟨_,_,_,_,_,true,_,_,_,_,_,_,_,_,_,_,_,_,_,_,_,_,_,_,_,_,_,_,_,_,_,_,_,_,_,_,_,_,_,_,(.pointer (some ⟨lk,k * 5,none⟩)),_,_,_,_,_,_,_,_,_,_,_,_,_,_,_,_,_,_,_,_,_,_,_,_,_,_,_,_,_,_,_,rfl,rfl,⟨HW.1,HW.2.1,HW.2.2.1,(fun _=>rfl),(fun e=>nomatch e),(fun e=>nomatch e),HW.2.2.2.2.2.2.1,HW.2.2.2.2.2.2.2⟩,h0,h1,h2,h3,h4,Lib.hid (fun _=>rfl),h6,h7,h8,h9,h10,h11,h12,h13,h14,h15,h16,h17,h18,h19,h20,h21,h22,h23,h24,h25,h26,h27,h28,h29,h30,h31,h32,h33,h34⟩
  ·obtain rfl:b6=false:=hi2
   obtain rfl:b5=true:=hi3 _ rfl ⟨5,.data⟩ (by simp) rfl
   obtain rfl:=h5.out rfl
   clear hi3
   obtain rfl:b34=false:=by cases b34;rfl;have:=HW.2.2.2.2.2.1 rfl;simp at this
   obtain rfl:=HW.2.2.2.1 rfl
   refine wpOp_step rfl (fun K hK=>?_)
   go_simp
   refine hK _ _ ⟨_,_,_,_,_,_,true,_,_,_,_,_,_,_,_,_,_,_,_,_,_,_,_,_,_,_,_,_,_,_,_,_,_,_,_,_,_,_,_,_,_,(.pointer (some ⟨lk,k * 5,none⟩)),_,_,_,_,_,_,_,_,_,_,_,_,_,_,_,_,_,_,_,_,_,_,_,_,_,_,_,_,_,_,rfl,rfl,⟨HW.1,HW.2.1,HW.2.2.1,(fun _=>rfl),(fun e=>nomatch e),(fun e=>nomatch e),HW.2.2.2.2.2.2.1,HW.2.2.2.2.2.2.2⟩,h0,h1,h2,h3,h4,h5,Lib.hid (fun _=>rfl),h7,h8,h9,h10,h11,h12,h13,h14,h15,h16,h17,h18,h19,h20,h21,h22,h23,h24,h25,h26,h27,h28,h29,h30,h31,h32,h33,h34⟩
  ·obtain rfl:b7=false:=hi2
   obtain rfl:b6=true:=hi3 _ rfl ⟨6,.data⟩ (by simp) rfl
   obtain rfl:=h6.out rfl
   clear hi3
   obtain rfl:b34=false:=by cases b34;rfl;have:=HW.2.2.2.2.2.1 rfl;simp at this
   obtain rfl:=HW.2.2.2.1 rfl
   refine wpOp_step rfl (fun K hK=>?_)
   go_simp
   refine hK _ _ ⟨_,_,_,_,_,_,_,true,_,_,_,_,_,_,_,_,_,_,_,_,_,_,_,_,_,_,_,_,_,_,_,_,_,_,_,_,_,_,_,_,_,_,(.pointer (some ⟨lk,k * 5,none⟩)),_,_,_,_,_,_,_,_,_,_,_,_,_,_,_,_,_,_,_,_,_,_,_,_,_,_,_,_,_,rfl,rfl,⟨HW.1,HW.2.1,HW.2.2.1,(fun _=>rfl),(fun e=>nomatch e),(fun e=>nomatch e),HW.2.2.2.2.2.2.1,HW.2.2.2.2.2.2.2⟩,h0,h1,h2,h3,h4,h5,h6,Lib.hid (fun _=>rfl),h8,h9,h10,h11,h12,h13,h14,h15,h16,h17,h18,h19,h20,h21,h22,h23,h24,h25,h26,h27,h28,h29,h30,h31,h32,h33,h34⟩
  ·obtain rfl:b8=false:=hi2
   obtain rfl:b7=true:=hi3 _ rfl ⟨7,.data⟩ (by simp) rfl
   obtain rfl:=h7.out rfl
   clear hi3
   obtain rfl:b34=false:=by cases b34;rfl;have:=HW.2.2.2.2.2.1 rfl;simp at this
   obtain rfl:=HW.2.2.2.1 rfl
   refine wpOp_step rfl (fun K hK=>?_)
   go_simp
   refine hK _ _ ⟨_,_,_,_,_,_,_,_,true,_,_,_,_,_,_,_,_,_,_,_,_,_,_,_,_,_,_,_,_,_,_,_,_,_,_,_,_,_,_,_,_,_,_,(.pointer (some ⟨lk,k * 5+1,none⟩)),_,_,_,_,_,_,_,_,_,_,_,_,_,_,_,_,_,_,_,_,_,_,_,_,_,_,_,_,rfl,rfl,⟨HW.1,HW.2.1,HW.2.2.1,(fun _=>rfl),(fun e=>nomatch e),(fun e=>nomatch e),HW.2.2.2.2.2.2.1,HW.2.2.2.2.2.2.2⟩,h0,h1,h2,h3,h4,h5,h6,h7,Lib.hid (fun _=>rfl),h9,h10,h11,h12,h13,h14,h15,h16,h17,h18,h19,h20,h21,h22,h23,h24,h25,h26,h27,h28,h29,h30,h31,h32,h33,h34⟩
  ·obtain rfl:b9=false:=hi2
   obtain rfl:b8=true:=hi3 _ rfl ⟨8,.data⟩ (by simp) rfl
   obtain rfl:=h8.out rfl
   clear hi3
   obtain rfl:b34=false:=by cases b34;rfl;have:=HW.2.2.2.2.2.1 rfl;simp at this
   obtain rfl:=HW.2.2.2.1 rfl
   obtain⟨y0,y1,y2,y3⟩:=CE.out W (oh b29 ⟨g8,142,#[.int .i64 (nb:Int),.bool tb]⟩++HB) (by simpa only[List.append_assoc] using HW.1)
   refine wpOp_step rfl (fun K hK=>?_)
   go_simp
   refine hK _ _ ⟨_,_,_,_,_,_,_,_,_,true,_,_,_,_,_,_,_,_,_,_,_,_,_,_,_,_,_,_,_,_,_,_,_,_,_,_,_,_,_,_,_,_,_,_,(.slice pa np pc),_,_,_,_,_,_,_,_,_,_,_,_,_,_,_,_,_,_,_,_,_,_,_,_,_,_,_,rfl,rfl,⟨HW.1,HW.2.1,HW.2.2.1,(fun _=>rfl),(fun e=>nomatch e),(fun e=>nomatch e),HW.2.2.2.2.2.2.1,HW.2.2.2.2.2.2.2⟩,h0,h1,h2,h3,h4,h5,h6,h7,h8,Lib.hid (fun _=>rfl),h10,h11,h12,h13,h14,h15,h16,h17,h18,h19,h20,h21,h22,h23,h24,h25,h26,h27,h28,h29,h30,h31,h32,h33,h34⟩
  ·obtain rfl:b10=false:=hi2
   clear hi3
   obtain rfl:b34=false:=by cases b34;rfl;have:=HW.2.2.2.2.2.1 rfl;simp at this
   obtain rfl:=HW.2.2.2.1 rfl
   refine wpOp_step rfl (fun K hK=>?_)
   go_simp
   refine hK _ _ ⟨_,_,_,_,_,_,_,_,_,_,true,_,_,_,_,_,_,_,_,_,_,_,_,_,_,_,_,_,_,_,_,_,_,_,_,_,_,_,_,_,_,_,_,_,_,(.pointer (some ⟨g,0,none⟩)),_,_,_,_,_,_,_,_,_,_,_,_,_,_,_,_,_,_,_,_,_,_,_,_,_,_,rfl,rfl,⟨HW.1,HW.2.1,HW.2.2.1,(fun _=>rfl),(fun e=>nomatch e),(fun e=>nomatch e),HW.2.2.2.2.2.2.1,HW.2.2.2.2.2.2.2⟩,h0,h1,h2,h3,h4,h5,h6,h7,h8,h9,Lib.hid (fun _=>rfl),h11,h12,h13,h14,h15,h16,h17,h18,h19,h20,h21,h22,h23,h24,h25,h26,h27,h28,h29,h30,h31,h32,h33,h34⟩
  ·obtain rfl:b11=false:=hi2
   obtain rfl:b10=true:=hi3 _ rfl ⟨10,.data⟩ (by simp) rfl
   obtain rfl:=h10.out rfl
   clear hi3
   obtain rfl:b34=false:=by cases b34;rfl;have:=HW.2.2.2.2.2.1 rfl;simp at this
   obtain rfl:=HW.2.2.2.1 rfl
   refine wpOp_step rfl (fun K hK=>?_)
   go_simp
   refine hK _ _ ⟨_,_,_,_,_,_,_,_,_,_,_,true,_,_,_,_,_,_,_,_,_,_,_,_,_,_,_,_,_,_,_,_,_,_,_,_,_,_,_,_,_,_,_,_,_,_,(.pointer (some ⟨g,0,none⟩)),_,_,_,_,_,_,_,_,_,_,_,_,_,_,_,_,_,_,_,_,_,_,_,_,_,rfl,rfl,⟨HW.1,HW.2.1,HW.2.2.1,(fun _=>rfl),(fun e=>nomatch e),(fun e=>nomatch e),HW.2.2.2.2.2.2.1,HW.2.2.2.2.2.2.2⟩,h0,h1,h2,h3,h4,h5,h6,h7,h8,h9,h10,Lib.hid (fun _=>rfl),h12,h13,h14,h15,h16,h17,h18,h19,h20,h21,h22,h23,h24,h25,h26,h27,h28,h29,h30,h31,h32,h33,h34⟩
  ·obtain rfl:b12=false:=hi2
   obtain rfl:b11=true:=hi3 _ rfl ⟨11,.data⟩ (by simp) rfl
   obtain rfl:=h11.out rfl
   clear hi3
   obtain rfl:b34=false:=by cases b34;rfl;have:=HW.2.2.2.2.2.1 rfl;simp at this
   obtain rfl:=HW.2.2.2.1 rfl
   obtain⟨y0,y1,y2,y3⟩:=CE.out W (oh b29 ⟨g8,142,#[.int .i64 (nb:Int),.bool tb]⟩++HB) (by simpa only[List.append_assoc] using HW.1)
   refine wpOp_step rfl (fun K hK=>?_)
   go_simp
   refine hK _ _ ⟨_,_,_,_,_,_,_,_,_,_,_,_,true,_,_,_,_,_,_,_,_,_,_,_,_,_,_,_,_,_,_,_,_,_,_,_,_,_,_,_,_,_,_,_,_,_,_,(.pointer (some ⟨lk,k * 5,none⟩)),_,_,_,_,_,_,_,_,_,_,_,_,_,_,_,_,_,_,_,_,_,_,_,_,rfl,rfl,⟨HW.1,HW.2.1,HW.2.2.1,(fun _=>rfl),(fun e=>nomatch e),(fun e=>nomatch e),HW.2.2.2.2.2.2.1,HW.2.2.2.2.2.2.2⟩,h0,h1,h2,h3,h4,h5,h6,h7,h8,h9,h10,h11,Lib.hid (fun _=>rfl),h13,h14,h15,h16,h17,h18,h19,h20,h21,h22,h23,h24,h25,h26,h27,h28,h29,h30,h31,h32,h33,h34⟩
  ·obtain rfl:b13=false:=hi2
   obtain rfl:b12=true:=hi3 _ rfl ⟨12,.data⟩ (by simp) rfl
   obtain rfl:=h12.out rfl
   clear hi3
   obtain rfl:b34=false:=by cases b34;rfl;have:=HW.2.2.2.2.2.1 rfl;simp at this
   obtain rfl:=HW.2.2.2.1 rfl
   refine wpOp_step rfl (fun K hK=>?_)
   go_simp
   refine hK _ _ ⟨_,_,_,_,_,_,_,_,_,_,_,_,_,true,_,_,_,_,_,_,_,_,_,_,_,_,_,_,_,_,_,_,_,_,_,_,_,_,_,_,_,_,_,_,_,_,_,_,(.pointer (some ⟨lk,k * 5,none⟩)),_,_,_,_,_,_,_,_,_,_,_,_,_,_,_,_,_,_,_,_,_,_,_,rfl,rfl,⟨HW.1,HW.2.1,HW.2.2.1,(fun _=>rfl),(fun e=>nomatch e),(fun e=>nomatch e),HW.2.2.2.2.2.2.1,HW.2.2.2.2.2.2.2⟩,h0,h1,h2,h3,h4,h5,h6,h7,h8,h9,h10,h11,h12,Lib.hid (fun _=>rfl),h14,h15,h16,h17,h18,h19,h20,h21,h22,h23,h24,h25,h26,h27,h28,h29,h30,h31,h32,h33,h34⟩
  ·obtain rfl:b14=false:=hi2
   obtain rfl:b13=true:=hi3 _ rfl ⟨13,.data⟩ (by simp) rfl
   obtain rfl:=h13.out rfl
   clear hi3
   obtain rfl:b34=false:=by cases b34;rfl;have:=HW.2.2.2.2.2.1 rfl;simp at this
   obtain rfl:=HW.2.2.2.1 rfl
   refine wpOp_step rfl (fun K hK=>?_)
   go_simp
   refine hK _ _ ⟨_,_,_,_,_,_,_,_,_,_,_,_,_,_,true,_,_,_,_,_,_,_,_,_,_,_,_,_,_,_,_,_,_,_,_,_,_,_,_,_,_,_,_,_,_,_,_,_,_,(.pointer (some ⟨lk,k * 5,none⟩)),_,_,_,_,_,_,_,_,_,_,_,_,_,_,_,_,_,_,_,_,_,_,rfl,rfl,⟨HW.1,HW.2.1,HW.2.2.1,(fun _=>rfl),(fun e=>nomatch e),(fun e=>nomatch e),HW.2.2.2.2.2.2.1,HW.2.2.2.2.2.2.2⟩,h0,h1,h2,h3,h4,h5,h6,h7,h8,h9,h10,h11,h12,h13,Lib.hid (fun _=>rfl),h15,h16,h17,h18,h19,h20,h21,h22,h23,h24,h25,h26,h27,h28,h29,h30,h31,h32,h33,h34⟩
  ·obtain rfl:b15=false:=hi2
   obtain rfl:b14=true:=hi3 _ rfl ⟨14,.data⟩ (by simp) rfl
   obtain rfl:=h14.out rfl
   clear hi3
   obtain rfl:b34=false:=by cases b34;rfl;have:=HW.2.2.2.2.2.1 rfl;simp at this
   obtain rfl:=HW.2.2.2.1 rfl
   refine wpOp_step rfl (fun K hK=>?_)
   go_simp
   refine hK _ _ ⟨_,_,_,_,_,_,_,_,_,_,_,_,_,_,_,true,_,_,_,_,_,_,_,_,_,_,_,_,_,_,_,_,_,_,_,_,_,_,_,_,_,_,_,_,_,_,_,_,_,_,(.pointer (some ⟨lk,k * 5+2,none⟩)),_,_,_,_,_,_,_,_,_,_,_,_,_,_,_,_,_,_,_,_,_,rfl,rfl,⟨HW.1,HW.2.1,HW.2.2.1,(fun _=>rfl),(fun e=>nomatch e),(fun e=>nomatch e),HW.2.2.2.2.2.2.1,HW.2.2.2.2.2.2.2⟩,h0,h1,h2,h3,h4,h5,h6,h7,h8,h9,h10,h11,h12,h13,h14,Lib.hid (fun _=>rfl),h16,h17,h18,h19,h20,h21,h22,h23,h24,h25,h26,h27,h28,h29,h30,h31,h32,h33,h34⟩
  ·obtain rfl:b16=false:=hi2
   obtain rfl:b15=true:=hi3 _ rfl ⟨15,.data⟩ (by simp) rfl
   obtain rfl:=h15.out rfl
   clear hi3
   obtain rfl:b34=false:=by cases b34;rfl;have:=HW.2.2.2.2.2.1 rfl;simp at this
   obtain rfl:=HW.2.2.2.1 rfl
   obtain⟨y0,y1,y2,y3⟩:=CE.out W (oh b29 ⟨g8,142,#[.int .i64 (nb:Int),.bool tb]⟩++HB) (by simpa only[List.append_assoc] using HW.1)
   refine wpOp_step rfl (fun K hK=>?_)
   go_simp
   refine hK _ _ ⟨_,_,_,_,_,_,_,_,_,_,_,_,_,_,_,_,true,_,_,_,_,_,_,_,_,_,_,_,_,_,_,_,_,_,_,_,_,_,_,_,_,_,_,_,_,_,_,_,_,_,_,(.slice ba nb bc),_,_,_,_,_,_,_,_,_,_,_,_,_,_,_,_,_,_,_,_,rfl,rfl,⟨HW.1,HW.2.1,HW.2.2.1,(fun _=>rfl),(fun e=>nomatch e),(fun e=>nomatch e),HW.2.2.2.2.2.2.1,HW.2.2.2.2.2.2.2⟩,h0,h1,h2,h3,h4,h5,h6,h7,h8,h9,h10,h11,h12,h13,h14,h15,Lib.hid (fun _=>rfl),h17,h18,h19,h20,h21,h22,h23,h24,h25,h26,h27,h28,h29,h30,h31,h32,h33,h34⟩
  ·obtain rfl:b17=false:=hi2
   obtain rfl:b16=true:=hi3 _ rfl ⟨16,.data⟩ (by simp) rfl
   obtain rfl:=h16.out rfl
   clear hi3
   obtain rfl:b34=false:=by cases b34;rfl;have:=HW.2.2.2.2.2.1 rfl;simp at this
   obtain rfl:=HW.2.2.2.1 rfl
   refine wpOp_step rfl (fun K hK=>?_)
   go_simp
   refine hK _ _ ⟨_,_,_,_,_,_,_,_,_,_,_,_,_,_,_,_,_,true,_,_,_,_,_,_,_,_,_,_,_,_,_,_,_,_,_,_,_,_,_,_,_,_,_,_,_,_,_,_,_,_,_,_,(.int .i64 (nb:Int)),_,_,_,_,_,_,_,_,_,_,_,_,_,_,_,_,_,_,_,rfl,rfl,⟨HW.1,HW.2.1,HW.2.2.1,(fun _=>rfl),(fun e=>nomatch e),(fun e=>nomatch e),HW.2.2.2.2.2.2.1,HW.2.2.2.2.2.2.2⟩,h0,h1,h2,h3,h4,h5,h6,h7,h8,h9,h10,h11,h12,h13,h14,h15,h16,Lib.hid (fun _=>rfl),h18,h19,h20,h21,h22,h23,h24,h25,h26,h27,h28,h29,h30,h31,h32,h33,h34⟩
  ·obtain rfl:b18=false:=hi2
   clear hi3
   obtain rfl:b34=false:=by cases b34;rfl;have:=HW.2.2.2.2.2.1 rfl;simp at this
   obtain rfl:=HW.2.2.2.1 rfl
   refine wpOp_step rfl (fun K hK=>?_)
   go_simp
   refine hK _ _ ⟨_,_,_,_,_,_,_,_,_,_,_,_,_,_,_,_,_,_,true,_,_,_,_,_,_,_,_,_,_,_,_,_,_,_,_,_,_,_,_,_,_,_,_,_,_,_,_,_,_,_,_,_,_,(.int .i64 (style:Int)),_,_,_,_,_,_,_,_,_,_,_,_,_,_,_,_,_,_,rfl,rfl,⟨HW.1,HW.2.1,HW.2.2.1,(fun _=>rfl),(fun e=>nomatch e),(fun e=>nomatch e),HW.2.2.2.2.2.2.1,HW.2.2.2.2.2.2.2⟩,h0,h1,h2,h3,h4,h5,h6,h7,h8,h9,h10,h11,h12,h13,h14,h15,h16,h17,Lib.hid (fun _=>rfl),h19,h20,h21,h22,h23,h24,h25,h26,h27,h28,h29,h30,h31,h32,h33,h34⟩
  ·obtain rfl:b19=false:=hi2
   clear hi3
   obtain rfl:b34=false:=by cases b34;rfl;have:=HW.2.2.2.2.2.1 rfl;simp at this
   obtain rfl:=HW.2.2.2.1 rfl
   refine wpOp_step rfl (fun K hK=>?_)
   go_simp
   refine hK _ _ ⟨_,_,_,_,_,_,_,_,_,_,_,_,_,_,_,_,_,_,_,true,_,_,_,_,_,_,_,_,_,_,_,_,_,_,_,_,_,_,_,_,_,_,_,_,_,_,_,_,_,_,_,_,_,_,(.pointer (some ⟨g,0,none⟩)),_,_,_,_,_,_,_,_,_,_,_,_,_,_,_,_,_,rfl,rfl,⟨HW.1,HW.2.1,HW.2.2.1,(fun _=>rfl),(fun e=>nomatch e),(fun e=>nomatch e),HW.2.2.2.2.2.2.1,HW.2.2.2.2.2.2.2⟩,h0,h1,h2,h3,h4,h5,h6,h7,h8,h9,h10,h11,h12,h13,h14,h15,h16,h17,h18,Lib.hid (fun _=>rfl),h20,h21,h22,h23,h24,h25,h26,h27,h28,h29,h30,h31,h32,h33,h34⟩
  ·obtain rfl:b20=false:=hi2
   obtain rfl:b19=true:=hi3 _ rfl ⟨19,.data⟩ (by simp) rfl
   obtain rfl:=h19.out rfl
   clear hi3
   obtain rfl:b34=false:=by cases b34;rfl;have:=HW.2.2.2.2.2.1 rfl;simp at this
   obtain rfl:=HW.2.2.2.1 rfl
   refine wpOp_step rfl (fun K hK=>?_)
   go_simp
   refine hK _ _ ⟨_,_,_,_,_,_,_,_,_,_,_,_,_,_,_,_,_,_,_,_,true,_,_,_,_,_,_,_,_,_,_,_,_,_,_,_,_,_,_,_,_,_,_,_,_,_,_,_,_,_,_,_,_,_,_,(.pointer (some ⟨g,0,none⟩)),_,_,_,_,_,_,_,_,_,_,_,_,_,_,_,_,rfl,rfl,⟨HW.1,HW.2.1,HW.2.2.1,(fun _=>rfl),(fun e=>nomatch e),(fun e=>nomatch e),HW.2.2.2.2.2.2.1,HW.2.2.2.2.2.2.2⟩,h0,h1,h2,h3,h4,h5,h6,h7,h8,h9,h10,h11,h12,h13,h14,h15,h16,h17,h18,h19,Lib.hid (fun _=>rfl),h21,h22,h23,h24,h25,h26,h27,h28,h29,h30,h31,h32,h33,h34⟩
  ·obtain rfl:b21=false:=hi2
   obtain rfl:b20=true:=hi3 _ rfl ⟨20,.data⟩ (by simp) rfl
   obtain rfl:=h20.out rfl
   clear hi3
   obtain rfl:b34=false:=by cases b34;rfl;have:=HW.2.2.2.2.2.1 rfl;simp at this
   obtain rfl:=HW.2.2.2.1 rfl
   obtain⟨y0,y1,y2,y3⟩:=CE.out W (oh b29 ⟨g8,142,#[.int .i64 (nb:Int),.bool tb]⟩++HB) (by simpa only[List.append_assoc] using HW.1)
   refine wpOp_step rfl (fun K hK=>?_)
   go_simp
   refine hK _ _ ⟨_,_,_,_,_,_,_,_,_,_,_,_,_,_,_,_,_,_,_,_,_,true,_,_,_,_,_,_,_,_,_,_,_,_,_,_,_,_,_,_,_,_,_,_,_,_,_,_,_,_,_,_,_,_,_,_,(.pointer (some ⟨lk,k * 5,none⟩)),_,_,_,_,_,_,_,_,_,_,_,_,_,_,_,rfl,rfl,⟨HW.1,HW.2.1,HW.2.2.1,(fun _=>rfl),(fun e=>nomatch e),(fun e=>nomatch e),HW.2.2.2.2.2.2.1,HW.2.2.2.2.2.2.2⟩,h0,h1,h2,h3,h4,h5,h6,h7,h8,h9,h10,h11,h12,h13,h14,h15,h16,h17,h18,h19,h20,Lib.hid (fun _=>rfl),h22,h23,h24,h25,h26,h27,h28,h29,h30,h31,h32,h33,h34⟩
  ·obtain rfl:b22=false:=hi2
   obtain rfl:b21=true:=hi3 _ rfl ⟨21,.data⟩ (by simp) rfl
   obtain rfl:=h21.out rfl
   clear hi3
   obtain rfl:b34=false:=by cases b34;rfl;have:=HW.2.2.2.2.2.1 rfl;simp at this
   obtain rfl:=HW.2.2.2.1 rfl
   refine wpOp_step rfl (fun K hK=>?_)
   go_simp
   refine hK _ _ ⟨_,_,_,_,_,_,_,_,_,_,_,_,_,_,_,_,_,_,_,_,_,_,true,_,_,_,_,_,_,_,_,_,_,_,_,_,_,_,_,_,_,_,_,_,_,_,_,_,_,_,_,_,_,_,_,_,_,(.pointer (some ⟨lk,k * 5,none⟩)),_,_,_,_,_,_,_,_,_,_,_,_,_,_,rfl,rfl,⟨HW.1,HW.2.1,HW.2.2.1,(fun _=>rfl),(fun e=>nomatch e),(fun e=>nomatch e),HW.2.2.2.2.2.2.1,HW.2.2.2.2.2.2.2⟩,h0,h1,h2,h3,h4,h5,h6,h7,h8,h9,h10,h11,h12,h13,h14,h15,h16,h17,h18,h19,h20,h21,Lib.hid (fun _=>rfl),h23,h24,h25,h26,h27,h28,h29,h30,h31,h32,h33,h34⟩
  ·obtain rfl:b23=false:=hi2
   obtain rfl:b22=true:=hi3 _ rfl ⟨22,.data⟩ (by simp) rfl
   obtain rfl:=h22.out rfl
   clear hi3
   obtain rfl:b34=false:=by cases b34;rfl;have:=HW.2.2.2.2.2.1 rfl;simp at this
   obtain rfl:=HW.2.2.2.1 rfl
   refine wpOp_step rfl (fun K hK=>?_)
   go_simp
   refine hK _ _ ⟨_,_,_,_,_,_,_,_,_,_,_,_,_,_,_,_,_,_,_,_,_,_,_,true,_,_,_,_,_,_,_,_,_,_,_,_,_,_,_,_,_,_,_,_,_,_,_,_,_,_,_,_,_,_,_,_,_,_,(.pointer (some ⟨lk,k * 5,none⟩)),_,_,_,_,_,_,_,_,_,_,_,_,_,rfl,rfl,⟨HW.1,HW.2.1,HW.2.2.1,(fun _=>rfl),(fun e=>nomatch e),(fun e=>nomatch e),HW.2.2.2.2.2.2.1,HW.2.2.2.2.2.2.2⟩,h0,h1,h2,h3,h4,h5,h6,h7,h8,h9,h10,h11,h12,h13,h14,h15,h16,h17,h18,h19,h20,h21,h22,Lib.hid (fun _=>rfl),h24,h25,h26,h27,h28,h29,h30,h31,h32,h33,h34⟩
  ·obtain rfl:b24=false:=hi2
   obtain rfl:b23=true:=hi3 _ rfl ⟨23,.data⟩ (by simp) rfl
   obtain rfl:=h23.out rfl
   clear hi3
   obtain rfl:b34=false:=by cases b34;rfl;have:=HW.2.2.2.2.2.1 rfl;simp at this
   obtain rfl:=HW.2.2.2.1 rfl
   refine wpOp_step rfl (fun K hK=>?_)
   go_simp
   refine hK _ _ ⟨_,_,_,_,_,_,_,_,_,_,_,_,_,_,_,_,_,_,_,_,_,_,_,_,true,_,_,_,_,_,_,_,_,_,_,_,_,_,_,_,_,_,_,_,_,_,_,_,_,_,_,_,_,_,_,_,_,_,_,(.pointer (some ⟨lk,k * 5+1,none⟩)),_,_,_,_,_,_,_,_,_,_,_,_,rfl,rfl,⟨HW.1,HW.2.1,HW.2.2.1,(fun _=>rfl),(fun e=>nomatch e),(fun e=>nomatch e),HW.2.2.2.2.2.2.1,HW.2.2.2.2.2.2.2⟩,h0,h1,h2,h3,h4,h5,h6,h7,h8,h9,h10,h11,h12,h13,h14,h15,h16,h17,h18,h19,h20,h21,h22,h23,Lib.hid (fun _=>rfl),h25,h26,h27,h28,h29,h30,h31,h32,h33,h34⟩
  ·obtain rfl:b25=false:=hi2
   obtain rfl:b24=true:=hi3 _ rfl ⟨24,.data⟩ (by simp) rfl
   obtain rfl:=h24.out rfl
   clear hi3
   obtain rfl:b34=false:=by cases b34;rfl;have:=HW.2.2.2.2.2.1 rfl;simp at this
   obtain rfl:=HW.2.2.2.1 rfl
   obtain⟨y0,y1,y2,y3⟩:=CE.out W (oh b29 ⟨g8,142,#[.int .i64 (nb:Int),.bool tb]⟩++HB) (by simpa only[List.append_assoc] using HW.1)
   refine wpOp_step rfl (fun K hK=>?_)
   go_simp
   refine hK _ _ ⟨_,_,_,_,_,_,_,_,_,_,_,_,_,_,_,_,_,_,_,_,_,_,_,_,_,true,_,_,_,_,_,_,_,_,_,_,_,_,_,_,_,_,_,_,_,_,_,_,_,_,_,_,_,_,_,_,_,_,_,_,(.slice pa np pc),_,_,_,_,_,_,_,_,_,_,_,rfl,rfl,⟨HW.1,HW.2.1,HW.2.2.1,(fun _=>rfl),(fun e=>nomatch e),(fun e=>nomatch e),HW.2.2.2.2.2.2.1,HW.2.2.2.2.2.2.2⟩,h0,h1,h2,h3,h4,h5,h6,h7,h8,h9,h10,h11,h12,h13,h14,h15,h16,h17,h18,h19,h20,h21,h22,h23,h24,Lib.hid (fun _=>rfl),h26,h27,h28,h29,h30,h31,h32,h33,h34⟩
  ·obtain rfl:b26=false:=hi2
   obtain rfl:b25=true:=hi3 _ rfl ⟨25,.data⟩ (by simp) rfl
   obtain rfl:=h25.out rfl
   clear hi3
   obtain rfl:b34=false:=by cases b34;rfl;have:=HW.2.2.2.2.2.1 rfl;simp at this
   obtain rfl:=HW.2.2.2.1 rfl
   refine wpOp_step rfl (fun K hK=>?_)
   go_simp
   refine hK _ _ ⟨_,_,_,_,_,_,_,_,_,_,_,_,_,_,_,_,_,_,_,_,_,_,_,_,_,_,true,_,_,_,_,_,_,_,_,_,_,_,_,_,_,_,_,_,_,_,_,_,_,_,_,_,_,_,_,_,_,_,_,_,_,(.int .i64 (np:Int)),_,_,_,_,_,_,_,_,_,_,rfl,rfl,⟨HW.1,HW.2.1,HW.2.2.1,(fun _=>rfl),(fun e=>nomatch e),(fun e=>nomatch e),HW.2.2.2.2.2.2.1,HW.2.2.2.2.2.2.2⟩,h0,h1,h2,h3,h4,h5,h6,h7,h8,h9,h10,h11,h12,h13,h14,h15,h16,h17,h18,h19,h20,h21,h22,h23,h24,h25,Lib.hid (fun _=>rfl),h27,h28,h29,h30,h31,h32,h33,h34⟩
  ·obtain rfl:b27=false:=hi2
   obtain rfl:b18=true:=hi3 _ rfl ⟨18,.data⟩ (by simp) rfl
   obtain rfl:b26=true:=hi3 _ rfl ⟨26,.data⟩ (by simp) rfl
   obtain rfl:=h18.out rfl
   obtain rfl:=h26.out rfl
   clear hi3
   obtain rfl:b34=false:=by cases b34;rfl;have:=HW.2.2.2.2.2.1 rfl;simp at this
   obtain rfl:=HW.2.2.2.1 rfl
   refine wpOp_step rfl (fun K hK=>?_)
   go_simp
   go_at_call 92
   (with_reducible refine(EN.out _).mono ?_)
   rintro e w10 ⟨rfl,rfl⟩
   refine hK _ _ ⟨_,_,_,_,_,_,_,_,_,_,_,_,_,_,_,_,_,_,_,_,_,_,_,_,_,_,_,true,_,_,_,_,_,_,_,_,_,_,_,_,_,_,_,_,_,_,_,_,_,_,_,_,_,_,_,_,_,_,_,_,_,_,(.bool tb),_,_,_,_,_,_,_,_,_,rfl,rfl,⟨HW.1,HW.2.1,HW.2.2.1,(fun _=>rfl),(fun e=>nomatch e),(fun e=>nomatch e),HW.2.2.2.2.2.2.1,HW.2.2.2.2.2.2.2⟩,h0,h1,h2,h3,h4,h5,h6,h7,h8,h9,h10,h11,h12,h13,h14,h15,h16,h17,h18,h19,h20,h21,h22,h23,h24,h25,h26,Lib.hid (fun _=>rfl),h28,h29,h30,h31,h32,h33,h34⟩
  ·obtain rfl:b28=false:=hi2
   obtain rfl:b17=true:=hi3 _ rfl ⟨17,.data⟩ (by simp) rfl
   obtain rfl:b27=true:=hi3 _ rfl ⟨27,.data⟩ (by simp) rfl
   obtain rfl:=h17.out rfl
   obtain rfl:=h27.out rfl
   clear hi3
   obtain rfl:b34=false:=by cases b34;rfl;have:=HW.2.2.2.2.2.1 rfl;simp at this
   obtain rfl:=HW.2.2.2.1 rfl
   refine wpOp_step rfl (fun K hK=>?_)
   go_simp
   refine hK _ _ ⟨_,_,_,_,_,_,_,_,_,_,_,_,_,_,_,_,_,_,_,_,_,_,_,_,_,_,_,_,true,_,_,_,_,_,_,_,_,_,_,_,_,_,_,_,_,_,_,_,_,_,_,_,_,_,_,_,_,_,_,_,_,_,_,(.agg #[.int .i64 (nb:Int),.bool tb]),_,_,_,_,_,_,_,_,rfl,rfl,⟨HW.1,HW.2.1,HW.2.2.1,(fun _=>rfl),(fun e=>nomatch e),(fun e=>nomatch e),HW.2.2.2.2.2.2.1,HW.2.2.2.2.2.2.2⟩,h0,h1,h2,h3,h4,h5,h6,h7,h8,h9,h10,h11,h12,h13,h14,h15,h16,h17,h18,h19,h20,h21,h22,h23,h24,h25,h26,h27,Lib.hid (fun _=>rfl),h29,h30,h31,h32,h33,h34⟩
  ·obtain rfl:b29=false:=hi2
   obtain rfl:b28=true:=hi3 _ rfl ⟨28,.data⟩ (by simp) rfl
   obtain rfl:=h28.out rfl
   clear hi3
   obtain rfl:b34=false:=by cases b34;rfl;have:=HW.2.2.2.2.2.1 rfl;simp at this
   obtain rfl:=HW.2.2.2.1 rfl
   obtain rfl:b30=false:=by cases b30;rfl;cases (HW.2.2.1 rfl)
   obtain rfl:=HW.2.1 rfl
   have M9:=HW.1.alloc 142 #[.int .i64 (nb:Int),.bool tb]
   refine wpOp_step rfl (fun K hK=>?_)
   go_simp
   refine hK _ _ ⟨_,_,_,_,_,_,_,_,_,_,_,_,_,_,_,_,_,_,_,_,_,_,_,_,_,_,_,_,_,true,_,_,_,_,_,_,_,_,_,_,_,_,_,_,_,_,_,_,_,_,_,_,_,_,_,_,_,_,_,_,_,_,_,_,(.slice (some ⟨W.heap.size,0,none⟩) 1 1),_,_,_,_,W.heap.size,_,_,rfl,rfl,⟨M9.sub (fun g=>by simp only[oh_true,oh_false,cnt_append,cnt_cons,cnt_nil];omega) (fun c hc=>by simp only[oh_true,oh_false,List.mem_append,List.mem_cons,List.not_mem_nil,or_false] at hc ⊢;grind),HW.2.1,(fun e=>nomatch e),(fun _=>rfl),(fun e=>nomatch e),(fun e=>nomatch e),HW.2.2.2.2.2.2.1,HW.2.2.2.2.2.2.2⟩,h0,h1,h2,h3,h4,h5,h6,h7,h8,h9,h10,h11,h12,h13,h14,h15,h16,h17,h18,h19,h20,h21,h22,h23,h24,h25,h26,h27,h28,Lib.hid (fun _=>rfl),h30,h31,h32,h33,h34⟩
  ·obtain rfl:b30=false:=hi2
   obtain rfl:b9=true:=hi3 _ rfl ⟨9,.data⟩ (by simp) rfl
   obtain rfl:b29=true:=hi3 _ rfl ⟨29,.data⟩ (by simp) rfl
   obtain rfl:b27=true:=hi3 _ rfl ⟨27,.chain⟩ (by simp) rfl
   obtain rfl:=h9.out rfl
   obtain rfl:=h27.out rfl
   obtain rfl:=h29.out rfl
   clear hi3
   obtain rfl:b34=false:=by cases b34;rfl;have:=HW.2.2.2.2.2.1 rfl;simp at this
   obtain rfl:=HW.2.2.2.1 rfl
   obtain rfl:=HW.2.1 rfl
   have M9:Mv w0 H0 W (HB++(⟨g8,142,#[.int .i64 (nb:Int),.bool tb]⟩::R)):=HW.1.sub (fun g=>by simp only[oh_true,cnt_append,cnt_cons,cnt_nil];omega) (fun c hc=>by simp only[oh_true,List.mem_append,List.mem_cons,List.not_mem_nil,or_false] at hc ⊢;grind)
   have RD:Reads W W.heap.size 2 (some ⟨g8,0,none⟩) 1 (passV ((nb:Int),tb)):=Reads.of_own (RowH.owns (H:=[⟨g8,142,#[.int .i64 (nb:Int),.bool tb]⟩]) (RowH.new 142 g8 1 #[.int .i64 (nb:Int),.bool tb] rfl (by decide)) (M9.sat.sub (fun g=>by simp only[cnt_append,cnt_cons,cnt_nil];omega) (fun c hc=>by simp only[List.mem_append,List.mem_cons,List.not_mem_nil,or_false] at hc ⊢;grind)) (B:=0) (fun _ _=>Nat.zero_le _))
   refine wpOp_step rfl (fun K hK=>?_)
   refine step_appR (A:=some ⟨g8,0,none⟩) (m:=1) (c:=1) Tryz.underlying56 infoPs rfl (by decide) (by decide) rfl (.tmp 34) (.tmp 54) rfl (.slice pa np pc) (by simp[Act.eval]) (by simp[Act.eval]) hrow M9.sat.left RD (fun u hu=>passesV_one [((nb:Int),tb)] u (by simpa [passesV] using hu)) (by omega) ?_
   intro v9 w9 H9 r10 m9
   have N9:=Mv.call M9 m9
   refine hK _ _ ⟨_,_,_,_,_,_,_,_,_,_,_,_,_,_,_,_,_,_,_,_,_,_,_,_,_,_,_,_,_,_,true,_,_,_,_,_,_,_,_,_,_,_,_,_,_,_,_,_,_,_,_,_,_,_,_,_,_,_,_,_,_,_,_,_,_,v9,_,_,_,g8,H9,w9,rfl,rfl,⟨N9.sub (fun g=>by simp only[oh_true,cnt_append,cnt_cons,cnt_nil];omega) (fun c hc=>by simp only[oh_true,List.mem_append,List.mem_cons,List.not_mem_nil,or_false] at hc ⊢;grind),(fun e=>nomatch e),(fun _=>rfl),(fun _=>rfl),(fun e=>nomatch e),(fun e=>nomatch e),HW.2.2.2.2.2.2.1,HW.2.2.2.2.2.2.2⟩,h0,h1,h2,h3,h4,h5,h6,h7,h8,h9,h10,h11,h12,h13,h14,h15,h16,h17,h18,h19,h20,h21,h22,h23,h24,h25,h26,h27,h28,h29,Lib.hid (fun _=>by rw[passesV_append];exact r10),h31,h32,h33,h34⟩
  ·obtain rfl:b31=false:=hi2
   obtain rfl:b2=true:=hi3 _ rfl ⟨2,.data⟩ (by simp) rfl
   obtain rfl:b0=true:=hi3 _ rfl ⟨0,.phase⟩ (by simp) rfl
   obtain rfl:b1=true:=hi3 _ rfl ⟨1,.phase⟩ (by simp) rfl
   obtain rfl:b3=true:=hi3 _ rfl ⟨3,.phase⟩ (by simp) rfl
   obtain rfl:b4=true:=hi3 _ rfl ⟨4,.phase⟩ (by simp) rfl
   obtain rfl:b5=true:=hi3 _ rfl ⟨5,.phase⟩ (by simp) rfl
   obtain rfl:b6=true:=hi3 _ rfl ⟨6,.phase⟩ (by simp) rfl
   obtain rfl:b7=true:=hi3 _ rfl ⟨7,.phase⟩ (by simp) rfl
   obtain rfl:b8=true:=hi3 _ rfl ⟨8,.phase⟩ (by simp) rfl
   obtain rfl:b9=true:=hi3 _ rfl ⟨9,.phase⟩ (by simp) rfl
   obtain rfl:b10=true:=hi3 _ rfl ⟨10,.phase⟩ (by simp) rfl
   obtain rfl:b11=true:=hi3 _ rfl ⟨11,.phase⟩ (by simp) rfl
   obtain rfl:b12=true:=hi3 _ rfl ⟨12,.phase⟩ (by simp) rfl
   obtain rfl:b13=true:=hi3 _ rfl ⟨13,.phase⟩ (by simp) rfl
   obtain rfl:b14=true:=hi3 _ rfl ⟨14,.phase⟩ (by simp) rfl
   obtain rfl:b15=true:=hi3 _ rfl ⟨15,.phase⟩ (by simp) rfl
   obtain rfl:b16=true:=hi3 _ rfl ⟨16,.phase⟩ (by simp) rfl
   obtain rfl:b17=true:=hi3 _ rfl ⟨17,.phase⟩ (by simp) rfl
   obtain rfl:b18=true:=hi3 _ rfl ⟨18,.phase⟩ (by simp) rfl
   obtain rfl:b19=true:=hi3 _ rfl ⟨19,.phase⟩ (by simp) rfl
   obtain rfl:b20=true:=hi3 _ rfl ⟨20,.phase⟩ (by simp) rfl
   obtain rfl:b21=true:=hi3 _ rfl ⟨21,.phase⟩ (by simp) rfl
   obtain rfl:b22=true:=hi3 _ rfl ⟨22,.phase⟩ (by simp) rfl
   obtain rfl:b23=true:=hi3 _ rfl ⟨23,.phase⟩ (by simp) rfl
   obtain rfl:b24=true:=hi3 _ rfl ⟨24,.phase⟩ (by simp) rfl
   obtain rfl:b25=true:=hi3 _ rfl ⟨25,.phase⟩ (by simp) rfl
   obtain rfl:b26=true:=hi3 _ rfl ⟨26,.phase⟩ (by simp) rfl
   obtain rfl:b27=true:=hi3 _ rfl ⟨27,.phase⟩ (by simp) rfl
   obtain rfl:b28=true:=hi3 _ rfl ⟨28,.phase⟩ (by simp) rfl
   obtain rfl:b29=true:=hi3 _ rfl ⟨29,.phase⟩ (by simp) rfl
   obtain rfl:b30=true:=hi3 _ rfl ⟨30,.phase⟩ (by simp) rfl
   obtain rfl:=h0.out rfl
   obtain rfl:=h1.out rfl
   obtain rfl:=h2.out rfl
   obtain rfl:=h3.out rfl
   obtain rfl:=h4.out rfl
   obtain rfl:=h5.out rfl
   obtain rfl:=h6.out rfl
   obtain rfl:=h7.out rfl
   obtain rfl:=h8.out rfl
   obtain rfl:=h9.out rfl
   obtain rfl:=h10.out rfl
   obtain rfl:=h11.out rfl
   obtain rfl:=h12.out rfl
   obtain rfl:=h13.out rfl
   obtain rfl:=h14.out rfl
   obtain rfl:=h15.out rfl
   obtain rfl:=h16.out rfl
   obtain rfl:=h17.out rfl
   obtain rfl:=h18.out rfl
   obtain rfl:=h19.out rfl
   obtain rfl:=h20.out rfl
   obtain rfl:=h21.out rfl
   obtain rfl:=h22.out rfl
   obtain rfl:=h23.out rfl
   obtain rfl:=h24.out rfl
   obtain rfl:=h25.out rfl
   obtain rfl:=h26.out rfl
   obtain rfl:=h27.out rfl
   obtain rfl:=h28.out rfl
   obtain rfl:=h29.out rfl
   clear hi3
   obtain rfl:b34=false:=by cases b34;rfl;have:=HW.2.2.2.2.2.1 rfl;simp at this
   obtain rfl:=HW.2.2.2.1 rfl
   refine wpOp_step rfl (fun K hK=>?_)
   go_simp
   refine hK _ _ ⟨_,_,_,_,_,_,_,_,_,_,_,_,_,_,_,_,_,_,_,_,_,_,_,_,_,_,_,_,_,_,_,true,_,_,_,_,_,_,_,_,_,_,_,_,_,_,_,_,_,_,_,_,_,_,_,_,_,_,_,_,_,_,_,_,_,_,(.pointer (some ⟨lk,k * 5,none⟩)),_,_,_,_,_,rfl,rfl,⟨HW.1,HW.2.1,HW.2.2.1,(fun _=>rfl),(fun e=>nomatch e),(fun e=>nomatch e),(fun _=>rfl),HW.2.2.2.2.2.2.2⟩,h0,h1,h2,h3,h4,h5,h6,h7,h8,h9,h10,h11,h12,h13,h14,h15,h16,h17,h18,h19,h20,h21,h22,h23,h24,h25,h26,h27,h28,h29,h30,Lib.hid (fun _=>rfl),h32,h33,h34⟩
  ·obtain rfl:b32=false:=hi2
   obtain rfl:b31=true:=hi3 _ rfl ⟨31,.data⟩ (by simp) rfl
   obtain rfl:b0=true:=hi3 _ rfl ⟨0,.phase⟩ (by simp) rfl
   obtain rfl:b1=true:=hi3 _ rfl ⟨1,.phase⟩ (by simp) rfl
   obtain rfl:b2=true:=hi3 _ rfl ⟨2,.phase⟩ (by simp) rfl
   obtain rfl:b3=true:=hi3 _ rfl ⟨3,.phase⟩ (by simp) rfl
   obtain rfl:b4=true:=hi3 _ rfl ⟨4,.phase⟩ (by simp) rfl
   obtain rfl:b5=true:=hi3 _ rfl ⟨5,.phase⟩ (by simp) rfl
   obtain rfl:b6=true:=hi3 _ rfl ⟨6,.phase⟩ (by simp) rfl
   obtain rfl:b7=true:=hi3 _ rfl ⟨7,.phase⟩ (by simp) rfl
   obtain rfl:b8=true:=hi3 _ rfl ⟨8,.phase⟩ (by simp) rfl
   obtain rfl:b9=true:=hi3 _ rfl ⟨9,.phase⟩ (by simp) rfl
   obtain rfl:b10=true:=hi3 _ rfl ⟨10,.phase⟩ (by simp) rfl
   obtain rfl:b11=true:=hi3 _ rfl ⟨11,.phase⟩ (by simp) rfl
   obtain rfl:b12=true:=hi3 _ rfl ⟨12,.phase⟩ (by simp) rfl
   obtain rfl:b13=true:=hi3 _ rfl ⟨13,.phase⟩ (by simp) rfl
   obtain rfl:b14=true:=hi3 _ rfl ⟨14,.phase⟩ (by simp) rfl
   obtain rfl:b15=true:=hi3 _ rfl ⟨15,.phase⟩ (by simp) rfl
   obtain rfl:b16=true:=hi3 _ rfl ⟨16,.phase⟩ (by simp) rfl
   obtain rfl:b17=true:=hi3 _ rfl ⟨17,.phase⟩ (by simp) rfl
   obtain rfl:b18=true:=hi3 _ rfl ⟨18,.phase⟩ (by simp) rfl
   obtain rfl:b19=true:=hi3 _ rfl ⟨19,.phase⟩ (by simp) rfl
   obtain rfl:b20=true:=hi3 _ rfl ⟨20,.phase⟩ (by simp) rfl
   obtain rfl:b21=true:=hi3 _ rfl ⟨21,.phase⟩ (by simp) rfl
   obtain rfl:b22=true:=hi3 _ rfl ⟨22,.phase⟩ (by simp) rfl
   obtain rfl:b23=true:=hi3 _ rfl ⟨23,.phase⟩ (by simp) rfl
   obtain rfl:b24=true:=hi3 _ rfl ⟨24,.phase⟩ (by simp) rfl
   obtain rfl:b25=true:=hi3 _ rfl ⟨25,.phase⟩ (by simp) rfl
   obtain rfl:b26=true:=hi3 _ rfl ⟨26,.phase⟩ (by simp) rfl
   obtain rfl:b27=true:=hi3 _ rfl ⟨27,.phase⟩ (by simp) rfl
   obtain rfl:b28=true:=hi3 _ rfl ⟨28,.phase⟩ (by simp) rfl
   obtain rfl:b29=true:=hi3 _ rfl ⟨29,.phase⟩ (by simp) rfl
   obtain rfl:b30=true:=hi3 _ rfl ⟨30,.phase⟩ (by simp) rfl
   obtain rfl:=h0.out rfl
   obtain rfl:=h1.out rfl
   obtain rfl:=h2.out rfl
   obtain rfl:=h3.out rfl
   obtain rfl:=h4.out rfl
   obtain rfl:=h5.out rfl
   obtain rfl:=h6.out rfl
   obtain rfl:=h7.out rfl
   obtain rfl:=h8.out rfl
   obtain rfl:=h9.out rfl
   obtain rfl:=h10.out rfl
   obtain rfl:=h11.out rfl
   obtain rfl:=h12.out rfl
   obtain rfl:=h13.out rfl
   obtain rfl:=h14.out rfl
   obtain rfl:=h15.out rfl
   obtain rfl:=h16.out rfl
   obtain rfl:=h17.out rfl
   obtain rfl:=h18.out rfl
   obtain rfl:=h19.out rfl
   obtain rfl:=h20.out rfl
   obtain rfl:=h21.out rfl
   obtain rfl:=h22.out rfl
   obtain rfl:=h23.out rfl
   obtain rfl:=h24.out rfl
   obtain rfl:=h25.out rfl
   obtain rfl:=h26.out rfl
   obtain rfl:=h27.out rfl
   obtain rfl:=h28.out rfl
   obtain rfl:=h29.out rfl
   obtain rfl:=h31.out rfl
   clear hi3
   obtain rfl:b34=false:=by cases b34;rfl;have:=HW.2.2.2.2.2.1 rfl;simp at this
   obtain rfl:=HW.2.2.2.1 rfl
   refine wpOp_step rfl (fun K hK=>?_)
   go_simp
   refine hK _ _ ⟨_,_,_,_,_,_,_,_,_,_,_,_,_,_,_,_,_,_,_,_,_,_,_,_,_,_,_,_,_,_,_,_,true,_,_,_,_,_,_,_,_,_,_,_,_,_,_,_,_,_,_,_,_,_,_,_,_,_,_,_,_,_,_,_,_,_,_,(.pointer (some ⟨lk,k * 5,none⟩)),_,_,_,_,rfl,rfl,⟨HW.1,HW.2.1,HW.2.2.1,(fun _=>rfl),(fun e=>nomatch e),(fun e=>nomatch e),(fun _=>rfl),(fun _=>rfl)⟩,h0,h1,h2,h3,h4,h5,h6,h7,h8,h9,h10,h11,h12,h13,h14,h15,h16,h17,h18,h19,h20,h21,h22,h23,h24,h25,h26,h27,h28,h29,h30,h31,Lib.hid (fun _=>rfl),h33,h34⟩
  ·obtain rfl:b33=false:=hi2
   obtain rfl:b32=true:=hi3 _ rfl ⟨32,.data⟩ (by simp) rfl
   obtain rfl:b0=true:=hi3 _ rfl ⟨0,.phase⟩ (by simp) rfl
   obtain rfl:b1=true:=hi3 _ rfl ⟨1,.phase⟩ (by simp) rfl
   obtain rfl:b2=true:=hi3 _ rfl ⟨2,.phase⟩ (by simp) rfl
   obtain rfl:b3=true:=hi3 _ rfl ⟨3,.phase⟩ (by simp) rfl
   obtain rfl:b4=true:=hi3 _ rfl ⟨4,.phase⟩ (by simp) rfl
   obtain rfl:b5=true:=hi3 _ rfl ⟨5,.phase⟩ (by simp) rfl
   obtain rfl:b6=true:=hi3 _ rfl ⟨6,.phase⟩ (by simp) rfl
   obtain rfl:b7=true:=hi3 _ rfl ⟨7,.phase⟩ (by simp) rfl
   obtain rfl:b8=true:=hi3 _ rfl ⟨8,.phase⟩ (by simp) rfl
   obtain rfl:b9=true:=hi3 _ rfl ⟨9,.phase⟩ (by simp) rfl
   obtain rfl:b10=true:=hi3 _ rfl ⟨10,.phase⟩ (by simp) rfl
   obtain rfl:b11=true:=hi3 _ rfl ⟨11,.phase⟩ (by simp) rfl
   obtain rfl:b12=true:=hi3 _ rfl ⟨12,.phase⟩ (by simp) rfl
   obtain rfl:b13=true:=hi3 _ rfl ⟨13,.phase⟩ (by simp) rfl
   obtain rfl:b14=true:=hi3 _ rfl ⟨14,.phase⟩ (by simp) rfl
   obtain rfl:b15=true:=hi3 _ rfl ⟨15,.phase⟩ (by simp) rfl
   obtain rfl:b16=true:=hi3 _ rfl ⟨16,.phase⟩ (by simp) rfl
   obtain rfl:b17=true:=hi3 _ rfl ⟨17,.phase⟩ (by simp) rfl
   obtain rfl:b18=true:=hi3 _ rfl ⟨18,.phase⟩ (by simp) rfl
   obtain rfl:b19=true:=hi3 _ rfl ⟨19,.phase⟩ (by simp) rfl
   obtain rfl:b20=true:=hi3 _ rfl ⟨20,.phase⟩ (by simp) rfl
   obtain rfl:b21=true:=hi3 _ rfl ⟨21,.phase⟩ (by simp) rfl
   obtain rfl:b22=true:=hi3 _ rfl ⟨22,.phase⟩ (by simp) rfl
   obtain rfl:b23=true:=hi3 _ rfl ⟨23,.phase⟩ (by simp) rfl
   obtain rfl:b24=true:=hi3 _ rfl ⟨24,.phase⟩ (by simp) rfl
   obtain rfl:b25=true:=hi3 _ rfl ⟨25,.phase⟩ (by simp) rfl
   obtain rfl:b26=true:=hi3 _ rfl ⟨26,.phase⟩ (by simp) rfl
   obtain rfl:b27=true:=hi3 _ rfl ⟨27,.phase⟩ (by simp) rfl
   obtain rfl:b28=true:=hi3 _ rfl ⟨28,.phase⟩ (by simp) rfl
   obtain rfl:b29=true:=hi3 _ rfl ⟨29,.phase⟩ (by simp) rfl
   obtain rfl:b30=true:=hi3 _ rfl ⟨30,.phase⟩ (by simp) rfl
   obtain rfl:=h0.out rfl
   obtain rfl:=h1.out rfl
   obtain rfl:=h2.out rfl
   obtain rfl:=h3.out rfl
   obtain rfl:=h4.out rfl
   obtain rfl:=h5.out rfl
   obtain rfl:=h6.out rfl
   obtain rfl:=h7.out rfl
   obtain rfl:=h8.out rfl
   obtain rfl:=h9.out rfl
   obtain rfl:=h10.out rfl
   obtain rfl:=h11.out rfl
   obtain rfl:=h12.out rfl
   obtain rfl:=h13.out rfl
   obtain rfl:=h14.out rfl
   obtain rfl:=h15.out rfl
   obtain rfl:=h16.out rfl
   obtain rfl:=h17.out rfl
   obtain rfl:=h18.out rfl
   obtain rfl:=h19.out rfl
   obtain rfl:=h20.out rfl
   obtain rfl:=h21.out rfl
   obtain rfl:=h22.out rfl
   obtain rfl:=h23.out rfl
   obtain rfl:=h24.out rfl
   obtain rfl:=h25.out rfl
   obtain rfl:=h26.out rfl
   obtain rfl:=h27.out rfl
   obtain rfl:=h28.out rfl
   obtain rfl:=h29.out rfl
   obtain rfl:=h32.out rfl
   clear hi3
   obtain rfl:b34=false:=by cases b34;rfl;have:=HW.2.2.2.2.2.1 rfl;simp at this
   obtain rfl:=HW.2.2.2.1 rfl
   refine wpOp_step rfl (fun K hK=>?_)
   go_simp
   refine hK _ _ ⟨_,_,_,_,_,_,_,_,_,_,_,_,_,_,_,_,_,_,_,_,_,_,_,_,_,_,_,_,_,_,_,_,_,true,_,_,_,_,_,_,_,_,_,_,_,_,_,_,_,_,_,_,_,_,_,_,_,_,_,_,_,_,_,_,_,_,_,_,(.pointer (some ⟨lk,k * 5+1,none⟩)),_,_,_,rfl,rfl,⟨HW.1,HW.2.1,HW.2.2.1,(fun _=>rfl),(fun e=>nomatch e),(fun e=>nomatch e),HW.2.2.2.2.2.2.1,(fun _=>rfl)⟩,h0,h1,h2,h3,h4,h5,h6,h7,h8,h9,h10,h11,h12,h13,h14,h15,h16,h17,h18,h19,h20,h21,h22,h23,h24,h25,h26,h27,h28,h29,h30,h31,h32,Lib.hid (fun _=>rfl),h34⟩
  ·obtain rfl:b34=false:=hi2
   obtain rfl:b33=true:=hi3 _ rfl ⟨33,.data⟩ (by simp) rfl
   obtain rfl:b30=true:=hi3 _ rfl ⟨30,.data⟩ (by simp) rfl
   obtain rfl:b0=true:=hi3 _ rfl ⟨0,.phase⟩ (by simp) rfl
   obtain rfl:b1=true:=hi3 _ rfl ⟨1,.phase⟩ (by simp) rfl
   obtain rfl:b2=true:=hi3 _ rfl ⟨2,.phase⟩ (by simp) rfl
   obtain rfl:b3=true:=hi3 _ rfl ⟨3,.phase⟩ (by simp) rfl
   obtain rfl:b4=true:=hi3 _ rfl ⟨4,.phase⟩ (by simp) rfl
   obtain rfl:b5=true:=hi3 _ rfl ⟨5,.phase⟩ (by simp) rfl
   obtain rfl:b6=true:=hi3 _ rfl ⟨6,.phase⟩ (by simp) rfl
   obtain rfl:b7=true:=hi3 _ rfl ⟨7,.phase⟩ (by simp) rfl
   obtain rfl:b8=true:=hi3 _ rfl ⟨8,.phase⟩ (by simp) rfl
   obtain rfl:b9=true:=hi3 _ rfl ⟨9,.phase⟩ (by simp) rfl
   obtain rfl:b10=true:=hi3 _ rfl ⟨10,.phase⟩ (by simp) rfl
   obtain rfl:b11=true:=hi3 _ rfl ⟨11,.phase⟩ (by simp) rfl
   obtain rfl:b12=true:=hi3 _ rfl ⟨12,.phase⟩ (by simp) rfl
   obtain rfl:b13=true:=hi3 _ rfl ⟨13,.phase⟩ (by simp) rfl
   obtain rfl:b14=true:=hi3 _ rfl ⟨14,.phase⟩ (by simp) rfl
   obtain rfl:b15=true:=hi3 _ rfl ⟨15,.phase⟩ (by simp) rfl
   obtain rfl:b16=true:=hi3 _ rfl ⟨16,.phase⟩ (by simp) rfl
   obtain rfl:b17=true:=hi3 _ rfl ⟨17,.phase⟩ (by simp) rfl
   obtain rfl:b18=true:=hi3 _ rfl ⟨18,.phase⟩ (by simp) rfl
   obtain rfl:b19=true:=hi3 _ rfl ⟨19,.phase⟩ (by simp) rfl
   obtain rfl:b20=true:=hi3 _ rfl ⟨20,.phase⟩ (by simp) rfl
   obtain rfl:b21=true:=hi3 _ rfl ⟨21,.phase⟩ (by simp) rfl
   obtain rfl:b22=true:=hi3 _ rfl ⟨22,.phase⟩ (by simp) rfl
   obtain rfl:b23=true:=hi3 _ rfl ⟨23,.phase⟩ (by simp) rfl
   obtain rfl:b24=true:=hi3 _ rfl ⟨24,.phase⟩ (by simp) rfl
   obtain rfl:b25=true:=hi3 _ rfl ⟨25,.phase⟩ (by simp) rfl
   obtain rfl:b26=true:=hi3 _ rfl ⟨26,.phase⟩ (by simp) rfl
   obtain rfl:b27=true:=hi3 _ rfl ⟨27,.phase⟩ (by simp) rfl
   obtain rfl:b28=true:=hi3 _ rfl ⟨28,.phase⟩ (by simp) rfl
   obtain rfl:b29=true:=hi3 _ rfl ⟨29,.phase⟩ (by simp) rfl
   obtain rfl:=h0.out rfl
   obtain rfl:=h1.out rfl
   obtain rfl:=h2.out rfl
   obtain rfl:=h3.out rfl
   obtain rfl:=h4.out rfl
   obtain rfl:=h5.out rfl
   obtain rfl:=h6.out rfl
   obtain rfl:=h7.out rfl
   obtain rfl:=h8.out rfl
   obtain rfl:=h9.out rfl
   obtain rfl:=h10.out rfl
   obtain rfl:=h11.out rfl
   obtain rfl:=h12.out rfl
   obtain rfl:=h13.out rfl
   obtain rfl:=h14.out rfl
   obtain rfl:=h15.out rfl
   obtain rfl:=h16.out rfl
   obtain rfl:=h17.out rfl
   obtain rfl:=h18.out rfl
   obtain rfl:=h19.out rfl
   obtain rfl:=h20.out rfl
   obtain rfl:=h21.out rfl
   obtain rfl:=h22.out rfl
   obtain rfl:=h23.out rfl
   obtain rfl:=h24.out rfl
   obtain rfl:=h25.out rfl
   obtain rfl:=h26.out rfl
   obtain rfl:=h27.out rfl
   obtain rfl:=h28.out rfl
   obtain rfl:=h29.out rfl
   obtain rfl:=h33.out rfl
   clear hi3
   obtain rfl:=HW.2.2.2.1 rfl
   obtain⟨a9,c9,e9⟩:=RowH.slice (h30.out rfl)
   subst e9
   obtain⟨y0,y1,y2,y3⟩:=CE.out W (oh true ⟨g8,142,#[.int .i64 (nb:Int),.bool tb]⟩++HB) (by simpa only[List.append_assoc] using HW.1)
   obtain rfl:b32=true:=HW.2.2.2.2.2.2.2 rfl
   obtain rfl:b31=true:=HW.2.2.2.2.2.2.1 rfl
   refine wpOp_step rfl (fun K hK=>?_)
   go_simp
   refine hK _ _ ⟨_,_,_,_,_,_,_,_,_,_,_,_,_,_,_,_,_,_,_,_,_,_,_,_,_,_,_,_,_,_,_,_,_,_,true,_,_,_,_,_,_,_,_,_,_,_,_,_,_,_,_,_,_,_,_,_,_,_,_,_,_,_,_,_,_,_,_,_,_,g8,HB,W,rfl,rfl,⟨HW.1,HW.2.1,HW.2.2.1,(fun e=>nomatch e),(fun _=>rfl),(fun _=>by simp),HW.2.2.2.2.2.2.1,HW.2.2.2.2.2.2.2⟩,h0,h1,h2,h3,h4,h5,h6,h7,h8,h9,h10,h11,h12,h13,h14,h15,h16,h17,h18,h19,h20,h21,h22,h23,h24,h25,h26,h27,h28,h29,h30,h31,h32,h33,Lib.hid (fun _=>trivial)⟩
end
end Go.Proofs.YtjngfhgakokejaaGreat
