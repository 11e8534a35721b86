/- waveletref15: say, its drawn regions. waveletref15: say, a drawn region. waveletref15: say: its pieces. waveletref15: say: Lblock. waveletref15: say: a block's empty planes. waveletref15: say: the part is laid back. -/
import Derived.Test.YtjngfhgakokejaaGreatZp19
import Derived.Test.YtjngfhgakokejaaGreatZp05
import Derived.Test.YtjngfhgakokejaaGreatZp12
import Derived.Test.YtjngfhgakokejaaGreatZp18
import Derived.Test.YtjngfhgakokejaaGreatZp03
set_option maxRecDepth 100000
set_option maxHeartbeats 8000000
namespace Go.Proofs.YtjngfhgakokejaaGreat
section
open Go.RowKit
inductive say_r19_S (wb xb g1 g2 n c1 c2 i p:Nat) (sz lb:Int) (bs:List Bool) (H1 R H0:List YtjngfhgakokejaaGreat.HB) (w0:World) (w:World) (s0 s2 s3 s4 s5 s6 s7 s8 s9 s10 s11 s13 s14 s17 s19 s20 s21 s22 s23 s24 s25 s26 s27 s28 s29 s30 s31 s32 s33 s34 s35 s36 s37 s38 s39 s40 s41 s42 s43 s44 s45 s46 s47 s48 s49 s50 s51 s52 s53 s54 s55 s56 s57 s58 s59 s60 s61 s62 s63 s64 s65 s66 s67 s68 s69 s70 s71 s72 s73 s74 s75 s76 s77 s78 s79 s80 s81 s82 s83 s84 s85 s86 s87 s88 s89 s90 s91 s92 s93 s94 s95 s96 s97 s98 s99 s100 s101 s102 s103 s104 s105 s106 s107 s108 s109 s110 s111 s112 s113 s114 s115 s116 s117 s118 s119 s120:Value) (listed:Array Bool) (a:Act) (W:World):Prop
 | mk (b0 b1 b2 b3 b4 b5 b6 b7 b8 b9 b10 b11 b12 b13:Bool) (u100 u101 u102 u103 u104 u105 u106 u107 u108 u109 u110 u111 u112 u113:Value) (HB:List YtjngfhgakokejaaGreat.HB) (hl:listed=#[b0,b1,b2,b3,b4,b5,b6,b7,b8,b9,b10,b11,b12,b13]) (ha:a=⟨List.toArray (s0::(.pointer (some ⟨wb,0,none⟩))::s2::s3::s4::s5::s6::s7::s8::s9::s10::s11::(.pointer (some ⟨xb,0,none⟩))::s13::s14::(.slice (some ⟨g1,0,none⟩) n c1)::(.slice (some ⟨g2,0,none⟩) n c2)::s17::(.int .i64 ((i:Int)))::s19::s20::s21::s22::s23::s24::s25::s26::s27::s28::s29::s30::s31::s32::s33::s34::s35::s36::s37::s38::s39::s40::s41::s42::s43::s44::s45::s46::s47::s48::s49::s50::s51::s52::s53::s54::s55::s56::s57::s58::s59::s60::s61::s62::s63::s64::s65::s66::s67::s68::s69::s70::s71::s72::s73::s74::s75::s76::s77::s78::s79::s80::s81::s82::s83::s84::s85::s86::s87::s88::s89::s90::s91::s92::s93::s94::s95::s96::s97::s98::s99::u100::u101::u102::u103::u104::u105::u106::u107::u108::u109::u110::u111::u112::u113::s114::s115::s116::s117::s118::s119::s120::[]),[]⟩) (HW:(Mv w0 H0 W (HB++R)∧(b13=false→HB=H1))) (h0:Hid (b0=true→u100=.pointer (some ⟨wb,0,none⟩))) (h1:Hid (b1=true→u101=.slice (some ⟨g2,0,none⟩) n c2)) (h2:Hid (b2=true→u102=.int .i64 ((i:Int)))) (h3:Hid (b3=true→u103=.pointer (some ⟨g2,i,none⟩))) (h4:Hid (b4=true→u104=.int .i64 (sz))) (h5:Hid (b5=true→u105=.pointer (some ⟨xb,4,none⟩))) (h6:Hid (b6=true→u106=.int .i64 (lb))) (h7:Hid (b7=true→u107=.slice (some ⟨g1,0,none⟩) n c1)) (h8:Hid (b8=true→u108=.int .i64 ((i:Int)))) (h9:Hid (b9=true→u109=.pointer (some ⟨g1,i,none⟩))) (h10:Hid (b10=true→u110=.int .i64 ((p:Int)))) (h11:Hid (b11=true→u111=.int .i64 (((p.log2:Nat):Int)))) (h12:Hid (b12=true→u112=.int .i64 (lb+((p.log2:Nat):Int)))) (h13:Hid (b13=true→RWrB wb (bs++bitsG sz (lb+((p.log2:Nat):Int))) HB)):say_r19_S wb xb g1 g2 n c1 c2 i p sz lb bs H1 R H0 w0 w s0 s2 s3 s4 s5 s6 s7 s8 s9 s10 s11 s13 s14 s17 s19 s20 s21 s22 s23 s24 s25 s26 s27 s28 s29 s30 s31 s32 s33 s34 s35 s36 s37 s38 s39 s40 s41 s42 s43 s44 s45 s46 s47 s48 s49 s50 s51 s52 s53 s54 s55 s56 s57 s58 s59 s60 s61 s62 s63 s64 s65 s66 s67 s68 s69 s70 s71 s72 s73 s74 s75 s76 s77 s78 s79 s80 s81 s82 s83 s84 s85 s86 s87 s88 s89 s90 s91 s92 s93 s94 s95 s96 s97 s98 s99 s100 s101 s102 s103 s104 s105 s106 s107 s108 s109 s110 s111 s112 s113 s114 s115 s116 s117 s118 s119 s120 listed a W
theorem say_r19 (K:Act→World→Prop) (wb xb g1 g2 n c1 c2 i p:Nat) (sz lb:Int) (bs:List Bool) (H1 R H0:List YtjngfhgakokejaaGreat.HB) (w0:World) (w:World) (s0 s2 s3 s4 s5 s6 s7 s8 s9 s10 s11 s13 s14 s17 s19 s20 s21 s22 s23 s24 s25 s26 s27 s28 s29 s30 s31 s32 s33 s34 s35 s36 s37 s38 s39 s40 s41 s42 s43 s44 s45 s46 s47 s48 s49 s50 s51 s52 s53 s54 s55 s56 s57 s58 s59 s60 s61 s62 s63 s64 s65 s66 s67 s68 s69 s70 s71 s72 s73 s74 s75 s76 s77 s78 s79 s80 s81 s82 s83 s84 s85 s86 s87 s88 s89 s90 s91 s92 s93 s94 s95 s96 s97 s98 s99 s100 s101 s102 s103 s104 s105 s106 s107 s108 s109 s110 s111 s112 s113 s114 s115 s116 s117 s118 s119 s120:Value) (hin:i<n) (_hn:n≤1000) (hlb:0≤lb∧lb≤1000) (hp:p≤1000000∧p.log2≤64) (hbl:bs.length≤70000000) (hwb:RWrB wb bs H1) (hS:∀ W,Sat W R→W.cell? ⟨xb,4,none⟩=some (.int .i64 lb)∧W.cell? ⟨g1,i,none⟩=some (.int .i64 (p:Int))∧W.cell? ⟨g2,i,none⟩=some (.int .i64 sz)) (hM:Mv w0 H0 w (H1++R))
  (hk:∀ (u100 u101 u102 u103 u104 u105 u106 u107 u108 u109 u110 u111 u112 u113:Value) (HB:List YtjngfhgakokejaaGreat.HB) (W:World),(Mv w0 H0 W (HB++R)∧(true=false→HB=H1))→(RWrB wb (bs++bitsG sz (lb+((p.log2:Nat):Int))) HB) →  K ⟨List.toArray (s0::(.pointer (some ⟨wb,0,none⟩))::s2::s3::s4::s5::s6::s7::s8::s9::s10::s11::(.pointer (some ⟨xb,0,none⟩))::s13::s14::(.slice (some ⟨g1,0,none⟩) n c1)::(.slice (some ⟨g2,0,none⟩) n c2)::s17::(.int .i64 ((i:Int)))::s19::s20::s21::s22::s23::s24::s25::s26::s27::s28::s29::s30::s31::s32::s33::s34::s35::s36::s37::s38::s39::s40::s41::s42::s43::s44::s45::s46::s47::s48::s49::s50::s51::s52::s53::s54::s55::s56::s57::s58::s59::s60::s61::s62::s63::s64::s65::s66::s67::s68::s69::s70::s71::s72::s73::s74::s75::s76::s77::s78::s79::s80::s81::s82::s83::s84::s85::s86::s87::s88::s89::s90::s91::s92::s93::s94::s95::s96::s97::s98::s99::u100::u101::u102::u103::u104::u105::u106::u107::u108::u109::u110::u111::u112::u113::s114::s115::s116::s117::s118::s119::s120::[]),[]⟩ W) :
  (regionOf 19 Tryz.f38).wp Tryz.prog (Exit.then K noQ) ⟨List.toArray (s0::(.pointer (some ⟨wb,0,none⟩))::s2::s3::s4::s5::s6::s7::s8::s9::s10::s11::(.pointer (some ⟨xb,0,none⟩))::s13::s14::(.slice (some ⟨g1,0,none⟩) n c1)::(.slice (some ⟨g2,0,none⟩) n c2)::s17::(.int .i64 ((i:Int)))::s19::s20::s21::s22::s23::s24::s25::s26::s27::s28::s29::s30::s31::s32::s33::s34::s35::s36::s37::s38::s39::s40::s41::s42::s43::s44::s45::s46::s47::s48::s49::s50::s51::s52::s53::s54::s55::s56::s57::s58::s59::s60::s61::s62::s63::s64::s65::s66::s67::s68::s69::s70::s71::s72::s73::s74::s75::s76::s77::s78::s79::s80::s81::s82::s83::s84::s85::s86::s87::s88::s89::s90::s91::s92::s93::s94::s95::s96::s97::s98::s99::s100::s101::s102::s103::s104::s105::s106::s107::s108::s109::s110::s111::s112::s113::s114::s115::s116::s117::s118::s119::s120::[]),[]⟩ w:=by
 conv in (regionOf _ _)=>whnf
 unfold noQ
 have HK:=Lib.hid hk
 clear hk
 have LG:=Lib.hid (fun V=>rlog_any p V (by omega))
 refine wp_region_inv (by kernel_rfl) (say_r19_S wb xb g1 g2 n c1 c2 i p sz lb bs H1 R H0 w0 w s0 s2 s3 s4 s5 s6 s7 s8 s9 s10 s11 s13 s14 s17 s19 s20 s21 s22 s23 s24 s25 s26 s27 s28 s29 s30 s31 s32 s33 s34 s35 s36 s37 s38 s39 s40 s41 s42 s43 s44 s45 s46 s47 s48 s49 s50 s51 s52 s53 s54 s55 s56 s57 s58 s59 s60 s61 s62 s63 s64 s65 s66 s67 s68 s69 s70 s71 s72 s73 s74 s75 s76 s77 s78 s79 s80 s81 s82 s83 s84 s85 s86 s87 s88 s89 s90 s91 s92 s93 s94 s95 s96 s97 s98 s99 s100 s101 s102 s103 s104 s105 s106 s107 s108 s109 s110 s111 s112 s113 s114 s115 s116 s117 s118 s119 s120) ?_ ?_ ?_
 ·exact ⟨false,false,false,false,false,false,false,false,false,false,false,false,false,false,s100,s101,s102,s103,s104,s105,s106,s107,s108,s109,s110,s111,s112,s113,H1,rfl,rfl,⟨hM.drew,fun _=>rfl⟩,Lib.hid nofun,Lib.hid nofun,Lib.hid nofun,Lib.hid nofun,Lib.hid nofun,Lib.hid nofun,Lib.hid nofun,Lib.hid nofun,Lib.hid nofun,Lib.hid nofun,Lib.hid nofun,Lib.hid nofun,Lib.hid nofun,Lib.hid nofun⟩
 ·rintro listed a W ⟨b0,b1,b2,b3,b4,b5,b6,b7,b8,b9,b10,b11,b12,b13,u100,u101,u102,u103,u104,u105,u106,u107,u108,u109,u110,u111,u112,u113,HB,rfl,rfl,HW,h0,h1,h2,h3,h4,h5,h6,h7,h8,h9,h10,h11,h12,h13⟩ hr
  obtain rfl:b0=true:=by cases b0;exact (not_ready2 hr 0 _ rfl rfl (by simp [Region.binds])).elim;rfl
  obtain rfl:b1=true:=by cases b1;exact (not_ready2 hr 1 _ rfl rfl (by simp [Region.binds])).elim;rfl
  obtain rfl:b2=true:=by cases b2;exact (not_ready2 hr 2 _ rfl rfl (by simp [Region.binds])).elim;rfl
  obtain rfl:b3=true:=by cases b3;exact (not_ready2 hr 3 _ rfl rfl (by simp [Region.binds])).elim;rfl
  obtain rfl:b4=true:=by cases b4;exact (not_ready2 hr 4 _ rfl rfl (by simp [Region.binds])).elim;rfl
  obtain rfl:b5=true:=by cases b5;exact (not_ready2 hr 5 _ rfl rfl (by simp [Region.binds])).elim;rfl
  obtain rfl:b6=true:=by cases b6;exact (not_ready2 hr 6 _ rfl rfl (by simp [Region.binds])).elim;rfl
  obtain rfl:b7=true:=by cases b7;exact (not_ready2 hr 7 _ rfl rfl (by simp [Region.binds])).elim;rfl
  obtain rfl:b8=true:=by cases b8;exact (not_ready2 hr 8 _ rfl rfl (by simp [Region.binds])).elim;rfl
  obtain rfl:b9=true:=by cases b9;exact (not_ready2 hr 9 _ rfl rfl (by simp [Region.binds])).elim;rfl
  obtain rfl:b10=true:=by cases b10;exact (not_ready2 hr 10 _ rfl rfl (by simp [Region.binds])).elim;rfl
  obtain rfl:b11=true:=by cases b11;exact (not_ready2 hr 11 _ rfl rfl (by simp [Region.binds])).elim;rfl
  obtain rfl:b12=true:=by cases b12;exact (not_ready2 hr 12 _ rfl rfl (by simp [Region.binds])).elim;rfl
  obtain rfl:b13=true:=by cases b13;exact (not_ready2 hr 13 _ rfl rfl (by simp [Region.binds])).elim;rfl
  exact HK.out u100 u101 u102 u103 u104 u105 u106 u107 u108 u109 u110 u111 u112 u113 HB W HW (h13.out rfl)
 ·rintro listed a W i ⟨b0,b1,b2,b3,b4,b5,b6,b7,b8,b9,b10,b11,b12,b13,u100,u101,u102,u103,u104,u105,u106,u107,u108,u109,u110,u111,u112,u113,HB,rfl,rfl,HW,h0,h1,h2,h3,h4,h5,h6,h7,h8,h9,h10,h11,h12,h13⟩ hi
  obtain ⟨hi1,hi2,hi3⟩:=mem_ready hi
  clear hi
  have hi4:i=0∨i=1∨i=2∨i=3∨i=4∨i=5∨i=6∨i=7∨i=8∨i=9∨i=10∨i=11∨i=12∨i=13:=by
   have:i<14:=hi1
   omega
  clear hi1
  rcases hi4 with rfl | rfl | rfl | rfl | rfl | rfl | rfl | rfl | rfl | rfl | rfl | rfl | rfl | rfl
  ·obtain rfl:b0=false:=hi2
   clear hi3
   refine wpOp_step rfl (fun K hK=>?_)
   go_simp
   refine hK _ _ ⟨true,_,_,_,_,_,_,_,_,_,_,_,_,_,(.pointer (some ⟨wb,0,none⟩)),_,_,_,_,_,_,_,_,_,_,_,_,_,_,rfl,rfl,HW,Lib.hid (fun _=>rfl),h1,h2,h3,h4,h5,h6,h7,h8,h9,h10,h11,h12,h13⟩
  ·obtain rfl:b1=false:=hi2
   clear hi3
   refine wpOp_step rfl (fun K hK=>?_)
   go_simp
   refine hK _ _ ⟨_,true,_,_,_,_,_,_,_,_,_,_,_,_,_,(.slice (some ⟨g2,0,none⟩) n c2),_,_,_,_,_,_,_,_,_,_,_,_,_,rfl,rfl,HW,h0,Lib.hid (fun _=>rfl),h2,h3,h4,h5,h6,h7,h8,h9,h10,h11,h12,h13⟩
  ·obtain rfl:b2=false:=hi2
   clear hi3
   refine wpOp_step rfl (fun K hK=>?_)
   go_simp
   refine hK _ _ ⟨_,_,true,_,_,_,_,_,_,_,_,_,_,_,_,_,(.int .i64 ((i:Int))),_,_,_,_,_,_,_,_,_,_,_,_,rfl,rfl,HW,h0,h1,Lib.hid (fun _=>rfl),h3,h4,h5,h6,h7,h8,h9,h10,h11,h12,h13⟩
  ·obtain rfl:b3=false:=hi2
   obtain rfl:b1=true:=hi3 _ rfl ⟨1,.data⟩ (by simp) rfl
   obtain rfl:b2=true:=hi3 _ rfl ⟨2,.data⟩ (by simp) rfl
   obtain rfl:=h1.out rfl
   obtain rfl:=h2.out rfl
   clear hi3
   have e:(i:Int)<(n:Int):=by omega
   refine wpOp_step rfl (fun K hK=>?_)
   go_simp
   refine hK _ _ ⟨_,_,_,true,_,_,_,_,_,_,_,_,_,_,_,_,_,(.pointer (some ⟨g2,i,none⟩)),_,_,_,_,_,_,_,_,_,_,_,rfl,rfl,HW,h0,h1,h2,Lib.hid (fun _=>rfl),h4,h5,h6,h7,h8,h9,h10,h11,h12,h13⟩
  ·obtain rfl:b4=false:=hi2
   obtain rfl:b3=true:=hi3 _ rfl ⟨3,.data⟩ (by simp) rfl
   obtain rfl:=h3.out rfl
   clear hi3
   have e:=(hS W HW.1.sat.right).2.2
   refine wpOp_step rfl (fun K hK=>?_)
   go_simp
   refine hK _ _ ⟨_,_,_,_,true,_,_,_,_,_,_,_,_,_,_,_,_,_,(.int .i64 (sz)),_,_,_,_,_,_,_,_,_,_,rfl,rfl,HW,h0,h1,h2,h3,Lib.hid (fun _=>rfl),h5,h6,h7,h8,h9,h10,h11,h12,h13⟩
  ·obtain rfl:b5=false:=hi2
   clear hi3
   refine wpOp_step rfl (fun K hK=>?_)
   go_simp
   refine hK _ _ ⟨_,_,_,_,_,true,_,_,_,_,_,_,_,_,_,_,_,_,_,(.pointer (some ⟨xb,4,none⟩)),_,_,_,_,_,_,_,_,_,rfl,rfl,HW,h0,h1,h2,h3,h4,Lib.hid (fun _=>rfl),h6,h7,h8,h9,h10,h11,h12,h13⟩
  ·obtain rfl:b6=false:=hi2
   obtain rfl:b5=true:=hi3 _ rfl ⟨5,.data⟩ (by simp) rfl
   obtain rfl:=h5.out rfl
   clear hi3
   have e:=(hS W HW.1.sat.right).1
   refine wpOp_step rfl (fun K hK=>?_)
   go_simp
   refine hK _ _ ⟨_,_,_,_,_,_,true,_,_,_,_,_,_,_,_,_,_,_,_,_,(.int .i64 (lb)),_,_,_,_,_,_,_,_,rfl,rfl,HW,h0,h1,h2,h3,h4,h5,Lib.hid (fun _=>rfl),h7,h8,h9,h10,h11,h12,h13⟩
  ·obtain rfl:b7=false:=hi2
   clear hi3
   refine wpOp_step rfl (fun K hK=>?_)
   go_simp
   refine hK _ _ ⟨_,_,_,_,_,_,_,true,_,_,_,_,_,_,_,_,_,_,_,_,_,(.slice (some ⟨g1,0,none⟩) n c1),_,_,_,_,_,_,_,rfl,rfl,HW,h0,h1,h2,h3,h4,h5,h6,Lib.hid (fun _=>rfl),h8,h9,h10,h11,h12,h13⟩
  ·obtain rfl:b8=false:=hi2
   clear hi3
   refine wpOp_step rfl (fun K hK=>?_)
   go_simp
   refine hK _ _ ⟨_,_,_,_,_,_,_,_,true,_,_,_,_,_,_,_,_,_,_,_,_,_,(.int .i64 ((i:Int))),_,_,_,_,_,_,rfl,rfl,HW,h0,h1,h2,h3,h4,h5,h6,h7,Lib.hid (fun _=>rfl),h9,h10,h11,h12,h13⟩
  ·obtain rfl:b9=false:=hi2
   obtain rfl:b7=true:=hi3 _ rfl ⟨7,.data⟩ (by simp) rfl
   obtain rfl:b8=true:=hi3 _ rfl ⟨8,.data⟩ (by simp) rfl
   obtain rfl:=h7.out rfl
   obtain rfl:=h8.out rfl
   clear hi3
   have e:(i:Int)<(n:Int):=by omega
   refine wpOp_step rfl (fun K hK=>?_)
   go_simp
   refine hK _ _ ⟨_,_,_,_,_,_,_,_,_,true,_,_,_,_,_,_,_,_,_,_,_,_,_,(.pointer (some ⟨g1,i,none⟩)),_,_,_,_,_,rfl,rfl,HW,h0,h1,h2,h3,h4,h5,h6,h7,h8,Lib.hid (fun _=>rfl),h10,h11,h12,h13⟩
  ·obtain rfl:b10=false:=hi2
   obtain rfl:b9=true:=hi3 _ rfl ⟨9,.data⟩ (by simp) rfl
   obtain rfl:=h9.out rfl
   clear hi3
   have e:=(hS W HW.1.sat.right).2.1
   refine wpOp_step rfl (fun K hK=>?_)
   go_simp
   refine hK _ _ ⟨_,_,_,_,_,_,_,_,_,_,true,_,_,_,_,_,_,_,_,_,_,_,_,_,(.int .i64 ((p:Int))),_,_,_,_,rfl,rfl,HW,h0,h1,h2,h3,h4,h5,h6,h7,h8,h9,Lib.hid (fun _=>rfl),h11,h12,h13⟩
  ·obtain rfl:b11=false:=hi2
   obtain rfl:b10=true:=hi3 _ rfl ⟨10,.data⟩ (by simp) rfl
   obtain rfl:=h10.out rfl
   clear hi3
   refine wpOp_step rfl (fun K hK=>?_)
   go_simp
   go_at_call 85
   (with_reducible refine (LG.out _).mono ?_)
   rintro e w9 ⟨rfl,rfl⟩
   refine hK _ _ ⟨_,_,_,_,_,_,_,_,_,_,_,true,_,_,_,_,_,_,_,_,_,_,_,_,_,(.int .i64 (((p.log2:Nat):Int))),_,_,_,rfl,rfl,HW,h0,h1,h2,h3,h4,h5,h6,h7,h8,h9,h10,Lib.hid (fun _=>rfl),h12,h13⟩
  ·obtain rfl:b12=false:=hi2
   obtain rfl:b6=true:=hi3 _ rfl ⟨6,.data⟩ (by simp) rfl
   obtain rfl:b11=true:=hi3 _ rfl ⟨11,.data⟩ (by simp) rfl
   obtain rfl:=h6.out rfl
   obtain rfl:=h11.out rfl
   clear hi3
   have e:IntKind.i64.wrap (lb+((p.log2:Nat):Int))=lb+((p.log2:Nat):Int):=IntWalk.i64_in _ (by omega)
   refine wpOp_step rfl (fun K hK=>?_)
   go_simp
   refine hK _ _ ⟨_,_,_,_,_,_,_,_,_,_,_,_,true,_,_,_,_,_,_,_,_,_,_,_,_,_,(.int .i64 (lb+((p.log2:Nat):Int))),_,_,rfl,rfl,HW,h0,h1,h2,h3,h4,h5,h6,h7,h8,h9,h10,h11,Lib.hid (fun _=>rfl),h13⟩
  ·obtain rfl:b13=false:=hi2
   obtain rfl:b0=true:=hi3 _ rfl ⟨0,.data⟩ (by simp) rfl
   obtain rfl:b4=true:=hi3 _ rfl ⟨4,.data⟩ (by simp) rfl
   obtain rfl:b12=true:=hi3 _ rfl ⟨12,.data⟩ (by simp) rfl
   obtain rfl:b11=true:=hi3 _ rfl ⟨11,.chain⟩ (by simp) rfl
   obtain rfl:=h0.out rfl
   obtain rfl:=h4.out rfl
   obtain rfl:=h11.out rfl
   obtain rfl:=h12.out rfl
   clear hi3
   obtain rfl:=HW.2 rfl
   have BI:=Lib.hid (rbits_any wb bs sz (lb+((p.log2:Nat):Int)) W HB hwb HW.1.sat.left hbl)
   refine wpOp_step rfl (fun K hK=>?_)
   go_simp
   go_at_call 86
   (with_reducible refine BI.out.mono ?_)
   rintro e w9 ⟨rfl,H9,r9,m9⟩
   have N9:=Mv.call HW.1 m9
   refine hK _ _ ⟨_,_,_,_,_,_,_,_,_,_,_,_,_,true,_,_,_,_,_,_,_,_,_,_,_,_,_,(.tuple #[]),H9,rfl,rfl,⟨N9,fun e=>nomatch e⟩,h0,h1,h2,h3,h4,h5,h6,h7,h8,h9,h10,h11,h12,Lib.hid (fun _=>r9)⟩
end
section
open Go.RowKit
inductive say_r12_S (xb g1 g2 n c1 c2 i p sz lb q:Nat) (R H0:List YtjngfhgakokejaaGreat.HB) (w0:World) (w:World) (s0 s1 s2 s3 s4 s5 s6 s7 s8 s9 s10 s11 s13 s14 s18 s19 s20 s21 s22 s23 s24 s25 s26 s27 s28 s29 s30 s31 s32 s33 s34 s35 s36 s37 s38 s39 s40 s41 s42 s43 s44 s45 s46 s47 s48 s49 s50 s51 s52 s53 s54 s55 s56 s57 s58 s59 s60 s61 s62 s63 s64 s65 s66 s67 s68 s69 s70 s71 s72 s73 s74 s75 s76 s77 s78 s79 s80 s81 s82 s83 s84 s85 s86 s87 s88 s89 s90 s91 s92 s93 s94 s95 s96 s97 s98 s99 s100 s101 s102 s103 s104 s105 s106 s107 s108 s109 s110 s111 s112 s113 s114 s115 s116 s117 s118 s119 s120:Value) (listed:Array Bool) (a:Act) (W:World):Prop
 | mk (b0 b1 b2 b3 b4 b5 b6 b7 b8 b9 b10 b11 b12 b13 b14:Bool) (u71 u72 u73 u74 u75 u76 u77 u78 u79 u80 u81 u82 u83 u84 u85:Value) (hl:listed=#[b0,b1,b2,b3,b4,b5,b6,b7,b8,b9,b10,b11,b12,b13,b14]) (ha:a=⟨List.toArray (s0::s1::s2::s3::s4::s5::s6::s7::s8::s9::s10::s11::(.pointer (some ⟨xb,0,none⟩))::s13::s14::(.slice (some ⟨g1,0,none⟩) n c1)::(.slice (some ⟨g2,0,none⟩) n c2)::(.int .i64 ((i:Int)))::s18::s19::s20::s21::s22::s23::s24::s25::s26::s27::s28::s29::s30::s31::s32::s33::s34::s35::s36::s37::s38::s39::s40::s41::s42::s43::s44::s45::s46::s47::s48::s49::s50::s51::s52::s53::s54::s55::s56::s57::s58::s59::s60::s61::s62::s63::s64::s65::s66::s67::s68::s69::s70::u71::u72::u73::u74::u75::u76::u77::u78::u79::u80::u81::u82::u83::u84::u85::s86::s87::s88::s89::s90::s91::s92::s93::s94::s95::s96::s97::s98::s99::s100::s101::s102::s103::s104::s105::s106::s107::s108::s109::s110::s111::s112::s113::s114::s115::s116::s117::s118::s119::s120::[]),[]⟩) (HW:(Mv w0 H0 W R)) (h0:Hid (b0=true→u71=.slice (some ⟨g2,0,none⟩) n c2)) (h1:Hid (b1=true→u72=.int .i64 ((i:Int)))) (h2:Hid (b2=true→u73=.pointer (some ⟨g2,i,none⟩))) (h3:Hid (b3=true→u74=.int .i64 ((sz:Int)))) (h4:Hid (b4=true→u75=.pointer (some ⟨xb,4,none⟩))) (h5:Hid (b5=true→u76=.int .i64 ((lb:Int)))) (h6:Hid (b6=true→u77=.slice (some ⟨g1,0,none⟩) n c1)) (h7:Hid (b7=true→u78=.int .i64 ((i:Int)))) (h8:Hid (b8=true→u79=.pointer (some ⟨g1,i,none⟩))) (h9:Hid (b9=true→u80=.int .i64 ((p:Int)))) (h10:Hid (b10=true→u81=.int .i64 (((p.log2:Nat):Int)))) (h11:Hid (b11=true→u82=.int .i64 ((q:Int)))) (h12:Hid (b12=true→u83=.int .u64 (q:Int))) (h13:Hid (b13=true→u84=.int .i64 ((sz:Int) / 2 ^ q))) (h14:Hid (b14=true→u85=.bool (decide ((0:Int)<(sz:Int) / 2 ^ q)))):say_r12_S xb g1 g2 n c1 c2 i p sz lb q R H0 w0 w s0 s1 s2 s3 s4 s5 s6 s7 s8 s9 s10 s11 s13 s14 s18 s19 s20 s21 s22 s23 s24 s25 s26 s27 s28 s29 s30 s31 s32 s33 s34 s35 s36 s37 s38 s39 s40 s41 s42 s43 s44 s45 s46 s47 s48 s49 s50 s51 s52 s53 s54 s55 s56 s57 s58 s59 s60 s61 s62 s63 s64 s65 s66 s67 s68 s69 s70 s71 s72 s73 s74 s75 s76 s77 s78 s79 s80 s81 s82 s83 s84 s85 s86 s87 s88 s89 s90 s91 s92 s93 s94 s95 s96 s97 s98 s99 s100 s101 s102 s103 s104 s105 s106 s107 s108 s109 s110 s111 s112 s113 s114 s115 s116 s117 s118 s119 s120 listed a W
theorem say_r12 (K:Act→World→Prop) (xb g1 g2 n c1 c2 i p sz lb q:Nat) (R H0:List YtjngfhgakokejaaGreat.HB) (w0:World) (w:World) (s0 s1 s2 s3 s4 s5 s6 s7 s8 s9 s10 s11 s13 s14 s18 s19 s20 s21 s22 s23 s24 s25 s26 s27 s28 s29 s30 s31 s32 s33 s34 s35 s36 s37 s38 s39 s40 s41 s42 s43 s44 s45 s46 s47 s48 s49 s50 s51 s52 s53 s54 s55 s56 s57 s58 s59 s60 s61 s62 s63 s64 s65 s66 s67 s68 s69 s70 s71 s72 s73 s74 s75 s76 s77 s78 s79 s80 s81 s82 s83 s84 s85 s86 s87 s88 s89 s90 s91 s92 s93 s94 s95 s96 s97 s98 s99 s100 s101 s102 s103 s104 s105 s106 s107 s108 s109 s110 s111 s112 s113 s114 s115 s116 s117 s118 s119 s120:Value) (hin:i<n) (_hn:n≤1000) (hp:p≤1000000) (hq:lb+p.log2=q) (hq60:q≤60) (hS:∀ W,Sat W R→W.cell? ⟨xb,4,none⟩=some (.int .i64 (lb:Int))∧W.cell? ⟨g1,i,none⟩=some (.int .i64 (p:Int))∧W.cell? ⟨g2,i,none⟩=some (.int .i64 (sz:Int))) (hM:Mv w0 H0 w R)
  (hk:∀ (u71 u72 u73 u74 u75 u76 u77 u78 u79 u80 u81 u82 u83 u84 u85:Value) (W:World),(Mv w0 H0 W R)→(u85=.bool (decide ((0:Int)<(sz:Int) / 2 ^ q))) →  K ⟨List.toArray (s0::s1::s2::s3::s4::s5::s6::s7::s8::s9::s10::s11::(.pointer (some ⟨xb,0,none⟩))::s13::s14::(.slice (some ⟨g1,0,none⟩) n c1)::(.slice (some ⟨g2,0,none⟩) n c2)::(.int .i64 ((i:Int)))::s18::s19::s20::s21::s22::s23::s24::s25::s26::s27::s28::s29::s30::s31::s32::s33::s34::s35::s36::s37::s38::s39::s40::s41::s42::s43::s44::s45::s46::s47::s48::s49::s50::s51::s52::s53::s54::s55::s56::s57::s58::s59::s60::s61::s62::s63::s64::s65::s66::s67::s68::s69::s70::u71::u72::u73::u74::u75::u76::u77::u78::u79::u80::u81::u82::u83::u84::u85::s86::s87::s88::s89::s90::s91::s92::s93::s94::s95::s96::s97::s98::s99::s100::s101::s102::s103::s104::s105::s106::s107::s108::s109::s110::s111::s112::s113::s114::s115::s116::s117::s118::s119::s120::[]),[]⟩ W) :
  (regionOf 12 Tryz.f38).wp Tryz.prog (Exit.then K noQ) ⟨List.toArray (s0::s1::s2::s3::s4::s5::s6::s7::s8::s9::s10::s11::(.pointer (some ⟨xb,0,none⟩))::s13::s14::(.slice (some ⟨g1,0,none⟩) n c1)::(.slice (some ⟨g2,0,none⟩) n c2)::(.int .i64 ((i:Int)))::s18::s19::s20::s21::s22::s23::s24::s25::s26::s27::s28::s29::s30::s31::s32::s33::s34::s35::s36::s37::s38::s39::s40::s41::s42::s43::s44::s45::s46::s47::s48::s49::s50::s51::s52::s53::s54::s55::s56::s57::s58::s59::s60::s61::s62::s63::s64::s65::s66::s67::s68::s69::s70::s71::s72::s73::s74::s75::s76::s77::s78::s79::s80::s81::s82::s83::s84::s85::s86::s87::s88::s89::s90::s91::s92::s93::s94::s95::s96::s97::s98::s99::s100::s101::s102::s103::s104::s105::s106::s107::s108::s109::s110::s111::s112::s113::s114::s115::s116::s117::s118::s119::s120::[]),[]⟩ w:=by
 conv in (regionOf _ _)=>whnf
 unfold noQ
 have HK:=Lib.hid hk
 clear hk
 have LG:=Lib.hid (fun V=>rlog_any p V (by omega))
 refine wp_region_inv (by kernel_rfl) (say_r12_S xb g1 g2 n c1 c2 i p sz lb q R H0 w0 w s0 s1 s2 s3 s4 s5 s6 s7 s8 s9 s10 s11 s13 s14 s18 s19 s20 s21 s22 s23 s24 s25 s26 s27 s28 s29 s30 s31 s32 s33 s34 s35 s36 s37 s38 s39 s40 s41 s42 s43 s44 s45 s46 s47 s48 s49 s50 s51 s52 s53 s54 s55 s56 s57 s58 s59 s60 s61 s62 s63 s64 s65 s66 s67 s68 s69 s70 s71 s72 s73 s74 s75 s76 s77 s78 s79 s80 s81 s82 s83 s84 s85 s86 s87 s88 s89 s90 s91 s92 s93 s94 s95 s96 s97 s98 s99 s100 s101 s102 s103 s104 s105 s106 s107 s108 s109 s110 s111 s112 s113 s114 s115 s116 s117 s118 s119 s120) ?_ ?_ ?_
 ·exact ⟨false,false,false,false,false,false,false,false,false,false,false,false,false,false,false,s71,s72,s73,s74,s75,s76,s77,s78,s79,s80,s81,s82,s83,s84,s85,rfl,rfl,hM.drew,Lib.hid nofun,Lib.hid nofun,Lib.hid nofun,Lib.hid nofun,Lib.hid nofun,Lib.hid nofun,Lib.hid nofun,Lib.hid nofun,Lib.hid nofun,Lib.hid nofun,Lib.hid nofun,Lib.hid nofun,Lib.hid nofun,Lib.hid nofun,Lib.hid nofun⟩
 ·rintro listed a W ⟨b0,b1,b2,b3,b4,b5,b6,b7,b8,b9,b10,b11,b12,b13,b14,u71,u72,u73,u74,u75,u76,u77,u78,u79,u80,u81,u82,u83,u84,u85,rfl,rfl,HW,h0,h1,h2,h3,h4,h5,h6,h7,h8,h9,h10,h11,h12,h13,h14⟩ hr
  obtain rfl:b0=true:=by cases b0;exact (not_ready2 hr 0 _ rfl rfl (by simp [Region.binds])).elim;rfl
  obtain rfl:b1=true:=by cases b1;exact (not_ready2 hr 1 _ rfl rfl (by simp [Region.binds])).elim;rfl
  obtain rfl:b2=true:=by cases b2;exact (not_ready2 hr 2 _ rfl rfl (by simp [Region.binds])).elim;rfl
  obtain rfl:b3=true:=by cases b3;exact (not_ready2 hr 3 _ rfl rfl (by simp [Region.binds])).elim;rfl
  obtain rfl:b4=true:=by cases b4;exact (not_ready2 hr 4 _ rfl rfl (by simp [Region.binds])).elim;rfl
  obtain rfl:b5=true:=by cases b5;exact (not_ready2 hr 5 _ rfl rfl (by simp [Region.binds])).elim;rfl
  obtain rfl:b6=true:=by cases b6;exact (not_ready2 hr 6 _ rfl rfl (by simp [Region.binds])).elim;rfl
  obtain rfl:b7=true:=by cases b7;exact (not_ready2 hr 7 _ rfl rfl (by simp [Region.binds])).elim;rfl
  obtain rfl:b8=true:=by cases b8;exact (not_ready2 hr 8 _ rfl rfl (by simp [Region.binds])).elim;rfl
  obtain rfl:b9=true:=by cases b9;exact (not_ready2 hr 9 _ rfl rfl (by simp [Region.binds])).elim;rfl
  obtain rfl:b10=true:=by cases b10;exact (not_ready2 hr 10 _ rfl rfl (by simp [Region.binds])).elim;rfl
  obtain rfl:b11=true:=by cases b11;exact (not_ready2 hr 11 _ rfl rfl (by simp [Region.binds])).elim;rfl
  obtain rfl:b12=true:=by cases b12;exact (not_ready2 hr 12 _ rfl rfl (by simp [Region.binds])).elim;rfl
  obtain rfl:b13=true:=by cases b13;exact (not_ready2 hr 13 _ rfl rfl (by simp [Region.binds])).elim;rfl
  obtain rfl:b14=true:=by cases b14;exact (not_ready2 hr 14 _ rfl rfl (by simp [Region.binds])).elim;rfl
  exact HK.out u71 u72 u73 u74 u75 u76 u77 u78 u79 u80 u81 u82 u83 u84 u85 W HW (h14.out rfl)
 ·rintro listed a W i ⟨b0,b1,b2,b3,b4,b5,b6,b7,b8,b9,b10,b11,b12,b13,b14,u71,u72,u73,u74,u75,u76,u77,u78,u79,u80,u81,u82,u83,u84,u85,rfl,rfl,HW,h0,h1,h2,h3,h4,h5,h6,h7,h8,h9,h10,h11,h12,h13,h14⟩ hi
  obtain ⟨hi1,hi2,hi3⟩:=mem_ready hi
  clear hi
  have hi4:i=0∨i=1∨i=2∨i=3∨i=4∨i=5∨i=6∨i=7∨i=8∨i=9∨i=10∨i=11∨i=12∨i=13∨i=14:=by
   have:i<15:=hi1
   omega
  clear hi1
  rcases hi4 with rfl | rfl | rfl | rfl | rfl | rfl | rfl | rfl | rfl | rfl | rfl | rfl | rfl | rfl | rfl
  ·obtain rfl:b0=false:=hi2
   clear hi3
   refine wpOp_step rfl (fun K hK=>?_)
   go_simp
   refine hK _ _ ⟨true,_,_,_,_,_,_,_,_,_,_,_,_,_,_,(.slice (some ⟨g2,0,none⟩) n c2),_,_,_,_,_,_,_,_,_,_,_,_,_,_,rfl,rfl,HW,Lib.hid (fun _=>rfl),h1,h2,h3,h4,h5,h6,h7,h8,h9,h10,h11,h12,h13,h14⟩
  ·obtain rfl:b1=false:=hi2
   clear hi3
   refine wpOp_step rfl (fun K hK=>?_)
   go_simp
   refine hK _ _ ⟨_,true,_,_,_,_,_,_,_,_,_,_,_,_,_,_,(.int .i64 ((i:Int))),_,_,_,_,_,_,_,_,_,_,_,_,_,rfl,rfl,HW,h0,Lib.hid (fun _=>rfl),h2,h3,h4,h5,h6,h7,h8,h9,h10,h11,h12,h13,h14⟩
  ·obtain rfl:b2=false:=hi2
   obtain rfl:b0=true:=hi3 _ rfl ⟨0,.data⟩ (by simp) rfl
   obtain rfl:b1=true:=hi3 _ rfl ⟨1,.data⟩ (by simp) rfl
   obtain rfl:=h0.out rfl
   obtain rfl:=h1.out rfl
   clear hi3
   have e:(i:Int)<(n:Int):=by omega
   refine wpOp_step rfl (fun K hK=>?_)
   go_simp
   refine hK _ _ ⟨_,_,true,_,_,_,_,_,_,_,_,_,_,_,_,_,_,(.pointer (some ⟨g2,i,none⟩)),_,_,_,_,_,_,_,_,_,_,_,_,rfl,rfl,HW,h0,h1,Lib.hid (fun _=>rfl),h3,h4,h5,h6,h7,h8,h9,h10,h11,h12,h13,h14⟩
  ·obtain rfl:b3=false:=hi2
   obtain rfl:b2=true:=hi3 _ rfl ⟨2,.data⟩ (by simp) rfl
   obtain rfl:=h2.out rfl
   clear hi3
   have e:=(hS W HW.sat).2.2
   refine wpOp_step rfl (fun K hK=>?_)
   go_simp
   refine hK _ _ ⟨_,_,_,true,_,_,_,_,_,_,_,_,_,_,_,_,_,_,(.int .i64 ((sz:Int))),_,_,_,_,_,_,_,_,_,_,_,rfl,rfl,HW,h0,h1,h2,Lib.hid (fun _=>rfl),h4,h5,h6,h7,h8,h9,h10,h11,h12,h13,h14⟩
  ·obtain rfl:b4=false:=hi2
   clear hi3
   refine wpOp_step rfl (fun K hK=>?_)
   go_simp
   refine hK _ _ ⟨_,_,_,_,true,_,_,_,_,_,_,_,_,_,_,_,_,_,_,(.pointer (some ⟨xb,4,none⟩)),_,_,_,_,_,_,_,_,_,_,rfl,rfl,HW,h0,h1,h2,h3,Lib.hid (fun _=>rfl),h5,h6,h7,h8,h9,h10,h11,h12,h13,h14⟩
  ·obtain rfl:b5=false:=hi2
   obtain rfl:b4=true:=hi3 _ rfl ⟨4,.data⟩ (by simp) rfl
   obtain rfl:=h4.out rfl
   clear hi3
   have e:=(hS W HW.sat).1
   refine wpOp_step rfl (fun K hK=>?_)
   go_simp
   refine hK _ _ ⟨_,_,_,_,_,true,_,_,_,_,_,_,_,_,_,_,_,_,_,_,(.int .i64 ((lb:Int))),_,_,_,_,_,_,_,_,_,rfl,rfl,HW,h0,h1,h2,h3,h4,Lib.hid (fun _=>rfl),h6,h7,h8,h9,h10,h11,h12,h13,h14⟩
  ·obtain rfl:b6=false:=hi2
   clear hi3
   refine wpOp_step rfl (fun K hK=>?_)
   go_simp
   refine hK _ _ ⟨_,_,_,_,_,_,true,_,_,_,_,_,_,_,_,_,_,_,_,_,_,(.slice (some ⟨g1,0,none⟩) n c1),_,_,_,_,_,_,_,_,rfl,rfl,HW,h0,h1,h2,h3,h4,h5,Lib.hid (fun _=>rfl),h7,h8,h9,h10,h11,h12,h13,h14⟩
  ·obtain rfl:b7=false:=hi2
   clear hi3
   refine wpOp_step rfl (fun K hK=>?_)
   go_simp
   refine hK _ _ ⟨_,_,_,_,_,_,_,true,_,_,_,_,_,_,_,_,_,_,_,_,_,_,(.int .i64 ((i:Int))),_,_,_,_,_,_,_,rfl,rfl,HW,h0,h1,h2,h3,h4,h5,h6,Lib.hid (fun _=>rfl),h8,h9,h10,h11,h12,h13,h14⟩
  ·obtain rfl:b8=false:=hi2
   obtain rfl:b6=true:=hi3 _ rfl ⟨6,.data⟩ (by simp) rfl
   obtain rfl:b7=true:=hi3 _ rfl ⟨7,.data⟩ (by simp) rfl
   obtain rfl:=h6.out rfl
   obtain rfl:=h7.out rfl
   clear hi3
   have e:(i:Int)<(n:Int):=by omega
   refine wpOp_step rfl (fun K hK=>?_)
   go_simp
   refine hK _ _ ⟨_,_,_,_,_,_,_,_,true,_,_,_,_,_,_,_,_,_,_,_,_,_,_,(.pointer (some ⟨g1,i,none⟩)),_,_,_,_,_,_,rfl,rfl,HW,h0,h1,h2,h3,h4,h5,h6,h7,Lib.hid (fun _=>rfl),h9,h10,h11,h12,h13,h14⟩
  ·obtain rfl:b9=false:=hi2
   obtain rfl:b8=true:=hi3 _ rfl ⟨8,.data⟩ (by simp) rfl
   obtain rfl:=h8.out rfl
   clear hi3
   have e:=(hS W HW.sat).2.1
   refine wpOp_step rfl (fun K hK=>?_)
   go_simp
   refine hK _ _ ⟨_,_,_,_,_,_,_,_,_,true,_,_,_,_,_,_,_,_,_,_,_,_,_,_,(.int .i64 ((p:Int))),_,_,_,_,_,rfl,rfl,HW,h0,h1,h2,h3,h4,h5,h6,h7,h8,Lib.hid (fun _=>rfl),h10,h11,h12,h13,h14⟩
  ·obtain rfl:b10=false:=hi2
   obtain rfl:b9=true:=hi3 _ rfl ⟨9,.data⟩ (by simp) rfl
   obtain rfl:=h9.out rfl
   clear hi3
   refine wpOp_step rfl (fun K hK=>?_)
   go_simp
   go_at_call 85
   (with_reducible refine (LG.out _).mono ?_)
   rintro e w9 ⟨rfl,rfl⟩
   refine hK _ _ ⟨_,_,_,_,_,_,_,_,_,_,true,_,_,_,_,_,_,_,_,_,_,_,_,_,_,(.int .i64 (((p.log2:Nat):Int))),_,_,_,_,rfl,rfl,HW,h0,h1,h2,h3,h4,h5,h6,h7,h8,h9,Lib.hid (fun _=>rfl),h11,h12,h13,h14⟩
  ·obtain rfl:b11=false:=hi2
   obtain rfl:b5=true:=hi3 _ rfl ⟨5,.data⟩ (by simp) rfl
   obtain rfl:b10=true:=hi3 _ rfl ⟨10,.data⟩ (by simp) rfl
   obtain rfl:=h5.out rfl
   obtain rfl:=h10.out rfl
   clear hi3
   have e0:(lb:Int)+((p.log2:Nat):Int)=(q:Int):=by omega
   have e:IntKind.i64.wrap (q:Int)=(q:Int):=IntWalk.i64_in _ (by omega)
   refine wpOp_step rfl (fun K hK=>?_)
   go_simp
   refine hK _ _ ⟨_,_,_,_,_,_,_,_,_,_,_,true,_,_,_,_,_,_,_,_,_,_,_,_,_,_,(.int .i64 ((q:Int))),_,_,_,rfl,rfl,HW,h0,h1,h2,h3,h4,h5,h6,h7,h8,h9,h10,Lib.hid (fun _=>rfl),h12,h13,h14⟩
  ·obtain rfl:b12=false:=hi2
   obtain rfl:b11=true:=hi3 _ rfl ⟨11,.data⟩ (by simp) rfl
   obtain rfl:=h11.out rfl
   clear hi3
   have e1:IntKind.u64.wrap (q:Int)=(q:Int):=IntWalk.u64_in _ (by omega)
   refine wpOp_step rfl (fun K hK=>?_)
   go_simp
   refine hK _ _ ⟨_,_,_,_,_,_,_,_,_,_,_,_,true,_,_,_,_,_,_,_,_,_,_,_,_,_,_,(.int .u64 (q:Int)),_,_,rfl,rfl,HW,h0,h1,h2,h3,h4,h5,h6,h7,h8,h9,h10,h11,Lib.hid (fun _=>rfl),h13,h14⟩
  ·obtain rfl:b13=false:=hi2
   obtain rfl:b3=true:=hi3 _ rfl ⟨3,.data⟩ (by simp) rfl
   obtain rfl:b12=true:=hi3 _ rfl ⟨12,.data⟩ (by simp) rfl
   obtain rfl:=h3.out rfl
   obtain rfl:=h12.out rfl
   clear hi3
   have e1:min q 64=q:=by omega
   refine wpOp_step rfl (fun K hK=>?_)
   go_simp
   refine hK _ _ ⟨_,_,_,_,_,_,_,_,_,_,_,_,_,true,_,_,_,_,_,_,_,_,_,_,_,_,_,_,(.int .i64 ((sz:Int) / 2 ^ q)),_,rfl,rfl,HW,h0,h1,h2,h3,h4,h5,h6,h7,h8,h9,h10,h11,h12,Lib.hid (fun _=>rfl),h14⟩
  ·obtain rfl:b14=false:=hi2
   obtain rfl:b13=true:=hi3 _ rfl ⟨13,.data⟩ (by simp) rfl
   obtain rfl:=h13.out rfl
   clear hi3
   refine wpOp_step rfl (fun K hK=>?_)
   go_simp
   refine hK _ _ ⟨_,_,_,_,_,_,_,_,_,_,_,_,_,_,true,_,_,_,_,_,_,_,_,_,_,_,_,_,_,(.bool (decide ((0:Int)<(sz:Int) / 2 ^ q))),rfl,rfl,HW,h0,h1,h2,h3,h4,h5,h6,h7,h8,h9,h10,h11,h12,h13,Lib.hid (fun _=>rfl)⟩
end
section
open Go.RowKit
def SayS (xb g1 g2 n:Nat) (lb:Int) (L1 L2:List Int) (Y:List HB):Prop:=∀ i,i<n→∀ W,Sat W Y→W.cell? ⟨xb,4,none⟩=some (.int .i64 lb)∧W.cell? ⟨g1,i,none⟩=some (.int .i64 (L1.getD i 0))∧W.cell? ⟨g2,i,none⟩=some (.int .i64 (L2.getD i 0))
theorem say_bits (K:Act→World→Prop) (wb xb g1 g2 n c1 c2:Nat) (lb:Int) (bs:List Bool) (L1 L2:List Int) (HW Y H0:List HB) (w0 w:World) (s0 s2 s3 s4 s5 s6 s7 s8 s9 s10 s11 s13 s14 s17 s19 s20 s21 s22 s23 s24 s25 s26 s27 s28 s29 s30 s31 s32 s33 s34 s35 s36 s37 s38 s39 s40 s41 s42 s43 s44 s45 s46 s47 s48 s49 s50 s51 s52 s53 s54 s55 s56 s57 s58 s59 s60 s61 s62 s63 s64 s65 s66 s67 s68 s69 s70 s71 s72 s73 s74 s75 s76 s77 s78 s79 s80 s81 s82 s83 s84 s85 s86 s87 s88 s89 s90 s91 s92 s93 s94 s95 s96 s97 s98 s99 s100 s101 s102 s103 s104 s105 s106 s107 s108 s109 s110 s111 s112 s113 s114 s115 s116 s117 s118 s119 s120:Value) (hw:RWrB wb bs HW) (m:Mv w0 H0 w (HW++Y)) (hS:SayS xb g1 g2 n lb L1 L2 Y)
  (hp:∀ i,i<n→0≤L1.getD i 0∧L1.getD i 0≤1000) (hlb:0≤lb∧lb≤1000) (hn:n≤1000) (hbs:bs.length≤60000000)
  (hK:∀ (t94 t95 t96 t97 t98 t99 t100 t101 t102 t103 t104 t105 t106 t107 t108 t109 t110 t111 t112 t113:Value) (wx:World) (HW':List HB),RWrB wb (bs++bitsK L1 L2 lb n) HW'→Mv w0 H0 wx (HW'++Y)→K ⟨List.toArray (s0::(.pointer (some ⟨wb,0,none⟩))::s2::s3::s4::s5::s6::s7::s8::s9::s10::s11::(.pointer (some ⟨xb,0,none⟩))::s13::s14::(.slice (some ⟨g1,0,none⟩) n c1)::(.slice (some ⟨g2,0,none⟩) n c2)::s17::(.int .i64 (n:Int))::s19::s20::s21::s22::s23::s24::s25::s26::s27::s28::s29::s30::s31::s32::s33::s34::s35::s36::s37::s38::s39::s40::s41::s42::s43::s44::s45::s46::s47::s48::s49::s50::s51::s52::s53::s54::s55::s56::s57::s58::s59::s60::s61::s62::s63::s64::s65::s66::s67::s68::s69::s70::s71::s72::s73::s74::s75::s76::s77::s78::s79::s80::s81::s82::s83::s84::s85::s86::s87::s88::s89::s90::s91::s92::s93::t94::t95::t96::t97::t98::t99::t100::t101::t102::t103::t104::t105::t106::t107::t108::t109::t110::t111::t112::t113::s114::s115::s116::s117::s118::s119::s120::[]),[]⟩ wx) :
  (blockOf 6 Tryz.f38).wp Tryz.prog (Exit.then K noQ) ⟨List.toArray (s0::(.pointer (some ⟨wb,0,none⟩))::s2::s3::s4::s5::s6::s7::s8::s9::s10::s11::(.pointer (some ⟨xb,0,none⟩))::s13::s14::(.slice (some ⟨g1,0,none⟩) n c1)::(.slice (some ⟨g2,0,none⟩) n c2)::s17::(.int .i64 0)::s19::s20::s21::s22::s23::s24::s25::s26::s27::s28::s29::s30::s31::s32::s33::s34::s35::s36::s37::s38::s39::s40::s41::s42::s43::s44::s45::s46::s47::s48::s49::s50::s51::s52::s53::s54::s55::s56::s57::s58::s59::s60::s61::s62::s63::s64::s65::s66::s67::s68::s69::s70::s71::s72::s73::s74::s75::s76::s77::s78::s79::s80::s81::s82::s83::s84::s85::s86::s87::s88::s89::s90::s91::s92::s93::s94::s95::s96::s97::s98::s99::s100::s101::s102::s103::s104::s105::s106::s107::s108::s109::s110::s111::s112::s113::s114::s115::s116::s117::s118::s119::s120::[]),[]⟩ w:=by
 conv in (blockOf _ _)=>whnf
 unfold noQ
 have HK:=Lib.hid hK
 have K0:=Lib.hid (And.intro hw m)
 have HS:=Lib.hid (And.intro hS hp)
 clear hK hw m hS hp
 go_wp2_with fail
 go_loopg [18] n (fun mm s18 wx=>∃ (i:Nat) (HW':List YtjngfhgakokejaaGreat.HB),i≤n∧mm=n - i∧s18=.int .i64 (i:Int)∧RWrB wb (bs++bitsK L1 L2 lb i) HW'∧Mv w0 H0 wx (HW'++Y))
 case atStart=>exact ⟨0,HW,Nat.zero_le _,rfl,rfl,by rw [bitsK,List.append_nil];exact K0.out.1,K0.out.2⟩
 case round =>
  clear K0
  obtain ⟨i,HW1,hi,rfl,rfl,hw,m⟩:=hrel
  by_cases hlt:i<n
  ·have d1:decide ((i:Int)<(n:Int))=true:=by simp;omega
   have hS1:=HS.out.1 i hlt
   have hp1:=HS.out.2 i hlt
   have hbk:=bitsK_length L1 L2 lb i
   have hsu:Hid (bitsK L1 L2 lb (i+1)=bitsK L1 L2 lb i++bitsG (L2.getD i 0) (lb+((L1.getD i 0).toNat.log2:Int))):=Lib.hid rfl
   obtain ⟨p,hpe⟩:=Int.eq_ofNat_of_zero_le hp1.1
   rw [hpe] at hsu hS1 hp1
   rw [Int.toNat_natCast] at hsu
   have hll:=log_le (n:=p) (by omega)
   have KK:=Lib.hid (And.intro hS1 (And.intro hw m))
   clear hpe hS1 hw m
   go_upto_region 19 with fail
   refine wp_piece_end (say_r19 _ wb xb g1 g2 n c1 c2 i p (L2.getD i 0) lb (bs++bitsK L1 L2 lb i) HW1 Y H0 w0 _ _ _ _ _ _ _ _ _ _ _ _ _ _ _ _ _ _ _ _ _ _ _ _ _ _ _ _ _ _ _ _ _ _ _ _ _ _ _ _ _ _ _ _ _ _ _ _ _ _ _ _ _ _ _ _ _ _ _ _ _ _ _ _ _ _ _ _ _ _ _ _ _ _ _ _ _ _ _ _ _ _ _ _ _ _ _ _ _ _ _ _ _ _ _ _ _ _ _ _ _ _ _ _ _ _ _ _ _ _ _ _ _ _ _ _ _ hlt hn hlb ⟨by omega,by omega⟩ (by rw [List.length_append];omega) KK.out.2.1 KK.out.1 KK.out.2.2 ?_)
   rintro _ _ _ _ _ _ _ _ _ _ _ _ _ _ HB2 w2 ⟨m2,-⟩ r2
   have K2:=Lib.hid (And.intro r2 m2)
   clear m2 r2
   go_wp2_with fail
   go_roundg (n - (i+1))
   case measure=>omega
   case rel=>exact ⟨i+1,HB2,hlt,rfl,by push_cast;rfl,by rw [hsu.out,← List.append_assoc];exact K2.out.1,K2.out.2⟩
  ·obtain rfl:i=n:=by omega
   have d1:decide ((i:Int)<(i:Int))=false:=by simp
   have K2:=Lib.hid (And.intro hw m)
   clear hw m
   go_wp2_with fail
   exact HK.out _ _ _ _ _ _ _ _ _ _ _ _ _ _ _ _ _ _ _ _ _ _ K2.out.1 K2.out.2
end
section
open Go.RowKit
theorem log26 {n:Nat} (h:n≤100000000):n.log2≤26:=by
 by_cases h0:n=0
 ·subst h0;decide
 ·have:=(Nat.log2_lt h0 (k:=27)).2 (by have:(2:Nat) ^ 27=134217728:=rfl;omega)
  omega
theorem log9 {n:Nat} (h:n≤1000):n.log2≤9:=by
 by_cases h0:n=0
 ·subst h0;decide
 ·have:=(Nat.log2_lt h0 (k:=10)).2 (by have:(2:Nat) ^ 10=1024:=rfl;omega)
  omega
theorem need_bd (L1 L2:List Int) (lb:Int) (n:Nat) (h:∀ i,i<n→0≤L2.getD i 0∧L2.getD i 0≤100000000):∀ k,k≤n→lb≤needK L1 L2 lb k∧needK L1 L2 lb k≤max lb 27
 | 0,_=>⟨Int.le_refl _,by rw [needK];omega⟩
 | k+1,hk=>by
  have ih:=need_bd L1 L2 lb n h k (by omega)
  have h2:=h k (by omega)
  have h3:=log26 (n:=(L2.getD k 0).toNat) (by omega)
  rw [needK_succ]
  split <;> omega
theorem need_cond {sz p lbc lbi:Nat} {fin:Int} (hf:fin=if 0<(sz:Int) then max (lbi:Int) ((sz.log2:Int)+1 - (p.log2:Int)) else lbi) (h1:lbi≤lbc) (h2:(lbc:Int)≤fin):0<sz / 2 ^ (lbc+p.log2)↔(lbc:Int)<fin:=by
 by_cases hs:sz=0
 ·subst hs
  rw [if_neg (by decide)] at hf
  simp only [Nat.zero_div]
  omega
 ·rw [if_pos (by omega)] at hf
  have e:0<sz / 2 ^ (lbc+p.log2)↔lbc+p.log2≤sz.log2:=by
   rw [Nat.div_pos_iff]
   rw [Nat.le_log2 hs]
   have:0<2 ^ (lbc+p.log2):=Nat.pow_pos (by decide)
   omega
  rw [e]
  omega
def partX (xb:Nat) (pl said lb:Int) (vp vb:Value):HB:=⟨xb,85,#[.int .i64 pl,vp,vb,.int .i64 said,.int .i64 lb]⟩
theorem say_need (K:Act→World→Prop) (wb xb g1 g2 n c1 c2:Nat) (pl said lb:Int) (vp vb:Value) (bs:List Bool) (L1 L2:List Int) (HW Y H0:List HB) (w0 w:World) (s0 s2 s3 s4 s5 s6 s7 s8 s9 s10 s11 s13 s14 s18 s19 s20 s21 s22 s23 s24 s25 s26 s27 s28 s29 s30 s31 s32 s33 s34 s35 s36 s37 s38 s39 s40 s41 s42 s43 s44 s45 s46 s47 s48 s49 s50 s51 s52 s53 s54 s55 s56 s57 s58 s59 s60 s61 s62 s63 s64 s65 s66 s67 s68 s69 s70 s71 s72 s73 s74 s75 s76 s77 s78 s79 s80 s81 s82 s83 s84 s85 s86 s87 s88 s89 s90 s91 s92 s93 s94 s95 s96 s97 s98 s99 s100 s101 s102 s103 s104 s105 s106 s107 s108 s109 s110 s111 s112 s113 s114 s115 s116 s117 s118 s119 s120:Value) (hw:RWrB wb bs HW) (m:Mv w0 H0 w (HW++(partX xb pl said lb vp vb::Y)))
  (hR:∀ i,i<n→∀ W,Sat W Y→W.cell? ⟨g1,i,none⟩=some (.int .i64 (L1.getD i 0))∧W.cell? ⟨g2,i,none⟩=some (.int .i64 (L2.getD i 0)))
  (hp:∀ i,i<n→0≤L1.getD i 0∧L1.getD i 0≤1000) (hq:∀ i,i<n→0≤L2.getD i 0∧L2.getD i 0≤100000000) (hlb:0≤lb∧lb≤45) (hn:n≤1000) (hbs:bs.length≤60000000)
  (hK:∀ (t65 t66 t67 t68 t69 t70 t71 t72 t73 t74 t75 t76 t77 t78 t79 t80 t81 t82 t83 t84 t85 t86 t87 t88 t89 t90 t91:Value) (wx:World) (HW':List HB),RWrB wb (bs++List.replicate (needK L1 L2 lb n - lb).toNat true) HW'→Mv w0 H0 wx (HW'++(partX xb pl said (needK L1 L2 lb n) vp vb::Y))→K ⟨List.toArray (s0::(.pointer (some ⟨wb,0,none⟩))::s2::s3::s4::s5::s6::s7::s8::s9::s10::s11::(.pointer (some ⟨xb,0,none⟩))::s13::s14::(.slice (some ⟨g1,0,none⟩) n c1)::(.slice (some ⟨g2,0,none⟩) n c2)::(.int .i64 (n:Int))::s18::s19::s20::s21::s22::s23::s24::s25::s26::s27::s28::s29::s30::s31::s32::s33::s34::s35::s36::s37::s38::s39::s40::s41::s42::s43::s44::s45::s46::s47::s48::s49::s50::s51::s52::s53::s54::s55::s56::s57::s58::s59::s60::s61::s62::s63::s64::t65::t66::t67::t68::t69::t70::t71::t72::t73::t74::t75::t76::t77::t78::t79::t80::t81::t82::t83::t84::t85::t86::t87::t88::t89::t90::t91::s92::s93::s94::s95::s96::s97::s98::s99::s100::s101::s102::s103::s104::s105::s106::s107::s108::s109::s110::s111::s112::s113::s114::s115::s116::s117::s118::s119::s120::[]),[]⟩ wx) :
  (blockOf 2 Tryz.f38).wp Tryz.prog (Exit.then K noQ) ⟨List.toArray (s0::(.pointer (some ⟨wb,0,none⟩))::s2::s3::s4::s5::s6::s7::s8::s9::s10::s11::(.pointer (some ⟨xb,0,none⟩))::s13::s14::(.slice (some ⟨g1,0,none⟩) n c1)::(.slice (some ⟨g2,0,none⟩) n c2)::(.int .i64 0)::s18::s19::s20::s21::s22::s23::s24::s25::s26::s27::s28::s29::s30::s31::s32::s33::s34::s35::s36::s37::s38::s39::s40::s41::s42::s43::s44::s45::s46::s47::s48::s49::s50::s51::s52::s53::s54::s55::s56::s57::s58::s59::s60::s61::s62::s63::s64::s65::s66::s67::s68::s69::s70::s71::s72::s73::s74::s75::s76::s77::s78::s79::s80::s81::s82::s83::s84::s85::s86::s87::s88::s89::s90::s91::s92::s93::s94::s95::s96::s97::s98::s99::s100::s101::s102::s103::s104::s105::s106::s107::s108::s109::s110::s111::s112::s113::s114::s115::s116::s117::s118::s119::s120::[]),[]⟩ w:=by
 conv in (blockOf _ _)=>whnf
 unfold noQ
 have HK:=Lib.hid hK
 have K0:=Lib.hid (And.intro hw m)
 have HS:=Lib.hid (And.intro hR (And.intro hp hq))
 have BD:=Lib.hid (need_bd L1 L2 lb n hq)
 clear hK hw m hR hp hq
 go_wp2_with fail
 go_loopg [17] n (fun mm s17 wx=>∃ (i:Nat) (HW':List YtjngfhgakokejaaGreat.HB),i≤n∧mm=n - i∧s17=.int .i64 (i:Int)∧RWrB wb (bs++List.replicate (needK L1 L2 lb i - lb).toNat true) HW'∧Mv w0 H0 wx (HW'++(partX xb pl said (needK L1 L2 lb i) vp vb::Y)))
 case atStart=>exact ⟨0,HW,Nat.zero_le _,rfl,rfl,by rw [needK,Int.sub_self];simpa using K0.out.1,K0.out.2⟩
 case round =>
  clear K0
  obtain ⟨i,HW1,hi,rfl,rfl,hw,m⟩:=hrel
  by_cases hlt:i<n
  ·have d1:decide ((i:Int)<(n:Int))=true:=by simp;omega
   have hp1:=HS.out.2.1 i hlt
   have hq1:=HS.out.2.2 i hlt
   have hR1:=HS.out.1 i hlt
   have bd0:=BD.out i hi
   have bd1:=BD.out (i+1) hlt
   have hsu:=needK_succ L1 L2 lb i
   obtain ⟨p,hpe⟩:=Int.eq_ofNat_of_zero_le hp1.1
   obtain ⟨sz,hze⟩:=Int.eq_ofNat_of_zero_le hq1.1
   obtain ⟨lbi,hle⟩:=Int.eq_ofNat_of_zero_le (a:=needK L1 L2 lb i) (by omega)
   obtain ⟨fin,hfin⟩:∃ fin,needK L1 L2 lb (i+1)=fin:=⟨_,rfl⟩
   obtain ⟨l0,hl0⟩:=Int.eq_ofNat_of_zero_le hlb.1
   have HFI:=Lib.hid hfin
   rw [hpe,hze,hle,hfin] at hsu
   rw [hpe,hze] at hR1
   rw [hpe] at hp1
   rw [hze] at hq1
   rw [hle] at hw m bd0
   rw [hfin] at bd1
   simp only [Int.toNat_natCast] at hsu
   have HF:=Lib.hid hsu
   have KK:=Lib.hid (And.intro hR1 (And.intro hw m))
   have hp9:=log9 (n:=p) (by omega)
   have B0:=Lib.hid bd0
   have B1:=Lib.hid bd1
   have hpb:p≤1000:=by omega
   clear hsu hR1 hw m hfin hpe hze hle hp1 hq1 bd0 bd1
   go_wp2_with fail
   go_loopg [] (fin.toNat - lbi) (fun mm wx=>∃ (lbc:Nat) (HW':List YtjngfhgakokejaaGreat.HB),lbi≤lbc∧(lbc:Int)≤fin∧mm=fin.toNat - lbc∧RWrB wb (bs++List.replicate ((lbc:Int) - lb).toNat true) HW'∧Mv w0 H0 wx (HW'++(partX xb pl said lbc vp vb::Y)))
   case atStart=>exact ⟨lbi,HW1,Nat.le_refl _,(by rw [HF.out];split <;> omega),rfl,KK.out.2.1,KK.out.2.2⟩
   case round =>
    obtain ⟨lbc,HW2,h1,h2,rfl,hw,m⟩:=hrel
    have NC:=Lib.hid (need_cond HF.out h1 h2)
    have hlq:lbc+p.log2≤60:=by have:=B1.out;omega
    have hSx:∀ W,Sat W (HW2++(partX xb pl said lbc vp vb::Y))→W.cell? ⟨xb,4,none⟩=some (.int .i64 (lbc:Int))∧W.cell? ⟨g1,i,none⟩=some (.int .i64 (p:Int))∧W.cell? ⟨g2,i,none⟩=some (.int .i64 (sz:Int)):=fun W h=>⟨(h.right.at_ 0 rfl).cell 4,KK.out.1 W (Sat.right (A:=[_]) h.right)⟩
    obtain ⟨q,hq⟩:∃ q,lbc+p.log2=q:=⟨_,rfl⟩
    rw [hq] at NC hlq
    have K2:=Lib.hid (And.intro hw m)
    go_upto_region 12 with fail
    refine wp_piece (say_r12 _ xb g1 g2 n c1 c2 i p sz lbc q (HW2++(partX xb pl said lbc vp vb::Y)) H0 w0 _ _ _ _ _ _ _ _ _ _ _ _ _ _ _ _ _ _ _ _ _ _ _ _ _ _ _ _ _ _ _ _ _ _ _ _ _ _ _ _ _ _ _ _ _ _ _ _ _ _ _ _ _ _ _ _ _ _ _ _ _ _ _ _ _ _ _ _ _ _ _ _ _ _ _ _ _ _ _ _ _ _ _ _ _ _ _ _ _ _ _ _ _ _ _ _ _ _ _ _ _ _ _ _ _ _ _ _ _ _ _ _ _ _ _ _ _ _ hlt hn (by omega) hq hlq hSx K2.out.2 ?_)
    rintro _ _ _ _ _ _ _ _ _ _ _ _ _ _ _ w2 m2 hu
    have hlc:lbc≤60:=by omega
    have M2:Mv w0 H0 w2 (partX xb pl said lbc vp vb::(HW2++Y)):=m2.sub (fun g=>by simp only [cnt_append,cnt_cons];omega) (fun c hc=>by simp only [List.mem_append,List.mem_cons] at hc ⊢;grind)
    have K3:=Lib.hid (And.intro K2.out.1 m2)
    have KM:=Lib.hid M2
    by_cases hc:(lbc:Int)<fin
    ·rw [div_pos_dec (NC.out.2 hc)] at hu
     subst hu
     have y4:w2.cell? ⟨xb,4,none⟩=some (.int .i64 (lbc:Int)):=M2.cell 0 rfl 4
     have f4:w2.frozen? ⟨xb,4,none⟩=false:=M2.frozen 0 rfl 4
     have M3:=Lib.hid (M2.set 4 (.int .i64 ((lbc:Int)+1)))
     clear m2 M2 hSx hq hlq
     go_upto_region 14 with fail
     generalize w2.setCell ⟨xb,4,none⟩ (.int .i64 ((lbc:Int)+1))=w3 at *
     have M4:Mv w0 H0 w3 (HW2++(partX xb pl said ((lbc+1:Nat):Int) vp vb::Y)):=M3.out.sub (fun g=>by simp only [cnt_append,cnt_cons,partX];omega) (fun c hc=>by simp only [List.mem_append,List.mem_cons] at hc ⊢;rcases hc with h | h | h;exact .inr (.inl h);exact .inl (by rw [h];rfl);exact .inr (.inr h))
     have BT:=Lib.hid (rbit_bs wb (bs++List.replicate ((lbc:Int) - lb).toNat true) 1 w3 HW2 K3.out.1 M4.sat.left (by rw [List.length_append,List.length_replicate];omega))
     have K4:=Lib.hid M4
     clear M4 y4 f4
     go_wp2_with (go_at_call 35;refine BT.out.mono ?_;rintro e w4 ⟨rfl,HW4,r4,m4⟩;have K5:=Lib.hid (And.intro r4 (Mv.call K4.out m4));clear r4 m4)
     go_roundg (fin.toNat - (lbc+1))
     case measure=>omega
     case rel =>
      refine ⟨lbc+1,HW4,by omega,by push_cast;omega,rfl,?_,K5.out.2⟩
      have e:(((lbc+1:Nat):Int) - lb).toNat=((lbc:Int) - lb).toNat+1:=by have:=B0.out.1;omega
      rw [e,List.replicate_succ',← List.append_assoc]
      exact K5.out.1
    ·rw [div_not_dec (fun h=>hc (NC.out.1 h))] at hu
     subst hu
     have ef:(lbc:Int)=fin:=by omega
     have EF:=Lib.hid ef
     clear m2 M2 hSx hq hlq ef
     go_wp2_with fail
     go_roundg (n - (i+1))
     case measure=>omega
     case rel=>exact ⟨i+1,HW2,hlt,rfl,by push_cast;rfl,by rw [HFI.out,← EF.out];exact K3.out.1,by rw [HFI.out,← EF.out];exact K3.out.2⟩
  ·obtain rfl:i=n:=by omega
   have d1:decide ((i:Int)<(i:Int))=false:=by simp
   have K2:=Lib.hid (And.intro hw m)
   clear hw m
   go_wp2_with fail
   exact HK.out _ _ _ _ _ _ _ _ _ _ _ _ _ _ _ _ _ _ _ _ _ _ _ _ _ _ _ _ _ K2.out.1 K2.out.2
end
section
open Go.RowKit
theorem zerosE_good {T:List LevM} {n k:Nat} (hk:k<n) (h:EncGood T n):∀ i,EncGood (zerosE T k i).1 n
 | 0=>h
 | i+1=>encAt_good _ hk (zerosE_good hk h i)
theorem say_zeros (K:Act→World→Prop) (bb tu wb k n z:Nat) (T T1:List LevM) (fr:Bool) (bs:List Bool) (HU HW Y H0:List HB) (w0 w:World) (s3 s4 s5 s6 s7 s8 s9 s10 s11 s12 s15 s16 s17 s18 s19 s20 s21 s22 s23 s24 s25 s26 s27 s28 s29 s30 s31 s32 s33 s34 s35 s36 s37 s38 s39 s40 s41 s42 s43 s44 s45 s46 s47 s48 s49 s50 s51 s52 s53 s54 s55 s56 s57 s58 s59 s60 s61 s62 s63 s64 s65 s66 s67 s68 s69 s70 s71 s72 s73 s74 s75 s76 s77 s78 s79 s80 s81 s82 s83 s84 s85 s86 s87 s88 s89 s90 s91 s92 s93 s94 s95 s96 s97 s98 s99 s100 s101 s102 s103 s104 s105 s106 s107 s108 s109 s110 s111 s112 s113 s114 s115 s116 s117 s118 s119 s120:Value) (hT1:(if fr=true then T else fillT T)=T1) (hu:RTreeH tu T fr HU) (hw:RWrB wb bs HW) (m:Mv w0 H0 w (HU++(HW++Y)))
  (hY:∀ W,Sat W Y→W.cell? ⟨bb,3,none⟩=some (.pointer (some ⟨tu,0,none⟩))) (hg:EncGood T1 n) (hk:k<n) (hz:z≤60) (hbs:bs.length≤40000000)
  (hK:∀ (t36 t37 t38 t39 t40 t41 t42 t43 t44 t45 t46 t47 t48 t49:Value) (wx:World) (HU' HW':List HB),RTreeH tu (zerosE T1 k (z+1)).1 true HU'→RWrB wb (bs++(zerosE T1 k (z+1)).2) HW'→Mv w0 H0 wx (HU'++(HW'++Y))→K ⟨List.toArray ((.pointer (some ⟨bb,0,none⟩))::(.pointer (some ⟨wb,0,none⟩))::(.int .i64 (k:Int))::s3::s4::s5::s6::s7::s8::s9::s10::s11::s12::(.int .i64 (z:Int))::(.int .i64 ((z:Int)+2))::s15::s16::s17::s18::s19::s20::s21::s22::s23::s24::s25::s26::s27::s28::s29::s30::s31::s32::s33::s34::s35::t36::t37::t38::t39::t40::t41::t42::t43::t44::t45::t46::t47::t48::t49::s50::s51::s52::s53::s54::s55::s56::s57::s58::s59::s60::s61::s62::s63::s64::s65::s66::s67::s68::s69::s70::s71::s72::s73::s74::s75::s76::s77::s78::s79::s80::s81::s82::s83::s84::s85::s86::s87::s88::s89::s90::s91::s92::s93::s94::s95::s96::s97::s98::s99::s100::s101::s102::s103::s104::s105::s106::s107::s108::s109::s110::s111::s112::s113::s114::s115::s116::s117::s118::s119::s120::[]),[]⟩ wx) :
  (blockOf 0 Tryz.f38).wp Tryz.prog (Exit.then K noQ) ⟨List.toArray ((.pointer (some ⟨bb,0,none⟩))::(.pointer (some ⟨wb,0,none⟩))::(.int .i64 (k:Int))::s3::s4::s5::s6::s7::s8::s9::s10::s11::s12::(.int .i64 (z:Int))::(.int .i64 1)::s15::s16::s17::s18::s19::s20::s21::s22::s23::s24::s25::s26::s27::s28::s29::s30::s31::s32::s33::s34::s35::s36::s37::s38::s39::s40::s41::s42::s43::s44::s45::s46::s47::s48::s49::s50::s51::s52::s53::s54::s55::s56::s57::s58::s59::s60::s61::s62::s63::s64::s65::s66::s67::s68::s69::s70::s71::s72::s73::s74::s75::s76::s77::s78::s79::s80::s81::s82::s83::s84::s85::s86::s87::s88::s89::s90::s91::s92::s93::s94::s95::s96::s97::s98::s99::s100::s101::s102::s103::s104::s105::s106::s107::s108::s109::s110::s111::s112::s113::s114::s115::s116::s117::s118::s119::s120::[]),[]⟩ w:=by
 conv in (blockOf _ _)=>whnf
 unfold noQ
 have HK:=Lib.hid hK
 have K0:=Lib.hid (And.intro hu (And.intro hw m))
 have HG:=Lib.hid (And.intro hT1 (And.intro hY (zerosE_good hk hg)))
 have HT20:Hid (T1.length≤20):=Lib.hid hg.1.2.2.2.2
 clear hK hu hw m hT1 hY hg
 go_wp2_with fail
 go_loopg [14] (z+1) (fun mm s14 wx=>∃ (i:Nat) (T':List LevM) (fr':Bool) (HU' HW':List YtjngfhgakokejaaGreat.HB),i≤z+1∧mm=z+1 - i∧s14=.int .i64 ((i:Int)+1)∧(if fr'=true then T' else fillT T')=(zerosE T1 k i).1∧(0<i→fr'=true)∧RTreeH tu T' fr' HU'∧RWrB wb (bs++(zerosE T1 k i).2) HW'∧Mv w0 H0 wx (HU'++(HW'++Y)))
 case atStart=>exact ⟨0,T,fr,HU,HW,Nat.zero_le _,rfl,rfl,HG.out.1,(fun h=>absurd h (by omega)),K0.out.1,by rw [zerosE,List.append_nil];exact K0.out.2.1,K0.out.2.2⟩
 case round =>
  clear K0
  obtain ⟨i,T',fr',HU1,HW1,hi,rfl,rfl,hT',hf,hu,hw,m⟩:=hrel
  have c3:=HG.out.2.1 wr m.sat.right.right
  by_cases hlt:i≤z
  ·have d1:decide ((i:Int)+1≤(z:Int)+1)=true:=by simp;omega
   have d2:decide ((i:Int)≤(z:Int))=true:=by simp;omega
   have hzl:=(zerosE_length T1 k HT20.out i (by omega)).2
   have M1:Mv w0 H0 wr ((HU1++HW1)++Y):=by rw [List.append_assoc];exact m
   have EN:=Lib.hid (rtree_at tu wb T' fr' HU1 HW1 (bs++(zerosE T1 k i).2) wr n k ((i:Int)+1) (zerosE T1 k i).1 hT' hu hw M1.sat.left (HG.out.2.2 i) hk (by omega) (by rw [List.length_append];omega))
   have hsu:Hid (zerosE T1 k (i+1)=((encAt (zerosE T1 k i).1 k ((i:Int)+1)).1,(zerosE T1 k i).2++(encAt (zerosE T1 k i).1 k ((i:Int)+1)).2)):=Lib.hid (by rw [zerosE];simp only [Int.natCast_add,Int.cast_ofNat_Int])
   have KM:=Lib.hid M1
   clear hT' hf hu hw m M1 hzl
   go_wp2_with (go_at_call 37;refine EN.out.mono ?_;rintro e w2 ⟨rfl,HU2,HW2,r1,r2,m2⟩;have K2:=Lib.hid (And.intro r1 (And.intro r2 (Mv.call KM.out m2)));clear r1 r2 m2)
   go_roundg (z+1 - (i+1))
   case measure=>omega
   case rel=>exact ⟨i+1,(encAt (zerosE T1 k i).1 k ((i:Int)+1)).1,true,HU2,HW2,by omega,rfl,by push_cast;rfl,by rw [hsu.out];rfl,fun _=>rfl,K2.out.1,by rw [hsu.out,← List.append_assoc];exact K2.out.2.1,by rw [← List.append_assoc];exact K2.out.2.2⟩
  ·obtain rfl:i=z+1:=by omega
   have d1:decide (((z+1:Nat):Int)+1≤(z:Int)+1)=false:=by simp;omega
   have hfr:=hf (by omega)
   subst hfr
   rw [if_pos rfl] at hT'
   subst hT'
   have K2:=Lib.hid (And.intro hu (And.intro hw m))
   clear hu hw m hlt hf hi
   go_wp2_with fail
   exact HK.out _ _ _ _ _ _ _ _ _ _ _ _ _ _ _ _ _ K2.out.1 K2.out.2.1 K2.out.2.2
end
section
open Go.RowKit
theorem say_r20 (K:Act→World→Prop) (bb xb lg lc n k:Nat) (pl said lb:Int) (va:Option Addr) (vn vc:Nat) (ua:Option Addr) (un uc:Nat) (w:World) (s1 s3 s4 s5 s6 s7 s8 s9 s10 s11 s13 s14 s15 s16 s17 s18 s19 s20 s21 s22 s23 s24 s25 s26 s27 s28 s29 s30 s31 s32 s33 s34 s35 s36 s37 s38 s39 s40 s41 s42 s43 s44 s45 s46 s47 s48 s49 s50 s51 s52 s53 s54 s55 s56 s57 s58 s59 s60 s61 s62 s63 s64 s65 s66 s67 s68 s69 s70 s71 s72 s73 s74 s75 s76 s77 s78 s79 s80 s81 s82 s83 s84 s85 s86 s87 s88 s89 s90 s91 s92 s93 s94 s95 s96 s97 s98 s99 s100 s101 s102 s103 s104 s105 s106 s107 s108 s109 s110 s111 s112 s113 s114 s115 s116 s117 s118 s119 s120:Value)
  (c1:w.cell? ⟨bb,1,none⟩=some (.slice (some ⟨lg,0,none⟩) n lc)) (x0:w.cell? ⟨xb,0,none⟩=some (.int .i64 pl)) (x1:w.cell? ⟨xb,1,none⟩=some (.slice va vn vc)) (x2:w.cell? ⟨xb,2,none⟩=some (.slice ua un uc)) (x3:w.cell? ⟨xb,3,none⟩=some (.int .i64 said)) (x4:w.cell? ⟨xb,4,none⟩=some (.int .i64 lb))
  (f0:w.frozen? ⟨lg,k * 5,none⟩=false) (f1:w.frozen? ⟨lg,k * 5+1,none⟩=false) (f2:w.frozen? ⟨lg,k * 5+2,none⟩=false) (f3:w.frozen? ⟨lg,k * 5+3,none⟩=false) (f4:w.frozen? ⟨lg,k * 5+4,none⟩=false)
  (y0:∃ v,w.cell? ⟨lg,k * 5,none⟩=some v) (y1:∃ v,w.cell? ⟨lg,k * 5+1,none⟩=some v) (y2:∃ v,w.cell? ⟨lg,k * 5+2,none⟩=some v) (y3:∃ v,w.cell? ⟨lg,k * 5+3,none⟩=some v) (y4:∃ v,w.cell? ⟨lg,k * 5+4,none⟩=some v)
  (hk:k<n) (hn:n≤1000)
  (hK:∀ (t114 t115 t116 t117 t118 t119 t120:Value),K ⟨List.toArray ((.pointer (some ⟨bb,0,none⟩))::s1::(.int .i64 (k:Int))::s3::s4::s5::s6::s7::s8::s9::s10::s11::(.pointer (some ⟨xb,0,none⟩))::s13::s14::s15::s16::s17::s18::s19::s20::s21::s22::s23::s24::s25::s26::s27::s28::s29::s30::s31::s32::s33::s34::s35::s36::s37::s38::s39::s40::s41::s42::s43::s44::s45::s46::s47::s48::s49::s50::s51::s52::s53::s54::s55::s56::s57::s58::s59::s60::s61::s62::s63::s64::s65::s66::s67::s68::s69::s70::s71::s72::s73::s74::s75::s76::s77::s78::s79::s80::s81::s82::s83::s84::s85::s86::s87::s88::s89::s90::s91::s92::s93::s94::s95::s96::s97::s98::s99::s100::s101::s102::s103::s104::s105::s106::s107::s108::s109::s110::s111::s112::s113::t114::t115::t116::t117::t118::t119::t120::[]),[]⟩ (((((w.setCell ⟨lg,k * 5,none⟩ (.int .i64 pl)).setCell ⟨lg,k * 5+1,none⟩ (.slice va vn vc)).setCell ⟨lg,k * 5+2,none⟩ (.slice ua un uc)).setCell ⟨lg,k * 5+3,none⟩ (.int .i64 said)).setCell ⟨lg,k * 5+4,none⟩ (.int .i64 lb)).drew) :
  (regionOf 20 Tryz.f38).wp Tryz.prog (Exit.then K noQ) ⟨List.toArray ((.pointer (some ⟨bb,0,none⟩))::s1::(.int .i64 (k:Int))::s3::s4::s5::s6::s7::s8::s9::s10::s11::(.pointer (some ⟨xb,0,none⟩))::s13::s14::s15::s16::s17::s18::s19::s20::s21::s22::s23::s24::s25::s26::s27::s28::s29::s30::s31::s32::s33::s34::s35::s36::s37::s38::s39::s40::s41::s42::s43::s44::s45::s46::s47::s48::s49::s50::s51::s52::s53::s54::s55::s56::s57::s58::s59::s60::s61::s62::s63::s64::s65::s66::s67::s68::s69::s70::s71::s72::s73::s74::s75::s76::s77::s78::s79::s80::s81::s82::s83::s84::s85::s86::s87::s88::s89::s90::s91::s92::s93::s94::s95::s96::s97::s98::s99::s100::s101::s102::s103::s104::s105::s106::s107::s108::s109::s110::s111::s112::s113::s114::s115::s116::s117::s118::s119::s120::[]),[]⟩ w:=by
 conv in (regionOf _ _)=>whnf
 unfold noQ
 have HK:=Lib.hid hK
 clear hK
 obtain ⟨v0,y0⟩:=y0
 obtain ⟨v1,y1⟩:=y1
 obtain ⟨v2,y2⟩:=y2
 obtain ⟨v3,y3⟩:=y3
 obtain ⟨v4,y4⟩:=y4
 have hkn:(k:Int)<(n:Int):=by omega
 have hk5:k * 5<100000:=by omega
 go_still_tail 7,(by kernel_rfl)
 go_wp2_with fail
 exact HK.out _ _ _ _ _ _ _
end
end Go.Proofs.YtjngfhgakokejaaGreat
