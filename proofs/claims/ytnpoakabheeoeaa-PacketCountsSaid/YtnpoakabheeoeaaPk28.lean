/- PacketCounts: a packet of one band with one block; written, and read into another. PacketCounts: its region 13, whatever its order. PacketCounts: its region 15, whatever its order. PacketCounts: the kernel's evaluations. -/
import Derived.Test.YtnpoakabheeoeaaPk27
import Derived.Test.YtnpoakabheeoeaaPk15
import Derived.Laws.BytesArg
set_option maxRecDepth 100000
namespace Go.Proofs.Ytnpoakabheeoeaa
section
open Go.RowKit
theorem ren_one (d : BandA) (hn : d.n = 1) : Ren [d] (fun _ => d0) := ⟨fun e he => by rw [List.mem_singleton.1 he]; exact hn.symm,fun e he e' he' => by rw [List.mem_singleton.1 he,List.mem_singleton.1 he']; exact ⟨fun _ => rfl,fun _ => rfl⟩⟩
theorem lock_one (d : BandA) (a : BandM) : Lock [d] (fun _ => d0) (fun _ => a) (fun _ => a) := fun _ _ => rfl
theorem list_one (g bb lb n : Nat) : ListH (.slice (some ⟨g,0,none⟩) 1 1) [⟨bb,lb,n⟩] [listB g bb] := RowH.new (size := 1) _ g 1 #[.pointer (some ⟨bb,0,none⟩)] rfl (by decide)
theorem spots_one (d : BandA) (hn : d.n = 1) : (spotsOf [d]).length ≤ 200 := by
 simp [spotsOf,spotsB,hn]
theorem bands_one {d : BandA} {M : Nat → BandM} {H : List HB} (h : BandsR [d] M H) : BandR d (M d.bb) H := by
 obtain ⟨H1,H2,rfl,h1,rfl⟩ := h
 simpa using h1
theorem enc_d (d : BandA) (a : BandM) (HA : List HB) (g o k : Nat) (W : World) (hn : d.n = 1) (hB : BandR d a HA) (hs : Sat W (listB g d.bb :: HA)) (ho : o ≤ 100) (hk : k ≤ 100) (hg : GoodB a) :
  Calls Try.prog 11 #[.slice (some ⟨g,0,none⟩) 1 1,.int .i64 0,.int .i64 (o : Int),.int .i64 (k : Int)] W fun e W' => ∃ v1 v2 H1 H2 HA',e = .returned (.tuple #[v1,v2]) ∧ RowB v1 (wout (wbits (pkA o k a).bits)) H1 ∧ RowB v2 (pkA o k a).body H2 ∧
   BandR d ((pkA o k a).M 0) HA' ∧ Mv W (listB g d.bb :: HA) W' (H1 ++ (H2 ++ (listB g d.bb :: HA'))) := by
 have E := enc_any (some ⟨g,0,none⟩) 1 [d] (fun _ => a) 0 k o [listB g d.bb] HA W (by simp) (list_one g d.bb d.lb d.n) ⟨HA,[],by simp,hB,rfl⟩ hs (by omega) hk (by decide) (spots_one d hn) (fun _ _ => hg)
 have L := encS_ren (ren_one d hn) o 0 k (lock_one d a)
 refine E.mono ?_
 rintro e w' ⟨v1,v2,H1,H2,HB',rfl,r1,r2,r3,m⟩
 have e1 : (pkA o k a).bits = (encS o 0 k [d] fun _ => a).bits := L.bits
 have e2 : (pkA o k a).body = (encS o 0 k [d] fun _ => a).body := L.body
 have e3 : (pkA o k a).M 0 = (encS o 0 k [d] fun _ => a).M d.bb := L.M d List.mem_cons_self
 refine ⟨v1,v2,H1,H2,HB',rfl,by rw [e1]; exact r1,by rw [e2]; exact r2,by rw [e3]; exact bands_one r3,m⟩
theorem dec_d (d : BandA) (a b : BandM) (HBb : List HB) (g o k p vg n vc : Nat) (HV : List HB) (W : World) (hn : d.n = 1) (hB : BandR d b HBb) (hs : Sat W (HV ++ (listB g d.bb :: HBb))) (hv : RowB (.slice (some ⟨vg,0,none⟩) n vc) (pkB o k a) HV) (hk : k ≤ 100) (hc : CkR p o k a b) :
  Calls Try.prog 18 #[.slice (some ⟨g,0,none⟩) 1 1,.int .i64 0,.int .i64 (k : Int),.slice (some ⟨vg,0,none⟩) n vc,.bool false] W fun e w' => e = .returned (.tuple #[.int .i64 (n : Int),.int .i64 0]) ∧
   ∃ HB',BandR d ((pkD o k a b).2.2 0) HB' ∧ Mv W ((listB g d.bb :: HBb) ++ HV) w' (HV ++ (listB g d.bb :: HB')) := by
 have hnl : (pkB o k a).length = n := (hv.len).symm
 have L := decodeF_ren (ren_one d hn) (pkB o k a) 0 k (lock_one d b)
 have D := decode_f (some ⟨g,0,none⟩) 1 vg n vc [d] (fun _ => b) 0 k (pkB o k a) HV [listB g d.bb] HBb W (by simp) (list_one g d.bb d.lb d.n) ⟨HBb,[],by simp,hB,rfl⟩ hs hv hc.l2 hk (by decide) (spots_one d hn) (fun _ _ => hc.gb) (decodeOk_ren (ren_one d hn) _ 0 k (lock_one d b) hc.ok)
 refine D.mono ?_
 rintro e w' ⟨rfl,h⟩
 have e0 : (decodeF (pkB o k a) 0 k [d] fun _ => b).2.1 = 0 := L.2.1.symm.trans hc.e0
 have e1 : (decodeF (pkB o k a) 0 k [d] fun _ => b).1 = n := (L.1.symm.trans hc.e1).trans hnl
 have e2 : (pkD o k a b).2.2 0 = (decodeF (pkB o k a) 0 k [d] fun _ => b).2.2 d.bb := L.2.2 d List.mem_cons_self
 rw [if_pos e0] at h
 obtain ⟨HB',h1,h2⟩ := h
 refine ⟨by rw [e0,e1]; rfl,HB',by rw [e2]; exact bands_one h1,h2⟩
end
section
open Go.RowKit
inductive cnt_r13_S (bb pp oo k n1 n2 c1 c2 tt qq : Nat) (a1 a2 : Option Addr) (pl2 : Int) (HH H0 : List Ytnpoakabheeoeaa.HB) (w0 : World) (w : World) (s0 s2 s3 s4 s6 s7 s8 s15 s16 s17 s18 s19 s20 s21 s22 s23 s24 s25 s26 s27 s28 s29 s30 s31 s32 s33 s34 s35 s36 s37 s38 s39 s40 s41 s42 s43 s44 s45 s46 s47 s48 s49 s50 s51 s52 s53 s54 s55 s56 s57 s58 s59 s60 s61 s62 s63 s64 s65 s66 s67 s68 s69 s70 s71 s72 s73 s74 s75 s76 s77 s78 s79 s80 s81 s82 s83 s84 s85 s86 s87 s88 s89 s90 s91 s92 s93 s94 s95 s96 s97 s98 s99 s100 s101 s102 s103 : Value) (listed : Array Bool) (a : Act) (W : World) : Prop
 | mk (b0 b1 b2 b3 b4 b5 b6 b7 b8 b9 b10 b11 b12 b13 b14 b15 b16 b17 b18 b19 b20 b21 b22 b23 b24 b25 : Bool) (u63 u64 u65 u66 u67 u68 u69 u70 u71 u72 u73 u74 u75 u76 u77 u78 u79 u80 u81 u82 u83 u84 u85 u86 u87 u88 : Value) (xa : Option Addr) (xc : Nat) (xv : Value) (hl : listed = #[b0,b1,b2,b3,b4,b5,b6,b7,b8,b9,b10,b11,b12,b13,b14,b15,b16,b17,b18,b19,b20,b21,b22,b23,b24,b25]) (ha : a = ⟨List.toArray (s0::(.int .i64 (oo : Int))::s2::s3::s4::(.int .i64 (pp : Int))::s6::s7::s8::(.pointer (some ⟨bb,0,none⟩))::(.int .i64 (k : Int))::(.slice a1 n1 c1)::(.slice a2 n2 c2)::(.int .i64 ((n1 : Int) + (n2 : Int)))::(.int .i64 (0))::s15::s16::s17::s18::s19::s20::s21::s22::s23::s24::s25::s26::s27::s28::s29::s30::s31::s32::s33::s34::s35::s36::s37::s38::s39::s40::s41::s42::s43::s44::s45::s46::s47::s48::s49::s50::s51::s52::s53::s54::s55::s56::s57::s58::s59::s60::s61::s62::u63::u64::u65::u66::u67::u68::u69::u70::u71::u72::u73::u74::u75::u76::u77::u78::u79::u80::u81::u82::u83::u84::u85::u86::u87::u88::s89::s90::s91::s92::s93::s94::s95::s96::s97::s98::s99::s100::s101::s102::s103::[]),[]⟩) (HW : (Mv w0 H0 W HH ∧ (b13 = false → W = w.drew) ∧ (b14 = true → b13 = true))) (h0 : Hid (b0 = true → u63 = .int .i64 (0))) (h1 : Hid (b1 = true → u64 = .bool false)) (h2 : Hid (b2 = true → u65 = .bool false)) (h3 : Hid (b3 = true → u66 = .int .i64 ((n1 : Int) + (n2 : Int)))) (h4 : Hid (b4 = true → u67 = .slice a1 n1 c1)) (h5 : Hid (b5 = true → u68 = .int .i64 (n1 : Int))) (h6 : Hid (b6 = true → u69 = .slice a2 n2 c2)) (h7 : Hid (b7 = true → u70 = .int .i64 (n2 : Int))) (h8 : Hid (b8 = true → u71 = .int .i64 ((n1 : Int) + (n2 : Int)))) (h9 : Hid (b9 = true → u72 = .bool false)) (h10 : Hid (b10 = true → u73 = .bool false)) (h11 : Hid (b11 = true → u74 = .bool false)) (h12 : Hid (b12 = true → u75 = .pointer (some ⟨bb,0,none⟩))) (h13 : Hid (b13 = true → u76 = .agg #[.int .i64 pl2,.slice xa qq xc,xv])) (h14 : Hid (b14 = true → u77 = .slice xa qq xc)) (h15 : Hid (b15 = true → u78 = .int .i64 (qq : Int))) (h16 : Hid (b16 = true → u79 = .int .i64 (pp : Int))) (h17 : Hid (b17 = true → u80 = .int .i64 (3 * (pp : Int)))) (h18 : Hid (b18 = true → u81 = .int .i64 (3 * (pp : Int) - 2))) (h19 : Hid (b19 = true → u82 = .int .i64 (k : Int))) (h20 : Hid (b20 = true → u83 = .int .i64 ((k : Int) + 1))) (h21 : Hid (b21 = true → u84 = .int .i64 (tt : Int))) (h22 : Hid (b22 = true → u85 = .int .i64 (oo : Int))) (h23 : Hid (b23 = true → u86 = .int .i64 (qq : Int))) (h24 : Hid (b24 = true → u87 = .bool false)) (h25 : Hid (b25 = true → u88 = .bool false)) : cnt_r13_S bb pp oo k n1 n2 c1 c2 tt qq a1 a2 pl2 HH H0 w0 w s0 s2 s3 s4 s6 s7 s8 s15 s16 s17 s18 s19 s20 s21 s22 s23 s24 s25 s26 s27 s28 s29 s30 s31 s32 s33 s34 s35 s36 s37 s38 s39 s40 s41 s42 s43 s44 s45 s46 s47 s48 s49 s50 s51 s52 s53 s54 s55 s56 s57 s58 s59 s60 s61 s62 s63 s64 s65 s66 s67 s68 s69 s70 s71 s72 s73 s74 s75 s76 s77 s78 s79 s80 s81 s82 s83 s84 s85 s86 s87 s88 s89 s90 s91 s92 s93 s94 s95 s96 s97 s98 s99 s100 s101 s102 s103 listed a W
set_option maxHeartbeats 4000000 in
theorem cnt_r13 (K : Act → World → Prop) (bb pp oo k n1 n2 c1 c2 tt qq : Nat) (a1 a2 : Option Addr) (pl2 : Int) (HH H0 : List Ytnpoakabheeoeaa.HB) (w0 : World) (w : World) (s0 s2 s3 s4 s6 s7 s8 s15 s16 s17 s18 s19 s20 s21 s22 s23 s24 s25 s26 s27 s28 s29 s30 s31 s32 s33 s34 s35 s36 s37 s38 s39 s40 s41 s42 s43 s44 s45 s46 s47 s48 s49 s50 s51 s52 s53 s54 s55 s56 s57 s58 s59 s60 s61 s62 s63 s64 s65 s66 s67 s68 s69 s70 s71 s72 s73 s74 s75 s76 s77 s78 s79 s80 s81 s82 s83 s84 s85 s86 s87 s88 s89 s90 s91 s92 s93 s94 s95 s96 s97 s98 s99 s100 s101 s102 s103 : Value) (BK : Hid (Calls Try.prog 16 #[.pointer (some ⟨bb,0,none⟩),.int .i64 0] w.drew fun e w' => ∃ a c v',e = .returned (.agg #[.int .i64 pl2,.slice a qq c,v']) ∧ Mv w0 H0 w' HH)) (hfd : ∀ (a : Option Addr) (c : Nat) (v : Value) (W : World),(Instr.field 45 (.agg #[.int .i64 pl2,.slice a qq c,v]) 1).run Try.prog W = .ok (.slice a qq c) W) (hM : Mv w0 H0 w HH) (hb1 : 1 ≤ pp) (hb2 : pp ≤ 30) (hb3 : 1 ≤ oo) (hb4 : oo ≤ 8) (hk8 : k < 8) (hn : n1 + n2 ≤ 1000000) (htt : tt ≤ 704) (hqq : qq ≤ 704) (hmul : (3 * (pp : Int) - 2) * ((k : Int) + 1) = (tt : Int)) (hquo : Int.tdiv (tt : Int) (oo : Int) = (qq : Int))
  (hk : ∀ (u63 u64 u65 u66 u67 u68 u69 u70 u71 u72 u73 u74 u75 u76 u77 u78 u79 u80 u81 u82 u83 u84 u85 u86 u87 u88 : Value) (xa : Option Addr) (xc : Nat) (xv : Value) (W : World),(Mv w0 H0 W HH ∧ (true = false → W = w.drew) ∧ (true = true → true = true)) → (u88 = .bool false) →  K ⟨List.toArray (s0::(.int .i64 (oo : Int))::s2::s3::s4::(.int .i64 (pp : Int))::s6::s7::s8::(.pointer (some ⟨bb,0,none⟩))::(.int .i64 (k : Int))::(.slice a1 n1 c1)::(.slice a2 n2 c2)::(.int .i64 ((n1 : Int) + (n2 : Int)))::(.int .i64 (0))::s15::s16::s17::s18::s19::s20::s21::s22::s23::s24::s25::s26::s27::s28::s29::s30::s31::s32::s33::s34::s35::s36::s37::s38::s39::s40::s41::s42::s43::s44::s45::s46::s47::s48::s49::s50::s51::s52::s53::s54::s55::s56::s57::s58::s59::s60::s61::s62::u63::u64::u65::u66::u67::u68::u69::u70::u71::u72::u73::u74::u75::u76::u77::u78::u79::u80::u81::u82::u83::u84::u85::u86::u87::u88::s89::s90::s91::s92::s93::s94::s95::s96::s97::s98::s99::s100::s101::s102::s103::[]),[]⟩ W) :
  (regionOf 13 Try.f6).wp Try.prog (Exit.then K noQ) ⟨List.toArray (s0::(.int .i64 (oo : Int))::s2::s3::s4::(.int .i64 (pp : Int))::s6::s7::s8::(.pointer (some ⟨bb,0,none⟩))::(.int .i64 (k : Int))::(.slice a1 n1 c1)::(.slice a2 n2 c2)::(.int .i64 ((n1 : Int) + (n2 : Int)))::(.int .i64 (0))::s15::s16::s17::s18::s19::s20::s21::s22::s23::s24::s25::s26::s27::s28::s29::s30::s31::s32::s33::s34::s35::s36::s37::s38::s39::s40::s41::s42::s43::s44::s45::s46::s47::s48::s49::s50::s51::s52::s53::s54::s55::s56::s57::s58::s59::s60::s61::s62::s63::s64::s65::s66::s67::s68::s69::s70::s71::s72::s73::s74::s75::s76::s77::s78::s79::s80::s81::s82::s83::s84::s85::s86::s87::s88::s89::s90::s91::s92::s93::s94::s95::s96::s97::s98::s99::s100::s101::s102::s103::[]),[]⟩ w := by
 conv in (regionOf _ _) => whnf
 unfold noQ
 have HK := Lib.hid hk
 clear hk
 refine wp_region_inv (by kernel_rfl) (cnt_r13_S bb pp oo k n1 n2 c1 c2 tt qq a1 a2 pl2 HH H0 w0 w s0 s2 s3 s4 s6 s7 s8 s15 s16 s17 s18 s19 s20 s21 s22 s23 s24 s25 s26 s27 s28 s29 s30 s31 s32 s33 s34 s35 s36 s37 s38 s39 s40 s41 s42 s43 s44 s45 s46 s47 s48 s49 s50 s51 s52 s53 s54 s55 s56 s57 s58 s59 s60 s61 s62 s63 s64 s65 s66 s67 s68 s69 s70 s71 s72 s73 s74 s75 s76 s77 s78 s79 s80 s81 s82 s83 s84 s85 s86 s87 s88 s89 s90 s91 s92 s93 s94 s95 s96 s97 s98 s99 s100 s101 s102 s103) ?_ ?_ ?_
 ·exact ⟨false,false,false,false,false,false,false,false,false,false,false,false,false,false,false,false,false,false,false,false,false,false,false,false,false,false,s63,s64,s65,s66,s67,s68,s69,s70,s71,s72,s73,s74,s75,s76,s77,s78,s79,s80,s81,s82,s83,s84,s85,s86,s87,s88,none,0,undef,rfl,rfl,⟨hM.drew,fun _ => rfl,(fun e => nomatch e)⟩,Lib.hid nofun,Lib.hid nofun,Lib.hid nofun,Lib.hid nofun,Lib.hid nofun,Lib.hid nofun,Lib.hid nofun,Lib.hid nofun,Lib.hid nofun,Lib.hid nofun,Lib.hid nofun,Lib.hid nofun,Lib.hid nofun,Lib.hid nofun,Lib.hid nofun,Lib.hid nofun,Lib.hid nofun,Lib.hid nofun,Lib.hid nofun,Lib.hid nofun,Lib.hid nofun,Lib.hid nofun,Lib.hid nofun,Lib.hid nofun,Lib.hid nofun,Lib.hid nofun⟩
 ·rintro listed a W ⟨b0,b1,b2,b3,b4,b5,b6,b7,b8,b9,b10,b11,b12,b13,b14,b15,b16,b17,b18,b19,b20,b21,b22,b23,b24,b25,u63,u64,u65,u66,u67,u68,u69,u70,u71,u72,u73,u74,u75,u76,u77,u78,u79,u80,u81,u82,u83,u84,u85,u86,u87,u88,xa,xc,xv,rfl,rfl,HW,h0,h1,h2,h3,h4,h5,h6,h7,h8,h9,h10,h11,h12,h13,h14,h15,h16,h17,h18,h19,h20,h21,h22,h23,h24,h25⟩ hr
  obtain rfl : b0 = true := by cases b0; exact (not_ready2 hr 0 _ rfl rfl (by simp [Region.binds])).elim; rfl
  obtain rfl : b1 = true := by cases b1; exact (not_ready2 hr 1 _ rfl rfl (by simp [Region.binds])).elim; rfl
  obtain rfl : b2 = true := by cases b2; exact (not_ready2 hr 2 _ rfl rfl (by simp [Region.binds])).elim; rfl
  obtain rfl : b3 = true := by cases b3; exact (not_ready2 hr 3 _ rfl rfl (by simp [Region.binds])).elim; rfl
  obtain rfl : b4 = true := by cases b4; exact (not_ready2 hr 4 _ rfl rfl (by simp [Region.binds])).elim; rfl
  obtain rfl : b5 = true := by cases b5; exact (not_ready2 hr 5 _ rfl rfl (by simp [Region.binds])).elim; rfl
  obtain rfl : b6 = true := by cases b6; exact (not_ready2 hr 6 _ rfl rfl (by simp [Region.binds])).elim; rfl
  obtain rfl : b7 = true := by cases b7; exact (not_ready2 hr 7 _ rfl rfl (by simp [Region.binds])).elim; rfl
  obtain rfl : b8 = true := by cases b8; exact (not_ready2 hr 8 _ rfl rfl (by simp [Region.binds])).elim; rfl
  obtain rfl : b9 = true := by cases b9; exact (not_ready2 hr 9 _ rfl rfl (by simp [Region.binds])).elim; rfl
  obtain rfl : b10 = true := by cases b10; exact (not_ready2 hr 10 _ rfl rfl (by simp [Region.binds])).elim; rfl
  obtain rfl : b11 = true := by cases b11; exact (not_ready2 hr 11 _ rfl rfl (by simp [Region.binds])).elim; rfl
  obtain rfl : b12 = true := by cases b12; exact (not_ready2 hr 12 _ rfl rfl (by simp [Region.binds])).elim; rfl
  obtain rfl : b13 = true := by cases b13; exact (not_ready2 hr 13 _ rfl rfl (by simp [Region.binds])).elim; rfl
  obtain rfl : b14 = true := by cases b14; exact (not_ready2 hr 14 _ rfl rfl (by simp [Region.binds])).elim; rfl
  obtain rfl : b15 = true := by cases b15; exact (not_ready2 hr 15 _ rfl rfl (by simp [Region.binds])).elim; rfl
  obtain rfl : b16 = true := by cases b16; exact (not_ready2 hr 16 _ rfl rfl (by simp [Region.binds])).elim; rfl
  obtain rfl : b17 = true := by cases b17; exact (not_ready2 hr 17 _ rfl rfl (by simp [Region.binds])).elim; rfl
  obtain rfl : b18 = true := by cases b18; exact (not_ready2 hr 18 _ rfl rfl (by simp [Region.binds])).elim; rfl
  obtain rfl : b19 = true := by cases b19; exact (not_ready2 hr 19 _ rfl rfl (by simp [Region.binds])).elim; rfl
  obtain rfl : b20 = true := by cases b20; exact (not_ready2 hr 20 _ rfl rfl (by simp [Region.binds])).elim; rfl
  obtain rfl : b21 = true := by cases b21; exact (not_ready2 hr 21 _ rfl rfl (by simp [Region.binds])).elim; rfl
  obtain rfl : b22 = true := by cases b22; exact (not_ready2 hr 22 _ rfl rfl (by simp [Region.binds])).elim; rfl
  obtain rfl : b23 = true := by cases b23; exact (not_ready2 hr 23 _ rfl rfl (by simp [Region.binds])).elim; rfl
  obtain rfl : b24 = true := by cases b24; exact (not_ready2 hr 24 _ rfl rfl (by simp [Region.binds])).elim; rfl
  obtain rfl : b25 = true := by cases b25; exact (not_ready2 hr 25 _ rfl rfl (by simp [Region.binds])).elim; rfl
  exact HK.out u63 u64 u65 u66 u67 u68 u69 u70 u71 u72 u73 u74 u75 u76 u77 u78 u79 u80 u81 u82 u83 u84 u85 u86 u87 u88 xa xc xv W HW (h25.out rfl)
 ·rintro listed a W i ⟨b0,b1,b2,b3,b4,b5,b6,b7,b8,b9,b10,b11,b12,b13,b14,b15,b16,b17,b18,b19,b20,b21,b22,b23,b24,b25,u63,u64,u65,u66,u67,u68,u69,u70,u71,u72,u73,u74,u75,u76,u77,u78,u79,u80,u81,u82,u83,u84,u85,u86,u87,u88,xa,xc,xv,rfl,rfl,HW,h0,h1,h2,h3,h4,h5,h6,h7,h8,h9,h10,h11,h12,h13,h14,h15,h16,h17,h18,h19,h20,h21,h22,h23,h24,h25⟩ hi
  obtain ⟨hi1,hi2,hi3⟩ := mem_ready hi
  clear hi
  have hi4 : i = 0 ∨ i = 1 ∨ i = 2 ∨ i = 3 ∨ i = 4 ∨ i = 5 ∨ i = 6 ∨ i = 7 ∨ i = 8 ∨ i = 9 ∨ i = 10 ∨ i = 11 ∨ i = 12 ∨ i = 13 ∨ i = 14 ∨ i = 15 ∨ i = 16 ∨ i = 17 ∨ i = 18 ∨ i = 19 ∨ i = 20 ∨ i = 21 ∨ i = 22 ∨ i = 23 ∨ i = 24 ∨ i = 25 := by
   have : i < 26 := hi1
   omega
  clear hi1
  rcases hi4 with rfl | rfl | rfl | rfl | rfl | rfl | rfl | rfl | rfl | rfl | rfl | rfl | rfl | rfl | rfl | rfl | rfl | rfl | rfl | rfl | rfl | rfl | rfl | rfl | rfl | rfl
  ·obtain rfl : b0 = false := hi2
   clear hi3
   refine wpOp_step rfl (fun K hK => ?_)
   go_simp
   refine hK _ _ ⟨true,_,_,_,_,_,_,_,_,_,_,_,_,_,_,_,_,_,_,_,_,_,_,_,_,_,(.int .i64 (0)),_,_,_,_,_,_,_,_,_,_,_,_,_,_,_,_,_,_,_,_,_,_,_,_,_,_,_,_,rfl,rfl,HW,Lib.hid (fun _ => rfl),h1,h2,h3,h4,h5,h6,h7,h8,h9,h10,h11,h12,h13,h14,h15,h16,h17,h18,h19,h20,h21,h22,h23,h24,h25⟩
  ·obtain rfl : b1 = false := hi2
   obtain rfl : b0 = true := hi3 _ rfl ⟨0,.data⟩ (by simp) rfl
   obtain rfl := h0.out rfl
   clear hi3
   refine wpOp_step rfl (fun K hK => ?_)
   go_simp
   refine hK _ _ ⟨_,true,_,_,_,_,_,_,_,_,_,_,_,_,_,_,_,_,_,_,_,_,_,_,_,_,_,(.bool false),_,_,_,_,_,_,_,_,_,_,_,_,_,_,_,_,_,_,_,_,_,_,_,_,_,_,_,rfl,rfl,HW,h0,Lib.hid (fun _ => rfl),h2,h3,h4,h5,h6,h7,h8,h9,h10,h11,h12,h13,h14,h15,h16,h17,h18,h19,h20,h21,h22,h23,h24,h25⟩
  ·obtain rfl : b2 = false := hi2
   obtain rfl : b1 = true := hi3 _ rfl ⟨1,.data⟩ (by simp) rfl
   obtain rfl := h1.out rfl
   clear hi3
   refine wpOp_step rfl (fun K hK => ?_)
   go_simp
   refine hK _ _ ⟨_,_,true,_,_,_,_,_,_,_,_,_,_,_,_,_,_,_,_,_,_,_,_,_,_,_,_,_,(.bool false),_,_,_,_,_,_,_,_,_,_,_,_,_,_,_,_,_,_,_,_,_,_,_,_,_,_,rfl,rfl,HW,h0,h1,Lib.hid (fun _ => rfl),h3,h4,h5,h6,h7,h8,h9,h10,h11,h12,h13,h14,h15,h16,h17,h18,h19,h20,h21,h22,h23,h24,h25⟩
  ·obtain rfl : b3 = false := hi2
   obtain rfl : b2 = true := hi3 _ rfl ⟨2,.guard⟩ (by simp) rfl
   obtain rfl := h2.out rfl
   clear hi3
   refine wpOp_step rfl (fun K hK => ?_)
   go_simp
   refine hK _ _ ⟨_,_,_,true,_,_,_,_,_,_,_,_,_,_,_,_,_,_,_,_,_,_,_,_,_,_,_,_,_,(.int .i64 ((n1 : Int) + (n2 : Int))),_,_,_,_,_,_,_,_,_,_,_,_,_,_,_,_,_,_,_,_,_,_,_,_,_,rfl,rfl,HW,h0,h1,h2,Lib.hid (fun _ => rfl),h4,h5,h6,h7,h8,h9,h10,h11,h12,h13,h14,h15,h16,h17,h18,h19,h20,h21,h22,h23,h24,h25⟩
  ·obtain rfl : b4 = false := hi2
   obtain rfl : b2 = true := hi3 _ rfl ⟨2,.guard⟩ (by simp) rfl
   obtain rfl := h2.out rfl
   clear hi3
   refine wpOp_step rfl (fun K hK => ?_)
   go_simp
   refine hK _ _ ⟨_,_,_,_,true,_,_,_,_,_,_,_,_,_,_,_,_,_,_,_,_,_,_,_,_,_,_,_,_,_,(.slice a1 n1 c1),_,_,_,_,_,_,_,_,_,_,_,_,_,_,_,_,_,_,_,_,_,_,_,_,rfl,rfl,HW,h0,h1,h2,h3,Lib.hid (fun _ => rfl),h5,h6,h7,h8,h9,h10,h11,h12,h13,h14,h15,h16,h17,h18,h19,h20,h21,h22,h23,h24,h25⟩
  ·obtain rfl : b5 = false := hi2
   obtain rfl : b4 = true := hi3 _ rfl ⟨4,.data⟩ (by simp) rfl
   obtain rfl : b2 = true := hi3 _ rfl ⟨2,.guard⟩ (by simp) rfl
   obtain rfl := h2.out rfl
   obtain rfl := h4.out rfl
   clear hi3
   refine wpOp_step rfl (fun K hK => ?_)
   go_simp
   refine hK _ _ ⟨_,_,_,_,_,true,_,_,_,_,_,_,_,_,_,_,_,_,_,_,_,_,_,_,_,_,_,_,_,_,_,(.int .i64 (n1 : Int)),_,_,_,_,_,_,_,_,_,_,_,_,_,_,_,_,_,_,_,_,_,_,_,rfl,rfl,HW,h0,h1,h2,h3,h4,Lib.hid (fun _ => rfl),h6,h7,h8,h9,h10,h11,h12,h13,h14,h15,h16,h17,h18,h19,h20,h21,h22,h23,h24,h25⟩
  ·obtain rfl : b6 = false := hi2
   obtain rfl : b2 = true := hi3 _ rfl ⟨2,.guard⟩ (by simp) rfl
   obtain rfl := h2.out rfl
   clear hi3
   refine wpOp_step rfl (fun K hK => ?_)
   go_simp
   refine hK _ _ ⟨_,_,_,_,_,_,true,_,_,_,_,_,_,_,_,_,_,_,_,_,_,_,_,_,_,_,_,_,_,_,_,_,(.slice a2 n2 c2),_,_,_,_,_,_,_,_,_,_,_,_,_,_,_,_,_,_,_,_,_,_,rfl,rfl,HW,h0,h1,h2,h3,h4,h5,Lib.hid (fun _ => rfl),h7,h8,h9,h10,h11,h12,h13,h14,h15,h16,h17,h18,h19,h20,h21,h22,h23,h24,h25⟩
  ·obtain rfl : b7 = false := hi2
   obtain rfl : b6 = true := hi3 _ rfl ⟨6,.data⟩ (by simp) rfl
   obtain rfl : b2 = true := hi3 _ rfl ⟨2,.guard⟩ (by simp) rfl
   obtain rfl := h2.out rfl
   obtain rfl := h6.out rfl
   clear hi3
   refine wpOp_step rfl (fun K hK => ?_)
   go_simp
   refine hK _ _ ⟨_,_,_,_,_,_,_,true,_,_,_,_,_,_,_,_,_,_,_,_,_,_,_,_,_,_,_,_,_,_,_,_,_,(.int .i64 (n2 : Int)),_,_,_,_,_,_,_,_,_,_,_,_,_,_,_,_,_,_,_,_,_,rfl,rfl,HW,h0,h1,h2,h3,h4,h5,h6,Lib.hid (fun _ => rfl),h8,h9,h10,h11,h12,h13,h14,h15,h16,h17,h18,h19,h20,h21,h22,h23,h24,h25⟩
  ·obtain rfl : b8 = false := hi2
   obtain rfl : b5 = true := hi3 _ rfl ⟨5,.data⟩ (by simp) rfl
   obtain rfl : b7 = true := hi3 _ rfl ⟨7,.data⟩ (by simp) rfl
   obtain rfl : b2 = true := hi3 _ rfl ⟨2,.guard⟩ (by simp) rfl
   obtain rfl := h2.out rfl
   obtain rfl := h5.out rfl
   obtain rfl := h7.out rfl
   clear hi3
   have ew := IntWalk.i64_in ((n1 : Int) + (n2 : Int)) ⟨by omega,by omega⟩
   refine wpOp_step rfl (fun K hK => ?_)
   go_simp
   refine hK _ _ ⟨_,_,_,_,_,_,_,_,true,_,_,_,_,_,_,_,_,_,_,_,_,_,_,_,_,_,_,_,_,_,_,_,_,_,(.int .i64 ((n1 : Int) + (n2 : Int))),_,_,_,_,_,_,_,_,_,_,_,_,_,_,_,_,_,_,_,_,rfl,rfl,HW,h0,h1,h2,h3,h4,h5,h6,h7,Lib.hid (fun _ => rfl),h9,h10,h11,h12,h13,h14,h15,h16,h17,h18,h19,h20,h21,h22,h23,h24,h25⟩
  ·obtain rfl : b9 = false := hi2
   obtain rfl : b3 = true := hi3 _ rfl ⟨3,.data⟩ (by simp) rfl
   obtain rfl : b8 = true := hi3 _ rfl ⟨8,.data⟩ (by simp) rfl
   obtain rfl : b2 = true := hi3 _ rfl ⟨2,.guard⟩ (by simp) rfl
   obtain rfl := h2.out rfl
   obtain rfl := h3.out rfl
   obtain rfl := h8.out rfl
   clear hi3
   refine wpOp_step rfl (fun K hK => ?_)
   go_simp
   refine hK _ _ ⟨_,_,_,_,_,_,_,_,_,true,_,_,_,_,_,_,_,_,_,_,_,_,_,_,_,_,_,_,_,_,_,_,_,_,_,(.bool false),_,_,_,_,_,_,_,_,_,_,_,_,_,_,_,_,_,_,_,rfl,rfl,HW,h0,h1,h2,h3,h4,h5,h6,h7,h8,Lib.hid (fun _ => rfl),h10,h11,h12,h13,h14,h15,h16,h17,h18,h19,h20,h21,h22,h23,h24,h25⟩
  ·obtain rfl : b10 = false := hi2
   obtain rfl : b2 = true := hi3 _ rfl ⟨2,.data⟩ (by simp) rfl
   obtain rfl : b9 = true := hi3 _ rfl ⟨9,.data⟩ (by simp) rfl
   obtain rfl := h2.out rfl
   obtain rfl := h9.out rfl
   clear hi3
   refine wpOp_step rfl (fun K hK => ?_)
   go_simp
   refine hK _ _ ⟨_,_,_,_,_,_,_,_,_,_,true,_,_,_,_,_,_,_,_,_,_,_,_,_,_,_,_,_,_,_,_,_,_,_,_,_,(.bool false),_,_,_,_,_,_,_,_,_,_,_,_,_,_,_,_,_,_,rfl,rfl,HW,h0,h1,h2,h3,h4,h5,h6,h7,h8,h9,Lib.hid (fun _ => rfl),h11,h12,h13,h14,h15,h16,h17,h18,h19,h20,h21,h22,h23,h24,h25⟩
  ·obtain rfl : b11 = false := hi2
   obtain rfl : b10 = true := hi3 _ rfl ⟨10,.data⟩ (by simp) rfl
   obtain rfl : b2 = true := hi3 _ rfl ⟨2,.chain⟩ (by simp) rfl
   obtain rfl := h2.out rfl
   obtain rfl := h10.out rfl
   clear hi3
   refine wpOp_step rfl (fun K hK => ?_)
   go_simp
   refine hK _ _ ⟨_,_,_,_,_,_,_,_,_,_,_,true,_,_,_,_,_,_,_,_,_,_,_,_,_,_,_,_,_,_,_,_,_,_,_,_,_,(.bool false),_,_,_,_,_,_,_,_,_,_,_,_,_,_,_,_,_,rfl,rfl,HW,h0,h1,h2,h3,h4,h5,h6,h7,h8,h9,h10,Lib.hid (fun _ => rfl),h12,h13,h14,h15,h16,h17,h18,h19,h20,h21,h22,h23,h24,h25⟩
  ·obtain rfl : b12 = false := hi2
   obtain rfl : b11 = true := hi3 _ rfl ⟨11,.guard⟩ (by simp) rfl
   obtain rfl := h11.out rfl
   clear hi3
   refine wpOp_step rfl (fun K hK => ?_)
   go_simp
   refine hK _ _ ⟨_,_,_,_,_,_,_,_,_,_,_,_,true,_,_,_,_,_,_,_,_,_,_,_,_,_,_,_,_,_,_,_,_,_,_,_,_,_,(.pointer (some ⟨bb,0,none⟩)),_,_,_,_,_,_,_,_,_,_,_,_,_,_,_,_,rfl,rfl,HW,h0,h1,h2,h3,h4,h5,h6,h7,h8,h9,h10,h11,Lib.hid (fun _ => rfl),h13,h14,h15,h16,h17,h18,h19,h20,h21,h22,h23,h24,h25⟩
  ·obtain rfl : b13 = false := hi2
   obtain rfl : b12 = true := hi3 _ rfl ⟨12,.data⟩ (by simp) rfl
   obtain rfl : b11 = true := hi3 _ rfl ⟨11,.chain⟩ (by simp) rfl
   obtain rfl := h11.out rfl
   obtain rfl := h12.out rfl
   clear hi3
   obtain rfl : b14 = false := by cases b14; rfl; cases (HW.2.2 rfl)
   obtain rfl := HW.2.1 rfl
   refine wpOp_step rfl (fun K hK => ?_)
   go_simp
   go_at_call 16
   refine BK.out.mono ?_
   rintro e w11 ⟨a',c',v',rfl,m'⟩
   refine hK _ _ ⟨_,_,_,_,_,_,_,_,_,_,_,_,_,true,_,_,_,_,_,_,_,_,_,_,_,_,_,_,_,_,_,_,_,_,_,_,_,_,_,(.agg #[.int .i64 pl2,.slice a' qq c',v']),_,_,_,_,_,_,_,_,_,_,_,_,a',c',v',rfl,rfl,⟨m',(fun e => nomatch e),(fun e => nomatch e)⟩,h0,h1,h2,h3,h4,h5,h6,h7,h8,h9,h10,h11,h12,Lib.hid (fun _ => rfl),Lib.hid ((fun e => nomatch e)),h15,h16,h17,h18,h19,h20,h21,h22,h23,h24,h25⟩
  ·obtain rfl : b14 = false := hi2
   obtain rfl : b13 = true := hi3 _ rfl ⟨13,.data⟩ (by simp) rfl
   obtain rfl : b11 = true := hi3 _ rfl ⟨11,.guard⟩ (by simp) rfl
   obtain rfl := h11.out rfl
   obtain rfl := h13.out rfl
   clear hi3
   have hfe := hfd xa xc xv W
   refine wpOp_step rfl (fun K hK => ?_)
   go_simp
   refine hK _ _ ⟨_,_,_,_,_,_,_,_,_,_,_,_,_,_,true,_,_,_,_,_,_,_,_,_,_,_,_,_,_,_,_,_,_,_,_,_,_,_,_,_,(.slice xa qq xc),_,_,_,_,_,_,_,_,_,_,_,_,_,_,rfl,rfl,⟨HW.1,HW.2.1,fun _ => rfl⟩,h0,h1,h2,h3,h4,h5,h6,h7,h8,h9,h10,h11,h12,h13,Lib.hid (fun _ => rfl),h15,h16,h17,h18,h19,h20,h21,h22,h23,h24,h25⟩
  ·obtain rfl : b15 = false := hi2
   obtain rfl : b14 = true := hi3 _ rfl ⟨14,.data⟩ (by simp) rfl
   obtain rfl : b11 = true := hi3 _ rfl ⟨11,.guard⟩ (by simp) rfl
   obtain rfl := h11.out rfl
   obtain rfl := h14.out rfl
   clear hi3
   refine wpOp_step rfl (fun K hK => ?_)
   go_simp
   refine hK _ _ ⟨_,_,_,_,_,_,_,_,_,_,_,_,_,_,_,true,_,_,_,_,_,_,_,_,_,_,_,_,_,_,_,_,_,_,_,_,_,_,_,_,_,(.int .i64 (qq : Int)),_,_,_,_,_,_,_,_,_,_,_,_,_,rfl,rfl,HW,h0,h1,h2,h3,h4,h5,h6,h7,h8,h9,h10,h11,h12,h13,h14,Lib.hid (fun _ => rfl),h16,h17,h18,h19,h20,h21,h22,h23,h24,h25⟩
  ·obtain rfl : b16 = false := hi2
   obtain rfl : b11 = true := hi3 _ rfl ⟨11,.guard⟩ (by simp) rfl
   obtain rfl := h11.out rfl
   clear hi3
   refine wpOp_step rfl (fun K hK => ?_)
   go_simp
   refine hK _ _ ⟨_,_,_,_,_,_,_,_,_,_,_,_,_,_,_,_,true,_,_,_,_,_,_,_,_,_,_,_,_,_,_,_,_,_,_,_,_,_,_,_,_,_,(.int .i64 (pp : Int)),_,_,_,_,_,_,_,_,_,_,_,_,rfl,rfl,HW,h0,h1,h2,h3,h4,h5,h6,h7,h8,h9,h10,h11,h12,h13,h14,h15,Lib.hid (fun _ => rfl),h17,h18,h19,h20,h21,h22,h23,h24,h25⟩
  ·obtain rfl : b17 = false := hi2
   obtain rfl : b16 = true := hi3 _ rfl ⟨16,.data⟩ (by simp) rfl
   obtain rfl : b11 = true := hi3 _ rfl ⟨11,.guard⟩ (by simp) rfl
   obtain rfl := h11.out rfl
   obtain rfl := h16.out rfl
   clear hi3
   have ew := IntWalk.i64_in (3 * (pp : Int)) ⟨by omega,by omega⟩
   refine wpOp_step rfl (fun K hK => ?_)
   go_simp
   refine hK _ _ ⟨_,_,_,_,_,_,_,_,_,_,_,_,_,_,_,_,_,true,_,_,_,_,_,_,_,_,_,_,_,_,_,_,_,_,_,_,_,_,_,_,_,_,_,(.int .i64 (3 * (pp : Int))),_,_,_,_,_,_,_,_,_,_,_,rfl,rfl,HW,h0,h1,h2,h3,h4,h5,h6,h7,h8,h9,h10,h11,h12,h13,h14,h15,h16,Lib.hid (fun _ => rfl),h18,h19,h20,h21,h22,h23,h24,h25⟩
  ·obtain rfl : b18 = false := hi2
   obtain rfl : b17 = true := hi3 _ rfl ⟨17,.data⟩ (by simp) rfl
   obtain rfl : b11 = true := hi3 _ rfl ⟨11,.guard⟩ (by simp) rfl
   obtain rfl := h11.out rfl
   obtain rfl := h17.out rfl
   clear hi3
   have ew := IntWalk.i64_in (3 * (pp : Int) - 2) ⟨by omega,by omega⟩
   refine wpOp_step rfl (fun K hK => ?_)
   go_simp
   refine hK _ _ ⟨_,_,_,_,_,_,_,_,_,_,_,_,_,_,_,_,_,_,true,_,_,_,_,_,_,_,_,_,_,_,_,_,_,_,_,_,_,_,_,_,_,_,_,_,(.int .i64 (3 * (pp : Int) - 2)),_,_,_,_,_,_,_,_,_,_,rfl,rfl,HW,h0,h1,h2,h3,h4,h5,h6,h7,h8,h9,h10,h11,h12,h13,h14,h15,h16,h17,Lib.hid (fun _ => rfl),h19,h20,h21,h22,h23,h24,h25⟩
  ·obtain rfl : b19 = false := hi2
   obtain rfl : b11 = true := hi3 _ rfl ⟨11,.guard⟩ (by simp) rfl
   obtain rfl := h11.out rfl
   clear hi3
   refine wpOp_step rfl (fun K hK => ?_)
   go_simp
   refine hK _ _ ⟨_,_,_,_,_,_,_,_,_,_,_,_,_,_,_,_,_,_,_,true,_,_,_,_,_,_,_,_,_,_,_,_,_,_,_,_,_,_,_,_,_,_,_,_,_,(.int .i64 (k : Int)),_,_,_,_,_,_,_,_,_,rfl,rfl,HW,h0,h1,h2,h3,h4,h5,h6,h7,h8,h9,h10,h11,h12,h13,h14,h15,h16,h17,h18,Lib.hid (fun _ => rfl),h20,h21,h22,h23,h24,h25⟩
  ·obtain rfl : b20 = false := hi2
   obtain rfl : b19 = true := hi3 _ rfl ⟨19,.data⟩ (by simp) rfl
   obtain rfl : b11 = true := hi3 _ rfl ⟨11,.guard⟩ (by simp) rfl
   obtain rfl := h11.out rfl
   obtain rfl := h19.out rfl
   clear hi3
   have ew := IntWalk.i64_in ((k : Int) + 1) ⟨by omega,by omega⟩
   refine wpOp_step rfl (fun K hK => ?_)
   go_simp
   refine hK _ _ ⟨_,_,_,_,_,_,_,_,_,_,_,_,_,_,_,_,_,_,_,_,true,_,_,_,_,_,_,_,_,_,_,_,_,_,_,_,_,_,_,_,_,_,_,_,_,_,(.int .i64 ((k : Int) + 1)),_,_,_,_,_,_,_,_,rfl,rfl,HW,h0,h1,h2,h3,h4,h5,h6,h7,h8,h9,h10,h11,h12,h13,h14,h15,h16,h17,h18,h19,Lib.hid (fun _ => rfl),h21,h22,h23,h24,h25⟩
  ·obtain rfl : b21 = false := hi2
   obtain rfl : b18 = true := hi3 _ rfl ⟨18,.data⟩ (by simp) rfl
   obtain rfl : b20 = true := hi3 _ rfl ⟨20,.data⟩ (by simp) rfl
   obtain rfl : b11 = true := hi3 _ rfl ⟨11,.guard⟩ (by simp) rfl
   obtain rfl := h11.out rfl
   obtain rfl := h18.out rfl
   obtain rfl := h20.out rfl
   clear hi3
   have ew := IntWalk.i64_in (tt : Int) ⟨by omega,by omega⟩
   refine wpOp_step rfl (fun K hK => ?_)
   go_simp
   refine hK _ _ ⟨_,_,_,_,_,_,_,_,_,_,_,_,_,_,_,_,_,_,_,_,_,true,_,_,_,_,_,_,_,_,_,_,_,_,_,_,_,_,_,_,_,_,_,_,_,_,_,(.int .i64 (tt : Int)),_,_,_,_,_,_,_,rfl,rfl,HW,h0,h1,h2,h3,h4,h5,h6,h7,h8,h9,h10,h11,h12,h13,h14,h15,h16,h17,h18,h19,h20,Lib.hid (fun _ => rfl),h22,h23,h24,h25⟩
  ·obtain rfl : b22 = false := hi2
   obtain rfl : b11 = true := hi3 _ rfl ⟨11,.guard⟩ (by simp) rfl
   obtain rfl := h11.out rfl
   clear hi3
   refine wpOp_step rfl (fun K hK => ?_)
   go_simp
   refine hK _ _ ⟨_,_,_,_,_,_,_,_,_,_,_,_,_,_,_,_,_,_,_,_,_,_,true,_,_,_,_,_,_,_,_,_,_,_,_,_,_,_,_,_,_,_,_,_,_,_,_,_,(.int .i64 (oo : Int)),_,_,_,_,_,_,rfl,rfl,HW,h0,h1,h2,h3,h4,h5,h6,h7,h8,h9,h10,h11,h12,h13,h14,h15,h16,h17,h18,h19,h20,h21,Lib.hid (fun _ => rfl),h23,h24,h25⟩
  ·obtain rfl : b23 = false := hi2
   obtain rfl : b21 = true := hi3 _ rfl ⟨21,.data⟩ (by simp) rfl
   obtain rfl : b22 = true := hi3 _ rfl ⟨22,.data⟩ (by simp) rfl
   obtain rfl : b11 = true := hi3 _ rfl ⟨11,.guard⟩ (by simp) rfl
   obtain rfl := h11.out rfl
   obtain rfl := h21.out rfl
   obtain rfl := h22.out rfl
   clear hi3
   have hne : ¬ oo = 0 := by omega
   have ew := IntWalk.i64_in ((qq : Int)) ⟨by omega,by omega⟩
   refine wpOp_step rfl (fun K hK => ?_)
   go_simp
   refine hK _ _ ⟨_,_,_,_,_,_,_,_,_,_,_,_,_,_,_,_,_,_,_,_,_,_,_,true,_,_,_,_,_,_,_,_,_,_,_,_,_,_,_,_,_,_,_,_,_,_,_,_,_,(.int .i64 (qq : Int)),_,_,_,_,_,rfl,rfl,HW,h0,h1,h2,h3,h4,h5,h6,h7,h8,h9,h10,h11,h12,h13,h14,h15,h16,h17,h18,h19,h20,h21,h22,Lib.hid (fun _ => rfl),h24,h25⟩
  ·obtain rfl : b24 = false := hi2
   obtain rfl : b15 = true := hi3 _ rfl ⟨15,.data⟩ (by simp) rfl
   obtain rfl : b23 = true := hi3 _ rfl ⟨23,.data⟩ (by simp) rfl
   obtain rfl : b11 = true := hi3 _ rfl ⟨11,.guard⟩ (by simp) rfl
   obtain rfl := h11.out rfl
   obtain rfl := h15.out rfl
   obtain rfl := h23.out rfl
   clear hi3
   refine wpOp_step rfl (fun K hK => ?_)
   go_simp
   refine hK _ _ ⟨_,_,_,_,_,_,_,_,_,_,_,_,_,_,_,_,_,_,_,_,_,_,_,_,true,_,_,_,_,_,_,_,_,_,_,_,_,_,_,_,_,_,_,_,_,_,_,_,_,_,(.bool false),_,_,_,_,rfl,rfl,HW,h0,h1,h2,h3,h4,h5,h6,h7,h8,h9,h10,h11,h12,h13,h14,h15,h16,h17,h18,h19,h20,h21,h22,h23,Lib.hid (fun _ => rfl),h25⟩
  ·obtain rfl : b25 = false := hi2
   obtain rfl : b11 = true := hi3 _ rfl ⟨11,.data⟩ (by simp) rfl
   obtain rfl : b24 = true := hi3 _ rfl ⟨24,.data⟩ (by simp) rfl
   obtain rfl := h11.out rfl
   obtain rfl := h24.out rfl
   clear hi3
   refine wpOp_step rfl (fun K hK => ?_)
   go_simp
   refine hK _ _ ⟨_,_,_,_,_,_,_,_,_,_,_,_,_,_,_,_,_,_,_,_,_,_,_,_,_,true,_,_,_,_,_,_,_,_,_,_,_,_,_,_,_,_,_,_,_,_,_,_,_,_,_,(.bool false),_,_,_,rfl,rfl,HW,h0,h1,h2,h3,h4,h5,h6,h7,h8,h9,h10,h11,h12,h13,h14,h15,h16,h17,h18,h19,h20,h21,h22,h23,h24,Lib.hid (fun _ => rfl)⟩
end
section
open Go.RowKit
theorem conv_string {w : World} {v : Value} {l : List UInt8} (h : BV w v l) : (convert 30 9 v).run Try.prog w = .ok (.string ⟨l.toArray⟩) w := by
 obtain ⟨A,c,rfl,h1,h2,h3⟩ := h
 rcases A with _ | ad
 ·have h0 : l.length = 0 := by
   rcases Nat.eq_zero_or_pos l.length with h | h
   ·exact h
   ·obtain ⟨_,h,_⟩ := h3.2 h; cases h
  obtain rfl : l = [] := List.eq_nil_of_length_eq_zero h0
  exact run_convert_bytes_nil (P := Try.prog) w 30 5 Try.underlying30 Try.underlying5 0 c 9 Try.underlying9
 ·exact run_convert_bytes_back (P := Try.prog) w 30 9 5 ad c l Try.underlying30 Try.underlying5 Try.underlying9 (fun j hj => by
   obtain ⟨ad',e,-,hc⟩ := h3.cell (List.getElem?_eq_getElem hj)
   injection e with e
   rw [e]
   exact hc)
theorem hfd0 {pp nb : Nat} (v : Value) (a : Option Addr) (c : Nat) (W : World) : (Instr.field 45 (.agg #[.int .i64 (pp : Int),v,.slice a nb c]) 0).run Try.prog W = .ok (.int .i64 (pp : Int)) W := by kernel_rfl
theorem hfd2 {pp nb : Nat} (v : Value) (a : Option Addr) (c : Nat) (W : World) : (Instr.field 45 (.agg #[.int .i64 (pp : Int),v,.slice a nb c]) 2).run Try.prog W = .ok (.slice a nb c) W := by kernel_rfl
inductive cnt_r15_S (bb pp xb nb bc : Nat) (ba : Option Addr) (bs : List UInt8) (HH H0 : List Ytnpoakabheeoeaa.HB) (w0 : World) (w : World) (s0 s1 s2 s3 s4 s7 s8 s10 s11 s12 s13 s14 s15 s16 s17 s18 s19 s20 s21 s22 s23 s24 s25 s26 s27 s28 s29 s30 s31 s32 s33 s34 s35 s36 s37 s38 s39 s40 s41 s42 s43 s44 s45 s46 s47 s48 s49 s50 s51 s52 s53 s54 s55 s56 s57 s58 s59 s60 s61 s62 s63 s64 s65 s66 s67 s68 s69 s70 s71 s72 s73 s74 s75 s76 s77 s78 s79 s80 s81 s82 s83 s84 s85 s86 s87 s88 s89 s90 s91 s92 s93 s94 s95 s96 s97 s98 s99 s100 s101 s102 s103 : Value) (listed : Array Bool) (a : Act) (W : World) : Prop
 | mk (b0 b1 b2 b3 b4 b5 b6 b7 b8 b9 b10 b11 b12 b13 b14 b15 : Bool) (u89 u90 u91 u92 u93 u94 u95 u96 u97 u98 u99 u100 u101 u102 u103 u4 : Value) (v1 : Value) (x1 : Option Addr) (y1 : Nat) (v3 : Value) (x3 : Option Addr) (y3 : Nat) (H4 : List Ytnpoakabheeoeaa.HB) (hl : listed = #[b0,b1,b2,b3,b4,b5,b6,b7,b8,b9,b10,b11,b12,b13,b14,b15]) (ha : a = ⟨List.toArray (s0::s1::s2::s3::u4::(.int .i64 (pp : Int))::(.pointer (some ⟨xb,0,none⟩))::s7::s8::(.pointer (some ⟨bb,0,none⟩))::s10::s11::s12::s13::s14::s15::s16::s17::s18::s19::s20::s21::s22::s23::s24::s25::s26::s27::s28::s29::s30::s31::s32::s33::s34::s35::s36::s37::s38::s39::s40::s41::s42::s43::s44::s45::s46::s47::s48::s49::s50::s51::s52::s53::s54::s55::s56::s57::s58::s59::s60::s61::s62::s63::s64::s65::s66::s67::s68::s69::s70::s71::s72::s73::s74::s75::s76::s77::s78::s79::s80::s81::s82::s83::s84::s85::s86::s87::s88::u89::u90::u91::u92::u93::u94::u95::u96::u97::u98::u99::u100::u101::u102::u103::[]),[]⟩) (HW : (Mv w0 H0 W (H4 ++ HH) ∧ (b7 = false → H4 = []) ∧ (b7 = true → RowB (.slice x3 nb y3) bs H4) ∧ (b8 = true → b7 = true) ∧ (b7 = true → b6 = true) ∧ (b6 = true → b5 = true) ∧ (b5 = true → b4 = true) ∧ (b4 = true → b2 = true) ∧ (b2 = true → b1 = true))) (h0 : Hid (b0 = true → u89 = .pointer (some ⟨bb,0,none⟩))) (h1 : Hid (b1 = true → u90 = .agg #[.int .i64 (pp : Int),v1,.slice x1 nb y1])) (h2 : Hid (b2 = true → u91 = .int .i64 (pp : Int))) (h3 : Hid (b3 = true → u92 = .int .i64 (pp : Int))) (h4 : Hid (b4 = true → u93 = .bool true)) (h5 : Hid (b5 = true → u94 = .bool true)) (h6 : Hid (b6 = true → u95 = .pointer (some ⟨bb,0,none⟩))) (h7 : Hid (b7 = true → u96 = .agg #[.int .i64 (pp : Int),v3,.slice x3 nb y3])) (h8 : Hid (b8 = true → u97 = .slice x3 nb y3)) (h9 : Hid (b9 = true → u98 = .string ⟨bs.toArray⟩)) (h10 : Hid (b10 = true → u99 = .pointer (some ⟨xb,2,none⟩))) (h11 : Hid (b11 = true → u100 = .slice ba nb bc)) (h12 : Hid (b12 = true → u101 = .string ⟨bs.toArray⟩)) (h13 : Hid (b13 = true → u102 = .bool true)) (h14 : Hid (b14 = true → u103 = .bool true)) (h15 : Hid (b15 = true → u4 = .bool true)) : cnt_r15_S bb pp xb nb bc ba bs HH H0 w0 w s0 s1 s2 s3 s4 s7 s8 s10 s11 s12 s13 s14 s15 s16 s17 s18 s19 s20 s21 s22 s23 s24 s25 s26 s27 s28 s29 s30 s31 s32 s33 s34 s35 s36 s37 s38 s39 s40 s41 s42 s43 s44 s45 s46 s47 s48 s49 s50 s51 s52 s53 s54 s55 s56 s57 s58 s59 s60 s61 s62 s63 s64 s65 s66 s67 s68 s69 s70 s71 s72 s73 s74 s75 s76 s77 s78 s79 s80 s81 s82 s83 s84 s85 s86 s87 s88 s89 s90 s91 s92 s93 s94 s95 s96 s97 s98 s99 s100 s101 s102 s103 listed a W
set_option maxHeartbeats 4000000 in
theorem cnt_r15 (K : Act → World → Prop) (bb pp xb nb bc : Nat) (ba : Option Addr) (bs : List UInt8) (HH H0 : List Ytnpoakabheeoeaa.HB) (w0 : World) (w : World) (s0 s1 s2 s3 s4 s7 s8 s10 s11 s12 s13 s14 s15 s16 s17 s18 s19 s20 s21 s22 s23 s24 s25 s26 s27 s28 s29 s30 s31 s32 s33 s34 s35 s36 s37 s38 s39 s40 s41 s42 s43 s44 s45 s46 s47 s48 s49 s50 s51 s52 s53 s54 s55 s56 s57 s58 s59 s60 s61 s62 s63 s64 s65 s66 s67 s68 s69 s70 s71 s72 s73 s74 s75 s76 s77 s78 s79 s80 s81 s82 s83 s84 s85 s86 s87 s88 s89 s90 s91 s92 s93 s94 s95 s96 s97 s98 s99 s100 s101 s102 s103 : Value) (BK : Hid (∀ V,Mv w0 H0 V HH → Calls Try.prog 16 #[.pointer (some ⟨bb,0,none⟩),.int .i64 0] V fun e w' => ∃ v a c H2,e = .returned (.agg #[.int .i64 (pp : Int),v,.slice a nb c]) ∧ RowB (.slice a nb c) bs H2 ∧ Mv w0 H0 w' (H2 ++ HH))) (CE : Hid (∀ V A',Mv w0 H0 V (A' ++ HH) → V.cell? ⟨xb,2,none⟩ = some (.slice ba nb bc))) (BX : Hid (∀ V A',Mv w0 H0 V (A' ++ HH) → BV V (.slice ba nb bc) bs)) (hM : Mv w0 H0 w HH) (hpp : pp ≤ 30)
  (hk : ∀ (u89 u90 u91 u92 u93 u94 u95 u96 u97 u98 u99 u100 u101 u102 u103 u4 : Value) (v1 : Value) (x1 : Option Addr) (y1 : Nat) (v3 : Value) (x3 : Option Addr) (y3 : Nat) (H4 : List Ytnpoakabheeoeaa.HB) (W : World),(Mv w0 H0 W (H4 ++ HH) ∧ (true = false → H4 = []) ∧ (true = true → RowB (.slice x3 nb y3) bs H4) ∧ (true = true → true = true) ∧ (true = true → true = true) ∧ (true = true → true = true) ∧ (true = true → true = true) ∧ (true = true → true = true) ∧ (true = true → true = true)) → (u4 = .bool true) →  K ⟨List.toArray (s0::s1::s2::s3::u4::(.int .i64 (pp : Int))::(.pointer (some ⟨xb,0,none⟩))::s7::s8::(.pointer (some ⟨bb,0,none⟩))::s10::s11::s12::s13::s14::s15::s16::s17::s18::s19::s20::s21::s22::s23::s24::s25::s26::s27::s28::s29::s30::s31::s32::s33::s34::s35::s36::s37::s38::s39::s40::s41::s42::s43::s44::s45::s46::s47::s48::s49::s50::s51::s52::s53::s54::s55::s56::s57::s58::s59::s60::s61::s62::s63::s64::s65::s66::s67::s68::s69::s70::s71::s72::s73::s74::s75::s76::s77::s78::s79::s80::s81::s82::s83::s84::s85::s86::s87::s88::u89::u90::u91::u92::u93::u94::u95::u96::u97::u98::u99::u100::u101::u102::u103::[]),[]⟩ W) :
  (regionOf 15 Try.f6).wp Try.prog (Exit.then K noQ) ⟨List.toArray (s0::s1::s2::s3::s4::(.int .i64 (pp : Int))::(.pointer (some ⟨xb,0,none⟩))::s7::s8::(.pointer (some ⟨bb,0,none⟩))::s10::s11::s12::s13::s14::s15::s16::s17::s18::s19::s20::s21::s22::s23::s24::s25::s26::s27::s28::s29::s30::s31::s32::s33::s34::s35::s36::s37::s38::s39::s40::s41::s42::s43::s44::s45::s46::s47::s48::s49::s50::s51::s52::s53::s54::s55::s56::s57::s58::s59::s60::s61::s62::s63::s64::s65::s66::s67::s68::s69::s70::s71::s72::s73::s74::s75::s76::s77::s78::s79::s80::s81::s82::s83::s84::s85::s86::s87::s88::s89::s90::s91::s92::s93::s94::s95::s96::s97::s98::s99::s100::s101::s102::s103::[]),[]⟩ w := by
 conv in (regionOf _ _) => whnf
 unfold noQ
 have HK := Lib.hid hk
 clear hk
 refine wp_region_inv (by kernel_rfl) (cnt_r15_S bb pp xb nb bc ba bs HH H0 w0 w s0 s1 s2 s3 s4 s7 s8 s10 s11 s12 s13 s14 s15 s16 s17 s18 s19 s20 s21 s22 s23 s24 s25 s26 s27 s28 s29 s30 s31 s32 s33 s34 s35 s36 s37 s38 s39 s40 s41 s42 s43 s44 s45 s46 s47 s48 s49 s50 s51 s52 s53 s54 s55 s56 s57 s58 s59 s60 s61 s62 s63 s64 s65 s66 s67 s68 s69 s70 s71 s72 s73 s74 s75 s76 s77 s78 s79 s80 s81 s82 s83 s84 s85 s86 s87 s88 s89 s90 s91 s92 s93 s94 s95 s96 s97 s98 s99 s100 s101 s102 s103) ?_ ?_ ?_
 ·exact ⟨false,false,false,false,false,false,false,false,false,false,false,false,false,false,false,false,s89,s90,s91,s92,s93,s94,s95,s96,s97,s98,s99,s100,s101,s102,s103,s4,undef,none,0,undef,none,0,[],rfl,rfl,⟨hM.drew,fun _ => rfl,(fun e => nomatch e),(fun e => nomatch e),(fun e => nomatch e),(fun e => nomatch e),(fun e => nomatch e),(fun e => nomatch e),(fun e => nomatch e)⟩,Lib.hid nofun,Lib.hid nofun,Lib.hid nofun,Lib.hid nofun,Lib.hid nofun,Lib.hid nofun,Lib.hid nofun,Lib.hid nofun,Lib.hid nofun,Lib.hid nofun,Lib.hid nofun,Lib.hid nofun,Lib.hid nofun,Lib.hid nofun,Lib.hid nofun,Lib.hid nofun⟩
 ·rintro listed a W ⟨b0,b1,b2,b3,b4,b5,b6,b7,b8,b9,b10,b11,b12,b13,b14,b15,u89,u90,u91,u92,u93,u94,u95,u96,u97,u98,u99,u100,u101,u102,u103,u4,v1,x1,y1,v3,x3,y3,H4,rfl,rfl,HW,h0,h1,h2,h3,h4,h5,h6,h7,h8,h9,h10,h11,h12,h13,h14,h15⟩ hr
  obtain rfl : b0 = true := by cases b0; exact (not_ready2 hr 0 _ rfl rfl (by simp [Region.binds])).elim; rfl
  obtain rfl : b1 = true := by cases b1; exact (not_ready2 hr 1 _ rfl rfl (by simp [Region.binds])).elim; rfl
  obtain rfl : b2 = true := by cases b2; exact (not_ready2 hr 2 _ rfl rfl (by simp [Region.binds])).elim; rfl
  obtain rfl : b3 = true := by cases b3; exact (not_ready2 hr 3 _ rfl rfl (by simp [Region.binds])).elim; rfl
  obtain rfl : b4 = true := by cases b4; exact (not_ready2 hr 4 _ rfl rfl (by simp [Region.binds])).elim; rfl
  obtain rfl : b5 = true := by cases b5; exact (not_ready2 hr 5 _ rfl rfl (by simp [Region.binds])).elim; rfl
  obtain rfl : b6 = true := by cases b6; exact (not_ready2 hr 6 _ rfl rfl (by simp [Region.binds])).elim; rfl
  obtain rfl : b7 = true := by cases b7; exact (not_ready2 hr 7 _ rfl rfl (by simp [Region.binds])).elim; rfl
  obtain rfl : b8 = true := by cases b8; exact (not_ready2 hr 8 _ rfl rfl (by simp [Region.binds])).elim; rfl
  obtain rfl : b9 = true := by cases b9; exact (not_ready2 hr 9 _ rfl rfl (by simp [Region.binds])).elim; rfl
  obtain rfl : b10 = true := by cases b10; exact (not_ready2 hr 10 _ rfl rfl (by simp [Region.binds])).elim; rfl
  obtain rfl : b11 = true := by cases b11; exact (not_ready2 hr 11 _ rfl rfl (by simp [Region.binds])).elim; rfl
  obtain rfl : b12 = true := by cases b12; exact (not_ready2 hr 12 _ rfl rfl (by simp [Region.binds])).elim; rfl
  obtain rfl : b13 = true := by cases b13; exact (not_ready2 hr 13 _ rfl rfl (by simp [Region.binds])).elim; rfl
  obtain rfl : b14 = true := by cases b14; exact (not_ready2 hr 14 _ rfl rfl (by simp [Region.binds])).elim; rfl
  obtain rfl : b15 = true := by cases b15; exact (not_ready2 hr 15 _ rfl rfl (by simp [Region.binds])).elim; rfl
  exact HK.out u89 u90 u91 u92 u93 u94 u95 u96 u97 u98 u99 u100 u101 u102 u103 u4 v1 x1 y1 v3 x3 y3 H4 W HW (h15.out rfl)
 ·rintro listed a W i ⟨b0,b1,b2,b3,b4,b5,b6,b7,b8,b9,b10,b11,b12,b13,b14,b15,u89,u90,u91,u92,u93,u94,u95,u96,u97,u98,u99,u100,u101,u102,u103,u4,v1,x1,y1,v3,x3,y3,H4,rfl,rfl,HW,h0,h1,h2,h3,h4,h5,h6,h7,h8,h9,h10,h11,h12,h13,h14,h15⟩ hi
  obtain ⟨hi1,hi2,hi3⟩ := mem_ready hi
  clear hi
  have hi4 : i = 0 ∨ i = 1 ∨ i = 2 ∨ i = 3 ∨ i = 4 ∨ i = 5 ∨ i = 6 ∨ i = 7 ∨ i = 8 ∨ i = 9 ∨ i = 10 ∨ i = 11 ∨ i = 12 ∨ i = 13 ∨ i = 14 ∨ i = 15 := by
   have : i < 16 := hi1
   omega
  clear hi1
  rcases hi4 with rfl | rfl | rfl | rfl | rfl | rfl | rfl | rfl | rfl | rfl | rfl | rfl | rfl | rfl | rfl | rfl
  ·obtain rfl : b0 = false := hi2
   clear hi3
   refine wpOp_step rfl (fun K hK => ?_)
   go_simp
   refine hK _ _ ⟨true,_,_,_,_,_,_,_,_,_,_,_,_,_,_,_,(.pointer (some ⟨bb,0,none⟩)),_,_,_,_,_,_,_,_,_,_,_,_,_,_,_,_,_,_,_,_,_,_,rfl,rfl,HW,Lib.hid (fun _ => rfl),h1,h2,h3,h4,h5,h6,h7,h8,h9,h10,h11,h12,h13,h14,h15⟩
  ·obtain rfl : b1 = false := hi2
   obtain rfl : b0 = true := hi3 _ rfl ⟨0,.data⟩ (by simp) rfl
   obtain rfl := h0.out rfl
   clear hi3
   obtain rfl : b2 = false := by cases b2; rfl; cases (HW.2.2.2.2.2.2.2.2 rfl)
   obtain rfl : b4 = false := by cases b4; rfl; cases (HW.2.2.2.2.2.2.2.1 rfl)
   obtain rfl : b5 = false := by cases b5; rfl; cases (HW.2.2.2.2.2.2.1 rfl)
   obtain rfl : b6 = false := by cases b6; rfl; cases (HW.2.2.2.2.2.1 rfl)
   obtain rfl : b7 = false := by cases b7; rfl; cases (HW.2.2.2.2.1 rfl)
   obtain rfl := HW.2.1 rfl
   refine wpOp_step rfl (fun K hK => ?_)
   go_simp
   go_at_call 16
   refine (BK.out W HW.1).mono ?_
   rintro e w11 ⟨v1',x1',y1',H2,rfl,r',m'⟩
   refine hK _ _ ⟨_,true,_,_,_,_,_,_,_,_,_,_,_,_,_,_,_,(.agg #[.int .i64 (pp : Int),v1',.slice x1' nb y1']),_,_,_,_,_,_,_,_,_,_,_,_,_,_,v1',x1',y1',_,_,_,[],rfl,rfl,⟨m'.drop,fun _ => rfl,(fun e => nomatch e),HW.2.2.2.1,HW.2.2.2.2.1,HW.2.2.2.2.2.1,HW.2.2.2.2.2.2.1,HW.2.2.2.2.2.2.2.1,fun _ => rfl⟩,h0,Lib.hid (fun _ => rfl),Lib.hid ((fun e => nomatch e)),h3,h4,h5,h6,h7,h8,h9,h10,h11,h12,h13,h14,h15⟩
  ·obtain rfl : b2 = false := hi2
   obtain rfl : b1 = true := hi3 _ rfl ⟨1,.data⟩ (by simp) rfl
   obtain rfl := h1.out rfl
   clear hi3
   have hf := hfd0 (pp := pp) (nb := nb) v1 x1 y1 W
   refine wpOp_step rfl (fun K hK => ?_)
   go_simp
   refine hK _ _ ⟨_,_,true,_,_,_,_,_,_,_,_,_,_,_,_,_,_,_,(.int .i64 (pp : Int)),_,_,_,_,_,_,_,_,_,_,_,_,_,_,_,_,_,_,_,_,rfl,rfl,⟨HW.1,HW.2.1,HW.2.2.1,HW.2.2.2.1,HW.2.2.2.2.1,HW.2.2.2.2.2.1,HW.2.2.2.2.2.2.1,fun _ => rfl,fun _ => rfl⟩,h0,h1,Lib.hid (fun _ => rfl),h3,h4,h5,h6,h7,h8,h9,h10,h11,h12,h13,h14,h15⟩
  ·obtain rfl : b3 = false := hi2
   clear hi3
   refine wpOp_step rfl (fun K hK => ?_)
   go_simp
   refine hK _ _ ⟨_,_,_,true,_,_,_,_,_,_,_,_,_,_,_,_,_,_,_,(.int .i64 (pp : Int)),_,_,_,_,_,_,_,_,_,_,_,_,_,_,_,_,_,_,_,rfl,rfl,HW,h0,h1,h2,Lib.hid (fun _ => rfl),h4,h5,h6,h7,h8,h9,h10,h11,h12,h13,h14,h15⟩
  ·obtain rfl : b4 = false := hi2
   obtain rfl : b2 = true := hi3 _ rfl ⟨2,.data⟩ (by simp) rfl
   obtain rfl : b3 = true := hi3 _ rfl ⟨3,.data⟩ (by simp) rfl
   obtain rfl := h2.out rfl
   obtain rfl := h3.out rfl
   clear hi3
   refine wpOp_step rfl (fun K hK => ?_)
   go_simp
   refine hK _ _ ⟨_,_,_,_,true,_,_,_,_,_,_,_,_,_,_,_,_,_,_,_,(.bool true),_,_,_,_,_,_,_,_,_,_,_,_,_,_,_,_,_,_,rfl,rfl,⟨HW.1,HW.2.1,HW.2.2.1,HW.2.2.2.1,HW.2.2.2.2.1,HW.2.2.2.2.2.1,fun _ => rfl,fun _ => rfl,HW.2.2.2.2.2.2.2.2⟩,h0,h1,h2,h3,Lib.hid (fun _ => rfl),h5,h6,h7,h8,h9,h10,h11,h12,h13,h14,h15⟩
  ·obtain rfl : b5 = false := hi2
   obtain rfl : b4 = true := hi3 _ rfl ⟨4,.data⟩ (by simp) rfl
   obtain rfl : b1 = true := hi3 _ rfl ⟨1,.chain⟩ (by simp) rfl
   obtain rfl := h1.out rfl
   obtain rfl := h4.out rfl
   clear hi3
   refine wpOp_step rfl (fun K hK => ?_)
   go_simp
   refine hK _ _ ⟨_,_,_,_,_,true,_,_,_,_,_,_,_,_,_,_,_,_,_,_,_,(.bool true),_,_,_,_,_,_,_,_,_,_,_,_,_,_,_,_,_,rfl,rfl,⟨HW.1,HW.2.1,HW.2.2.1,HW.2.2.2.1,HW.2.2.2.2.1,fun _ => rfl,fun _ => rfl,HW.2.2.2.2.2.2.2.1,HW.2.2.2.2.2.2.2.2⟩,h0,h1,h2,h3,h4,Lib.hid (fun _ => rfl),h6,h7,h8,h9,h10,h11,h12,h13,h14,h15⟩
  ·obtain rfl : b6 = false := hi2
   obtain rfl : b5 = true := hi3 _ rfl ⟨5,.guard⟩ (by simp) rfl
   obtain rfl := h5.out rfl
   clear hi3
   refine wpOp_step rfl (fun K hK => ?_)
   go_simp
   refine hK _ _ ⟨_,_,_,_,_,_,true,_,_,_,_,_,_,_,_,_,_,_,_,_,_,_,(.pointer (some ⟨bb,0,none⟩)),_,_,_,_,_,_,_,_,_,_,_,_,_,_,_,_,rfl,rfl,⟨HW.1,HW.2.1,HW.2.2.1,HW.2.2.2.1,fun _ => rfl,fun _ => rfl,HW.2.2.2.2.2.2.1,HW.2.2.2.2.2.2.2.1,HW.2.2.2.2.2.2.2.2⟩,h0,h1,h2,h3,h4,h5,Lib.hid (fun _ => rfl),h7,h8,h9,h10,h11,h12,h13,h14,h15⟩
  ·obtain rfl : b7 = false := hi2
   obtain rfl : b6 = true := hi3 _ rfl ⟨6,.data⟩ (by simp) rfl
   obtain rfl : b5 = true := hi3 _ rfl ⟨5,.chain⟩ (by simp) rfl
   obtain rfl := h5.out rfl
   obtain rfl := h6.out rfl
   clear hi3
   obtain rfl : b8 = false := by cases b8; rfl; cases (HW.2.2.2.1 rfl)
   obtain rfl := HW.2.1 rfl
   refine wpOp_step rfl (fun K hK => ?_)
   go_simp
   go_at_call 16
   refine (BK.out W HW.1).mono ?_
   rintro e w11 ⟨v3',x3',y3',H4',rfl,r',m'⟩
   refine hK _ _ ⟨_,_,_,_,_,_,_,true,_,_,_,_,_,_,_,_,_,_,_,_,_,_,_,(.agg #[.int .i64 (pp : Int),v3',.slice x3' nb y3']),_,_,_,_,_,_,_,_,_,_,_,v3',x3',y3',H4',rfl,rfl,⟨m',(fun e => nomatch e),fun _ => r',(fun e => nomatch e),fun _ => rfl,HW.2.2.2.2.2.1,HW.2.2.2.2.2.2.1,HW.2.2.2.2.2.2.2.1,HW.2.2.2.2.2.2.2.2⟩,h0,h1,h2,h3,h4,h5,h6,Lib.hid (fun _ => rfl),Lib.hid ((fun e => nomatch e)),h9,h10,h11,h12,h13,h14,h15⟩
  ·obtain rfl : b8 = false := hi2
   obtain rfl : b7 = true := hi3 _ rfl ⟨7,.data⟩ (by simp) rfl
   obtain rfl : b5 = true := hi3 _ rfl ⟨5,.guard⟩ (by simp) rfl
   obtain rfl := h5.out rfl
   obtain rfl := h7.out rfl
   clear hi3
   have hf := hfd2 (pp := pp) (nb := nb) v3 x3 y3 W
   refine wpOp_step rfl (fun K hK => ?_)
   go_simp
   refine hK _ _ ⟨_,_,_,_,_,_,_,_,true,_,_,_,_,_,_,_,_,_,_,_,_,_,_,_,(.slice x3 nb y3),_,_,_,_,_,_,_,_,_,_,_,_,_,_,rfl,rfl,⟨HW.1,HW.2.1,HW.2.2.1,fun _ => rfl,HW.2.2.2.2.1,HW.2.2.2.2.2.1,HW.2.2.2.2.2.2.1,HW.2.2.2.2.2.2.2.1,HW.2.2.2.2.2.2.2.2⟩,h0,h1,h2,h3,h4,h5,h6,h7,Lib.hid (fun _ => rfl),h9,h10,h11,h12,h13,h14,h15⟩
  ·obtain rfl : b9 = false := hi2
   obtain rfl : b8 = true := hi3 _ rfl ⟨8,.data⟩ (by simp) rfl
   obtain rfl : b5 = true := hi3 _ rfl ⟨5,.guard⟩ (by simp) rfl
   obtain rfl := h5.out rfl
   obtain rfl := h8.out rfl
   clear hi3
   obtain rfl : b7 = true := HW.2.2.2.1 rfl
   have hcv := conv_string (RowB.bv (HW.2.2.1 rfl) HW.1.sat.left)
   refine wpOp_step rfl (fun K hK => ?_)
   go_simp
   refine hK _ _ ⟨_,_,_,_,_,_,_,_,_,true,_,_,_,_,_,_,_,_,_,_,_,_,_,_,_,(.string ⟨bs.toArray⟩),_,_,_,_,_,_,_,_,_,_,_,_,_,rfl,rfl,HW,h0,h1,h2,h3,h4,h5,h6,h7,h8,Lib.hid (fun _ => rfl),h10,h11,h12,h13,h14,h15⟩
  ·obtain rfl : b10 = false := hi2
   obtain rfl : b5 = true := hi3 _ rfl ⟨5,.guard⟩ (by simp) rfl
   obtain rfl := h5.out rfl
   clear hi3
   refine wpOp_step rfl (fun K hK => ?_)
   go_simp
   refine hK _ _ ⟨_,_,_,_,_,_,_,_,_,_,true,_,_,_,_,_,_,_,_,_,_,_,_,_,_,_,(.pointer (some ⟨xb,2,none⟩)),_,_,_,_,_,_,_,_,_,_,_,_,rfl,rfl,HW,h0,h1,h2,h3,h4,h5,h6,h7,h8,h9,Lib.hid (fun _ => rfl),h11,h12,h13,h14,h15⟩
  ·obtain rfl : b11 = false := hi2
   obtain rfl : b10 = true := hi3 _ rfl ⟨10,.data⟩ (by simp) rfl
   obtain rfl : b5 = true := hi3 _ rfl ⟨5,.guard⟩ (by simp) rfl
   obtain rfl := h5.out rfl
   obtain rfl := h10.out rfl
   clear hi3
   have hcc := CE.out W H4 HW.1
   refine wpOp_step rfl (fun K hK => ?_)
   go_simp
   refine hK _ _ ⟨_,_,_,_,_,_,_,_,_,_,_,true,_,_,_,_,_,_,_,_,_,_,_,_,_,_,_,(.slice ba nb bc),_,_,_,_,_,_,_,_,_,_,_,rfl,rfl,HW,h0,h1,h2,h3,h4,h5,h6,h7,h8,h9,h10,Lib.hid (fun _ => rfl),h12,h13,h14,h15⟩
  ·obtain rfl : b12 = false := hi2
   obtain rfl : b11 = true := hi3 _ rfl ⟨11,.data⟩ (by simp) rfl
   obtain rfl : b5 = true := hi3 _ rfl ⟨5,.guard⟩ (by simp) rfl
   obtain rfl := h5.out rfl
   obtain rfl := h11.out rfl
   clear hi3
   have hcv := conv_string (BX.out W H4 HW.1)
   refine wpOp_step rfl (fun K hK => ?_)
   go_simp
   refine hK _ _ ⟨_,_,_,_,_,_,_,_,_,_,_,_,true,_,_,_,_,_,_,_,_,_,_,_,_,_,_,_,(.string ⟨bs.toArray⟩),_,_,_,_,_,_,_,_,_,_,rfl,rfl,HW,h0,h1,h2,h3,h4,h5,h6,h7,h8,h9,h10,h11,Lib.hid (fun _ => rfl),h13,h14,h15⟩
  ·obtain rfl : b13 = false := hi2
   obtain rfl : b9 = true := hi3 _ rfl ⟨9,.data⟩ (by simp) rfl
   obtain rfl : b12 = true := hi3 _ rfl ⟨12,.data⟩ (by simp) rfl
   obtain rfl : b5 = true := hi3 _ rfl ⟨5,.guard⟩ (by simp) rfl
   obtain rfl := h5.out rfl
   obtain rfl := h9.out rfl
   obtain rfl := h12.out rfl
   clear hi3
   refine wpOp_step rfl (fun K hK => ?_)
   go_simp
   refine hK _ _ ⟨_,_,_,_,_,_,_,_,_,_,_,_,_,true,_,_,_,_,_,_,_,_,_,_,_,_,_,_,_,(.bool true),_,_,_,_,_,_,_,_,_,rfl,rfl,HW,h0,h1,h2,h3,h4,h5,h6,h7,h8,h9,h10,h11,h12,Lib.hid (fun _ => rfl),h14,h15⟩
  ·obtain rfl : b14 = false := hi2
   obtain rfl : b5 = true := hi3 _ rfl ⟨5,.data⟩ (by simp) rfl
   obtain rfl : b13 = true := hi3 _ rfl ⟨13,.data⟩ (by simp) rfl
   obtain rfl := h5.out rfl
   obtain rfl := h13.out rfl
   clear hi3
   refine wpOp_step rfl (fun K hK => ?_)
   go_simp
   refine hK _ _ ⟨_,_,_,_,_,_,_,_,_,_,_,_,_,_,true,_,_,_,_,_,_,_,_,_,_,_,_,_,_,_,(.bool true),_,_,_,_,_,_,_,_,rfl,rfl,HW,h0,h1,h2,h3,h4,h5,h6,h7,h8,h9,h10,h11,h12,h13,Lib.hid (fun _ => rfl),h15⟩
  ·obtain rfl : b15 = false := hi2
   obtain rfl : b14 = true := hi3 _ rfl ⟨14,.data⟩ (by simp) rfl
   obtain rfl : b7 = true := hi3 _ rfl ⟨7,.chain⟩ (by simp) rfl
   obtain rfl : b0 = true := hi3 _ rfl ⟨0,.phase⟩ (by simp) rfl
   obtain rfl : b1 = true := hi3 _ rfl ⟨1,.phase⟩ (by simp) rfl
   obtain rfl : b2 = true := hi3 _ rfl ⟨2,.phase⟩ (by simp) rfl
   obtain rfl : b3 = true := hi3 _ rfl ⟨3,.phase⟩ (by simp) rfl
   obtain rfl : b4 = true := hi3 _ rfl ⟨4,.phase⟩ (by simp) rfl
   obtain rfl : b5 = true := hi3 _ rfl ⟨5,.phase⟩ (by simp) rfl
   obtain rfl : b6 = true := hi3 _ rfl ⟨6,.phase⟩ (by simp) rfl
   obtain rfl : b8 = true := hi3 _ rfl ⟨8,.phase⟩ (by simp) rfl
   obtain rfl : b9 = true := hi3 _ rfl ⟨9,.phase⟩ (by simp) rfl
   obtain rfl : b10 = true := hi3 _ rfl ⟨10,.phase⟩ (by simp) rfl
   obtain rfl : b11 = true := hi3 _ rfl ⟨11,.phase⟩ (by simp) rfl
   obtain rfl : b12 = true := hi3 _ rfl ⟨12,.phase⟩ (by simp) rfl
   obtain rfl : b13 = true := hi3 _ rfl ⟨13,.phase⟩ (by simp) rfl
   obtain rfl := h0.out rfl
   obtain rfl := h1.out rfl
   obtain rfl := h2.out rfl
   obtain rfl := h3.out rfl
   obtain rfl := h4.out rfl
   obtain rfl := h5.out rfl
   obtain rfl := h6.out rfl
   obtain rfl := h7.out rfl
   obtain rfl := h8.out rfl
   obtain rfl := h9.out rfl
   obtain rfl := h10.out rfl
   obtain rfl := h11.out rfl
   obtain rfl := h12.out rfl
   obtain rfl := h13.out rfl
   obtain rfl := h14.out rfl
   clear hi3
   refine wpOp_step rfl (fun K hK => ?_)
   go_simp
   refine hK _ _ ⟨_,_,_,_,_,_,_,_,_,_,_,_,_,_,_,true,_,_,_,_,_,_,_,_,_,_,_,_,_,_,_,(.bool true),_,_,_,_,_,_,_,rfl,rfl,HW,h0,h1,h2,h3,h4,h5,h6,h7,h8,h9,h10,h11,h12,h13,h14,Lib.hid (fun _ => rfl)⟩
end
section
theorem ck_p1 : ((List.range 8).all fun o => ckEnd 1 (o + 1)) = true := by decide +kernel
theorem ck_p2 : ((List.range 8).all fun o => ckEnd 2 (o + 1)) = true := by decide +kernel
theorem ck_p3 : ((List.range 8).all fun o => ckEnd 3 (o + 1)) = true := by decide +kernel
theorem ck_p4 : ((List.range 8).all fun o => ckEnd 4 (o + 1)) = true := by decide +kernel
theorem ck_p5 : ((List.range 8).all fun o => ckEnd 5 (o + 1)) = true := by decide +kernel
theorem ck_p6 : ((List.range 8).all fun o => ckEnd 6 (o + 1)) = true := by decide +kernel
theorem ck_p7 : ((List.range 8).all fun o => ckEnd 7 (o + 1)) = true := by decide +kernel
theorem ck_p8 : ((List.range 8).all fun o => ckEnd 8 (o + 1)) = true := by decide +kernel
theorem ck_p9 : ((List.range 8).all fun o => ckEnd 9 (o + 1)) = true := by decide +kernel
theorem ck_p10 : ((List.range 8).all fun o => ckEnd 10 (o + 1)) = true := by decide +kernel
theorem ck_p11 : ((List.range 8).all fun o => ckEnd 11 (o + 1)) = true := by decide +kernel
theorem ck_p12 : ((List.range 8).all fun o => ckEnd 12 (o + 1)) = true := by decide +kernel
theorem ck_p13 : ((List.range 8).all fun o => ckEnd 13 (o + 1)) = true := by decide +kernel
theorem ck_p14 : ((List.range 8).all fun o => ckEnd 14 (o + 1)) = true := by decide +kernel
theorem ck_p15 : ((List.range 8).all fun o => ckEnd 15 (o + 1)) = true := by decide +kernel
theorem ck_p16 : ((List.range 8).all fun o => ckEnd 16 (o + 1)) = true := by decide +kernel
theorem ck_p17 : ((List.range 8).all fun o => ckEnd 17 (o + 1)) = true := by decide +kernel
theorem ck_p18 : ((List.range 8).all fun o => ckEnd 18 (o + 1)) = true := by decide +kernel
theorem ck_p19 : ((List.range 8).all fun o => ckEnd 19 (o + 1)) = true := by decide +kernel
theorem ck_p20 : ((List.range 8).all fun o => ckEnd 20 (o + 1)) = true := by decide +kernel
theorem ck_p21 : ((List.range 8).all fun o => ckEnd 21 (o + 1)) = true := by decide +kernel
theorem ck_p22 : ((List.range 8).all fun o => ckEnd 22 (o + 1)) = true := by decide +kernel
theorem ck_p23 : ((List.range 8).all fun o => ckEnd 23 (o + 1)) = true := by decide +kernel
theorem ck_p24 : ((List.range 8).all fun o => ckEnd 24 (o + 1)) = true := by decide +kernel
theorem ck_p25 : ((List.range 8).all fun o => ckEnd 25 (o + 1)) = true := by decide +kernel
theorem ck_p26 : ((List.range 8).all fun o => ckEnd 26 (o + 1)) = true := by decide +kernel
theorem ck_p27 : ((List.range 8).all fun o => ckEnd 27 (o + 1)) = true := by decide +kernel
theorem ck_p28 : ((List.range 8).all fun o => ckEnd 28 (o + 1)) = true := by decide +kernel
theorem ck_p29 : ((List.range 8).all fun o => ckEnd 29 (o + 1)) = true := by decide +kernel
theorem ck_p30 : ((List.range 8).all fun o => ckEnd 30 (o + 1)) = true := by decide +kernel
theorem ck_all (p o : Nat) (hp : p < 30) (ho : o < 8) : ckEnd (p + 1) (o + 1) = true := by
 have key : ((List.range 8).all fun o => ckEnd (p + 1) (o + 1)) = true := by
  match p,hp with
  | 0,_ => exact ck_p1
  | 1,_ => exact ck_p2
  | 2,_ => exact ck_p3
  | 3,_ => exact ck_p4
  | 4,_ => exact ck_p5
  | 5,_ => exact ck_p6
  | 6,_ => exact ck_p7
  | 7,_ => exact ck_p8
  | 8,_ => exact ck_p9
  | 9,_ => exact ck_p10
  | 10,_ => exact ck_p11
  | 11,_ => exact ck_p12
  | 12,_ => exact ck_p13
  | 13,_ => exact ck_p14
  | 14,_ => exact ck_p15
  | 15,_ => exact ck_p16
  | 16,_ => exact ck_p17
  | 17,_ => exact ck_p18
  | 18,_ => exact ck_p19
  | 19,_ => exact ck_p20
  | 20,_ => exact ck_p21
  | 21,_ => exact ck_p22
  | 22,_ => exact ck_p23
  | 23,_ => exact ck_p24
  | 24,_ => exact ck_p25
  | 25,_ => exact ck_p26
  | 26,_ => exact ck_p27
  | 27,_ => exact ck_p28
  | 28,_ => exact ck_p29
  | 29,_ => exact ck_p30
  | n + 30,h => exact absurd h (by omega)
 exact List.all_eq_true.1 key o (List.mem_range.2 ho)
end
end Go.Proofs.Ytnpoakabheeoeaa
