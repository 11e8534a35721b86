/- PacketTwins, plain: packets keep bands good; two rows of bands that hold the same. How many passes were said, packet by packet. Plain. The law's Make: the walk. The law's Make: whole. PacketEncodes: what Make's bands are. Plain. A code-block's bytes: behind 255 no byte is more than 144. Plain. -/
import Derived.Test.YtjngfhgakokejaaGreatCp26
import Derived.Test.YtjngfhgakokejaaGreatCp23
import Derived.Test.YtjngfhgakokejaaGreatCp06
set_option maxRecDepth 100000
set_option maxHeartbeats 8000000
set_option linter.all false
namespace Go.Proofs.YtjngfhgakokejaaGreat
section
open Go.RowKit
def EndsB (m:BandM):Prop:=∀ s∈m.ss,∀ p∈s.ps,0≤p.1∧p.1≤100000000
structure BothB (m:BandM):Prop where
 g:GoodB m
 e:EndsB m
theorem ren_of:∀ (A B:List BandA),A.map (·.n)=B.map (·.n)→(A.map (·.bb)).Nodup→(B.map (·.bb)).Nodup→∃ r:BandA→BandA,A.map r=B∧Ren A r
 | [],B,h,_,_=>by
  obtain rfl:B=[]:=by cases B with
   | nil=>rfl
   | cons b B=>simp at h
  exact⟨id,rfl,{ n:=fun d hd=>(by cases hd),inj:=fun d hd=>(by cases hd) }⟩
 | a::A,[],h,_,_=>by simp at h
 | a::A,b::B,h,ha,hb=>by
  simp only[List.map_cons,List.cons.injEq] at h
  rw[List.map_cons,List.nodup_cons] at ha hb
  obtain⟨r,h1,h2⟩:=ren_of A B h.2 ha.2 hb.2
  have hne:∀ e∈A,¬ e.bb=a.bb:=fun e he e2=>ha.1 (by rw[← e2];exact List.mem_map.2 ⟨e,he,rfl⟩)
  have hmb:∀ e∈A,r e∈B:=fun e he=>by rw[← h1];exact List.mem_map.2 ⟨e,he,rfl⟩
  have hnb:∀ e∈A,¬ (r e).bb=b.bb:=fun e he e2=>hb.1 (by rw[← e2];exact List.mem_map.2 ⟨r e,hmb e he,rfl⟩)
  refine⟨fun e=>if e.bb=a.bb then b else r e,?_,⟨?_,?_⟩⟩
  ·rw[List.map_cons,if_pos rfl]
   congr 1
   rw[← h1]
   exact List.map_congr_left fun e he=>by rw[if_neg (hne e he)]
  ·intro d hd
   rcases List.mem_cons.1 hd with rfl | hd
   ·simp only[if_true]
    exact h.1.symm
   ·simp only[if_neg (hne d hd)]
    exact h2.n d hd
  ·intro d hd e he
   rcases List.mem_cons.1 hd with e1 | hd'
   ·rcases List.mem_cons.1 he with e2 | he'
    ·rw[e1,e2]
     simp
    ·simp only[e1,if_true,if_neg (hne e he')]
     exact⟨fun h=>absurd h (hnb e he'),fun h=>absurd h (hne e he')⟩
   ·rcases List.mem_cons.1 he with e2 | he'
    ·simp only[e2,if_true,if_neg (hne d hd')]
     exact⟨fun h=>absurd h.symm (hnb d hd'),fun h=>absurd h.symm (hne d hd')⟩
    ·simp only[if_neg (hne d hd'),if_neg (hne e he')]
     exact h2.inj d hd' e he'
theorem map_get {α β:Type} {f:α→β}:∀ {A:List α} {B:List β} {i:Nat} {a:α},A.map f=B→A[i]?=some a→B[i]?=some (f a):=by
 intro A B i a h ha
 rw[← h,List.getElem?_map,ha]
 rfl
theorem lock_of (La Lb:List (BandA × BandM)) (r:BandA→BandA) (hr:(La.map (·.1)).map r=Lb.map (·.1)) (hm:La.map (·.2)=Lb.map (·.2)) (ha:(La.map (·.1.bb)).Nodup) (hb:(Lb.map (·.1.bb)).Nodup):Lock (La.map (·.1)) r (modelL La) (modelL Lb):=by
 intro d hd
 obtain⟨p,hp,rfl⟩:=List.mem_map.1 hd
 obtain⟨i,hi⟩:=List.getElem?_of_mem hp
 have h1:=map_get hr (i:=i) (a:=p.1) (by rw[List.getElem?_map,hi];rfl)
 have h2:=map_get hm hi
 rw[List.getElem?_map] at h1 h2
 obtain⟨q,hq,e1⟩:=Option.map_eq_some_iff.1 h1
 rw[hq] at h2
 simp only[Option.map_some,Option.some.injEq] at h2
 rw[modelL_mem ha hp,← e1,modelL_mem hb (List.mem_of_getElem? hq),h2]
theorem BandR.n {d:BandA} {m:BandM} {H:List HB} (h:BandR d m H):d.n=m.w * m.h:=by
 obtain⟨b,rfl,hk,-⟩:=h
 exact hk.n
theorem BandsL.n {L:List (BandA × BandM)} {H:List HB} (h:BandsL L H):∀ p∈L,p.1.n=p.2.w * p.2.h:=by
 induction L generalizing H with
 | nil=>intro p hp;cases hp
 | cons q L ih =>
  obtain⟨A,B,rfl,h1,h2⟩:=h
  intro p hp
  rcases List.mem_cons.1 hp with rfl | hp
  ·exact h1.n
  ·exact ih h2 p hp
theorem ShapeM.both (s:ShapeM) (i style:Nat):BothB (s.band i style (s.W * s.H))∧(s.band i style (s.W * s.H)).w=s.W∧(s.band i style (s.W * s.H)).h=s.H:=by
 obtain⟨h1,h2,h3,h4,h5,h6,h7,h8,h9⟩:=s.band_ss i style (s.W * s.H) (Nat.le_refl _)
 have hl:=s.lt
 refine⟨⟨⟨by rw[h3];omega,fun x hx=>?_⟩,fun x hx=>?_⟩,h4,h5⟩
 ·rcases h9 x hx with rfl | ⟨j,hj,rfl⟩
  ·exact⟨by simp[stNew],by simp[stNew],by simp[stNew]⟩
  ·obtain⟨b1,b2,b3,b4⟩:=geoV_bounds (i % 4) style (s.n j) s.ns (s.n_le j)
   exact⟨⟨by show 0≤((s.blk i style j).planes:Int);omega,by show ((s.blk i style j).planes:Int)≤60;unfold ShapeM.blk;omega⟩,by show (3:Int)≤100;decide,by show (s.blk i style j).bytes.length≤300000;unfold ShapeM.blk;omega⟩
 ·rcases h9 x hx with rfl | ⟨j,hj,rfl⟩
  ·intro p hp;simp[stNew] at hp
  ·obtain⟨b1,b2,b3,b4⟩:=geoV_bounds (i % 4) style (s.n j) s.ns (s.n_le j)
   intro p hp
   have:=b4 p hp
   omega
theorem fullB_both (l:List ShapeM) (style:Nat):∀ m∈fullB l style,BothB m∧m.w * m.h≤9:=by
 intro m hm
 obtain⟨i,hi⟩:=List.getElem?_of_mem hm
 simp only[fullB,List.getElem?_mapIdx] at hi
 obtain⟨s,-,rfl⟩:=Option.map_eq_some_iff.1 hi
 obtain⟨h1,h2,h3⟩:=s.both i style
 refine⟨h1,?_⟩
 rw[h2,h3]
 have hl:=s.lt
 exact Nat.mul_le_mul (show s.W≤3 by omega) (show s.H≤3 by omega)
theorem spots_few:∀ (D:List BandA),(∀ d∈D,d.n≤9)→(spotsOf D).length≤D.length * 9
 | [],_=>by simp[spotsOf]
 | d::D,h=>by
  have h1:=spots_few D fun e he=>h e (List.mem_cons_of_mem _ he)
  have h2:=h d List.mem_cons_self
  unfold spotsOf at h1 ⊢
  rw[List.flatMap_cons,List.length_append,List.length_cons]
  have h3:(spotsB d d.n).length=d.n:=by simp[spotsB]
  omega
end
section
open Go.RowKit
theorem said_ss (m:BandM) (k style layer from_ to_:Nat) {s:StM} (h:m.ss[k]?=some s):∃ y,(setSaidM (headM m k style layer from_ to_ s).1 k to_).ss=m.ss.set k y∧y.said=(to_:Int)∧y.ps=s.ps:=by
 have hk:=(List.getElem?_eq_some_iff.1 h).1
 unfold headM
 by_cases e:to_=from_
 ·rw[if_pos e]
  unfold setSaidM
  simp only[h]
  exact⟨_,rfl,rfl,rfl⟩
 ·rw[if_neg e]
  unfold setSaidM
  simp only[List.getElem?_set_self hk]
  refine⟨s.withS (to_:Int) (needM s style from_ to_),?_,rfl,rfl⟩
  rw[List.set_set]
  rfl
theorem stepE_len (count style layer:Nat) (S:PackS) (x:SpotX) (b:Nat):((stepE count style layer S x).M b).ss.length=(S.M b).ss.length:=by
 unfold stepE
 cases hs:(S.M x.d.bb).ss[x.k]? with
 | none=>rfl
 | some s =>
  simp only
  obtain⟨y,e1,-⟩:=said_ss (S.M x.d.bb) x.k style layer s.said.toNat (toM count layer s) hs
  by_cases hb:b=x.d.bb
  ·rw[hb,updM_same,e1,List.length_set]
  ·rw[updM_other _ _ hb]
theorem foldE_len (count style layer:Nat) (b:Nat):∀ (l:List SpotX) (S:PackS),((l.foldl (stepE count style layer) S).M b).ss.length=(S.M b).ss.length
 | [],_=>rfl
 | x::l,S=>by rw[List.foldl_cons,foldE_len count style layer b l,stepE_len]
end
section
open Go.RowKit
section
variable {w0 W:World} {xb:Nat} {P:Int} {pv:Value} {ba:Option Addr} {bn bc:Nat} {ps:List (Int × Bool)} {bs:List UInt8} {Hp Hb:List HB}
theorem mk_add (hb:RowB (.slice ba bn bc) bs Hb) (hpl : -1000≤P∧P≤1000) (hn:ps.length≤1000) (hm:bs.length≤10000000) (he:∀ p∈ps,0≤p.1∧p.1≤100000000) {d:BandA} {m:BandM} {HA H1 HC:List HB} {vp:Value} (r1:RowP vp ps H1) (hB:BandR d m HA) (k:Int) (hsd:(stOf m k).said=0)
  (M:Mv w0 [] W (H1++((HA++HC)++noneX xb P pv (.slice ba bn bc) Hp Hb))) :
  Calls Tryz.prog 19 #[.pointer (some ⟨d.bb,0,none⟩),.int .i64 k,.agg #[.int .i64 P,vp,.slice ba bn bc]] W fun e w'=>e=.returned (.tuple #[])∧∃ HA',BandR d (addM m k P ps bs) HA'∧Mv w0 [] w' (HA'++(HC++noneX xb P pv (.slice ba bn bc) Hp Hb)):=by
 have sX:Sat W (noneX xb P pv (.slice ba bn bc) Hp Hb):=M.sat.right.right
 have sB:Sat W Hb:=Sat.right (A:=[_]++Hp) (by simpa [noneX] using sX)
 have M2:Mv w0 [] W (HA++(HC++noneX xb P pv (.slice ba bn bc) Hp Hb)):=by
  have:=M.drop
  rwa [List.append_assoc] at this
 refine(add_any d m HA W hB M2.sat.left k P vp (.slice ba bn bc) ps bs (r1.pv M.sat.left) (hb.bv sB) hpl hn hm he (by rw[hsd];omega)).mono ?_
 rintro e w' ⟨rfl,HA',h1,h2⟩
 exact⟨rfl,HA',h1,Mv.call M2 h2⟩
end
theorem mk_r6 (K:Act→World→Prop) (n c i b o sw sh:Nat) (x y:Int) (w:World) (s1 s2 s3 s4 s5 s6 s7 s8 s9 s10 s11 s13 s14 s15 s16 s17 s18 s19 s20 s21 s22 s23 s24 s25 s26 s27 s28 s29 s30 s31 s32 s33 s34 s35 s36 s37 s38 s39 s40 s41 s42 s43 s44 s45 s46 s47 s48 s49 s50 s51 s52 s53 s54 s55 s56 s57 s58 s59 s60 s61 s62 s63 s64 s65 s66 s67 s68 s69 s70 s71 s72 s73 s74 s75 s76 s77 s78 s79 s80 s81 s82 s83 s84 s85 s86 s87 s88 s89 s90 s91 s92 s93 s94 s95 s96 s97 s98 s99 s100 s101 s102 s103 s104 s105 s106 s107 s108 s109 s110 s111 s112 s113 s114 s115 s116 s117 s118 s119 s120 s121 s122 s123 s124 s125 s126 s127 s128 s129 s130 s131 s132 s133:Value) (hi:i<n) (_hn:n≤3)
  (e0:w.cell? ⟨b,o+i * 5,none⟩=some (.int .i64 x)) (e1:w.cell? ⟨b,o+i * 5+1,none⟩=some (.int .i64 y))
  (W1:Hid (∀ V,Calls Tryz.prog 8 #[.int .i64 x,.int .i64 4] V fun e w'=>e=.returned (.int .i64 (sw:Int))∧w'=V)) (W2:Hid (∀ V,Calls Tryz.prog 8 #[.int .i64 y,.int .i64 4] V fun e w'=>e=.returned (.int .i64 (sh:Int))∧w'=V))
  (hK:∀ (t28 t29 t30 t31 t32 t33 t34 t35 t36 t37 t38 t39:Value),K ⟨List.toArray ((.slice (some ⟨b,o,none⟩) n c)::s1::s2::s3::s4::s5::s6::s7::s8::s9::s10::s11::(.int .i64 (i:Int))::(.int .i64 (sw:Int))::(.int .i64 (sh:Int))::s15::s16::s17::s18::s19::s20::s21::s22::s23::s24::s25::s26::s27::t28::t29::t30::t31::t32::t33::t34::t35::t36::t37::t38::t39::s40::s41::s42::s43::s44::s45::s46::s47::s48::s49::s50::s51::s52::s53::s54::s55::s56::s57::s58::s59::s60::s61::s62::s63::s64::s65::s66::s67::s68::s69::s70::s71::s72::s73::s74::s75::s76::s77::s78::s79::s80::s81::s82::s83::s84::s85::s86::s87::s88::s89::s90::s91::s92::s93::s94::s95::s96::s97::s98::s99::s100::s101::s102::s103::s104::s105::s106::s107::s108::s109::s110::s111::s112::s113::s114::s115::s116::s117::s118::s119::s120::s121::s122::s123::s124::s125::s126::s127::s128::s129::s130::s131::s132::s133::[]),[]⟩ w.drew) :
  (regionOf 6 Tryz.f9).wp Tryz.prog (Exit.then K noQ) ⟨List.toArray ((.slice (some ⟨b,o,none⟩) n c)::s1::s2::s3::s4::s5::s6::s7::s8::s9::s10::s11::(.int .i64 (i:Int))::s13::s14::s15::s16::s17::s18::s19::s20::s21::s22::s23::s24::s25::s26::s27::s28::s29::s30::s31::s32::s33::s34::s35::s36::s37::s38::s39::s40::s41::s42::s43::s44::s45::s46::s47::s48::s49::s50::s51::s52::s53::s54::s55::s56::s57::s58::s59::s60::s61::s62::s63::s64::s65::s66::s67::s68::s69::s70::s71::s72::s73::s74::s75::s76::s77::s78::s79::s80::s81::s82::s83::s84::s85::s86::s87::s88::s89::s90::s91::s92::s93::s94::s95::s96::s97::s98::s99::s100::s101::s102::s103::s104::s105::s106::s107::s108::s109::s110::s111::s112::s113::s114::s115::s116::s117::s118::s119::s120::s121::s122::s123::s124::s125::s126::s127::s128::s129::s130::s131::s132::s133::[]),[]⟩ w:=by
 conv in (regionOf _ _)=>whnf
 unfold noQ
 have HK:=Lib.hid hK
 clear hK
 go_region_law (first
  | (go_simp;go_at_call 8;(with_reducible refine(W1.out _).mono ?_);rintro e w' ⟨rfl,rfl⟩)
  | (go_simp;go_at_call 8;(with_reducible refine(W2.out _).mono ?_);rintro e w' ⟨rfl,rfl⟩))
 all_goals exact HK.out _ _ _ _ _ _ _ _ _ _ _ _
theorem mk_r14 (K:Act→World→Prop) (n c i b o k L pb po pc q nk:Nat) (x:Int) (w:World) (s1 s2 s3 s4 s5 s6 s7 s8 s9 s10 s11 s13 s14 s15 s16 s17 s19 s20 s21 s22 s23 s24 s25 s26 s27 s28 s29 s30 s31 s32 s33 s34 s35 s36 s37 s38 s39 s40 s41 s42 s43 s44 s45 s46 s47 s48 s49 s50 s51 s52 s53 s54 s55 s56 s57 s58 s59 s60 s61 s62 s63 s64 s65 s66 s67 s68 s69 s70 s71 s72 s73 s74 s75 s76 s77 s78 s79 s80 s81 s82 s83 s84 s85 s86 s87 s88 s89 s90 s91 s92 s93 s94 s95 s96 s97 s98 s99 s100 s101 s102 s103 s104 s105 s106 s107 s108 s109 s110 s111 s112 s113 s114 s115 s116 s117 s118 s119 s120 s121 s122 s123 s124 s125 s126 s127 s128 s129 s130 s131 s132 s133:Value) (hi:i<n) (_hn:n≤3) (_hk:k≤100) (hq:q<L) (_hL2:L≤9223372036854775807)
  (e0:w.cell? ⟨b,o+i * 5+3,none⟩=some (.slice (some ⟨pb,po,none⟩) L pc)) (e1:w.cell? ⟨pb,po+q,none⟩=some (.int .i64 x)) (E1:Int.tmod (k:Int) (L:Int)=(q:Int))
  (W1:Hid (∀ V,Calls Tryz.prog 8 #[.int .i64 x,.int .i64 13] V fun e w'=>e=.returned (.int .i64 (nk:Int))∧w'=V))
  (hK:∀ (t69 t70 t71 t72 t73 t74 t75 t76 t77 t78 t79 t80 t81 t82 t83 t84:Value),K ⟨List.toArray ((.slice (some ⟨b,o,none⟩) n c)::s1::s2::s3::s4::s5::s6::s7::s8::s9::s10::s11::(.int .i64 (i:Int))::s13::s14::s15::s16::s17::(.int .i64 (k:Int))::(.int .i64 (nk:Int))::s20::s21::s22::s23::s24::s25::s26::s27::s28::s29::s30::s31::s32::s33::s34::s35::s36::s37::s38::s39::s40::s41::s42::s43::s44::s45::s46::s47::s48::s49::s50::s51::s52::s53::s54::s55::s56::s57::s58::s59::s60::s61::s62::s63::s64::s65::s66::s67::s68::t69::t70::t71::t72::t73::t74::t75::t76::t77::t78::t79::t80::t81::t82::t83::t84::s85::s86::s87::s88::s89::s90::s91::s92::s93::s94::s95::s96::s97::s98::s99::s100::s101::s102::s103::s104::s105::s106::s107::s108::s109::s110::s111::s112::s113::s114::s115::s116::s117::s118::s119::s120::s121::s122::s123::s124::s125::s126::s127::s128::s129::s130::s131::s132::s133::[]),[]⟩ w.drew) :
  (regionOf 14 Tryz.f9).wp Tryz.prog (Exit.then K noQ) ⟨List.toArray ((.slice (some ⟨b,o,none⟩) n c)::s1::s2::s3::s4::s5::s6::s7::s8::s9::s10::s11::(.int .i64 (i:Int))::s13::s14::s15::s16::s17::(.int .i64 (k:Int))::s19::s20::s21::s22::s23::s24::s25::s26::s27::s28::s29::s30::s31::s32::s33::s34::s35::s36::s37::s38::s39::s40::s41::s42::s43::s44::s45::s46::s47::s48::s49::s50::s51::s52::s53::s54::s55::s56::s57::s58::s59::s60::s61::s62::s63::s64::s65::s66::s67::s68::s69::s70::s71::s72::s73::s74::s75::s76::s77::s78::s79::s80::s81::s82::s83::s84::s85::s86::s87::s88::s89::s90::s91::s92::s93::s94::s95::s96::s97::s98::s99::s100::s101::s102::s103::s104::s105::s106::s107::s108::s109::s110::s111::s112::s113::s114::s115::s116::s117::s118::s119::s120::s121::s122::s123::s124::s125::s126::s127::s128::s129::s130::s131::s132::s133::[]),[]⟩ w:=by
 conv in (regionOf _ _)=>whnf
 unfold noQ
 have HK:=Lib.hid hK
 clear hK
 have hL1:¬ L=0:=by omega
 go_region_law (go_simp;go_at_call 8;(with_reducible refine(W1.out _).mono ?_);rintro e w' ⟨rfl,rfl⟩)
 all_goals exact HK.out _ _ _ _ _ _ _ _ _ _ _ _ _ _ _ _
theorem mk_enc (i style nk:Nat) (ns:List Int) (hs:style≤63) (hn:nk≤12) (V:World) (g:Nat) (hB:Blk V g 3 (rowI g (valsM nk ns)).cs) :
  Calls Tryz.prog 17 #[.int .i64 3,.int .i64 5,.int .i64 ((i:Int) % 4),.int .i64 (style:Int),.slice (some ⟨g,0,none⟩) 15 15] V fun e w'=>∃ pa np pc ba nb bc Hp Hb,e=.returned (.tuple #[.agg #[.int .i64 ((encodeM (geoV (i % 4) style (valsM nk ns))).planes:Int),.slice pa np pc,.slice ba nb bc],.int .i64 0]) ∧
   (encodeM (geoV (i % 4) style (valsM nk ns))).passes.length=np∧(encodeM (geoV (i % 4) style (valsM nk ns))).bytes.length=nb∧RowQ (.slice pa np pc) (encodeM (geoV (i % 4) style (valsM nk ns))).passes Hp∧RowB (.slice ba nb bc) (encodeM (geoV (i % 4) style (valsM nk ns))).bytes Hb∧Mv V [] w' (Hp++Hb):=by
 have E:=encode_any (geoV (i % 4) style (valsM nk ns)) (valsM nk ns) g 15 V (geoV_ok (i % 4) style nk ns (by omega) hs hn) rfl rfl (fun j m hj=>by
  rw[hB.cell j]
  simp only[rowI,List.getElem?_toArray,List.getElem?_map,hj,Option.map_some]) hB.lt
 rw[valsM_length] at E
 have e1:(((geoV (i % 4) style (valsM nk ns)).band:Nat):Int)=(i:Int) % 4:=by show ((i % 4:Nat):Int)=_;push_cast;rfl
 rw[e1] at E
 refine Calls.mono (show Calls Tryz.prog 17 #[.int .i64 3,.int .i64 5,.int .i64 ((i:Int) % 4),.int .i64 (style:Int),.slice (some ⟨g,0,none⟩) 15 15] V _ from E) ?_
 rintro e w' ⟨pv,bv,Hp,Hb,rfl,rp,rb,m⟩
 obtain⟨pa,pc,rfl⟩:=rp.slice
 obtain⟨ba,bc,rfl⟩:=RowB.slice rb
 exact⟨pa,_,pc,ba,_,bc,Hp,Hb,rfl,rfl,rfl,rp,rb,m⟩
theorem mk_b3 (K:Act→World→Prop) (n c i b o k style rb nk:Nat) (d:BandA) (s:ShapeM) (vp vn:Value) (HA HC R:List HB) (W w:World) (s2 s3 s4 s5 s6 s7 s8 s9 s10 s11 s13 s14 s15 s19 s20 s21 s22 s23 s24 s25 s26 s27 s28 s29 s30 s31 s32 s33 s34 s35 s36 s37 s38 s39 s40 s41 s42 s43 s44 s45 s46 s47 s48 s49 s50 s51 s52 s53 s54 s55 s56 s57 s58 s59 s60 s61 s62 s63 s64 s65 s66 s67 s68 s69 s70 s71 s72 s73 s74 s75 s76 s77 s78 s79 s80 s81 s82 s83 s84 s85 s86 s87 s88 s89 s90 s91 s92 s93 s94 s95 s96 s97 s98 s99 s100 s101 s102 s103 s104 s105 s106 s107 s108 s109 s110 s111 s112 s113 s114 s115 s116 s117 s118 s119 s120 s121 s122 s123 s124 s125 s126 s127 s128 s129 s130 s131 s132 s133:Value) (hi:i<n) (hn:n≤3) (hs:style≤63) (hk:k<s.W * s.H) (hk9:k≤9)
  (q3:W.cell? ⟨b,o+i * 5+3,none⟩=some vp) (q4:W.cell? ⟨b,o+i * 5+4,none⟩=some vn) (hlb:b<W.heap.size) (r1:RdI W vp s.planes) (r2:RdI W vn s.ns)
  (hBA:BandR d (s.band i style k) HA) (hBC:RBandR rb (s.band i style k) false false HC) (m:Mv W [] w (HA++(HC++R))) (hnk:s.n k=nk)
  (hK:∀ (t19 t20 t21 t62 t63 t64 t65 t66 t67 t68 t69 t70 t71 t72 t73 t74 t75 t76 t77 t78 t79 t80 t81 t82 t83 t84 t85 t86 t87 t88 t89 t90 t91 t92 t93 t94 t95 t96 t97 t98 t99 t100 t101 t102 t103 t104 t105 t106 t107:Value) (wx:World) (HA' HC':List HB),BandR d (s.band i style (k+1)) HA'→RBandR rb (s.band i style (k+1)) false false HC'→Mv W [] wx (HA'++(HC'++R))→K ⟨List.toArray ((.slice (some ⟨b,o,none⟩) n c)::(.int .i64 (style:Int))::s2::s3::s4::s5::s6::s7::s8::s9::s10::s11::(.int .i64 (i:Int))::s13::s14::s15::(.pointer (some ⟨d.bb,0,none⟩))::(.pointer (some ⟨rb,0,none⟩))::(.int .i64 (k:Int))::t19::t20::t21::s22::s23::s24::s25::s26::s27::s28::s29::s30::s31::s32::s33::s34::s35::s36::s37::s38::s39::s40::s41::s42::s43::s44::s45::s46::s47::s48::s49::s50::s51::s52::s53::s54::s55::s56::s57::s58::s59::s60::s61::t62::t63::t64::t65::t66::t67::t68::t69::t70::t71::t72::t73::t74::t75::t76::t77::t78::t79::t80::t81::t82::t83::t84::t85::t86::t87::t88::t89::t90::t91::t92::t93::t94::t95::t96::t97::t98::t99::t100::t101::t102::t103::t104::t105::t106::t107::s108::s109::s110::s111::s112::s113::s114::s115::s116::s117::s118::s119::s120::s121::s122::s123::s124::s125::s126::s127::s128::s129::s130::s131::s132::s133::[]),[]⟩ wx) :
  (blockOf 3 Tryz.f9).wp Tryz.prog (Exit.then K noQ) ⟨List.toArray ((.slice (some ⟨b,o,none⟩) n c)::(.int .i64 (style:Int))::s2::s3::s4::s5::s6::s7::s8::s9::s10::s11::(.int .i64 (i:Int))::s13::s14::s15::(.pointer (some ⟨d.bb,0,none⟩))::(.pointer (some ⟨rb,0,none⟩))::(.int .i64 (k:Int))::s19::s20::s21::s22::s23::s24::s25::s26::s27::s28::s29::s30::s31::s32::s33::s34::s35::s36::s37::s38::s39::s40::s41::s42::s43::s44::s45::s46::s47::s48::s49::s50::s51::s52::s53::s54::s55::s56::s57::s58::s59::s60::s61::s62::s63::s64::s65::s66::s67::s68::s69::s70::s71::s72::s73::s74::s75::s76::s77::s78::s79::s80::s81::s82::s83::s84::s85::s86::s87::s88::s89::s90::s91::s92::s93::s94::s95::s96::s97::s98::s99::s100::s101::s102::s103::s104::s105::s106::s107::s108::s109::s110::s111::s112::s113::s114::s115::s116::s117::s118::s119::s120::s121::s122::s123::s124::s125::s126::s127::s128::s129::s130::s131::s132::s133::[]),[]⟩ w:=by
 conv in (blockOf _ _)=>whnf
 unfold noQ
 have HK:=Lib.hid hK
 clear hK
 replace q3:=Lib.hid q3
 replace q4:=Lib.hid q4
 have e3:=m.old q3.out hlb
 have e4:=m.old q4.out hlb
 obtain⟨pA,pc,hvp,hp1,hp2,hp3⟩:=r1
 obtain⟨L,hL⟩:∃ L,s.planes.length=L:=⟨_,rfl⟩
 rw[hL] at hvp hp1
 subst hvp
 have hnk12:nk≤12:=by rw[← hnk];exact s.n_le k
 have hL2:L≤9223372036854775807:=by unfold maxLen at hp2;omega
 have PF:Hid (0<L→∃ pb po q x,pA=some ⟨pb,po,none⟩∧q<L∧k % L=q∧W.cell? ⟨pb,po+q,none⟩=some (.int .i64 x)∧wIn x 13=nk):=Lib.hid (by
  intro h0
  have hq:=Nat.mod_lt k h0
  obtain⟨x,hx⟩:∃ x,s.planes[k % L]?=some x:=⟨_,List.getElem?_eq_getElem (by rw[hL];exact hq)⟩
  obtain⟨pb,po,e,hc⟩:=hp3 _ x hx
  refine⟨pb,po,_,x,e,hq,rfl,hc,?_⟩
  rw[← hnk]
  unfold ShapeM.n
  rw[hL,if_neg (by omega),List.getD_eq_getElem?_getD,hx]
  rfl)
 have PZ:Hid (L=0→nk=0):=Lib.hid (by
  intro h0
  rw[← hnk]
  unfold ShapeM.n
  rw[hL,if_pos h0])
 have KM:=Lib.hid (And.intro hBA (And.intro hBC m))
 have HNK:=Lib.hid hnk
 have KH:=Lib.hid hk
 clear hp1 hp2 hp3 hL hBA hBC m hnk hk
 go_upto_if 68 with fail
 go_cut [18,19,68] from 69 to 107 (fun s18 s19 _ wx=>s18=.int .i64 (k:Int)∧s19=.int .i64 (nk:Int)∧Mv W [] wx (HA++(HC++R)))
 case first =>
  by_cases h0:0<L
  ·have d3:decide (0<(L:Int))=true:=by simp;omega
   obtain⟨pb,po,q,x,rfl,hq,hkq,hc,hnk⟩:=PF.out h0
   have hc2:=KM.out.2.2.old hc (World.block_lt_of_cell? W _ hc)
   have E1:Int.tmod (k:Int) (L:Int)=(q:Int):=by
    rw[Int.tmod_eq_emod_of_nonneg (by omega),← hkq]
    push_cast
    rfl
   have W1:=Lib.hid fun V=>within15W x 13 V (by decide) (by decide)
   rw[hnk] at W1
   simp only[Int.cast_ofNat_Int] at W1
   clear hkq hc hnk
   go_upto_region 14 with fail
   refine wp_piece (mk_r14 _ n c i b o k L pb po pc q nk x _ _ _ _ _ _ _ _ _ _ _ _ _ _ _ _ _ _ _ _ _ _ _ _ _ _ _ _ _ _ _ _ _ _ _ _ _ _ _ _ _ _ _ _ _ _ _ _ _ _ _ _ _ _ _ _ _ _ _ _ _ _ _ _ _ _ _ _ _ _ _ _ _ _ _ _ _ _ _ _ _ _ _ _ _ _ _ _ _ _ _ _ _ _ _ _ _ _ _ _ _ _ _ _ _ _ _ _ _ _ _ _ _ _ _ _ _ _ _ _ _ _ _ _ _ _ _ _ _ _ _ _ hi hn (by omega) hq hL2 e3 hc2 E1 W1 ?_)
   rintro t69 t70 t71 t72 t73 t74 t75 t76 t77 t78 t79 t80 t81 t82 t83 t84
   go_wp2_with fail
   go_meet
   exact⟨rfl,rfl,KM.out.2.2.drew⟩
  ·have d3:decide (0<(L:Int))=false:=by simp;omega
   have hnk:=PZ.out (by omega)
   subst hnk
   go_wp2_with fail
   go_meet
   exact⟨rfl,rfl,KM.out.2.2⟩
 case rest =>
  obtain⟨rfl,rfl,mc⟩:=hcut
  have e4:=mc.old q4.out hlb
  have KC:=Lib.hid mc
  have VAL:Hid (∀ V,Mv W [] V (HA++(HC++R))→Calls Tryz.prog 18 #[.int .i64 3,.int .i64 5,.int .i64 (nk:Int),vn] V fun e W'=>∃ g,e=.returned (.slice (some ⟨g,0,none⟩) 15 15)∧Mv W [] W' (rowI g (valsM nk s.ns)::(HA++(HC++R)))):=Lib.hid (fun V mV=>by
   refine(values_any nk hnk12 s.ns vn V (r2.keep mV.below0)).mono ?_
   rintro e W' ⟨g,rfl,m1⟩
   exact⟨g,rfl,Mv.call (H:=[]) mV m1⟩)
  have BE:=geoV_bounds (i % 4) style nk s.ns hnk12
  have EBL:Hid (s.blk i style k=encodeM (geoV (i % 4) style (valsM nk s.ns))):=Lib.hid (by unfold ShapeM.blk;rw[HNK.out])
  have ENC0:=fun V g hB=>mk_enc i style nk s.ns hs hnk12 V g hB
  obtain⟨E,hE⟩:∃ E,encodeM (geoV (i % 4) style (valsM nk s.ns))=E:=⟨_,rfl⟩
  simp only[hE] at ENC0 BE EBL
  clear hE
  have ENC:Hid (∀ V g,Mv W [] V (rowI g (valsM nk s.ns)::(HA++(HC++R)))→Calls Tryz.prog 17 #[.int .i64 3,.int .i64 5,.int .i64 ((i:Int) % 4),.int .i64 (style:Int),.slice (some ⟨g,0,none⟩) 15 15] V fun e w'=>∃ pa np pc ba nb bc Hp Hb,e=.returned (.tuple #[.agg #[.int .i64 (E.planes:Int),.slice pa np pc,.slice ba nb bc],.int .i64 0]) ∧
    E.passes.length=np∧E.bytes.length=nb∧RowQ (.slice pa np pc) E.passes Hp∧RowB (.slice ba nb bc) E.bytes Hb∧Mv W [] w' ((Hp++Hb)++(HA++(HC++R)))):=Lib.hid (fun V g mV=>by
   refine(ENC0 V g (mV.blk 0 rfl)).mono ?_
   rintro e w' ⟨pa,np,pc,ba,nb,bc,Hp,Hb,rfl,h1,h2,h3,h4,h5⟩
   exact⟨pa,np,pc,ba,nb,bc,Hp,Hb,rfl,h1,h2,h3,h4,Mv.call (H:=[]) mV.drop1 h5⟩)
  obtain⟨P,ps,bs⟩:=E
  simp only at ENC BE EBL
  obtain⟨hP,hnp,hnb,he⟩:=BE
  clear ENC0 mc PF PZ r2
  go_upto_region 16 with (first
   | (go_at_call 18;(with_reducible refine(VAL.out _ KC.out).mono ?_);rintro e w1 ⟨g,rfl,m1⟩;have K1:=Lib.hid m1;clear m1)
   | (go_at_call 17;(with_reducible refine(ENC.out _ _ K1.out).mono ?_);rintro e w4 ⟨pa,np,pc,ba,nb,bc,Hp,Hb,rfl,l1,l2,rp,rq,m4⟩;have K4:=Lib.hid (And.intro l1 (And.intro l2 (And.intro rp (And.intro rq m4))));clear l1 l2 rp rq m4))
  have l1:=K4.out.1
  have l2:=K4.out.2.1
  have rp:=K4.out.2.2.1
  have rq:=K4.out.2.2.2.1
  have M5:=K4.out.2.2.2.2.alloc 51 #[.int .i64 (P:Int),.slice pa np pc,.slice ba nb bc]
  obtain⟨xb,hxb⟩:∃ xb,w4.heap.size=xb:=⟨_,rfl⟩
  rw[hxb] at M5 ⊢
  obtain⟨w5,hw5⟩:∃ w5,w5=w4.alloc (.cells #[.int .i64 (P:Int),.slice pa np pc,.slice ba nb bc] 51):=⟨_,rfl⟩
  rw[← hw5] at M5 ⊢
  have M6:Mv W [] w5 ((HA++(HC++R))++noneX xb (P:Int) (.slice pa np pc) (.slice ba nb bc) Hp Hb):=M5.sub (fun g=>by simp only[noneX,blQ,cnt_append,cnt_cons];omega) (fun c hc=>by simp only[noneX,blQ,List.mem_append,List.mem_cons] at hc ⊢;grind)
  obtain⟨s1,s2',s3',s4',s5',s6',s7',s8',-⟩:=s.band_ss i style k (by have:=KH.out;omega)
  have hnew:=s2' k (Nat.le_refl _) KH.out
  have hst:=stOf_in hnew
  have hsd:(stOf (s.band i style k) (k:Int)).said=0:=by rw[hst];rfl
  have hWH:=s.lt
  have hWH2:s.W * s.H≤3 * 3:=Nat.mul_le_mul (show s.W≤3 by omega) (show s.H≤3 by omega)
  have OFC:=Lib.hid (fun (V:World) (m:Mv W [] V ((HA++(HC++R))++noneX xb (P:Int) (.slice pa np pc) (.slice ba nb bc) Hp Hb))=>none_of rp (by omega) m)
  have BND:Hid (s.band i style (k+1)=addM (s.band i style k) (k:Int) (P:Int) ps bs):=Lib.hid (by
   show addM _ _ _ _ _=_
   rw[EBL.out])
  have ADC:=Lib.hid (fun (V:World) (H1:List YtjngfhgakokejaaGreat.HB) (vp:Value) (r1:RowP vp ps H1) (M:Mv W [] V (H1++((HA++(HC++R))++noneX xb (P:Int) (.slice pa np pc) (.slice ba nb bc) Hp Hb)))=>mk_add (P:=(P:Int)) rq (by omega) (by omega) (by omega) (fun p hp=>by have:=he p hp;omega) r1 KM.out.1 (k:Int) hsd M)
  have RAD:Hid (∀ (V:World) (HA':List YtjngfhgakokejaaGreat.HB),Mv W [] V (HA'++((HC++R)++noneX xb (P:Int) (.slice pa np pc) (.slice ba nb bc) Hp Hb))→Calls Tryz.prog 21 #[.pointer (some ⟨rb,0,none⟩),.int .i64 (k:Int),.agg #[.int .i64 (P:Int),.slice pa np pc,.slice ba nb bc]] V fun e w'=>e=.returned (.tuple #[])∧∃ HC',RBandR rb (addM (s.band i style k) (k:Int) (P:Int) ps bs) false false HC'∧Mv W [] w' (HA'++(HC'++R))):=Lib.hid (by
   intro V HA' mV
   have m1:Mv W [] V ((HC++(Hp++Hb))++(HA'++R)):=mV.sub (fun g=>by simp only[noneX,cnt_append,cnt_cons];omega) (fun c hc=>by simp only[noneX,List.mem_append,List.mem_cons] at hc ⊢;grind)
   refine(radd_any rb (s.band i style k) false false HC Hp Hb V KM.out.2.1 m1.sat.left k (by rw[s1];exact KH.out) (by rw[s1];omega) (P:Int) (.slice pa np pc) ba nb bc ps bs rp rq (by omega) (by omega) (by omega) (fun p hp=>by have:=he p hp;omega) (by rw[hsd];omega)).mono ?_
   rintro e w' ⟨rfl,HC',h1,h2⟩
   refine⟨rfl,HC',h1,(Mv.call m1 h2).sub (fun g=>by simp only[cnt_append];omega) (fun c hc=>by simp only[List.mem_append] at hc ⊢;grind)⟩)
  have XC:Hid (∀ V H,Mv W [] V (H++noneX xb (P:Int) (.slice pa np pc) (.slice ba nb bc) Hp Hb)→V.cell? ⟨xb,0,none⟩=some (.int .i64 (P:Int))∧V.cell? ⟨xb,1,none⟩=some (.slice pa np pc)∧V.cell? ⟨xb,2,none⟩=some (.slice ba nb bc)):=Lib.hid (fun V H m=>noneX_cells m)
  obtain⟨x0,x1,x2⟩:=noneX_cells M6
  have K6:=Lib.hid M6
  clear M5 M6 hw5 hxb l1 l2 rp rq K4 he hnew hst hsd s1 s2' s3' s4' s5' s6' s7' s8' hWH hWH2 K1 VAL ENC e3 e4 hnp hnb
  go_upto_region 17 with (first
   | (go_at_call 20;(with_reducible refine(OFC.out _ K6.out).mono ?_);rintro e w6 ⟨vp',H1,rfl,r1,m6⟩;have K7:=Lib.hid (And.intro r1 m6);clear r1 m6)
   | (go_at_call 19;(with_reducible refine(ADC.out _ _ _ K7.out.1 K7.out.2).mono ?_);rintro e w7 ⟨rfl,HA',h7,m7⟩;have K8:=Lib.hid (And.intro h7 m7);clear h7 m7))
  clear x0 x1 x2 K7 K6
  have M8:=K8.out.2
  rw[← List.append_assoc] at M8
  obtain⟨x0,x1,x2⟩:=XC.out _ _ M8
  clear M8
  go_wp2_with (go_at_call 21;(with_reducible refine(RAD.out _ _ K8.out.2).mono ?_);rintro e w9 ⟨rfl,HC',h9,m9⟩;have K9:=Lib.hid (And.intro h9 m9);clear h9 m9)
  exact HK.out _ _ _ _ _ _ _ _ _ _ _ _ _ _ _ _ _ _ _ _ _ _ _ _ _ _ _ _ _ _ _ _ _ _ _ _ _ _ _ _ _ _ _ _ _ _ _ _ _ _ HA' HC' (by rw[BND.out];exact K8.out.1) (by rw[BND.out];exact K9.out.1) K9.out.2
end
section
open Go.RowKit
theorem results_tmp4 {fn:Func} {t u v x:Tmp} (h:fn.results=#[.tmp t,.tmp u,.tmp v,.tmp x]) (tmps:Array Value) (P:Program) (w:World) :
  (results fn tmps).run P w=.ok (.tuple #[tmps.getD t undef,tmps.getD u undef,tmps.getD v undef,tmps.getD x undef]) w:=by
 simp[results,h]
section
variable {W w:World} {H1 X:List HB} {T:TypeId} {cs:Array Value} {g:Nat}
theorem mk_push (m:Mv W [] w (H1++X)) (T:TypeId) (cs:Array Value):Mv W [] (w.alloc (.cells cs T)) (H1++(⟨w.heap.size,T,cs⟩::X)) :=
 (m.alloc T cs).sub (fun g=>by simp only[cnt_append,cnt_cons];omega) (fun c hc=>by simp only[List.mem_append,List.mem_cons] at hc ⊢;grind)
theorem mk_pop (m:Mv W [] w (H1++(⟨g,T,cs⟩::X))):Mv W [] w (H1++X) :=
 m.sub (fun g=>by simp only[cnt_append,cnt_cons];omega) (fun c hc=>by simp only[List.mem_append,List.mem_cons] at hc ⊢;grind)
theorem mk_sh1 {A B H1 H2 H3 H4 B1 B2 B3 B4:List HB} (m:Mv W [] w (A++(B++(H1++(H2++(H3++(H4++(B1++(B2++(B3++B4)))))))))):Mv W [] w (H1++(H2++(H3++(H4++((B1++(B2++(B3++B4)))++(A++B)))))) :=
 m.sub (fun g=>by simp only[cnt_append];omega) (fun c hc=>by
  simp only[List.mem_append,or_assoc] at hc ⊢
  rcases hc with h | h | h | h | h | h | h | h | h | h <;> simp only[h,true_or,or_true])
theorem mk_sh2 {H9 N H6 H3 H4 Z:List HB} (m:Mv W [] w (H9++(N++(H6++(H3++(H4++Z)))))):Mv W [] w (H3++(H4++(H9++(N++(H6++Z))))) :=
 m.sub (fun g=>by simp only[cnt_append];omega) (fun c hc=>by
  simp only[List.mem_append] at hc ⊢
  rcases hc with h | h | h | h | h | h <;> simp only[h,true_or,or_true])
theorem mk_sh3 {H12 HQ H10 H9 N H6 A B B1 B2 B3 B4:List HB} (m:Mv W [] w (H12++(HQ++(H10++(H9++(N++(H6++((B1++(B2++(B3++B4)))++(A++B))))))))):Mv W [] w (H6++(H9++(H10++(H12++((B1++A)++((B2++N)++((B3++B)++(B4++HQ)))))))) :=
 m.sub (fun g=>by simp only[cnt_append];omega) (fun c hc=>by
  simp only[List.mem_append,or_assoc] at hc ⊢
  rcases hc with h | h | h | h | h | h | h | h | h | h | h | h <;> simp only[h,true_or,or_true])
theorem ptr_one (b:Nat):∀ u∈(#[Value.pointer (some ⟨b,0,none⟩)]:Array Value).toList,u.oneCell'=true:=by
 intro u hu
 simp only[List.mem_singleton] at hu
 subst hu
 rfl
end
theorem make_any (l:List ShapeM) (style:Nat) (v:Value) (W:World) (hv:RdS W v l) (hl:l.length≤3) (hs:style≤63) :
  Calls Tryz.prog 9 #[v,.int .i64 (style:Int)] W fun e W'=>∃ va vb vc vd G,e=.returned (.tuple #[va,vb,vc,vd])∧MkG.ok G l style l.length va vb vc vd∧Mv W [] W' G.heap:=by
 obtain⟨A,c,rfl,hv1,hv2,hv3⟩:=hv
 obtain⟨n,hn⟩:∃ n,l.length=n:=⟨_,rfl⟩
 have HV:=Lib.hid (And.intro hn hv3)
 rw[hn] at hv1 hl ⊢
 clear hv3 hn
 go_enter Tryz.func9,Tryz.ntmps9
 go_wp2_with fail
 go_loopg [8,9,10,11,12] n (fun mm s8 s9 s10 s11 s12 wx=>∃ (i:Nat) (G:MkG),i≤n∧mm=n - i∧s12=.int .i64 (i:Int)∧G.ok l style i s8 s9 s10 s11∧Mv W [] wx G.heap)
 case atStart=>exact⟨0,⟨[],[],[],[],[],[],[],[],[],[],[],[]⟩,Nat.zero_le _,rfl,rfl,⟨RowH.nil _ _,RowH.nil _ _,RowH.nil _ _,RowH.nil _ _,rfl,rfl,rfl,rfl,rfl,rfl,rfl,rfl⟩,Mv.refl (Sat.nil _)⟩
 case round =>
  obtain⟨i,G,hi,rfl,rfl,hG,m⟩:=hrel
  by_cases hlti:i<n
  ·have d1:decide ((i:Int)<(n:Int))=true:=by simp;omega
   obtain⟨s,hsi⟩:∃ s,l[i]?=some s:=⟨_,List.getElem?_eq_getElem (by rw[HV.out.1];exact hlti)⟩
   obtain⟨b,o,vp,vn,rfl,c0,c1,c2,c3,c4,r1,r2⟩:=HV.out.2 i s hsi
   have hlb:b<W.heap.size:=World.block_lt_of_cell? W _ c0
   have e0:=m.old c0 hlb
   have e1:=m.old c1 hlb
   have e2:=m.old c2 hlb
   have W1:=Lib.hid fun V=>within15W s.w 4 V (by decide) (by decide)
   have W2:=Lib.hid fun V=>within15W s.h 4 V (by decide) (by decide)
   have W3:=Lib.hid fun V=>within15W s.spare 4 V (by decide) (by decide)
   simp only[Int.cast_ofNat_Int] at W1 W2 W3
   have hs4:=s.lt
   obtain⟨sw,hsw⟩:∃ sw,s.W=sw:=⟨_,rfl⟩
   obtain⟨sh,hsh⟩:∃ sh,s.H=sh:=⟨_,rfl⟩
   obtain⟨sm,hsm⟩:∃ sm,wIn s.spare 4=sm:=⟨_,rfl⟩
   have hsm2:s.most=12+sm:=by unfold ShapeM.most;rw[hsm]
   rw[hsw,hsh,hsm2] at hs4
   rw[show wIn s.w 4=sw from hsw] at W1
   rw[show wIn s.h 4=sh from hsh] at W2
   rw[hsm] at W3
   obtain⟨R,hR⟩:∃ R,G.heap=R:=⟨_,rfl⟩
   rw[hR] at m
   have KM:=Lib.hid (And.intro hG m)
   have KR:=Lib.hid hR
   have HS:=Lib.hid (And.intro hsi (And.intro hsw (And.intro hsh hsm2)))
   have RD:=Lib.hid (And.intro c3 (And.intro c4 (And.intro r1 r2)))
   obtain⟨hsw4,hsh4,-,hsm4⟩:=hs4
   clear hR hG m hsi hsw hsh hsm hsm2 c0 c1 c2 c3 c4 r1 r2
   go_upto_region 6 with fail
   refine wp_piece (mk_r6 _ n c i b o sw sh s.w s.h wr _ _ _ _ _ _ _ _ _ _ _ _ _ _ _ _ _ _ _ _ _ _ _ _ _ _ _ _ _ _ _ _ _ _ _ _ _ _ _ _ _ _ _ _ _ _ _ _ _ _ _ _ _ _ _ _ _ _ _ _ _ _ _ _ _ _ _ _ _ _ _ _ _ _ _ _ _ _ _ _ _ _ _ _ _ _ _ _ _ _ _ _ _ _ _ _ _ _ _ _ _ _ _ _ _ _ _ _ _ _ _ _ _ _ _ _ _ _ _ _ _ _ _ _ _ _ _ _ _ _ _ _ hlti hl e0 e1 W1 W2 ?_)
   rintro t28 t29 t30 t31 t32 t33 t34 t35 t36 t37 t38 t39
   clear W1 W2
   go_upto_region 8 with (go_at_call 8;(with_reducible refine(W3.out _).mono ?_);rintro e w' ⟨rfl,rfl⟩)
   have NB:Hid (∀ V,Calls Tryz.prog 15 #[.int .i64 (sw:Int),.int .i64 (sh:Int),.int .i64 (12+(sm:Int))] V fun e W'=>∃ d H,e=.returned (.pointer (some ⟨d.bb,0,none⟩))∧BandR d s.new H∧Mv V [] W' H):=Lib.hid (fun V=>by
    refine(band_new sw sh (12+(sm:Int)) V (by omega) (by omega) (by omega)).mono ?_
    rintro e W' ⟨d,H,rfl,-,h2,h3⟩
    refine⟨d,H,rfl,?_,h3⟩
    unfold ShapeM.new
    rw[HS.out.2.1,HS.out.2.2.1,HS.out.2.2.2,show ((12+sm:Nat):Int)=12+(sm:Int) by omega]
    exact h2)
   have RNB:Hid (∀ V,Calls Tryz.prog 16 #[.int .i64 (sw:Int),.int .i64 (sh:Int),.int .i64 (12+(sm:Int))] V fun e W'=>∃ bb H,e=.returned (.pointer (some ⟨bb,0,none⟩))∧RBandR bb s.new false false H∧Mv V [] W' H):=Lib.hid (fun V=>by
    refine(rband_new sw sh (12+(sm:Int)) V (by omega) (by omega) (by omega)).mono ?_
    rintro e W' ⟨d,H,rfl,h2,h3⟩
    refine⟨d,H,rfl,?_,h3⟩
    unfold ShapeM.new
    rw[HS.out.2.1,HS.out.2.2.1,HS.out.2.2.2,show ((12+sm:Nat):Int)=12+(sm:Int) by omega]
    exact h2)
   clear W3 e0 e1 e2
   go_upto_region 9 with (first
    | (go_at_call 15;(with_reducible refine(NB.out _).mono ?_);rintro e w1 ⟨d,HA,rfl,q1,q2⟩;have K1:=Lib.hid (And.intro q1 (Mv.call (H:=[]) (Mv.drew KM.out.2) q2));clear q1 q2)
    | (go_at_call 16;(with_reducible refine(RNB.out _).mono ?_);rintro e w2 ⟨rb,HC,rfl,q1,q2⟩;have K2:=Lib.hid (And.intro q1 (Mv.call (H:=[]) K1.out.2 q2));clear q1 q2))
   have M2:Mv W [] w2 (HA++(HC++R)):=(show Mv W [] w2 (HC++(HA++R)) from K2.out.2).sub (fun g=>by simp only[cnt_append];omega) (fun c hc=>by simp only[List.mem_append] at hc ⊢;grind)
   have K3:Hid (BandR d (s.band i style 0) HA∧RBandR rb (s.band i style 0) false false HC∧Mv W [] w2 (HA++(HC++R))):=Lib.hid ⟨K1.out.1,K2.out.1,M2⟩
   have KG:=Lib.hid (And.intro KM.out.1 KR.out)
   obtain⟨nn,hnn⟩:∃ nn,sw * sh=nn:=⟨_,rfl⟩
   have hn9:sw * sh≤3 * 3:=Nat.mul_le_mul (by omega) (by omega)
   have hn9':nn≤9:=by omega
   have b1:(sw:Int) * (sh:Int)≤9:=by exact_mod_cast hn9
   have b2:0≤(sw:Int) * (sh:Int):=by exact_mod_cast Nat.zero_le (sw * sh)
   have HN:=Lib.hid hnn
   clear K1 K2 M2 KM KR hnn hn9
   go_wp2_with fail
   go_loopg [18] nn (fun mm s18 wx=>∃ (k:Nat) (HA' HC':List YtjngfhgakokejaaGreat.HB),k≤nn∧mm=nn - k∧s18=.int .i64 (k:Int)∧BandR d (s.band i style k) HA'∧RBandR rb (s.band i style k) false false HC'∧Mv W [] wx (HA'++(HC'++R)))
   case atStart=>exact⟨0,HA,HC,Nat.zero_le _,rfl,rfl,K3.out.1,K3.out.2.1,K3.out.2.2⟩
   case round =>
    clear K3
    obtain⟨k,HA1,HC1,hk,rfl,rfl,hBA,hBC,m⟩:=hrel
    by_cases hlt:k<nn
    ·have d2:decide ((k:Int)<(sw:Int) * (sh:Int))=true:=decide_eq_true (by have:=HN.out;exact_mod_cast (by omega:k<sw * sh))
     have KA:=Lib.hid (And.intro hBA (And.intro hBC m))
     clear hBA hBC m
     go_upto_block 3 with fail
     refine wp_piece (mk_b3 _ n c i b o k style rb (s.n k) d s vp vn HA1 HC1 R W _ _ _ _ _ _ _ _ _ _ _ _ _ _ _ _ _ _ _ _ _ _ _ _ _ _ _ _ _ _ _ _ _ _ _ _ _ _ _ _ _ _ _ _ _ _ _ _ _ _ _ _ _ _ _ _ _ _ _ _ _ _ _ _ _ _ _ _ _ _ _ _ _ _ _ _ _ _ _ _ _ _ _ _ _ _ _ _ _ _ _ _ _ _ _ _ _ _ _ _ _ _ _ _ _ _ _ _ _ _ _ _ _ _ _ _ _ _ _ _ _ _ _ _ _ _ _ _ _ hlti hl hs (by rw[HS.out.2.1,HS.out.2.2.1,HN.out];exact hlt) (by omega) RD.out.1 RD.out.2.1 hlb RD.out.2.2.1 RD.out.2.2.2 KA.out.1 KA.out.2.1 KA.out.2.2 rfl ?_)
     rintro t19 t20 t21 t62 t63 t64 t65 t66 t67 t68 t69 t70 t71 t72 t73 t74 t75 t76 t77 t78 t79 t80 t81 t82 t83 t84 t85 t86 t87 t88 t89 t90 t91 t92 t93 t94 t95 t96 t97 t98 t99 t100 t101 t102 t103 t104 t105 t106 t107 wx HA' HC' h1 h2 h3
     have KB:=Lib.hid (And.intro h1 (And.intro h2 h3))
     clear h1 h2 h3 KA
     go_wp2_with fail
     go_roundg (nn - (k+1))
     case measure=>omega
     case rel=>exact⟨k+1,HA',HC',hlt,rfl,by push_cast;rfl,KB.out.1,KB.out.2.1,KB.out.2.2⟩
    ·have d2:decide ((k:Int)<(sw:Int) * (sh:Int))=false:=decide_eq_false (by intro h;have h2:=HN.out;have h3:k<sw * sh:=(by exact_mod_cast h);omega)
     obtain rfl:k=nn:=by omega
     have KA:=Lib.hid (And.intro hBA (And.intro hBC m))
     clear hBA hBC m
     obtain⟨n1,n2,n3,n4⟩:=KG.out.1.lens (by rw[HV.out.1];omega)
     have R8:RowH 43 1 u8 i ((G.La.map (·.1)).map fun d=>.pointer (some ⟨d.bb,0,none⟩)) G.H1:=by have h:=KG.out.1.ra;unfold ListH at h;rwa [List.length_map,n1] at h
     have R9:RowH 43 1 u9 i ((G.Lb.map (·.1)).map fun d=>.pointer (some ⟨d.bb,0,none⟩)) G.H2:=by have h:=KG.out.1.rb;unfold ListH at h;rwa [List.length_map,n2] at h
     have R10:RowH 47 1 u10 i ((G.Lc.map (·.1)).map fun b=>.pointer (some ⟨b,0,none⟩)) G.H3:=by have h:=KG.out.1.rc;unfold RListH at h;rwa [List.length_map,n3] at h
     have R11:RowH 47 1 u11 i ((G.Ld.map (·.1)).map fun b=>.pointer (some ⟨b,0,none⟩)) G.H4:=by have h:=KG.out.1.rd;unfold RListH at h;rwa [List.length_map,n4] at h
     obtain⟨a8,c8,rfl⟩:=R8.slice
     obtain⟨a9,c9,rfl⟩:=R9.slice
     obtain⟨a10,c10,rfl⟩:=R10.slice
     obtain⟨a11,c11,rfl⟩:=R11.slice
     obtain⟨Z,hZ⟩:∃ Z,(G.B1++(G.B2++(G.B3++G.B4)))++(HA1++HC1)=Z:=⟨_,rfl⟩
     have M1:Mv W [] wr (G.H1++(G.H2++(G.H3++(G.H4++Z)))):=by
      rw[← hZ]
      refine mk_sh1 ?_
      have h:=KA.out.2.2
      rw[← KG.out.2] at h
      exact h
     have P8:=Lib.hid (mk_push M1 43 #[.pointer (some ⟨d.bb,0,none⟩)])
     have RR:=Lib.hid (And.intro R8 (And.intro R9 (And.intro R10 R11)))
     have HZ:=Lib.hid hZ
     have KB:=Lib.hid (And.intro KA.out.1 KA.out.2.1)
     clear M1 R8 R9 R10 R11 hZ KA n1 n2 n3 n4
     go_upto_region 19 with (first
      | (at_builtin;refine wpList_appR Tryz.underlying26 infoPb rfl (by decide) (by decide) rfl (.tmp 108) (.tmp 110) rfl (.slice a8 i c8) rfl rfl RR.out.1 P8.out.sat.left (reads_new rfl rfl) ?one8 ?len8 ?nxt8;(case one8=>exact ptr_one d.bb);(case len8=>omega);intro v6 w6 H6 h6 m6;obtain⟨a6,c6,rfl⟩:=h6.slice;have K6:=Lib.hid (And.intro h6 (mk_pop (Mv.call P8.out m6)));clear h6 m6)
      | (go_at_call 15;(with_reducible refine(NB.out _).mono ?_);rintro e w7 ⟨d2,HN2,rfl,q1,q2⟩;have K7:=Lib.hid (And.intro q1 (mk_push (Mv.mv2 (Mv.call (H:=[]) K6.out.2 q2)) 43 #[.pointer (some ⟨d2.bb,0,none⟩)]));clear q1 q2)
      | (at_builtin;refine wpList_appR Tryz.underlying26 infoPb rfl (by decide) (by decide) rfl (.tmp 112) (.tmp 117) rfl (.slice a9 i c9) rfl rfl RR.out.2.1 K7.out.2.sat.left (reads_new rfl rfl) ?one9 ?len9 ?nxt9;(case one9=>exact ptr_one d2.bb);(case len9=>omega);intro v9 w9 H9 h9 m9;obtain⟨a9,c9,rfl⟩:=h9.slice;have K9:=Lib.hid (And.intro h9 (mk_pop (Mv.call K7.out.2 m9)));clear h9 m9))
     have M9:Mv W [] w9 (G.H3++(G.H4++(H9++(HN2++(H6++Z))))):=mk_sh2 K9.out.2
     have P10:=Lib.hid (mk_push M9 47 #[.pointer (some ⟨rb,0,none⟩)])
     have K9r:=Lib.hid (And.intro K6.out.1 (And.intro K7.out.1 K9.out.1))
     clear M9 P8 K6 K7 K9
     go_upto_region 5 with (first
      | (at_builtin;refine wpList_appR Tryz.underlying27 infoRb rfl (by decide) (by decide) rfl (.tmp 119) (.tmp 121) rfl (.slice a10 i c10) rfl rfl RR.out.2.2.1 P10.out.sat.left (reads_new rfl rfl) ?one10 ?len10 ?nxt10;(case one10=>exact ptr_one rb);(case len10=>omega);intro v10 w10 H10 h10 m10;obtain⟨a10,c10,rfl⟩:=h10.slice;have K10:=Lib.hid (And.intro h10 (mk_pop (Mv.call P10.out m10)));clear h10 m10)
      | (go_at_call 16;(with_reducible refine(RNB.out _).mono ?_);rintro e w11 ⟨rq,HQ,rfl,q1,q2⟩;have K11:=Lib.hid (And.intro q1 (mk_push (Mv.mv2 (Mv.call (H:=[]) K10.out.2 q2)) 47 #[.pointer (some ⟨rq,0,none⟩)]));clear q1 q2)
      | (at_builtin;refine wpList_appR Tryz.underlying27 infoRb rfl (by decide) (by decide) rfl (.tmp 123) (.tmp 128) rfl (.slice a11 i c11) rfl rfl RR.out.2.2.2 K11.out.2.sat.left (reads_new rfl rfl) ?one12 ?len12 ?nxt12;(case one12=>exact ptr_one rq);(case len12=>omega);intro v12 w12 H12 h12 m12;obtain⟨a12,c12,rfl⟩:=h12.slice;have K12:=Lib.hid (And.intro h12 (mk_pop (Mv.call K11.out.2 m12)));clear h12 m12))
     have G2:Hid (∃ G':MkG,G'.ok l style (i+1) (.slice a6 (i+1) c6) (.slice a9 (i+1) c9) (.slice a10 (i+1) c10) (.slice a12 (i+1) c12)∧Mv W [] w12 G'.heap):=Lib.hid (by
      obtain⟨n1,n2,n3,n4⟩:=KG.out.1.lens (by rw[HV.out.1];omega)
      have hsi:=HS.out.1
      have hks:k=s.W * s.H:=by rw[HS.out.2.1,HS.out.2.2.1];exact HN.out.symm
      have m:=K12.out.2
      rw[← HZ.out] at m
      refine⟨⟨G.La++[(d,s.band i style k)],G.Lb++[(d2,s.new)],G.Lc++[(rb,s.band i style k)],G.Ld++[(rq,s.new)],H6,H9,H10,H12,G.B1++HA1,G.B2++HN2,G.B3++HC1,G.B4++HQ⟩,⟨?_,?_,?_,?_,KG.out.1.ba.snoc KB.out.1,KG.out.1.bb.snoc K9r.out.2.1,KG.out.1.bc.snoc KB.out.2,KG.out.1.bd.snoc K11.out.1,?_,?_,?_,?_⟩,mk_sh3 m⟩
      ·have h:=K9r.out.1
       unfold ListH
       simp only[List.map_append,List.map_cons,List.map_nil,List.length_append,List.length_map,List.length_cons,List.length_nil,n1,Nat.zero_add]
       exact h
      ·have h:=K9r.out.2.2
       unfold ListH
       simp only[List.map_append,List.map_cons,List.map_nil,List.length_append,List.length_map,List.length_cons,List.length_nil,n2,Nat.zero_add]
       exact h
      ·have h:=K10.out.1
       unfold RListH
       simp only[List.map_append,List.map_cons,List.map_nil,List.length_append,List.length_map,List.length_cons,List.length_nil,n3,Nat.zero_add]
       exact h
      ·have h:=K12.out.1
       unfold RListH
       simp only[List.map_append,List.map_cons,List.map_nil,List.length_append,List.length_map,List.length_cons,List.length_nil,n4,Nat.zero_add]
       exact h
      ·rw[fullB_take l style hsi,List.map_append,KG.out.1.ma,hks]
       rfl
      ·rw[voidB_take l hsi,List.map_append,KG.out.1.mb]
       rfl
      ·rw[fullB_take l style hsi,List.map_append,KG.out.1.mc,hks]
       rfl
      ·rw[voidB_take l hsi,List.map_append,KG.out.1.md]
       rfl)
     clear K12 K11 K10 K9r P10 RR HZ KB NB RNB KG RD HS b1 b2
     go_wp2_with fail
     go_roundg (n - (i+1))
     case measure=>omega
     case rel =>
      obtain⟨G',h1,h2⟩:=G2.out
      exact⟨i+1,G',hlti,rfl,by push_cast;rfl,h1,h2⟩
  ·have d1:decide ((i:Int)<(n:Int))=false:=by simp;omega
   obtain rfl:i=n:=by omega
   have KA:=Lib.hid (And.intro hG m)
   clear hG m
   go_wp2_with fail
   (try simp only[Exit.inBlock,Exit.then])
   refine bodyPost_ret (results_tmp4 rfl _ _ _) rfl ?_
   exact⟨u8,u9,u10,u11,G,rfl,KA.out.1,KA.out.2⟩
end
section
open Go.RowKit
theorem blk_good (s:ShapeM) (i style k:Nat) (_hs:style≤63):SGood (s.most:Int) ⟨((s.blk i style k).planes:Int),(s.blk i style k).passes,(s.blk i style k).bytes,0,3⟩:=by
 have hb:=geoV_bounds (i % 4) style (s.n k) s.ns (s.n_le k)
 have hm:=s.lt
 have ok:=(encodeM_ok (geoV (i % 4) style (valsM (s.n k) s.ns)) (by show 1≤5;decide)).1
 unfold ShapeM.blk
 generalize encodeM (geoV (i % 4) style (valsM (s.n k) s.ns))=B at *
 obtain⟨h1,h2,h3,h4⟩:=hb
 refine⟨⟨?_,?_⟩,?_,(by show (3:Int)≤45;decide),?_,?_,ok.pos⟩
 ·show (B.planes:Int)≤(s.most:Int);omega
 ·show (s.most:Int)≤(B.planes:Int)+60;omega
 ·show B.passes.length≤100;omega
 ·show B.bytes.length≤300000;omega
 ·intro a b hab hbl
  replace hbl:b<B.passes.length:=hbl
  show (B.passes.map (·.1)).getD a 0≤(B.passes.map (·.1)).getD b 0
  rcases Nat.lt_or_eq_of_le hab with h | h
  ·have hu:=List.pairwise_iff_getElem.1 ok.up a b (by omega) hbl h
   rw[List.getD_eq_getElem?_getD,List.getD_eq_getElem?_getD,List.getElem?_map,List.getElem?_map,List.getElem?_eq_getElem hbl,List.getElem?_eq_getElem (show a<B.passes.length by omega)]
   exact hu
  ·subst h;exact Int.le_refl _
theorem stNew_good (P:Int) (h:0≤P∧P≤60):SGood P stNew.m:=by
 refine⟨⟨?_,?_⟩,?_,?_,?_,?_,?_⟩
 ·show (0:Int)≤P;omega
 ·show P≤0+60;omega
 ·exact Nat.zero_le _
 ·show (3:Int)≤45;decide
 ·exact Nat.zero_le _
 ·intro i j _ hj
  exact absurd hj (Nat.not_lt_zero _)
 ·intro p hp
  cases hp
theorem shape_relN (s:ShapeM) (i style:Nat) (hs:style≤63):RelN (s.band i style (s.W * s.H))∧∀ x∈(s.band i style (s.W * s.H)).ss,x.said=0:=by
 obtain⟨h1,-,h3,h4,h5,h6,h7,h8,h9⟩:=s.band_ss i style (s.W * s.H) (Nat.le_refl _)
 have hl:=s.lt
 have hm:s.W * s.H≤3 * 3:=Nat.mul_le_mul (by omega) (by omega)
 refine⟨⟨by rw[h1];omega,fun x hx=>?_,h6,by rw[h1,h4,h5],by rw[h4,h5];omega,by rw[h7,h4,h5],by rw[h8,h4,h5]⟩,fun x hx=>?_⟩
 ·rw[h3]
  rcases h9 x hx with rfl | ⟨j,-,rfl⟩
  ·exact stNew_good _ (by omega)
  ·exact blk_good s i style j hs
 ·rcases h9 x hx with rfl | ⟨j,-,rfl⟩
  ·rfl
  ·rfl
end
section
def Pr (b:List UInt8):Prop:=∀ i,i+1<b.length→b.getD i 0=255→(b.getD (i+1) 0).toNat≤144
def ClE (b:List UInt8):Prop:=Pr b∧(2≤b.length→b.getD (b.length - 2) 0=255→(b.getD (b.length - 1) 0).toNat≤143)
def Fin2 (b:List UInt8):Prop:=Pr b∧(0<b.length→b.getD (b.length - 1) 0≠255)
theorem getLastD_getD2 (l:List UInt8):l.getLastD 0=l.getD (l.length - 1) 0:=by
 rw[List.getLastD_eq_getLast?,List.getLast?_eq_getElem?,List.getD_eq_getElem?_getD]
theorem app_get (b:List UInt8) (y:UInt8):(∀ i,i<b.length→(b++[y]).getD i 0=b.getD i 0)∧(b++[y]).getD b.length 0=y∧(b++[y]).length=b.length+1:=by
 refine⟨fun i hi=>?_,?_,by simp⟩
 ·rw[List.getD_eq_getElem?_getD,List.getElem?_append_left hi,← List.getD_eq_getElem?_getD]
 ·rw[List.getD_eq_getElem?_getD,List.getElem?_append_right (Nat.le_refl _),Nat.sub_self];rfl
theorem dl_get (b:List UInt8):b.dropLast.length=b.length - 1∧∀ i,i+1<b.length→b.dropLast.getD i 0=b.getD i 0:=by
 refine⟨List.length_dropLast,fun i hi=>?_⟩
 rw[List.getD_eq_getElem?_getD,List.getElem?_dropLast,if_pos (by omega),← List.getD_eq_getElem?_getD]
theorem Pr.snoc {b:List UInt8} (h:Pr b) {y:UInt8} (hy:0<b.length→b.getD (b.length - 1) 0=255→y.toNat≤144):Pr (b++[y]):=by
 obtain⟨a1,a2,a3⟩:=app_get b y
 intro i hi h255
 rw[a3] at hi
 rw[a1 i (by omega)] at h255
 by_cases e:i+1=b.length
 ·rw[e,a2]
  exact hy (by omega) (by rw[show b.length - 1=i by omega];exact h255)
 ·rw[a1 (i+1) (by omega)]
  exact h i (by omega) h255
theorem ClE.snoc {b:List UInt8} (h:Pr b) {y:UInt8} (hy:0<b.length→b.getD (b.length - 1) 0=255→y.toNat≤143):ClE (b++[y]):=by
 obtain⟨a1,a2,a3⟩:=app_get b y
 refine⟨h.snoc fun h1 h2=>by have:=hy h1 h2;omega,fun h2 h255=>?_⟩
 rw[a3] at h2 h255 ⊢
 rw[show b.length+1 - 1=b.length by omega,a2]
 rw[show b.length+1 - 2=b.length - 1 by omega,a1 _ (by omega)] at h255
 exact hy (by omega) h255
theorem Pr.drop {b:List UInt8} (h:Pr b):Pr b.dropLast:=by
 obtain⟨a1,a2⟩:=dl_get b
 intro i hi h255
 rw[a1] at hi
 rw[a2 i (by omega)] at h255
 rw[a2 (i+1) (by omega)]
 exact h i (by omega) h255
theorem Pr.tail {b:List UInt8} (h:Pr b):Pr (b.drop 1):=by
 have e:∀ i,(b.drop 1).getD i 0=b.getD (i+1) 0:=fun i=>by rw[List.getD_eq_getElem?_getD,List.getElem?_drop,Nat.add_comm,← List.getD_eq_getElem?_getD]
 intro i hi h255
 rw[List.length_drop] at hi
 rw[e] at h255 ⊢
 exact h (i+1) (by omega) h255
theorem carry_pr {e:EncM} (hne:e.b≠[]) (h:ClE e.b):Pr (carryE e).b∧(carryE e).b≠[]∧(carryE e).c≤e.c:=by
 unfold carryE
 split
 ·rename_i hc
  rw[getLastD_getD2] at hc
  have hp:=List.length_pos_iff.2 hne
  obtain⟨d1,d2⟩:=dl_get e.b
  refine⟨?_,by simp,by simp only;omega⟩
  simp only
  refine h.1.drop.snoc fun h1 h2=>?_
  rw[d1] at h1 h2
  rw[d2 _ (by omega)] at h2
  have h3:=h.2 (by omega) (by rw[show e.b.length - 2=e.b.length - 1 - 1 by omega];exact h2)
  rw[getLastD_getD2,UInt8.toNat_add]
  show ((e.b.getD (e.b.length - 1) 0).toNat+1) % 2 ^ 8≤144
  omega
 ·exact⟨h.1,hne,Nat.le_refl _⟩
theorem outE_cl {e:EncM} (hne:e.b≠[]) (hc:e.c<150994944) (h:ClE e.b):ClE (outE e).b:=by
 obtain⟨h1,h2,h3⟩:=carry_pr hne h
 unfold outE
 generalize carryE e=f at *
 unfold putE
 split
 ·simp only
  refine ClE.snoc h1 fun _ _=>?_
  have:f.c / 2 ^ 20≤143:=by omega
  rw[UInt8.toNat_ofNat']
  omega
 ·rename_i hl
  simp only
  refine ClE.snoc h1 fun _ h5=>?_
  rw[getLastD_getD2] at hl
  exact absurd h5 hl
theorem dblE_cl {e:EncM} (h:e.W) (hc:ClE e.b):ClE (dblE e).b:=by
 obtain⟨w1,w2,w3,w4,w5,w6⟩:=h
 unfold dblE
 split
 ·rename_i h1
  rw[h1] at w5
  exact outE_cl (e:={ e with a:=2 * e.a,c:=2 * e.c,ct:=0 }) w6 (by show 2 * e.c<150994944;omega) hc
 ·exact hc
theorem normE_cl:∀ (k:Nat) {e:EncM},e.W→ClE e.b→ClE (normE k e).b
 | 0,e,_,h=>h
 | k+1,e,hw,h=>by
  unfold normE
  split
  ·rename_i ha
   exact normE_cl k (dblE_w hw ha).1 (dblE_cl hw h)
  ·exact h
theorem encE_cl {e:EncM} {x:CxM} {bit:Nat} (he:e.Ok) (hx:x.Ok) (h:ClE e.b):ClE (encE e x bit).1.b:=by
 unfold encE
 exact normE_cl 16 (bitE_w he hx).1 (by rw[bitE_b];exact h)
theorem pos_mul {c a k:Nat} (ha:1≤a) (h:(c+a) * 2 ^ k≤150994944):c * 2 ^ k<150994944:=by
 have h1:0<2 ^ k:=Nat.pow_pos (by decide)
 have h2:(c+a) * 2 ^ k=c * 2 ^ k+a * 2 ^ k:=Nat.add_mul _ _ _
 have h3:1 * 2 ^ k≤a * 2 ^ k:=Nat.mul_le_mul_right _ ha
 omega
theorem flushE_cl {e:EncM} (he:e.Ok) (h:ClE e.b):ClE (flushE e).b:=by
 obtain⟨⟨w1,w2,w3,w4,w5,w6⟩,w7⟩:=he
 have hf:flushC e+1≤e.c+e.a:=by unfold flushC;split <;> omega
 have h1:flushC e * 2 ^ e.ct<150994944:=by
  have h2:(flushC e+1) * 2 ^ e.ct≤(e.c+e.a) * 2 ^ e.ct:=Nat.mul_le_mul_right _ hf
  exact pos_mul (Nat.le_refl 1) (Nat.le_trans h2 w5)
 have k1:=flush1_ok (e:={ e with c:=flushC e }) w1 w2
 have c1:ClE (flush1 { e with c:=flushC e }).b:=outE_cl (e:={ e with c:=flushC e * 2 ^ e.ct }) w6 h1 h
 unfold flushE
 generalize flush1 { e with c:=flushC e }=g at *
 have ha:1≤g.a:=by rw[k1.1];exact w1
 exact outE_cl (e:={ g with c:=g.c * 2 ^ g.ct }) k1.2.2.2.2 (pos_mul ha k1.2.2.2.1) c1
structure ClR (r:RawM):Prop where
 pr:Pr r.b
 cur:r.cur<2 ^ r.top
 last:0<r.b.length→r.b.getD (r.b.length - 1) 0=255→r.top=7
theorem rawNew_cl:ClR rawNew:=⟨(fun i hi=>by simp[rawNew] at hi),by decide,(fun h=>by simp[rawNew] at h)⟩
theorem raw_push {r:RawM} (h:ClR r) (ok:r.Ok) {c:Nat} (hc:c<2 ^ r.top):Pr (r.b++[UInt8.ofNat c]):=by
 refine h.pr.snoc fun h1 h2=>?_
 have h3:=h.last h1 h2
 rw[h3] at hc
 rw[UInt8.toNat_ofNat']
 omega
theorem rawBit_cl {r:RawM} (h:ClR r) (ok:r.Ok) (bit:Nat):ClR (rawBit r bit):=by
 have f1:=ok.f1
 have f2:=ok.f2
 have f3:=ok.top
 have hc:r.cur ||| bit % 2 * 2 ^ (r.free - 1)<2 ^ r.top:=by
  refine Nat.or_lt_two_pow h.cur ?_
  have h1:2 ^ (r.free - 1) * 2≤2 ^ r.top:=by rw[← Nat.pow_succ];exact Nat.pow_le_pow_right (by decide) (by omega)
  have h2:bit % 2 * 2 ^ (r.free - 1)≤1 * 2 ^ (r.free - 1):=Nat.mul_le_mul_right _ (by omega)
  have h3:0<2 ^ (r.free - 1):=Nat.pow_pos (by decide)
  omega
 have hp:=raw_push h ok hc
 have h8:r.cur ||| bit % 2 * 2 ^ (r.free - 1)<256:=Nat.lt_of_lt_of_le hc (Nat.le_trans (Nat.pow_le_pow_right (by decide) f3) (by decide))
 unfold rawBit
 simp only
 generalize r.cur ||| bit % 2 * 2 ^ (r.free - 1)=c at *
 obtain⟨a1,a2,a3⟩:=app_get r.b (UInt8.ofNat c)
 split
 ·split
  ·exact⟨hp,by show 0<2 ^ 7;decide,fun _ _=>rfl⟩
  ·rename_i hne
   refine⟨hp,by show 0<2 ^ 8;decide,fun h1 h2=>?_⟩
   simp only[a3,Nat.add_sub_cancel,a2] at h2
   have h4:=congrArg UInt8.toNat h2
   rw[UInt8.toNat_ofNat'] at h4
   have h5:(255:UInt8).toNat=255:=rfl
   rw[h5] at h4
   omega
 ·exact⟨h.pr,hc,h.last⟩
theorem noLast_fin {l:List UInt8} (h:Pr l):Fin2 (noLast255 l):=by
 have hl:l.getLast?=some 255↔0<l.length∧l.getD (l.length - 1) 0=255:=by
  rw[List.getLast?_eq_getElem?,List.getD_eq_getElem?_getD]
  by_cases h:0<l.length
  ·rw[List.getElem?_eq_getElem (by omega)]
   simp[h]
  ·have e:l=[]:=List.eq_nil_of_length_eq_zero (by omega)
   subst e
   simp
 unfold noLast255
 split
 ·rename_i h1
  obtain⟨h2,h3⟩:=hl.1 h1
  obtain⟨d1,d2⟩:=dl_get l
  refine⟨h.drop,fun h4 h5=>?_⟩
  rw[d1] at h4 h5
  rw[d2 _ (by omega)] at h5
  have h6:=h (l.length - 1 - 1) (by omega) h5
  rw[show l.length - 1 - 1+1=l.length - 1 by omega,h3] at h6
  exact absurd h6 (by decide)
 ·rename_i h1
  exact⟨h,fun h2 h3=>h1 (hl.2 ⟨h2,h3⟩)⟩
theorem Fin2.append {a b:List UInt8} (ha:Fin2 a) (hb:Fin2 b):Fin2 (a++b):=by
 have e1:∀ i,i<a.length→(a++b).getD i 0=a.getD i 0:=fun i hi=>by rw[List.getD_eq_getElem?_getD,List.getElem?_append_left hi,← List.getD_eq_getElem?_getD]
 have e2:∀ i,(a++b).getD (a.length+i) 0=b.getD i 0:=fun i=>by rw[List.getD_eq_getElem?_getD,List.getElem?_append_right (by omega),Nat.add_sub_cancel_left,← List.getD_eq_getElem?_getD]
 refine⟨fun i hi h255=>?_,fun hp=>?_⟩
 ·rw[List.length_append] at hi
  by_cases h1:i+1<a.length
  ·rw[e1 i (by omega)] at h255
   rw[e1 (i+1) h1]
   exact ha.1 i h1 h255
  ·by_cases h2:i<a.length
   ·rw[e1 i h2] at h255
    exact absurd (show a.getD (a.length - 1) 0=255 by rw[show a.length - 1=i by omega];exact h255) (ha.2 (by omega))
   ·obtain⟨j,rfl⟩:∃ j,i=a.length+j:=⟨i - a.length,by omega⟩
    rw[e2] at h255
    rw[Nat.add_assoc,e2]
    exact hb.1 j (by omega) h255
 ·rw[List.length_append] at hp ⊢
  by_cases h0:0<b.length
  ·rw[show a.length+b.length - 1=a.length+(b.length - 1) by omega,e2]
   exact hb.2 h0
  ·have e:b=[]:=List.eq_nil_of_length_eq_zero (by omega)
   subst e
   simp only[List.length_nil,Nat.add_zero,List.append_nil] at hp ⊢
   exact ha.2 hp
theorem Fin2.nil:Fin2 []:=⟨(fun i hi=>by simp at hi),(fun h=>by simp at h)⟩
structure ClW (s:WrM):Prop where
 ok:s.Ok
 e:ClE s.e.b
 r:ClR s.r
theorem Says.cl {raw:Bool} {n:Nat} {s s':WrM} (h:Says raw n s s') (hs:ClW s):ClW s':=by
 induction h with
 | refl=>exact hs
 | bit k b hk _ ih =>
  have i:=ih hs
  refine⟨bitW_ok i.ok hk b,?_,?_⟩
  ·unfold bitW
   split
   ·exact i.e
   ·have hx:∀ (cx:List CxM),cx.length=19→(∀ c∈cx,c.Ok)→(cx.getD k ⟨0,0⟩).Ok:=by
     intro cx hl hc
     rw[List.getD_eq_getElem?_getD,List.getElem?_eq_getElem (by omega)]
     exact hc _ (List.getElem_mem _)
    exact encE_cl i.ok.e (hx _ i.ok.len i.ok.cx) i.e
  ·unfold bitW
   split
   ·exact rawBit_cl i.r i.ok.r b
   ·exact i.r
 | fresh _ ih =>
  have i:=ih hs
  exact⟨⟨cxFresh_ok.1,cxFresh_ok.2,i.ok.e,i.ok.r⟩,i.e,i.r⟩
theorem seg_fin {raw:Bool} {s:WrM} (h:ClW s):Fin2 (segM raw s):=by
 unfold segM
 split
 ·unfold rawFlush
  split
  ·exact noLast_fin (raw_push h.r h.ok.r h.r.cur)
  ·exact noLast_fin h.r.pr
 ·exact noLast_fin (flushE_cl h.ok.e h.e).1.tail
theorem encNew_cl:ClE encNew.b:=⟨(fun i hi=>by simp[encNew] at hi),(fun h=>by simp[encNew] at h)⟩
theorem encStep_fin {G:GeoM} (hh:1≤G.h) (planes n:Nat) (t:EncS) (k:Nat) (h:ClW t.q.s∧Fin2 t.bytes):ClW (encStep G planes n t k).q.s∧Fin2 (encStep G planes n t k).bytes:=by
 obtain⟨h1,h2⟩:=h
 have h0:ClW (stQ0 t k).s:=by
  unfold stQ0
  split
  ·exact⟨⟨h1.ok.len,h1.ok.cx,encNew_ok,rawNew_ok⟩,encNew_cl,rawNew_cl⟩
  ·exact h1
 have hq:ClW (stQ G planes t k).s:=(passM_says (raw:=stRaw G t k) hh planes k (stQ0 t k)).cl h0
 unfold encStep
 split
 ·exact⟨⟨⟨hq.ok.len,hq.ok.cx,flushE_ok hq.ok.e,hq.ok.r⟩,flushE_cl hq.ok.e hq.e,hq.r⟩,h2.append (seg_fin hq)⟩
 ·exact⟨hq,h2⟩
theorem encRun_fin {G:GeoM} (hh:1≤G.h) (planes n:Nat):∀ (f k:Nat) (t:EncS),ClW t.q.s∧Fin2 t.bytes→Fin2 (encRun G planes n f k t).bytes
 | 0,_,_,h=>h.2
 | f+1,k,t,h=>encRun_fin hh planes n f (k+1) _ (encStep_fin hh planes n t k h)
theorem encodeM_fin (G:GeoM) (hh:1≤G.h):Fin2 (encodeM G).bytes :=
 encRun_fin hh _ _ _ _ _ ⟨⟨⟨cxFresh_ok.1,cxFresh_ok.2,encNew_ok,rawNew_ok⟩,encNew_cl,rawNew_cl⟩,Fin2.nil⟩
end
end Go.Proofs.YtjngfhgakokejaaGreat
