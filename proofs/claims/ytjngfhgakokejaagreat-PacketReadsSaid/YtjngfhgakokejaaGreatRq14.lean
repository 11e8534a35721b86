/- PacketReads: part 14. -/
import Derived.Test.YtjngfhgakokejaaGreatRq13
set_option maxRecDepth 100000
set_option maxHeartbeats 8000000
set_option linter.all false
namespace Go.Proofs.YtjngfhgakokejaaGreat
open Value renaming int→i_,slice→s_,pointer→p_,bool→b_,agg→g_,tuple→t_
open IntKind renaming i64→l_
open Ending renaming returned→r_
open Tryz renaming prog→P_
open Option renaming some→S_,none→N_
open Bool renaming true→T_,false→F_
section
open Go.RowKit
section
variable(K:Act→World→Prop)(qb bb lg lc n k np pc nb bc:Nat)(pl said lb:Int)(pa ba:Option Addr)(R H0:List YtjngfhgakokejaaGreat.HB)(w0:World)(w:World){s0 s1 s2 s4 s5 s6 s7 s8 s9 s10 s11 s12 s13 s14 s15 s16 l9 kH kS s20 lF lC s23 s24 kZ s26 kW kR kY lu lJ lK lI lL lD s36 lY lX mG ni mZ mY s43 s44 nI mF nH nK s49 mD mg lW s53 mX mQ mP mO nX nJ oU oQ pO qW qN qV rD rC s68 rM rJ sN s72 sK sJ ry ru rf s78 qZ rH rG s82 s83 uk uj:Value}
inductive Pg(bQ:Array Bool)(a:Act)(W:World):Prop|mk {b0 b1 b2 b3 b4 b5 b6 b7 b8 b9 b10:Bool} {u11 u12 u13 u14 u15 u16 M! L! K! u6:Value} {gx:Nat} (hl:bQ=#[b0,b1,b2,b3,b4,b5,b6,b7,b8,b9,b10]) (ha:a=⟨List.toArray (s0::s1::s2::(.pointer (some ⟨qb,0,none⟩))::s4::s5::u6::s7::s8::s9::s10::u11::u12::u13::u14::u15::u16::M!::L!::K!::s20::lF::lC::s23::s24::kZ::s26::kW::kR::kY::lu::lJ::lK::lI::lL::lD::s36::lY::lX::mG::ni::mZ::mY::s43::s44::nI::mF::nH::nK::s49::mD::mg::lW::s53::mX::mQ::mP::mO::nX::nJ::oU::oQ::pO::qW::qN::qV::rD::rC::s68::rM::rJ::sN::s72::sK::sJ::ry::ru::rf::s78::qZ::rH::rG::s82::s83::uk::uj::[]),[]⟩) (HW:((b10=false→Mv w0 H0 W (oh b9 ⟨gx,85,#[.int .i64 0,.slice none 0 0,.slice none 0 0,.int .i64 0,.int .i64 0]⟩++R))∧(b10=true→Mv w0 H0 W (⟨gx,85,#[.int .i64 (pl),.slice pa np pc,.slice ba nb bc,.int .i64 (said),.int .i64 (lb)]⟩::R))∧(b10=true→b0=true∧b1=true∧b2=true∧b3=true∧b4=true∧b5=true∧b6=true∧b7=true∧b8=true∧b9=true))) (hF:(b0=true→u11=.pointer (some ⟨qb,0,none⟩))∧(b1=true→u12=.pointer (some ⟨bb,0,none⟩))∧(b2=true→u13=.pointer (some ⟨bb,0,none⟩))∧(b3=true→u14=.pointer (some ⟨bb,1,none⟩))∧(b4=true→u15=.slice (some ⟨lg,0,none⟩) n lc)∧(b5=true→u16=.pointer (some ⟨qb,1,none⟩))∧(b6=true→M!=.int .i64 k)∧(b7=true→L!=.pointer (some ⟨lg,k*5,none⟩))∧(b8=true→K!=.agg #[.int .i64 (pl),.slice pa np pc,.slice ba nb bc,.int .i64 (said),.int .i64 (lb)])∧(b9=true→u6=.pointer (some ⟨gx,0,none⟩)):=by and_intros<;>first|assumption|exact fun _=>rfl|(simp only[bM,bI,aI]<;>assumption)):Pg bQ a W
theorem aej(CE:Hid (∀V A',Mv w0 H0 V (A'++R)→V.cell? ⟨qb,0,N_⟩=S_ (p_ (S_ ⟨bb,0,N_⟩))∧V.cell? ⟨qb,1,N_⟩=S_ (i_ l_ k)∧V.cell? ⟨bb,1,N_⟩=S_ (s_ (S_ ⟨lg,0,N_⟩) n lc)∧V.cell? ⟨lg,k*5,N_⟩=S_ (i_ l_ pl)∧V.cell? ⟨lg,k*5+1,N_⟩=S_ (s_ pa np pc)∧V.cell? ⟨lg,k*5+2,N_⟩=S_ (s_ ba nb bc)∧V.cell? ⟨lg,k*5+3,N_⟩=S_ (i_ l_ said)∧V.cell? ⟨lg,k*5+4,N_⟩=S_ (i_ l_ lb)))(hkn:(k:Int)<n)(hk5:k*5<100000)(hM:Mv w0 H0 w R)
 (hk:∀(u11 u12 u13 u14 u15 u16 M! L! K! u6:Value) (gx:Nat) (W:World),((T_=F_→Mv w0 H0 W (oh T_ ⟨gx,85,#[i_ l_ 0,s_ N_ 0 0,s_ N_ 0 0,i_ l_ 0,i_ l_ 0]⟩++R))∧(T_=T_→Mv w0 H0 W (⟨gx,85,#[i_ l_ (pl),s_ pa np pc,s_ ba nb bc,i_ l_ (said),i_ l_ (lb)]⟩::R))∧(T_=T_→T_=T_∧T_=T_∧T_=T_∧T_=T_∧T_=T_∧T_=T_∧T_=T_∧T_=T_∧T_=T_∧T_=T_))→(u6=p_ (S_ ⟨gx,0,N_⟩))→K ⟨List.toArray (s0::s1::s2::(p_ (S_ ⟨qb,0,N_⟩))::s4::s5::u6::s7::s8::s9::s10::u11::u12::u13::u14::u15::u16::M!::L!::K!::s20::lF::lC::s23::s24::kZ::s26::kW::kR::kY::lu::lJ::lK::lI::lL::lD::s36::lY::lX::mG::ni::mZ::mY::s43::s44::nI::mF::nH::nK::s49::mD::mg::lW::s53::mX::mQ::mP::mO::nX::nJ::oU::oQ::pO::qW::qN::qV::rD::rC::s68::rM::rJ::sN::s72::sK::sJ::ry::ru::rf::s78::qZ::rH::rG::s82::s83::uk::uj::[]),[]⟩ W):
 (dQ 1 Tryz.f45).wp P_ (Exit.then K qX) ⟨List.toArray (s0::s1::s2::(p_ (S_ ⟨qb,0,N_⟩))::s4::s5::s6::s7::s8::s9::s10::s11::s12::s13::s14::s15::s16::l9::kH::kS::s20::lF::lC::s23::s24::kZ::s26::kW::kR::kY::lu::lJ::lK::lI::lL::lD::s36::lY::lX::mG::ni::mZ::mY::s43::s44::nI::mF::nH::nK::s49::mD::mg::lW::s53::mX::mQ::mP::mO::nX::nJ::oU::oQ::pO::qW::qN::qV::rD::rC::s68::rM::rJ::sN::s72::sK::sJ::ry::ru::rf::s78::qZ::rH::rG::s82::s83::uk::uj::[]),[]⟩ w:=by
 conv in(dQ _ _)=>whnf
 unfold qX;have HK:=af hk;clear hk;refine jS (by kernel_rfl) [[],[0],[1],[2],[3],[],[5],[4,6],[7],[],[9,8,0,1,2,3,4,5,6,7,8,9]] [0,1,2,3,4,5,6,7,8,9,10] (by kernel_rfl) (by kernel_rfl) (@Pg qb bb lg lc n k np pc nb bc pl said lb pa ba R H0 w0 s0 s1 s2 s4 s5 s7 s8 s9 s10 s20 lF lC s23 s24 kZ s26 kW kR kY lu lJ lK lI lL lD s36 lY lX mG ni mZ mY s43 s44 nI mF nH nK s49 mD mg lW s53 mX mQ mP mO nX nJ oU oQ pO qW qN qV rD rC s68 rM rJ sN s72 sK sJ ry ru rf s78 qZ rH rG s82 s83 uk uj) ?_ ?_ ?_
 ·refine .mk (gx:=0) rfl rfl ⟨fun _=>by simpa[jl]using hM.drew,(fun e=>nomatch e),(fun e=>nomatch e)⟩ ⟨nofun,nofun,nofun,nofun,nofun,nofun,nofun,nofun,nofun,nofun⟩
 ·rintro _ _ W ⟨rfl,rfl,HW,-,-,-,-,-,-,-,-,-,h9⟩ hb;simp only[List.all_cons,List.all_nil,dO,kJ]at hb;obtain⟨rfl,rfl,rfl,rfl,rfl,rfl,rfl,rfl,rfl,rfl,rfl⟩:=hb;exact HK _ _ _ _ _ _ _ _ _ _ _ W HW (h9 rfl)
 ·rintro _ _ W i @⟨_,_,_,_,_,_,_,_,_,b9,b10,_,_,_,_,_,_,_,_,_,_,gx,rfl,rfl,HW,h0,h1,h2,h3,h4,h5,h6,h7,h8,h9⟩ hi hi2 zp;have hi4:i=9∨i=10∨i=0∨i=1∨i=2∨i=3∨i=4∨i=5∨i=6∨i=7∨i=8:=(by have:i<11:=hi;omega);clear hi;rcases hi4 with rfl|rfl|rfl|rfl|rfl|rfl|rfl|rfl|rfl|rfl|rfl
  all_goals simp at hi2 zp;(repeat obtain⟨_,zp⟩:=zp);(try subst_vars);try simp only[bM,bI,aI]at h0 h1 h2 h3 h4 h5 h6 h7 h8 h9
  all_goals try subst_vars
  all_goals refine jm rfl (fun K hK=>?_)
  ·obtain rfl:b10=F_:=by cases b10;rfl;have:=HW.2.2 rfl;simp at this
   have M9:=HW.1 rfl;have N9:Mv w0 H0 (W.alloc (.cells #[i_ l_ 0,s_ N_ 0 0,s_ N_ 0 0,i_ l_ 0,i_ l_ 0] 85)) (oh T_ ⟨W.heap.size,85,#[i_ l_ 0,s_ N_ 0 0,s_ N_ 0 0,i_ l_ 0,i_ l_ 0]⟩++R):=M9.alloc 85 #[i_ l_ 0,s_ N_ 0 0,s_ N_ 0 0,i_ l_ 0,i_ l_ 0];go_simp;exact hK _ _ (.mk (gx:=W.heap.size) rfl rfl ⟨(fun _=>N9),(fun e=>nomatch e),(fun e=>nomatch e)⟩)
  ·have M9:=HW.1 rfl;have M8:Mv w0 H0 W (⟨gx,85,#[i_ l_ 0,s_ N_ 0 0,s_ N_ 0 0,i_ l_ 0,i_ l_ 0]⟩::R):=M9;have z0:W.cell? ⟨gx,0,N_⟩=S_ (i_ l_ 0):=M8.cell 0 rfl 0;have z1:W.cell? ⟨gx,1,N_⟩=S_ (s_ N_ 0 0):=M8.cell 0 rfl 1;have z2:W.cell? ⟨gx,2,N_⟩=S_ (s_ N_ 0 0):=M8.cell 0 rfl 2;have z3:W.cell? ⟨gx,3,N_⟩=S_ (i_ l_ 0):=M8.cell 0 rfl 3;have z4:W.cell? ⟨gx,4,N_⟩=S_ (i_ l_ 0):=M8.cell 0 rfl 4;have f0:W.frozen? ⟨gx,0,N_⟩=F_:=M8.frozen 0 rfl 0;have f1:W.frozen? ⟨gx,1,N_⟩=F_:=M8.frozen 0 rfl 1;have f2:W.frozen? ⟨gx,2,N_⟩=F_:=M8.frozen 0 rfl 2;have f3:W.frozen? ⟨gx,3,N_⟩=F_:=M8.frozen 0 rfl 3;have f4:W.frozen? ⟨gx,4,N_⟩=F_:=M8.frozen 0 rfl 4;have N8:=((((M8.set 0 (i_ l_ (pl))).set 1 (s_ pa np pc)).set 2 (s_ ba nb bc)).set 3 (i_ l_ (said))).set 4 (i_ l_ (lb));go_simp;refine hK _ _ (.mk (gx:=gx) rfl rfl ⟨(fun e=>nomatch e),(fun _=>N8),(fun _=>by simp)⟩ ?_);and_intros<;>first|assumption|exact fun _=>rfl|(simp only[bM,bI,aI]<;>assumption)|exact fun _=>trivial
  all_goals first|((obtain rfl:b10=false:=by cases b10;rfl;have:=HW.2.2 rfl;simp at this);have M9:=HW.1 rfl;go_simp;exact hK _ _ (.mk rfl rfl ⟨(fun _=>M9),(fun e=>nomatch e),(fun e=>nomatch e)⟩))|((obtain rfl:b10=false:=by cases b10;rfl;have:=HW.2.2 rfl;simp at this);have M9:=HW.1 rfl;obtain⟨y0,y1,y2,y3,y4,y5,y6,y7⟩:=CE W (oh b9 ⟨gx,85,#[.int .i64 0,.slice none 0 0,.slice none 0 0,.int .i64 0,.int .i64 0]⟩) M9;go_simp;exact hK _ _ (.mk rfl rfl ⟨(fun _=>M9),(fun e=>nomatch e),(fun e=>nomatch e)⟩))
end
theorem abX(K:Act→World→Prop)(qb bb xb lg lc n k:Nat)(pl said lb:Int)(va:Option Addr)(vn vc:Nat)(ua:Option Addr)(un uc:Nat)(w:World){s0 s1 s2 s4 s5 s7 s8 s9 s10 s11 s12 s13 s14 s15 s16 l9 kH kS s20 lF lC s23 s24 kZ s26 kW kR kY lu lJ lK lI lL lD s36 lY lX mG ni mZ mY s43 s44 nI mF nH nK s49 mD mg lW s53 mX mQ mP mO nX nJ oU oQ pO qW qN qV rD rC s68 rM rJ sN s72 sK sJ ry ru rf s78 qZ rH rG s82 s83 uk uj:Value}
 (q0:w.cell? ⟨qb,0,N_⟩=S_ (p_ (S_ ⟨bb,0,N_⟩))) (q1:w.cell? ⟨qb,1,N_⟩=S_ (i_ l_ k)) (c1:w.cell? ⟨bb,1,N_⟩=S_ (s_ (S_ ⟨lg,0,N_⟩) n lc)) (x0:w.cell? ⟨xb,0,N_⟩=S_ (i_ l_ pl)) (x1:w.cell? ⟨xb,1,N_⟩=S_ (s_ va vn vc)) (x2:w.cell? ⟨xb,2,N_⟩=S_ (s_ ua un uc)) (x3:w.cell? ⟨xb,3,N_⟩=S_ (i_ l_ said)) (x4:w.cell? ⟨xb,4,N_⟩=S_ (i_ l_ lb))
 (f0:w.frozen? ⟨lg,k*5,N_⟩=F_) (f1:w.frozen? ⟨lg,k*5+1,N_⟩=F_) (f2:w.frozen? ⟨lg,k*5+2,N_⟩=F_) (f3:w.frozen? ⟨lg,k*5+3,N_⟩=F_) (f4:w.frozen? ⟨lg,k*5+4,N_⟩=F_)
 (y0:∃v,w.cell? ⟨lg,k*5,N_⟩=S_ v) (y1:∃v,w.cell? ⟨lg,k*5+1,N_⟩=S_ v) (y2:∃v,w.cell? ⟨lg,k*5+2,N_⟩=S_ v) (y3:∃v,w.cell? ⟨lg,k*5+3,N_⟩=S_ v) (y4:∃v,w.cell? ⟨lg,k*5+4,N_⟩=S_ v)
 (hk:k<n) (hn:n≤1000)
 (hK:∀(t77 t78 t79 t80 t81 t82 t83 t84 t85:Value),K ⟨List.toArray (s0::s1::s2::(p_ (S_ ⟨qb,0,N_⟩))::s4::s5::(p_ (S_ ⟨xb,0,N_⟩))::s7::s8::s9::s10::s11::s12::s13::s14::s15::s16::l9::kH::kS::s20::lF::lC::s23::s24::kZ::s26::kW::kR::kY::lu::lJ::lK::lI::lL::lD::s36::lY::lX::mG::ni::mZ::mY::s43::s44::nI::mF::nH::nK::s49::mD::mg::lW::s53::mX::mQ::mP::mO::nX::nJ::oU::oQ::pO::qW::qN::qV::rD::rC::s68::rM::rJ::sN::s72::sK::sJ::ry::ru::t77::t78::t79::t80::t81::t82::t83::t84::t85::[]),[]⟩ (O4 w lg k pl (s_ va vn vc) (s_ ua un uc) said lb).drew):
 (dQ 13 Tryz.f45).wp P_ (Exit.then K qX) ⟨List.toArray (s0::s1::s2::(p_ (S_ ⟨qb,0,N_⟩))::s4::s5::(p_ (S_ ⟨xb,0,N_⟩))::s7::s8::s9::s10::s11::s12::s13::s14::s15::s16::l9::kH::kS::s20::lF::lC::s23::s24::kZ::s26::kW::kR::kY::lu::lJ::lK::lI::lL::lD::s36::lY::lX::mG::ni::mZ::mY::s43::s44::nI::mF::nH::nK::s49::mD::mg::lW::s53::mX::mQ::mP::mO::nX::nJ::oU::oQ::pO::qW::qN::qV::rD::rC::s68::rM::rJ::sN::s72::sK::sJ::ry::ru::rf::s78::qZ::rH::rG::s82::s83::uk::uj::[]),[]⟩ w:=by
 conv in(dQ _ _)=>whnf
 unfold qX;have HK:=af hK;clear hK;obtain⟨v0,y0⟩:=y0;obtain⟨v1,y1⟩:=y1;obtain⟨v2,y2⟩:=y2;obtain⟨v3,y3⟩:=y3;obtain⟨v4,y4⟩:=y4;have hkn:(k:Int)<n:=by omega
 have hk5:k*5<100000:=by omega
 go_still_tail 8,(by kernel_rfl);go_wp2_with fail;exact HK _ _ _ _ _ _ _ _ _
def aeD(qb b k cq cp cl:Nat)(ap al:Option Addr):HB:=⟨qb,106,#[p_ (S_ ⟨b,0,N_⟩),i_ l_ k,s_ ap cq cp,s_ al cq cl]⟩
def af7(b lg lc n k np pc nb bc nd dc:Nat)(pa ba da:Option Addr)(s:og)(data:List UInt8)(V:World):Prop:=
 V.cell? ⟨b,1,N_⟩=S_ (s_ (S_ ⟨lg,0,N_⟩) n lc)∧
 (V.cell? ⟨lg,k*5,N_⟩=S_ (i_ l_ s.pl)∧V.cell? ⟨lg,k*5+1,N_⟩=S_ (s_ pa np pc)∧V.cell? ⟨lg,k*5+2,N_⟩=S_ (s_ ba nb bc)∧V.cell? ⟨lg,k*5+3,N_⟩=S_ (i_ l_ s.said)∧V.cell? ⟨lg,k*5+4,N_⟩=S_ (i_ l_ s.lb))∧
 (∀j,j<5→V.frozen? ⟨lg,k*5+j,N_⟩=F_)∧QV V (s_ pa np pc) s.ps∧BV V (s_ ba nb bc) s.bs∧BV V (s_ da nd dc) data
theorem WE(ah e p:Nat)(ps:List (Int×Bool)):uP ah e (p+1) ps=uP ah e p (ps++[((e:Int),uH ah ps.length)]):=rfl
theorem Γ(ah a:Nat)(q:yx)(qs:List yx)(ps:List (Int×Bool)):docPs ah a (q::qs) ps=docPs ah (a+q.n) qs (uP ah (a+q.n) q.p ps):=rfl
theorem aaS(q:yx)(qs:List yx):xY (q::qs)=q.p+xY qs:=by simp[xY]
theorem aaT(q:yx)(qs:List yx):qR (q::qs)=q.n+qR qs:=by simp[qR]
theorem Zf(b lg lc n k ah np pc nb bc nd dc cq cp cl:Nat)(s:og)(pcs:List yx)(data:List UInt8)(pa ba da ap al:Option Addr)(HP HQ Y H0:List HB)(w0 W:World)(Fin:World→Prop)
 (hP:jy (s_ ap cq cp) (pcs.map fun z=>(z.p:Int)) HP) (hQ:jy (s_ al cq cl) (pcs.map fun z=>(z.n:Int)) HQ) (hM:Mv w0 H0 W (HP++(HQ++Y))) (HS:∀V,Sat V Y→af7 b lg lc n k np pc nb bc nd dc pa ba da s data V)
 (xu:s.ps.length=np) (hnb:s.bs.length=nb) (hnd:data.length=nd) (hcnt:pcs.length=cq) (hk:k<n) (hn:n≤1000) (Em:ah≤63) (hpp:np+xY pcs≤1000) (hb:nb+nd≤10000000) (hsum:qR pcs≤10000000) (hcn:cq≤200)
 (hfin:∀(w2:World) (v2 v3:Value) (P Q:List HB),lH v2 (docPs ah nb pcs s.ps) P→dR v3 (s.bs++data) Q→Mv w0 H0 w2 (P++(Q++(HP++(HQ++Y))))→Fin (O4 w2 lg k s.pl v2 v3 s.said s.lb).drew):
 Calls P_ 45 #[g_ #[p_ (S_ ⟨b,0,N_⟩),i_ l_ k,s_ ap cq cp,s_ al cq cl],s_ da nd dc,i_ l_ ah] W fun e w'=>e=r_ (t_ #[])∧Fin w':=by
 obtain⟨w1,hw1⟩:=X_ (W.alloc (.cells #[p_ (S_ ⟨b,0,N_⟩),i_ l_ k,s_ ap cq cp,s_ al cq cl] 106));obtain⟨qb,NH⟩:=X_ (W.heap.size);have M1:Mv w0 H0 w1 (aeD qb b k cq cp cl ap al::(HP++(HQ++Y))):=by have m:=hM.alloc 106 #[p_ (S_ ⟨b,0,N_⟩),i_ l_ k,s_ ap cq cp,s_ al cq cl];rw[hw1,NH]at m;exact m
 obtain⟨R1,hR1⟩:=X_ (aeD qb b k cq cp cl ap al::(HP++(HQ++Y)));have TI:Hid (∀V,Sat V R1→af7 b lg lc n k np pc nb bc nd dc pa ba da s data V):=af (fun V h=>HS V (by rw[←hR1]at h;exact h.yA.right.right));have QC:Hid (∀V,Sat V R1→V.cell? ⟨qb,0,N_⟩=S_ (p_ (S_ ⟨b,0,N_⟩))∧V.cell? ⟨qb,1,N_⟩=S_ (i_ l_ k)∧V.cell? ⟨qb,2,N_⟩=S_ (s_ ap cq cp)∧V.cell? ⟨qb,3,N_⟩=S_ (s_ al cq cl)):=af (fun V h=>by rw[←hR1]at h;exact⟨(h.at_ 0 rfl).cell 0,(h.at_ 0 rfl).cell 1,(h.at_ 0 rfl).cell 2,(h.at_ 0 rfl).cell 3⟩);have PC:Hid (∀i z,pcs[i]?=S_ z→(∃g,ap=S_ ⟨g,0,N_⟩∧∀V,Sat V R1→V.cell? ⟨g,i,N_⟩=S_ (i_ l_ z.p))∧(∃g,al=S_ ⟨g,0,N_⟩∧∀V,Sat V R1→V.cell? ⟨g,i,N_⟩=S_ (i_ l_ z.n))):=af (fun i z hz=>by
  have hi:=(aj.1 hz).1;obtain⟨g1,e1⟩:=hP.form (by omega);obtain⟨g2,e2⟩:=hQ.form (by omega);subst e1 e2;refine⟨⟨g1,rfl,fun V h=>?_⟩,⟨g2,rfl,fun V h=>?_⟩⟩
  ·rw[←hR1]at h;exact hP.at_ h.yA.left (by rw[aV,hz];rfl)
  ·rw[←hR1]at h;exact hQ.at_ h.yA.right.left (by rw[aV,hz];rfl))
 have FIN:Hid (∀(w2:World) (v2 v3:Value) (P Q:List HB),lH v2 (docPs ah nb pcs s.ps) P→dR v3 (s.bs++data) Q→Mv w0 H0 w2 (P++(Q++R1))→Fin (O4 w2 lg k s.pl v2 v3 s.said s.lb).drew):=af (fun w2 v2 v3 P Q h1 h2 m=>hfin w2 v2 v3 P Q h1 h2 (by rw[←hR1]at m;exact m.Z_));rw[hR1]at M1;have K1:=af M1;have ST:=zO xu hnb hnd hcnt;have hkI:(k:Int)<n:=by omega
 have hk5:k*5<100000:=by omega
 clear hP hQ hM HS hfin hR1 M1 xu hnb hnd hcnt;go_enter Tryz.func45,Tryz.ntmps45;go_upto_region 1 with fail
 try rw[hw1]
 try simp only[NH]
 clear hw1 NH;refine ik (aej _ qb b lg lc n k np pc nb bc s.pl s.said s.lb pa ba R1 H0 w0 w1 (af fun V A' m=>?_) hkI hk5 K1.out ?_)
 ·obtain⟨t1,⟨t2,t3,t4,t5,t6⟩,-⟩:=TI V m.sat.right;obtain⟨q0,q1,-⟩:=QC V m.sat.right;exact⟨q0,q1,t1,t2,t3,t4,t5,t6⟩
 rintro _ _ _ _ _ _ _ _ _ u6 gx w2 ⟨-,r1,-⟩ r2;subst r2;obtain⟨R2,hR2⟩:=X_ (jJ gx s.pl s.said s.lb (s_ pa np pc) (s_ ba nb bc)::R1);have K2:Hid (Mv w0 H0 w2 R2):=af (by rw[←hR2];exact r1 rfl);have XC:Hid (∀V,Sat V R2→V.cell? ⟨gx,0,N_⟩=S_ (i_ l_ s.pl)∧V.cell? ⟨gx,1,N_⟩=S_ (s_ pa np pc)∧V.cell? ⟨gx,2,N_⟩=S_ (s_ ba nb bc)):=af (fun V h=>by rw[←hR2]at h;exact⟨(h.at_ 0 rfl).cell 0,(h.at_ 0 rfl).cell 1,(h.at_ 0 rfl).cell 2⟩);have R12:Hid (∀V,Sat V R2→Sat V R1):=af (fun V h=>by rw[←hR2]at h;exact h.yA);have HR2:=af hR2;clear r1 hR2;go_upto_region 2 with fail;refine ik (aei _ gx np nb pc bc s.pl pa ba da nd dc s.ps s.bs data R2 H0 w0 w2 (af fun V A' m=>XC V m.sat.right) (af fun V A' m=>?_) (by have:=ST.1;omega) (by have:=ST.2.1;omega) (by have h1:=ST.2.1;have h2:=ST.2.2.1;omega) K2.out ?_)
 ·obtain⟨-,-,-,t1,t2,t3⟩:=TI V (R12 V m.sat.right);exact⟨t1,t2,t3⟩
 rintro _ _ _ _ _ _ _ u27 _ _ _ _ _ _ u34 _ u7 bx P0 Q0 w3 ⟨-,r1,-⟩ r2 r3 r4;subst r4;replace r1:=r1 rfl;obtain⟨pa2,pc2,rfl⟩:=r2.slice;obtain⟨ba2,bc2,rfl⟩:=dR.slice r3;have y2:=(XC w3 r1.sat.right.right.yA).2.2;have K3:=nY r1 r2 r3;obtain⟨nx,hnx⟩:=X_ ((s.bs++data).length);rw[hnx]at K3;clear r1 r2 r3 hnx;go_upto_region 4 with fail;clear y2;go_wp2_with fail;go_loopg [8,9] cq (fun mm s8 s9 wx=>∃(i a:Nat) (l:List (Int×Bool)) (aa:Option Addr) (cc:Nat) (P':List YtjngfhgakokejaaGreat.HB),i≤cq∧mm=cq-i∧s8=i_ l_ a∧s9=i_ l_ i∧a+qR (pcs.drop i)≤20000000∧l.length+xY (pcs.drop i)≤1000∧docPs ah a (pcs.drop i) l=docPs ah nb pcs s.ps∧lH (s_ aa l.length cc) l P'∧Mv w0 H0 wx (P'++(Q0++(Bi bx s.pl (s_ aa l.length cc) (s_ ba2 nx bc2)::R2))))
 case atStart=>exact⟨0,nb,s.ps,pa2,pc2,P0,aY _,rfl,rfl,rfl,by rw[iW];omega,by rw[iW,ST.1];exact hpp,by rw[iW],K3.2.1,K3.1⟩
 case round=>
  obtain⟨i,a,l,aa,cc,P1,hi,rfl,rfl,rfl,ha,hl,hE,hr,m⟩:=hrel;obtain⟨-,-,q2,q3⟩:=QC wr (R12 wr m.sat.right.right.yA);by_cases hlt:i<cq
  ·have d1:decide ((i:Int)<cq)=T_:=aQ (by omega);obtain⟨z,hz⟩:∃z,pcs[i]?=S_ z:=⟨_,ai (by rw[ST.2.2.2];exact hlt)⟩;obtain⟨⟨g1,rfl,hp1⟩,⟨g2,rfl,hp2⟩⟩:=PC i z hz;have y1:=hp1 wr (R12 wr m.sat.right.right.yA);have y2:=hp2 wr (R12 wr m.sat.right.right.yA);have hdr:pcs.drop i=z::pcs.drop (i+1):=by obtain⟨h1,h2⟩:=aj.1 hz;rw[fG h1,h2]
   rw[hdr,Γ]at hE;rw[hdr,aaT]at ha;rw[hdr,aaS]at hl;obtain⟨p,hzp⟩:=X_ (z.p);obtain⟨q,hzq⟩:=X_ (z.n);rw[hzp,hzq]at hE;rw[hzq]at ha y2;rw[hzp]at hl y1 hp1;obtain⟨a2,ha2⟩:=X_ (a+q);have hac:(a:Int)+q=a2:=by omega
   rw[ha2]at hE;have hab:a2+qR (pcs.drop (i+1))≤20000000:=by omega
   have hiI:(i:Int)<cq:=by omega
   have KR:=dS hr m;have KE:=nY hE hab hl;have P1':=af hp1;have anm:a2≤20000000:=by omega
   have haq:a≤20000000∧q≤20000000:=by omega
   have hll:l.length+p≤1000:=by omega
   have HAC:=af hac;clear hE hab hl hr m hdr hz hzp hzq hp1 hp2 ha ha2 hac;go_upto_region 8 with fail;rw[HAC.out];clear y2;go_wp2_with fail;go_loopg [10] p (fun mm s10 wx=>∃(j:Nat) (l':List (Int×Bool)) (aa:Option Addr) (cc:Nat) (P':List YtjngfhgakokejaaGreat.HB),j≤p∧mm=p-j∧s10=i_ l_ j∧uP ah a2 (p-j) l'=uP ah a2 p l∧l'.length=l.length+j∧lH (s_ aa l'.length cc) l' P'∧Mv w0 H0 wx (P'++(Q0++(Bi bx s.pl (s_ aa l'.length cc) (s_ ba2 nx bc2)::R2))))
   case atStart=>exact⟨0,l,aa,cc,P1,aY _,rfl,rfl,rfl,rfl,KR.1,KR.2⟩
   case round=>
    clear KR;obtain⟨j,l',aa,cc,P1,hj,rfl,rfl,hE,hl',hr,m⟩:=hrel;have y1:=P1' wr (R12 wr m.sat.right.right.yA);obtain⟨-,-,q2,q3⟩:=QC wr (R12 wr m.sat.right.right.yA);by_cases hjt:j<p
    ·have d2:decide ((j:Int)<p)=T_:=aQ (by omega);have afi:l'.length≤1000:=by omega
     have EN:=af (fun V=>Qs ah l'.length V Em afi);have M11:Mv w0 H0 wr (P1++(Bi bx s.pl (s_ aa l'.length cc) (s_ ba2 nx bc2)::(Q0++R2))):=m.Z_;have KM:=zO hr M11 hE hl';clear hr m M11 hE;go_upto_region 11 with fail;refine lU (abY _ bx a2 ah l'.length cc (uH ah l'.length) aa l' P1 (Bi bx s.pl (s_ aa l'.length cc) (s_ ba2 nx bc2)::(Q0++R2)) H0 w0 wr (af fun V A' mm=>⟨(mm.sat.right.at_ 0 rfl).cell 1,(mm.sat.right.at_ 0 rfl).frozen 1⟩) EN afi KM.1 KM.2.1 ?_);rintro _ _ _ _ _ _ _ _ _ _ u73 _ g8 HB Wp w5 ⟨m5,-,-,-,e5,-⟩ h10;replace e5:=e5 rfl;obtain⟨a9,c9,rfl⟩:=dh.slice h10;have m6:=Mv.setAt (A:=[⟨g8,90,#[i_ l_ a2,b_ (uH ah l'.length)]⟩]++HB) (g:=bx) (cs:=#[i_ l_ s.pl,s_ aa l'.length cc,s_ ba2 nx bc2]) (R:=Q0++R2) (by simpa only[kN,Bi,az]using m5) 1 (s_ a9 (l'.length+1) c9);rw[←e5]at m6;have m7:Mv w0 H0 w5 (([⟨g8,90,#[i_ l_ a2,b_ (uH ah l'.length)]⟩]++HB)++Bi bx s.pl (s_ a9 (l'.length+1) c9) (s_ ba2 nx bc2)::(Q0++R2)):=m6;have K6:=dS h10 m7;clear m5 m6 m7 h10 e5 y1 q2 q3 d1 d2;go_wp2_with fail;go_roundg (p-(j+1))
     case measure=>omega
     case rel=>
      obtain⟨-,-,hE,hl'⟩:=KM.out;have hpj:p-j=(p-(j+1))+1:=by omega
      rw[hpj,WE]at hE;refine⟨j+1,l'++[((a2:Int),uH ah l'.length)],a9,c9,HB,hjt,rfl,by push_cast;rfl,hE,by rw[au,List.length_singleton];omega,?_,?_⟩
      ·rw[au,List.length_singleton];unfold lH;rw[au,List.length_singleton];exact K6.1
      ·rw[au,List.length_singleton];exact K6.2.sub (fun g=>by simp only[Bi,aP,bK,gI];omega) (fun c hc=>by simp only[ay,aC,bP,gQ]at hc⊢;grind)
    ·obtain rfl:j=p:=by omega
     have d2:decide ((j:Int)<j)=F_:=by simp
     rw[iI]at hE;have KM:=zO hr m hE hl';have ahS:l'.length+xY (pcs.drop (i+1))≤1000:=by have:=KE.2.2;omega
     have HLL:=af ahS;clear hr m hE hl' ahS;go_wp2_with fail;go_roundg (cq-(i+1))
     case measure=>omega
     case rel=>obtain⟨hr,m,hE,hl'⟩:=KM.out;have hE2:l'=uP ah a2 j l:=hE;refine⟨i+1,a2,l',aa,cc,P1,hlt,rfl,rfl,by push_cast;rfl,KE.2.1,HLL.out,?_,hr,m⟩;rw[hE2];exact KE.1
  ·obtain rfl:i=cq:=by omega
   have d1:decide ((i:Int)<i)=F_:=by simp
   rw[jq (by rw[ST.2.2.2];exact aN _)]at hE;have hE2:l=docPs ah nb pcs s.ps:=hE;obtain⟨nl,hnl⟩:=X_ (l.length);rw[hnl]at hr m;have hr2:lH (s_ aa nl cc) (docPs ah nb pcs s.ps) P1:=by rw[←hE2];exact hr
   have m2:Mv w0 H0 wr (Bi bx s.pl (s_ aa nl cc) (s_ ba2 nx bc2)::(jJ gx s.pl s.said s.lb (s_ pa np pc) (s_ ba nb bc)::(P1++(Q0++R1)))):=m.sub (fun g=>by rw[←HR2.out];simp only[aP,bK];omega) (fun c hc=>by rw[←HR2.out];simp only[ay,aC]at hc⊢;grind);have b0:wr.cell? ⟨bx,0,N_⟩=S_ (i_ l_ s.pl):=m2.cell 0 rfl 0;have b1:wr.cell? ⟨bx,1,N_⟩=S_ (s_ aa nl cc):=m2.cell 0 rfl 1;have b2:wr.cell? ⟨bx,2,N_⟩=S_ (s_ ba2 nx bc2):=m2.cell 0 rfl 2;have x0:wr.cell? ⟨gx,0,N_⟩=S_ (i_ l_ s.pl):=m2.cell 1 rfl 0;have x1:wr.cell? ⟨gx,1,N_⟩=S_ (s_ pa np pc):=m2.cell 1 rfl 1;have x2:wr.cell? ⟨gx,2,N_⟩=S_ (s_ ba nb bc):=m2.cell 1 rfl 2;have f0:wr.frozen? ⟨gx,0,N_⟩=F_:=m2.frozen 1 rfl 0;have f1:wr.frozen? ⟨gx,1,N_⟩=F_:=m2.frozen 1 rfl 1;have f2:wr.frozen? ⟨gx,2,N_⟩=F_:=m2.frozen 1 rfl 2;have m3:Mv w0 H0 wr (jJ gx s.pl s.said s.lb (s_ pa np pc) (s_ ba nb bc)::(P1++(Q0++R1))):=m2.drop1;have m4:Mv w0 H0 (((wr.setCell ⟨gx,0,N_⟩ (i_ l_ s.pl)).setCell ⟨gx,1,N_⟩ (s_ aa nl cc)).setCell ⟨gx,2,N_⟩ (s_ ba2 nx bc2)) (jJ gx s.pl s.said s.lb (s_ aa nl cc) (s_ ba2 nx bc2)::(P1++(Q0++R1))):=((m3.set 0 (i_ l_ s.pl)).set 1 (s_ aa nl cc)).set 2 (s_ ba2 nx bc2);have KM:=dS hr2 m4;clear hr m hE hE2 hr2 m2 m3 m4 hnl ha hl q3;go_upto_region 13 with fail;obtain⟨w6,hw6⟩:=X_ ((((wr.setCell ⟨gx,0,N_⟩ (i_ l_ s.pl)).setCell ⟨gx,1,N_⟩ (s_ aa nl cc)).setCell ⟨gx,2,N_⟩ (s_ ba2 nx bc2)));rw[hw6]at KM⊢;clear b0 b1 b2 x0 x1 x2 f0 f1 f2 q2 hw6;have m4:=KM.2;have x0:w6.cell? ⟨gx,0,N_⟩=S_ (i_ l_ s.pl):=m4.cell 0 rfl 0;have x1:w6.cell? ⟨gx,1,N_⟩=S_ (s_ aa nl cc):=m4.cell 0 rfl 1;have x2:w6.cell? ⟨gx,2,N_⟩=S_ (s_ ba2 nx bc2):=m4.cell 0 rfl 2;have x3:w6.cell? ⟨gx,3,N_⟩=S_ (i_ l_ s.said):=m4.cell 0 rfl 3;have x4:w6.cell? ⟨gx,4,N_⟩=S_ (i_ l_ s.lb):=m4.cell 0 rfl 4;have m5:Mv w0 H0 w6 (P1++(Q0++R1)):=m4.drop1;obtain⟨q0,q1,-⟩:=QC w6 m5.sat.right.right;obtain⟨t1,⟨j0,j1,j2,j3,j4⟩,fz,-⟩:=TI w6 m5.sat.right.right;have KF:=af m5;clear m4 m5;refine lU (abX _ qb b gx lg lc n k s.pl s.said s.lb aa nl cc ba2 nx bc2 w6 q0 q1 t1 x0 x1 x2 x3 x4 (fz 0 (by decide)) (fz 1 (by decide)) (fz 2 (by decide)) (fz 3 (by decide)) (fz 4 (by decide)) ⟨_,j0⟩ ⟨_,j1⟩ ⟨_,j2⟩ ⟨_,j3⟩ ⟨_,j4⟩ hk hn ?_);rintro _ _ _ _ _ _ _ _ _;refine dm (bH rfl _ _ _) rfl ⟨rfl,?_⟩;exact FIN w6 _ _ P1 Q0 KM.1 K3.2.2 KF.out
theorem abZ(b k ah nd dc cq cp cl:Nat)(m:aT)(ff fz:Bool)(s:og)(pcs:List yx)(data:List UInt8)(ap al da:Option Addr)(H HP HQ HV R H0:List HB)(w0 W:World)(hB:kC b m ff fz H)(hk:m.ss[k]?=S_ s)(hn1:m.ss.length≤1000)
 (hP:jy (s_ ap cq cp) (pcs.map fun z=>(z.p:Int)) HP) (hQ:jy (s_ al cq cl) (pcs.map fun z=>(z.n:Int)) HQ) (hd:∀V,Sat V HV→BV V (s_ da nd dc) data) (hM:Mv w0 H0 W (HP++(HQ++(HV++(H++R)))))
 (hnd:data.length=nd) (hcq:pcs.length=cq) (Em:ah≤63) (hpp:s.ps.length+xY pcs≤1000) (hb:s.bs.length+nd≤10000000) (hsum:qR pcs≤10000000) (hcn:cq≤200):
 Calls P_ 45 #[g_ #[p_ (S_ ⟨b,0,N_⟩),i_ l_ k,s_ ap cq cp,s_ al cq cl],s_ da nd dc,i_ l_ ah] W fun e w'=>e=r_ (t_ #[])∧∃H',kC b (takeD m k ah pcs data) ff fz H'∧Mv w0 H0 w' (HP++(HQ++(HV++(H'++R)))):=by
 obtain⟨g,hg0,rfl⟩:=hB;have hlen:g.G.length=m.ss.length:=by rw[←hg0.ss,aO]
 have δ:=(aj.1 hk).1;obtain⟨x,hx⟩:∃x,g.G[k]?=S_ x:=⟨_,ai (by omega)⟩;have e:x.m=s:=by
  have:m.ss[k]?=S_ x.m:=by rw[←hg0.ss,aV,hx];rfl
  rw[hk]at this;exact(iL this).symm
 have hq:=hg0.st x (aF hx);subst e;obtain⟨q1,q2,q3⟩:=id hq;obtain⟨pa,pc,hvp⟩:=q1.slice;obtain⟨ua,uc,hvb⟩:=dR.slice q2;have Xe:Sat W (g.heap b m):=hM.sat.right.right.right.left;have Oa:Sat W (jk b g.ti g.tu g.vl m::(g.Hl++(g.Hi++(g.Hu++g.G.flatMap gu.heap)))):=Xe;obtain⟨lg,lc,hvl,-⟩:=uw hg0.row (Sat.left (B:=_) (Sat.right (A:=[_]) Oa)) hx;have hE:=Nb ah pcs x.m.bs.length x.m.ps (by omega) q3.ends;refine Zf b lg lc m.ss.length k ah x.m.ps.length pc x.m.bs.length uc nd dc cq cp cl x.m pcs data pa ua da ap al HP HQ (HV++(g.heap b m++R)) H0 w0 W (fun w'=>∃H',kC b (takeD m k ah pcs data) ff fz H'∧Mv w0 H0 w' (HP++(HQ++(HV++(H'++R))))) hP hQ hM ?_ rfl rfl hnd hcq δ hn1 Em hpp hb hsum hcn ?_
 ·intro V h0;have h1:Sat V (jk b g.ti g.tu g.vl m::(g.Hl++(g.Hi++(g.Hu++g.G.flatMap gu.heap)))):=h0.right.left;obtain⟨lg',lc',Jv,d0,d1,d2,d3,d4,fz0⟩:=uw hg0.row (Sat.left (B:=_) (Sat.right (A:=[_]) h1)) hx;rw[hvl]at Jv;simp only[pI,dG,Addr.mk.injEq,kJ,true_and]at Jv;obtain⟨rfl,rfl⟩:=Jv;rw[hvp]at d1;rw[hvb]at d2;have hG:Sat V (x.Hp++x.Hb):=by refine(h1.yA.right.right.right).sub (fun y=>?_) (fun c hc=>iw.2 ⟨x,aF hx,hc⟩);have:=uI gu.heap ⟨x.m,x.vp,x.vb,[],[]⟩ y g.G k x hx;have e2:cnt y (gu.heap ⟨x.m,x.vp,x.vb,[],[]⟩)=0:=rfl;have e3:cnt y (gu.heap x)=cnt y (x.Hp++x.Hb):=rfl;omega
  refine⟨?_,⟨d0,d1,d2,d3,d4⟩,fun j hj=>fz0 _ (by omega),?_,?_,hd V h0.left⟩
  ·rw[←hlen,←hvl];exact(h1.at_ 0 rfl).cell 1
  ·rw[←hvp];exact q1.qv hG.left
  ·rw[←hvb];exact q2.bv hG.right
 ·intro w2 v2 v3 P Q hr2 hr3 m2;have m3:Mv w0 H0 w2 (g.Hl++(P++(Q++(jk b g.ti g.tu g.vl m::(g.Hi++(g.Hu++(g.G.flatMap gu.heap++(HP++(HQ++(HV++R)))))))))):=m2.sub (fun y=>by simp only[iG.heap,aP,bK];omega) (fun c hc=>by simp only[iG.heap,ay,aC]at hc⊢;grind);have hk5:k*5+5≤g.G.length*5:=by omega
  obtain⟨H1,r1,p1⟩:=hg0.row.set m3.sat.left hvl (k*5) (i_ l_ x.m.pl) (by omega);obtain⟨H2,r2,p2⟩:=r1.set p1.sat hvl (k*5+1) v2 (by omega);obtain⟨H3,r3,p3⟩:=r2.set p2.sat hvl (k*5+2) v3 (by omega);obtain⟨H4,r4,p4⟩:=r3.set p3.sat hvl (k*5+3) (i_ l_ x.m.said) (by omega);obtain⟨H5,r5,p5⟩:=r4.set p4.sat hvl (k*5+4) (i_ l_ x.m.lb) (by omega);have m4:=Mv.call m3 (Mv.call (R:=[]) (by simpa using Mv.call (R:=[]) (by simpa using Mv.call (R:=[]) (by simpa using Mv.call (R:=[]) (by simpa using p1) p2) p3) p4) p5);obtain⟨t,ht⟩:=Y_ (x.F6 x.m.pl (docPs ah x.m.bs.length pcs x.m.ps) (x.m.bs++data) v2 v3 P Q);have s0:(g.G.set k t)[k]?=S_ t:=dJ (by omega);rw[SK hx x.m.pl (docPs ah x.m.bs.length pcs x.m.ps) (x.m.bs++data) v2 v3 P Q,←ht]at r5;have e3:=jh gu.v 5 gu.jw (g.G.set k t) k t t s0 3 (by omega) (i_ l_ x.m.said) (by rw[ht];rfl);have e4:=jh gu.v 5 gu.jw (g.G.set k t) k t t s0 4 (by omega) (i_ l_ x.m.lb) (by rw[ht];rfl);rw[jo]at e3 e4;rw[e3,e4]at r5;have e5:takeD m k ah pcs data={m with ss:=m.ss.set k (AX ah x.m pcs data)}:=by unfold takeD;rw[hk]
  have e6:=uI gu.heap t;have e7:∀y,cnt y (gu.heap t)=cnt y (P++Q):=fun y=>by rw[ht];rfl
  have e8:gu.heap t=P++Q:=by rw[ht];rfl
  refine⟨_,⟨{g with Hl:=H5,G:=g.G.set k t},⟨?_,?_,?_,?_,?_,?_⟩,rfl⟩,Mv.drew (m4.sub (fun y=>?_) (fun c hc=>?_))⟩
  ·rw[e5,jb,hg0.ss,ht];rfl
  ·intro y hy;rcases cZ hy with h|rfl
   ·exact hg0.st y h
   ·rw[ht];exact⟨hr2,hr3,⟨by show(docPs ah x.m.bs.length pcs x.m.ps).length≤1000;rw[hE.1];omega,by show(x.m.bs++data).length≤10000000;rw[au];omega,q3.pl,⟨q3.said.1,by show x.m.said≤((docPs ah x.m.bs.length pcs x.m.ps).length:Int);rw[hE.1];have:=q3.said.2;omega⟩,q3.lb,hE.2⟩⟩
  ·simp only[fC];exact r5
  ·rw[e5];exact hg0.ti
  ·rw[e5];exact hg0.tu
  ·rw[e5];exact hg0.pl
  ·have h6:=e6 y g.G k x hx;have h7:=e7 y;rw[e5];simp only[iG.heap,jk,aP,bK]at h6 h7⊢;omega
  ·rw[e5]at hc;simp only[iG.heap,jk,ay,aC]at hc⊢;have h8:∀c,c∈(g.G.set k t).flatMap gu.heap→c∈g.G.flatMap gu.heap∨c∈P∨c∈Q:=by
    intro c hc;rcases Am gu.heap hc with h|h
    ·exact .inl h
    ·rw[e8,ay]at h;exact .inr h
   have h9:=h8 c;grind
def yC(l:List UInt8)(n:Nat):Nat:=if l.length<n+2 then 8 else if l.getD n 0=255∧l.getD (n+1) 0=146 then 0 else 12
def finQ(l:List UInt8)(ah:Nat)(S:tJ×List qU)(n:Nat):Nat×Nat×(Nat→aT):=match Vo l ah S.2 S.1.M n with
 |(M',none)=>(0,8,M')
 |(M',some n)=>(n,0,M')
def N!(l:List UInt8)(ah:Nat)(wQ:Bool)(S:tJ×List qU)(q:Nat×Nat):Nat×Nat×(Nat→aT):=if q.2=0 then(if wQ=T_ then(if yC l q.1=0 then finQ l ah S (q.1+2)else(0,yC l q.1,S.1.M))else finQ l ah S q.1)else(0,q.2,S.1.M)
def pR(l:List UInt8)(ah aB:Nat)(wQ:Bool)(D:List bu)(M:Nat→aT):Nat×Nat×(Nat→aT):=match AA l ah aB D M oL with
 |none=>(0,10,M)
 |some S=>N! l ah wQ S (zJ l S.1.rd)
theorem acP(ah aB:Nat)(D:List bu)(M:Nat→aT):∃S,AA [] ah aB D M oL=S_ S∧zJ [] S.1.rd=(0,8):=⟨_,rfl,rfl⟩
theorem ai8{Bs:List Nat}{D:List bu}{ao:Option Addr}{nq co:Nat}{Q:List qU}{Hq:List HB}(h:Au Bs D (s_ ao nq co) Q Hq){i:Nat}{q:qU}(hq:Q[i]?=S_ q): ∃(pg b cp cl:Nat) (ap al:Option Addr) (HP HQ RQ:List HB),ao=S_ ⟨pg,0,N_⟩∧jy (s_ ap q.pcs.length cp) (q.pcs.map fun z=>(z.p:Int)) HP∧jy (s_ al q.pcs.length cl) (q.pcs.map fun z=>(z.n:Int)) HQ∧(∃i:Nat,Bs[i]?=S_ b∧D[i]?=S_ q.x.d)∧Same Hq (HP++(HQ++RQ))∧ ∀V,Sat V Hq→V.cell? ⟨pg,i*4,N_⟩=S_ (p_ (S_ ⟨b,0,N_⟩))∧V.cell? ⟨pg,i*4+1,N_⟩=S_ (i_ l_ q.x.k)∧V.cell? ⟨pg,i*4+2,N_⟩=S_ (s_ ap q.pcs.length cp)∧V.cell? ⟨pg,i*4+3,N_⟩=S_ (s_ al q.pcs.length cl):=by
 obtain⟨G,Ho,hm,hok,hr,rfl⟩:=h;obtain⟨g,hg,rfl⟩:∃g,G[i]?=S_ g∧g.m=q:=by
  rw[←hm,aV]at hq;cases hg:G[i]? with
  |none=>rw[hg]at hq;cases hq
  |some g=>rw[hg]at hq;exact⟨g,rfl,iL hq⟩
 have hi:=(aj.1 hg).1;have ok:=hok g (aF hg);obtain⟨pg,cap,cur,e,-⟩:=dh.form hr (by omega);obtain⟨ap,cp,ep⟩:=ok.p.slice;obtain⟨al,cl,el⟩:=ok.l.slice;rw[aO]at ep el;have hp:=ok.p;have hl:=ok.l;rw[ep]at hp;rw[el]at hl;injection e with e1 e2 e3;have e0:G=G.take i++g::G.drop (i+1):=by have:=(aj.1 hg).2;rw[←this];simp
 have f0:G.flatMap Cc.heap=(G.take i).flatMap Cc.heap++((g.Hp++g.Hl)++(G.drop (i+1)).flatMap Cc.heap):=by
  conv=>lhs;rw[e0]
  rw[gX,dE];rfl
 refine⟨pg,g.b,cp,cl,ap,al,g.Hp,g.Hl,Ho++((G.take i).flatMap Cc.heap++(G.drop (i+1)).flatMap Cc.heap),e1,hp,hl,ok.at_,⟨fun y=>?_,fun y=>?_⟩,fun V hV=>?_⟩
 ·rw[f0];simp only[aP];omega
 ·rw[f0];simp only[ay];grind
 ·have key:∀j,j<4→V.cell? ⟨pg,i*4+j,N_⟩=(Cc.v g)[j]?:=by intro j hj;rw[(dh.cell hr hV.left (by rw[e1,e2]) (i*4+j) (by omega)).1];exact flat_get Cc.v 4 (fun _=>rfl) G i g hg j hj
  have k2:=key 2 (by omega);have k3:=key 3 (by omega);refine⟨key 0 (by omega),key 1 (by omega),?_,?_⟩
  ·rw[k2,←ep];rfl
  ·rw[k3,←el];rfl
theorem OO{pcs:List yx}{j:Nat}{z:yx}(h:pcs[j]?=S_ z):qR (pcs.take (j+1))=qR (pcs.take j)+z.n:=by rw[eU,h,Nq];simp[qR]
theorem Um(pcs:List yx)(j:Nat):qR (pcs.take j)≤qR pcs:=by have:=Nq (pcs.take j) (pcs.drop j);rw[iP]at this;omega
theorem ahD(b0 b1:UInt8):bits .or l_ ((b0.toNat*256:Nat):Int) (b1.toNat:Int)=((b0.toNat*256+b1.toNat:Nat):Int):=by
 have h0:=jM b0;have h1:=jM b1;rw[Fq _ _ (by omega) (by omega)];have e:b0.toNat*256|||b1.toNat=b0.toNat*256+b1.toNat:=by have:=qA (i:=8) (b:=b1.toNat) (by omega) b0.toNat;rw[show(2:Nat)^8=256 from rfl,dX 256]at this;exact this.symm
 rw[e]
def ajZ(Bs:List Nat)(D:List bu)(HL R H0:List HB)(w0:World)(q:Nat×Nat×(Nat→aT))(e:Ending)(w':World):Prop:=e=r_ (t_ #[i_ l_ q.1,i_ l_ q.2.1])∧(if q.2.1=0 then∃HB',gJ vN Bs D q.2.2 HB'∧Mv w0 H0 w' (HL++(HB'++R))else Mv w0 H0 w' [])
theorem We(A va:Option Addr)(c n ah aB X vn vc:Nat)(wQ:Bool)(Bs:List Nat)(D:List bu)(M:Nat→aT)(l:List UInt8)(HL HV HB0 R H0:List HB)(w0 W:World)
 (hL:wZ (s_ A n c) Bs HL) (hB:gJ vN Bs D M HB0) (hv:dR (s_ va vn vc) l HV) (hM:Mv w0 H0 W (HV++(HL++(HB0++R)))) (hn:D.length=n) (hn3:n≤1000) (hnd:(D.map (·.bb)).Nodup) (Em:ah≤63) (hl:aB≤99) (hX:X+2*l.length≤10000000) (hsp:(aX D).length≤200) (hg:∀d∈D,Ce (M d.bb)∧(M d.bb).ss.length=d.n∧∀s∈(M d.bb).ss,s.bs.length≤X):
 Calls P_ 13 #[s_ A n c,i_ l_ ah,i_ l_ aB,s_ va vn vc,b_ wQ] W (ajZ Bs D HL R H0 w0 (pR l ah aB wQ D M)):=by
 have hvl:l.length=vn:=(hv.len).symm;have hbl:Bs.length=n:=hB.len.trans hn;have hnc:vn≤vc∧vc≤9223372036854775807:=by obtain⟨A',c',e,h1,h2,-⟩:=hv.bv hM.sat.left;cases e;unfold maxLen at h2;omega
 have hvb:vn≤5000000:=by omega
 have NR:=af (VZ (s_ va vn vc) l HV W hv hM.sat.left);have HE:Hid (∀rb w1 H',iq (s_ va vn vc) rb l oL H'→Mv w0 H0 w1 (H'++(HL++(HB0++R)))→Calls P_ 43 #[s_ A n c,i_ l_ ah,i_ l_ aB,p_ (S_ ⟨rb,0,N_⟩)] w1 (Ud (s_ va vn vc) l rb Bs D H0 HL R w0 (AA l ah aB D M oL))):=af (fun rb w1 H' h1 m1=>acN A c n rb ah aB X Bs D M l oL HL H' HB0 R H0 w0 w1 hL hB h1 m1 hn hn3 hnd Em hl (by omega) (by simp[oL]) (by simp[oL]) hsp hg);have KI:=NU hM hvl hn hnd hbl hg;obtain⟨Z,hZ⟩:=X_ (pR l ah aB wQ D M);obtain⟨hq,hhq⟩:=X_ (AA l ah aB D M oL);have hZ2:=hZ;unfold pR at hZ2;rw[hhq]at hZ2 HE;have HHQ:=af hhq;rw[hZ];clear hL hB hv hM hvl hn hnd hbl hg hhq hZ;cases hq with
 |none=>
  have hZ3:Z=(0,10,M):=hZ2.symm;subst hZ3;clear hZ2;go_enter Tryz.func13,Tryz.ntmps13;go_wp2_with (first
   |(go_at_call 42;(with_reducible refine NR.out.mono ?_);rintro e w1 ⟨rb,H1,rfl,q1,q2⟩;have K1:=dS q1 (Mv.call KI.out.1 q2);clear q1 q2)
   |(go_at_call 43;(with_reducible refine(HE.out _ _ _ K1.out.1 K1.out.2).mono ?_);rintro e w2 ⟨v,rfl,q2⟩;have K2:=af q2;clear q2))
  go_ret2;exact⟨rfl,by rw[aJ (by simp)];exact K2.out⟩
 |some S=>
  have hZ3:N! l ah wQ S (zJ l S.1.rd)=Z:=hZ2;have DI:=af (MN KI.2.2.2.1 KI.2.2.2.2.2 (by omega) HHQ.out);have hbg:S.1.rd.begun≤20000000:=by have:=DI.bg;omega
  have hfew:S.2.length≤200:=by have:=DI.few;omega
  obtain⟨n1,hn1⟩:=X_ ((zJ l S.1.rd).1);obtain⟨e1,he1⟩:=X_ ((zJ l S.1.rd).2);have hEL:=UZ l S.1.rd;rw[hn1,he1,KI.2.1]at hEL;have EN:Hid (∀rb w1 H',iq (s_ va vn vc) rb l S.1.rd H'→Sat w1 H'→Calls P_ 44 #[p_ (S_ ⟨rb,0,N_⟩)] w1 fun e w'=>e=r_ (t_ #[i_ l_ n1,i_ l_ e1])∧Mv w1 H' w' H'):=af (fun rb w1 H' h1 s1=>by have h:=ag3 rb l S.1.rd w1 H' h1 s1 (by have:=KI.2.1;omega) (by omega);rw[hn1,he1]at h;exact h);unfold N! at hZ3;rw[hn1,he1]at hZ3;obtain⟨nq,hnq⟩:=X_ (S.2.length);rw[hnq]at hfew;have HNQ:=af hnq;have E0:=dS hn1 he1;clear hZ2 hn1 he1 hnq;by_cases h0:e1=0
  ·subst h0;rw[aK rfl]at hZ3;have alJ:0<vn:=by
    rcases iZ vn with h|h
    ·exfalso;have hl0:l=[]:=dN (by rw[KI.2.1];exact h);obtain⟨S',a1,a2⟩:=acP ah aB D M;have a3:=HHQ.out;rw[hl0,a1]at a3;cases iL a3;have a4:=E0.2;rw[hl0,a2]at a4;exact absurd a4 (by decide)
    ·exact h
   have hZH:=af hZ3;clear hZ3;go_enter Tryz.func13,Tryz.ntmps13;go_upto_region 8 with(first
    |(go_at_call 42;(with_reducible refine NR.out.mono ?_);rintro e w1 ⟨rb,H1,rfl,q1,q2⟩;have K1:=dS q1 (Mv.call KI.out.1 q2);clear q1 q2)
    |(go_at_call 43;(with_reducible refine(HE.out _ _ _ K1.out.1 K1.out.2).mono ?_);rintro e w2 ⟨v,Hq,HR,HB1,rfl,q1,q2,q3,q4⟩;obtain⟨ao,co,rfl⟩:=q1.slice;rw[HNQ.out]at q1⊢;have K2:=zO q1 q2 q3 q4;clear q1 q2 q3 q4)
    |(go_at_call 44;(with_reducible refine(EN.out _ _ _ K2.out.2.1 K2.out.2.2.2.sat.left).mono ?_);rintro e w3 ⟨rfl,q1⟩;have K3:=af (Mv.call K2.out.2.2.2 q1);clear q1))
   obtain⟨Hr,eHR,hrow⟩:=id K2.2.1;obtain⟨vg,rfl⟩:∃vg,va=S_ ⟨vg,0,N_⟩:=by obtain⟨g,cap,cur,e,-⟩:=dh.form hrow (by rw[KI.2.1];exact alJ);injection e with h1;exact⟨g,h1⟩
   have BVF:Hid (∀V,Sat V HR→BV V (s_ (S_ ⟨vg,0,N_⟩) vn vc) l∧∀i,i<vn→V.cell? ⟨vg,i,N_⟩=S_ (i_ .u8 ((l.getD i 0).toNat:Int))):=af (by intro V s1;rw[eHR]at s1;refine⟨hrow.bv s1.yA,fun i hi=>?_⟩;have h1:=(dh.cell hrow s1.yA (show(Value.slice (S_ ⟨vg,0,N_⟩) vn vc)=s_ (S_ ⟨vg,0,N_⟩) l.length vc by rw[KI.2.1]) i (by rw[KI.2.1];omega)).1;rw[h1];unfold cellsB;rw[aV,ai (by rw[KI.2.1];exact hi),ax,ai (by rw[KI.2.1];exact hi)];rfl);have K4:Hid (Au Bs D (s_ ao nq co) S.2 Hq∧gJ vN Bs D S.1.M HB1):=af ⟨K2.1,K2.2.2.1⟩;clear eHR hrow K2 K1 NR HE EN;go_upto_if 40 with fail;go_cut [15,40]from 41 to 61 (fun s15 _ wx=>∃n2:Nat,s15=i_ l_ n2∧n2≤vn∧finQ l ah S n2=Z∧Mv w0 H0 wx (HR++(Hq++(HL++(HB1++R)))))
   case first=>
    cases wQ with
    |false=>have hZ4:Hid (finQ l ah S n1=Z):=af (by have:=hZH.out;rw[aJ (by simp)]at this;exact this);go_wp2_with fail;go_meet;exact⟨n1,rfl,hEL.1,hZ4.out,K3.out⟩
    |true=>
     by_cases hm:vn<n1+2
     ·have hZ4:Z=(0,8,S.1.M):=by
       have h:=hZH.out;have e:yC l n1=8:=by unfold yC;rw[KI.2.1,aK hm]
       rw[aK rfl,e,aJ (by decide)]at h;exact h.symm
      subst hZ4;have hI:(vn:Int)-n1<2:=by omega
      go_wp2_with fail;go_ret2;exact⟨rfl,by rw[aJ (by simp)];exact K3.sub (fun g=>by rw[gI];omega) (fun b hb=>by cases hb)⟩
     ·have hI:¬(vn:Int)-n1<2:=by omega
      have hx1:n1<vn:=by omega
      have hx2:n1+1<vn:=by omega
      have amR:(n1:Int)<vn:=by omega
      have amQ:(n1:Int)+1<(vn:Int):=by omega
      have z0:=(BVF w3 K3.sat.left).2 n1 hx1;have z1:=(BVF w3 K3.sat.left).2 (n1+1) hx2;have hMK:yC l n1=if l.getD n1 0=255∧l.getD (n1+1) 0=146 then 0 else 12:=by unfold yC;rw[KI.2.1,aJ hm]
      obtain⟨b0,hb0⟩:=X_ (l.getD n1 0);obtain⟨b1,hb1⟩:=X_ (l.getD (n1+1) 0);rw[hb0,hb1]at hMK;rw[hb0]at z0;rw[hb1]at z1;clear hb0 hb1;have hT:Hid (if yC l n1=0 then finQ l ah S (n1+2)=Z else(0,yC l n1,S.1.M)=Z):=af (by
       have h:=hZH.out;rw[aK rfl]at h;split
       ·rename_i h9;rw[aK h9]at h;exact h
       ·rename_i h9;rw[aJ h9]at h;exact h)
      by_cases hbb:b0=255∧b1=146
      ·obtain⟨rfl,rfl⟩:=hbb;rw[aK ⟨rfl,rfl⟩]at hMK;have hT2:=hT.out;rw[hMK,aK rfl]at hT2;have HT2:=af hT2;have z0':w3.cell? ⟨vg,n1,N_⟩=S_ (i_ .u8 255):=z0;have z1':w3.cell? ⟨vg,n1+1,N_⟩=S_ (i_ .u8 146):=z1;clear hMK hT2 hT z0 z1;go_upto_region 11 with fail;go_quiet (fail);go_wp2_with fail;go_meet;exact⟨n1+2,by push_cast;rfl,by omega,HT2.out,K3.drewN _⟩
      ·rw[aJ hbb]at hMK;have hT2:=hT.out;rw[hMK,aJ (by decide)]at hT2;subst hT2;have h0:=jM b0;have h1:=jM b1;have hne:¬(b0.toNat*256+b1.toNat=65426):=fun h=>hbb ⟨gU.1 (by show b0.toNat=255;omega),gU.1 (by show b1.toNat=146;omega)⟩;have OR:(bits BinOp.or IntKind.i64 ((b0.toNat:Int)*256) (b1.toNat:Int) !=65426)=T_:=by have h2:=ahD b0 b1;rw[Int.natCast_mul]at h2;rw[show((256:Nat):Int)=256 from rfl]at h2;rw[h2];simp only[bne_iff_ne,ne_eq];omega
       clear hMK hT;go_upto_region 11 with fail;go_quiet (fail);go_wp2_with fail;go_ret2;exact⟨rfl,by rw[aJ (by simp)];exact(K3.drewN _).sub (fun g=>by rw[gI];omega) (fun b hb=>by cases hb)⟩
   case rest=>
    obtain⟨n2,rfl,hn2,hF,M4⟩:=hcut;have hX2:X+vn≤10000000:=by rw[KI.2.1]at hX;omega
    have QI0:=DI.qi l n2;rw[KI.2.1]at QI0;have KF:=nY hF QI0 M4;have HZ:Hid (∀m' M',Vo l ah S.2 S.1.M n2=(M',S_ m')→Z=(m',0,M')):=af (fun m' M' h=>by rw[←hF];unfold finQ;rw[h]);have HZN:Hid ((Vo l ah S.2 S.1.M n2).2=N_→∃M',Z=(0,8,M')):=af (fun h=>by
     rw[←hF];unfold finQ;split
     ·exact⟨_,rfl⟩
     ·rename_i h9;rw[h9]at h;cases h)
    clear hF QI0 M4 hZH K3;go_wp2_with fail;go_loopg [15,16] nq (fun mm s15 s16 wx=>∃(i m:Nat) (M':Nat→aT) (HBi:List YtjngfhgakokejaaGreat.HB),i≤nq∧mm=nq-i∧s15=i_ l_ m∧s16=i_ l_ i∧m≤vn∧Vo l ah S.2 S.1.M n2=Vo l ah (S.2.drop i) M' m∧QI D l (X+vn) (S.2.drop i) M' m∧gJ vN Bs D M' HBi∧Mv w0 H0 wx (HR++(Hq++(HL++(HBi++R)))))
    case atStart=>exact⟨0,n2,S.1.M,HB1,aY _,rfl,rfl,rfl,hn2,rfl,KF.2.1,K4.2,KF.2.2⟩
    case round=>
     clear KF;obtain⟨wb,rfl⟩:∃wb:World,wb=wr:=⟨_,rfl⟩;obtain⟨i,m,M',HBi,hi,rfl,rfl,rfl,hmn,hE,hQ,hBi,Mi⟩:=hrel;by_cases hlt:i<nq
     ·have d1:decide ((i:Int)<nq)=T_:=aQ (by omega);obtain⟨q,hq⟩:∃q,S.2[i]?=S_ q:=⟨_,ai (by rw[HNQ.out];exact hlt)⟩;have hdr:S.2.drop i=q::S.2.drop (i+1):=by obtain⟨h1,h2⟩:=aj.1 hq;rw[fG h1,h2]
      rw[hdr]at hE hQ;obtain⟨pg,b,cp,cl,ap,al,HP,HQ,RQ,rfl,rP,rL,⟨ib,afl,acM⟩,hsame,hcells⟩:=ai8 K4.1 hq;obtain⟨⟨d,k⟩,pcs⟩:=q;obtain⟨cq,hcq⟩:=X_ (pcs.length);simp only at rP rL acM hcells hE hQ;rw[hcq]at rP rL hcells;obtain⟨a1,a2,a3,a4,sB,a5,a6,a7,a8⟩:=hQ.qs _ aG;simp only at a1 a2 a4 a5 a8;obtain⟨gd1,gd2,gd3⟩:=hQ.good d a1;have hbs:=gd3 sB (aF a5);rw[KI.2.1]at hbs;have amd:cq≤200:=by rw[←hcq];exact a4.1
      have PC:=af hcells;have KQ:=aiu hE hQ hBi Mi hsame rP rL afl acM hdr;have KB:=zO a1 a5 gd2 a8;have HCQ:=af hcq;have c4:=hcells wb Mi.sat.right.left;have hiI:(i:Int)<nq:=by omega
      have hi4:i*4<100000:=by omega
      clear hE hQ hBi Mi hsame rP rL afl acM hdr a1 a2 a3 a4 a5 a8 gd1 gd2 gd3 hcq hq hcells;obtain⟨c0,c1,c2,c3⟩:=c4;go_wp2_with fail;go_loopg [17,18] cq (fun mm l9 kH wx=>∃j sz:Nat,j≤cq∧mm=cq-j∧l9=i_ l_ sz∧kH=i_ l_ j∧sz=qR (pcs.take j)∧m+sz≤vn∧wx=wb)
      case atStart=>exact⟨0,0,aY _,rfl,rfl,rfl,rfl,hmn,rfl⟩
      case round=>
       obtain⟨j,sz,hj,rfl,rfl,rfl,hsz,hms,rfl⟩:=hrel;by_cases hjt:j<cq
       ·have d2:decide ((j:Int)<cq)=T_:=aQ (by omega);obtain⟨z,hz⟩:∃z,pcs[j]?=S_ z:=⟨_,ai (by rw[HCQ.out];exact hjt)⟩;obtain⟨gl,rfl⟩:=KQ.2.2.2.2.2.2.1.form (by omega);have SQ:Sat wr HQ:=(KQ.2.2.2.2.1.mv (Mv.refl KQ.2.2.2.1.sat.right.left)).sat.right.left;have y1:wr.cell? ⟨gl,j,N_⟩=S_ (i_ l_ z.n):=KQ.2.2.2.2.2.2.1.at_ SQ (by rw[aV,hz];rfl);have hs1:=OO hz;have hs2:=Um pcs (j+1);have hjI:(j:Int)<cq:=by omega
        obtain⟨pn,hpn⟩:=X_ (z.n);have hpb:pn<4294967296:=by have h:=KQ.2.1.qs _ aG;rw[←hpn];exact h.2.2.2.1.2 z (aF hz)
        rw[hpn]at y1 hs1;rw[←hsz]at hs1;by_cases hc:vn-m-sz<pn
        ·have hI:(vn:Int)-m-sz<pn:=by omega
         obtain⟨M9,rfl⟩:=HZN (by rw[KQ.1,J3,aK (by rw[KI.2.1];show vn-m<qR pcs;omega)]);clear hs1 hs2 hz hpn hsz;go_wp2_with fail;go_ret2;exact⟨rfl,by rw[aJ (by simp)];exact KQ.2.2.2.1.sub (fun g=>by rw[gI];omega) (fun b hb=>by cases hb)⟩
        ·have hI:¬(vn:Int)-m-sz<pn:=by omega
         have HS:=af hs1;clear hs1 hs2 hz hpn hsz;go_wp2_with fail;go_roundg (cq-(j+1))
         case measure=>omega
         case rel=>exact⟨j+1,sz+pn,hjt,rfl,by push_cast;rfl,by push_cast;rfl,HS.symm,by omega,rfl⟩
       ·obtain rfl:j=cq:=by omega
        have d2:decide ((j:Int)<j)=F_:=by simp
        rw[dC (by rw[HCQ.out];exact aN _)]at hsz;have HSZ:=af hsz;clear hsz;go_upto_region 24 with fail;clear c0 c1 c2 c3;obtain⟨mp,hmp⟩:=X_ (m+sz);have hwr:IntKind.i64.wrap ((m:Int)+sz)=(mp:Int):=by rw[←hmp,←Int.natCast_add];exact fF _ ⟨by omega,by omega⟩
        have acL:m≤mp∧mp≤vn∧mp≤vc:=by omega
        have hmx:Tryz.prog.follows .mixedOrders=T_:=by kernel_rfl
        obtain⟨C,hC⟩:∃C:World→Prop,C=fun w'=>w'=wr.drew:=⟨_,rfl⟩;have CF:Hid (∀w',C w'→w'.cell? ⟨pg,i*4,N_⟩=S_ (p_ (S_ ⟨b,0,N_⟩))∧w'.cell? ⟨pg,i*4+1,N_⟩=S_ (i_ l_ k)∧w'.cell? ⟨pg,i*4+2,N_⟩=S_ (s_ ap j cp)∧w'.cell? ⟨pg,i*4+3,N_⟩=S_ (s_ al j cl)):=af (by intro w' h;rw[hC]at h;subst h;exact PC _ KQ.2.2.2.1.drew.sat.right.left);have CD:C wr.drew:=by rw[hC]
        have HC:=af hC;have HMP:=af hmp;clear hC hmp;refine uf 11 C hmx CD (by kernel_rfl) ?_;simp only[List.take_succ_cons,List.take_zero,iE,iW];iterate 11 (first|((with_reducible refine Iz ?_ ?_);(next=>(go_simp;done));(try simp only[Act.put,bf,List.set_cons_zero,List.set_cons_succ]))|((with_reducible refine Md ?_ ?_ (fun w' hw'=>?_) ?_);rotate_left;(next=>(go_simp;done));(next=>(first|(refine Ak ?_;(obtain⟨x0,x1,x2,x3⟩:=CF w' hw');clear hw';go_simp;done)|(refine Ak ?_;(obtain⟨x0,x1,x2,x3⟩:=CF w' hw');clear hw';go_simp;rfl)|(refine IA (f:=?_) (args:=?_) ?_ ?_;rotate_left 2;(next=>((obtain⟨x0,x1,x2,x3⟩:=CF w' hw');go_simp;constructor<;>rfl));(next=>(fail)))|(refine Iy ?_;(obtain⟨x0,x1,x2,x3⟩:=CF w' hw');clear hw';go_simp;done)));(try simp only[Act.put,bf,List.set_cons_zero,List.set_cons_succ])))
        refine wpQuiet_nil ?_;intro w' hw';obtain rfl:w'=wr.drew:=by rw[HC.out]at hw';exact hw'
        clear hw' CF CD HC C hwr;obtain⟨hE,hQ,hBi,Mi,hsame,rP,rL,afl,acM,hdr⟩:=KQ.out;obtain⟨A1,H1,A2,rfl,⟨ff,fz,hR⟩,hstep⟩:=hBi.split KI.2.2.2.1 afl acM;have M5:Mv w0 H0 wr.drew (HP++(HQ++(HR++(H1++(RQ++(HL++(A1++(A2++R)))))))):=Mi.drew.sub (fun g=>by have:=hsame.1 g;simp only[aP]at this⊢;omega) (fun x hx=>by have:=hsame.2 x;simp only[ay]at this hx⊢;grind);have acK:mp-m=sz:=by have:=HMP.out;omega
        have hdl:((l.drop m).take sz).length=sz:=by rw[bT,fH,KI.2.1];omega
        have hd2:∀V,Sat V HR→BV V (s_ (if vc=m then S_ ⟨vg,0,N_⟩else S_ ⟨vg,m,N_⟩) sz (vc-m)) ((l.drop m).take sz):=by intro V hV;have h:=aaw (BVF V hV).1 KI.2.1 acL.1 acL.2.1 hnc.1;rw[acK]at h;exact h
        have TK:=af (abZ b k ah sz (vc-m) j cp cl (M' d.bb) ff fz sB pcs ((l.drop m).take sz) ap al (if vc=m then S_ ⟨vg,0,N_⟩else S_ ⟨vg,m,N_⟩) H1 HP HQ HR (RQ++(HL++(A1++(A2++R)))) H0 w0 wr.drew hR KB.2.1 (by
         have h1:=KB.2.2.1;have h2:d.n≤(aX D).length:=by have h3:=(hQ.good d KB.1).2.1;obtain⟨A,B,e⟩:=List.append_of_mem KB.1;rw[e];unfold aX;rw[gX,dE,au,au];simp only[tY,aO,rX];omega
         omega) rP rL hd2 M5 hdl HCQ Em (by have:=KB.2.2.2;omega) (by omega) (by have:=HSZ.out;omega) amd)
        have afg:=hsame;have KN:=zO hE hQ hdr hstep;clear hE hQ hBi Mi hsame rP rL afl acM hdr hstep hR M5 hd2 hdl KQ;rw[acK];generalize(if vc=m then S_ (⟨vg,0,N_⟩:Addr)else S_ ⟨vg,m,N_⟩)=vv at*;go_wp2_with (go_at_call 45;(with_reducible refine TK.out.mono ?_);rintro e w5 ⟨rfl,DX,p1,p2⟩;have K5:=dS p1 p2;clear p1 p2);go_roundg (nq-(i+1))
        case measure=>omega
        case rel=>
         obtain⟨hE,hQ,hdr,hstep⟩:=KN.out;have akP:¬l.length-m<qR pcs:=by rw[KI.2.1,←HSZ.out];omega
         refine⟨i+1,m+sz,ou M' d.bb (takeD (M' d.bb) k ah pcs ((l.drop m).take sz)),A1++(DX++A2),hlt,rfl,by push_cast;rfl,by push_cast;rfl,hms,?_,?_,hstep _ _ ⟨ff,fz,K5.1⟩,?_⟩
         ·rw[hE,J3,aJ akP,←HSZ.out]
         ·have h:=hQ.step (by omega) (by rw[KI.2.1];exact hmn) akP ah;rw[←HSZ.out]at h;exact h
         ·exact K5.2.sub (fun g=>by have:=afg.1 g;simp only[aP]at this⊢;omega) (fun x hx=>by have:=afg.2 x;simp only[ay]at this hx⊢;grind)
     ·obtain rfl:i=nq:=by omega
      have d1:decide ((i:Int)<i)=F_:=by simp
      rw[jq (by rw[HNQ.out];exact aN _)]at hE;have hZ5:=HZ m M' hE;subst hZ5;have KF:=dS hBi Mi;clear hE hQ hBi Mi;go_wp2_with fail;go_ret2;exact⟨rfl,by rw[aK rfl];exact⟨HBi,KF.1,KF.2.Z_⟩⟩
  ·rw[aJ h0]at hZ3;subst hZ3;have h1:¬(e1:Int)=0:=by omega
   have d1:((e1:Int) !=0)=T_:=by simp;omega
   go_enter Tryz.func13,Tryz.ntmps13;go_wp2_with (first
    |(go_at_call 42;(with_reducible refine NR.out.mono ?_);rintro e w1 ⟨rb,H1,rfl,q1,q2⟩;have K1:=dS q1 (Mv.call KI.out.1 q2);clear q1 q2)
    |(go_at_call 43;(with_reducible refine(HE.out _ _ _ K1.out.1 K1.out.2).mono ?_);rintro e w2 ⟨v,Hq,HR,HB1,rfl,q1,q2,q3,q4⟩;have K2:=zO q1 q2 q3 q4;clear q1 q2 q3 q4)
    |(go_at_call 44;(with_reducible refine(EN.out _ _ _ K2.out.2.1 K2.out.2.2.2.sat.left).mono ?_);rintro e w3 ⟨rfl,q1⟩;have K3:=af (Mv.call K2.out.2.2.2 q1);clear q1))
   go_ret2;exact⟨rfl,by rw[aJ h0];exact K3.sub (fun g=>by rw[gI];omega) (fun b hb=>by cases hb)⟩
theorem P9(A:Option Addr)(n c:Nat)(w:World)(hn:n<2):Calls P_ 40 #[s_ A n c,b_ T_] w fun e w'=>e=r_ (t_ #[i_ l_ 0,i_ l_ 8])∧w'=w:=by have d:decide ((n:Int)<2)=T_:=aQ (by omega);go_enter Tryz.func40,Tryz.ntmps40;go_wp2_with fail;go_ret2;exact⟨rfl,rfl⟩
theorem WW(g o n c:Nat)(b0 b1:UInt8)(w:World)(hn:2≤n)(hn2:n≤9000000)(c0:w.cell? ⟨g,o,N_⟩=S_ (i_ .u8 (b0.toNat:Int)))(c1:w.cell? ⟨g,o+1,N_⟩=S_ (i_ .u8 (b1.toNat:Int)))(hb:¬(b0=255∧b1=146)):Calls P_ 40 #[s_ (S_ ⟨g,o,N_⟩) n c,b_ T_] w fun e w'=>e=r_ (t_ #[i_ l_ 0,i_ l_ 12])∧w'=w:=by
 have d:decide ((n:Int)<2)=F_:=aW (by omega);have h0:(0:Int)<n:=by omega
 have h1:(1:Int)<n:=by omega
 have h2:0<n:=by omega
 have h3:1<n:=by omega
 by_cases e0:b0=255
 ·have e1:¬b1=146:=fun h=>hb ⟨e0,h⟩;have n1:¬((b1.toNat:Int)=146):=fun h=>e1 (gU.1 (by show b1.toNat=146;omega));subst e0;have d1:((b1.toNat:Int)==146)=F_:=by simp;omega
  clear hb e1;go_enter Tryz.func40,Tryz.ntmps40;go_wp2_with fail;go_ret2;exact⟨rfl,rfl⟩
 ·have n0:¬((b0.toNat:Int)=255):=fun h=>e0 (gU.1 (by show b0.toNat=255;omega));have d0:((b0.toNat:Int)==255)=F_:=by simp;omega
  clear hb e0;go_enter Tryz.func40,Tryz.ntmps40;go_wp2_with fail;go_ret2;exact⟨rfl,rfl⟩
def Rn(l:List UInt8)(ah:Nat)(S:tJ)(n:Nat):Nat×Nat×(Nat→aT):=match decGo l ah S.out S.M n with
 |(M',none)=>(0,8,M')
 |(M',some n)=>(n,0,M')
def ac5(l:List UInt8)(ah:Nat)(wQ:Bool)(S:tJ)(q:Nat×Nat):Nat×Nat×(Nat→aT):=if q.2=0 then(if wQ=T_ then(if yC l q.1=0 then Rn l ah S (q.1+2)else(0,yC l q.1,S.M))else Rn l ah S q.1)else(0,q.2,S.M)
def decodeP(l:List UInt8)(ah aB:Nat)(wQ:Bool)(D:List bu)(M:Nat→aT):Nat×Nat×(Nat→aT):=match headD l ah aB D M with
 |none=>(0,10,M)
 |some S=>ac5 l ah wQ S (zJ l S.rd)
theorem headD_nil(ah aB:Nat)(D:List bu)(M:Nat→aT):∃S,headD [] ah aB D M=S_ S∧zJ [] S.rd=(0,8):=⟨_,rfl,rfl⟩
def WX(l:List UInt8)(n:Nat)(wQ:Bool):Nat:=if wQ=T_ then(if yC l n=0 then 2 else 0)else 0
def WY(l:List UInt8)(n:Nat)(wQ:Bool):Nat:=if wQ=T_ then yC l n else 0
theorem ahZ(l:List UInt8)(ah:Nat)(wQ:Bool)(S:tJ)(n:Nat):ac5 l ah wQ S (n,0)=if WY l n wQ=0 then Rn l ah S (n+WX l n wQ)else(0,WY l n wQ,S.M):=by
 unfold ac5 WY WX;cases wQ with
 |false=>simp
 |true=>simp only[ji];split<;>rfl
theorem acz(g o n c:Nat)(w:World)(hn:2≤n)(hn2:n≤9000000)(c0:w.cell? ⟨g,o,N_⟩=S_ (i_ .u8 255))(c1:w.cell? ⟨g,o+1,N_⟩=S_ (i_ .u8 146)):Calls P_ 40 #[s_ (S_ ⟨g,o,N_⟩) n c,b_ T_] w fun e w'=>e=r_ (t_ #[i_ l_ 2,i_ l_ 0])∧w'=w:=by
 have d:decide ((n:Int)<2)=F_:=aW (by omega);have h0:(0:Int)<n:=by omega
 have h1:(1:Int)<n:=by omega
 have h2:0<n:=by omega
 have h3:1<n:=by omega
 go_enter Tryz.func40,Tryz.ntmps40;go_wp2_with fail;go_ret2;exact⟨rfl,rfl⟩
theorem afI(A va:Option Addr)(c n vc:Nat)(wQ:Bool)(D:List bu)(M:Nat→aT)(ah aB:Nat)(l:List UInt8)(HV HL HB0:List HB)(W:World)(hD:D.length≤1000)(hL:zn (s_ A D.length c) D HL)(hB:iK D M HB0)(hs:Sat W (HV++(HL++HB0)))(hv:dR (s_ va n vc) l HV)(hll:l.length≤9000000)(hly:aB≤100)(hst:ah≤63)
 (hn:(aX D).length≤200) (hg:∀d∈D,AQ (M d.bb)) (hok:∀S,headD l ah aB D M=S_ S→∀m,WH D l ah S.out S.M m):
 Calls P_ 12 #[s_ A D.length c,i_ l_ ah,i_ l_ aB,s_ va n vc,b_ wQ] W (alv l D HV HL HB0 W (decodeP l ah aB wQ D M)):=by
 have hnl:l.length=n:=(hv.len).symm;have bv:∀V,Sat V HV→BV V (s_ va n vc) l:=fun V s=>hv.bv s;have hnc:n≤vc∧vc≤9223372036854775807:=by obtain⟨A',c',e,h1,h2,-⟩:=bv W hs.left;cases e;unfold maxLen at h2;omega
 have HD:=af (θ A c D M ah aB _ l HL HB0 W hD hL hB hs.right (bv W hs.left) hll hly hst hn hg);obtain⟨q,hq⟩:=X_ (decodeP l ah aB wQ D M);rw[hq];obtain⟨hd,hhd⟩:=X_ (headD l ah aB D M);unfold decodeP at hq;rw[hhd]at HD hq hok;have MR:Mv W (HL++HB0++HV) W (HL++HB0++HV):=Mv.refl (hs.Z_);have K0:=dS MR hs;cases hd with
 |none=>clear hL hB hs bv hg MR hhd hok hv;have hq2:q=(0,10,M):=hq.symm;subst hq2;go_enter Tryz.func12,Tryz.ntmps12;go_wp2_with (go_at_call 39;(with_reducible refine HD.out.mono ?_);rintro e w2 ⟨rfl,m2⟩;have K2:=af (Mv.call K0.out.1 m2);clear m2);go_ret2;refine⟨rfl,?_⟩;rw[aJ (by simp)];exact K2.sub (fun g=>by simp only[aP,bK];omega) (fun b hb=>by simp only[ay,aC];first|exact .inr hb|exact .inr (.inl hb)|exact .inr (.inr (.inl hb)))
 |some S=>
  obtain⟨n1,hn1⟩:=X_ ((zJ l S.rd).1);obtain⟨e1,he1⟩:=X_ ((zJ l S.rd).2);have hEL:=UZ l S.rd;rw[hn1,he1]at hEL;have hee:zJ l S.rd=(n1,e1):=by rw[←hn1,←he1]
  have hq9:ac5 l ah wQ S (n1,e1)=q:=by rw[←hee];exact hq
  have HS:Hid (Calls P_ 39 #[s_ A D.length c,i_ l_ ah,i_ l_ aB,s_ va n vc] W fun e w2=>∃ao co Ho HB',e=r_ (t_ #[s_ ao S.out.length co,i_ l_ n1,i_ l_ e1])∧AO (s_ ao S.out.length co) S.out Ho∧iK D S.M HB'∧Mv W ((HL++HB0)++HV) w2 (Ho++(HV++(HL++HB')))):=af (by refine HD.mono ?_;rintro e w2 ⟨vo,Ho,HB',rfl,p1,p2,p3⟩;obtain⟨ao,co,rfl⟩:=p1.slice;refine⟨ao,co,Ho,HB',by rw[hn1,he1],p1,p2,?_⟩;exact(Mv.call K0.1 p3).Z_);by_cases h0:e1=0
  ·subst h0;have hn0:0<n:=by
    rcases iZ n with h|h
    ·exfalso;have hl0:l=[]:=dN (by omega);obtain⟨S',a1,a2⟩:=headD_nil ah aB D M;rw[hl0,a1]at hhd;cases iL hhd;rw[hl0,a2]at hee;cases hee
    ·exact h
   obtain⟨vg,rfl⟩:∃vg,va=S_ ⟨vg,0,N_⟩:=by obtain⟨g,cap,cur,e,-⟩:=dh.form hv (by omega);injection e with h1;exact⟨g,h1⟩
   rw[ahZ]at hq9;have al0:n1≤n:=by omega
   obtain⟨kk,hkk⟩:=X_ (WX l n1 wQ);obtain⟨er,her⟩:=X_ (WY l n1 wQ);rw[hkk,her]at hq9;have MKX:(vc=n1→∀A' k c' V,k<2→Calls P_ 40 #[s_ A' k c',b_ wQ] V fun e w'=>e=r_ (t_ #[i_ l_ kk,i_ l_ er])∧w'=V)∧(¬vc=n1→∀V Ho HB',Mv W ((HL++HB0)++HV) V (Ho++(HV++(HL++HB')))→Calls P_ 40 #[s_ (S_ ⟨vg,n1,N_⟩) (n-n1) (vc-n1),b_ wQ] V fun e w'=>e=r_ (t_ #[i_ l_ kk,i_ l_ er])∧w'=V)∧(er=0→n1+kk≤n):=by
    rw[←hkk,←her];unfold WX WY;cases wQ with
    |false=>exact⟨fun _ A' k c' V _=>NG A' k c' V,fun _ V Ho HB' _=>NG _ _ _ V,fun _=>by simp;exact al0⟩
    |true=>
     simp only[ji];by_cases hm:n<n1+2
     ·have e8:yC l n1=8:=by unfold yC;rw[aK (by omega)]
      rw[e8];exact⟨fun _ A' k c' V hk=>P9 A' k c' V hk,fun _ V Ho HB' _=>P9 _ _ _ V (by omega),fun h=>absurd h (by decide)⟩
     ·refine⟨fun h=>absurd h (by omega),fun _ V Ho HB' m=>?_,fun h=>by rw[aK h];omega⟩;have key:∀i,i<n→V.cell? ⟨vg,i,N_⟩=S_ (i_ .u8 ((l.getD i 0).toNat:Int)):=by intro i hi;have:=(dh.cell hv m.sat.right.left (show(Value.slice (S_ ⟨vg,0,N_⟩) n vc)=s_ (S_ ⟨vg,0,N_⟩) l.length vc by rw[hnl]) i (by omega)).1;rw[this];unfold cellsB;rw[aV,ai (by omega),ax,ai (by omega)];rfl
      have k0:=key n1 (by omega);have k1:=key (n1+1) (by omega);have hm2:¬l.length<n1+2:=by omega
      by_cases hb:l.getD n1 0=255∧l.getD (n1+1) 0=146
      ·have e0:yC l n1=0:=by unfold yC;rw[aJ hm2,aK hb]
       rw[hb.1]at k0;rw[hb.2]at k1;rw[e0];exact acz vg n1 (n-n1) (vc-n1) V (by omega) (by omega) k0 k1
      ·have e0:yC l n1=12:=by unfold yC;rw[aJ hm2,aJ hb]
       rw[e0];exact WW vg n1 (n-n1) (vc-n1) _ _ V (by omega) (by omega) k0 k1 hb
   have amC:=af bv;replace hok:=af (hok S rfl (n1+kk));have MC:=af MKX;have hZ:=af hq9;obtain⟨no,hno⟩:=X_ (S.out.length);rw[hno]at HS;have HNO:=af hno;have amL:kk≤2:=by rw[←hkk];unfold WX;split;split<;>omega;omega
   clear hL hB hs bv hg MR HD hhd hn1 he1 hee hq hq9 hkk her MKX hno K0 hv;go_enter Tryz.func12,Tryz.ntmps12;go_upto_region 4 with(go_at_call 39;(with_reducible refine HS.out.mono ?_);rintro e w2 ⟨ao,co,Ho,HB1,rfl,p1,p2,p3⟩;have K2:=nY p1 p2 p3;clear p1 p2 p3);go_cut [11,13,28,29,30,31,32,33,34,35]from 36 (fun s11 s13 _ _ _ _ _ _ _ _ wx=>s11=i_ l_ er∧s13=i_ l_ kk∧wx=w2)
   case first=>
    by_cases hvn:vc=n1
    ·have MC1:=af (MC.1 hvn);subst hvn;go_wp2_with (go_at_call 40;(with_reducible refine(MC1.out _ _ _ _ (by omega)).mono ?_);rintro e w3 ⟨rfl,rfl⟩)
     all_goals
      first
       |(exfalso;omega)
       |(go_meet;exact⟨rfl,rfl,rfl⟩)
    ·have MC1:=af (MC.2.1 hvn);go_wp2_with (go_at_call 40;(with_reducible refine(MC1.out _ _ _ K2.out.2.2).mono ?_);rintro e w3 ⟨rfl,rfl⟩)
     all_goals
      first
       |(exfalso;omega)
       |(go_meet;exact⟨rfl,rfl,rfl⟩)
   case rest=>
    obtain⟨rfl,rfl,hwc⟩:=hcut;rw[←hwc]at K2;clear hwc;by_cases he0:er=0
    ·subst he0;have hkn:=MC.2.2 rfl;have hq:Hid (Rn l ah S (n1+kk)=q):=af (by have h:=hZ.out;rw[aK rfl]at h;exact h);obtain⟨n2,hn2⟩:=X_ (n1+kk);rw[hn2]at hq hok;have al6:Hid ((n1:Int)+kk=n2):=af (by omega);have alY:n2≤n:=by omega
     clear MC hZ hn2;go_upto_region 9 with fail;rw[al6.out];have anh:n2≤9000000:=by omega
     go_loopg [10,15,44] no (fun gg s10 _ s44 wx=>∃(i m:Nat) (M':Nat→aT) (HBi:List HB),i≤no∧gg=no-i∧s44=i_ l_ i∧s10=i_ l_ m∧m≤n∧decGo l ah S.out S.M n2=decGo l ah (S.out.drop i) M' m∧WH D l ah (S.out.drop i) M' m∧iK D M' HBi∧Mv W ((HL++HB0)++HV) wx (Ho++(HV++(HL++HBi))))
     case atStart=>exact⟨0,n2,S.M,HB1,aY _,rfl,rfl,rfl,alY,rfl,hok.out,K2.2.1,K2.2.2⟩
     case round=>
      obtain⟨wb,rfl⟩:∃wb:World,wb=wr:=⟨_,rfl⟩;obtain⟨i,m,M',HBi,hi,rfl,rfl,rfl,hmn,hE,hO,hBi,Mi⟩:=hrel;by_cases hlt:i<no
      ·have hlt2:(i:Int)<no:=by omega
       obtain⟨pq,hpq⟩:∃pq,S.out[i]?=S_ pq:=⟨_,ai (by rw[HNO.out];exact hlt)⟩;have hdr:S.out.drop i=pq::S.out.drop (i+1):=by obtain⟨h1,h2⟩:=aj.1 hpq;rw[fG h1,h2]
       obtain⟨⟨pg,hpg⟩,am3⟩:(∃pg,ao=S_ ⟨pg,0,N_⟩)∧no≤9223372036854775807:=by obtain⟨g,cap,cur,e,u1,u2,-⟩:=dh.form K2.1 (by rw[HNO.out];omega);cases e;rw[HNO.out]at u1;unfold maxLen at u2;exact⟨⟨_,rfl⟩,by omega⟩
       subst hpg;have PC:=af (fun V (m:Mv W ((HL++HB0)++HV) V (Ho++(HV++(HL++HBi))))=>Wu K2.1 m.sat.left hpq);obtain⟨c0,c1,c2,c3,c4⟩:=PC wb Mi;rw[hdr]at hE hO;obtain⟨⟨o1,o2,o3,o4,o5⟩,o6⟩:=hO;obtain⟨⟨d,k⟩,pp,pn⟩:=pq;simp only at c0 c1 c2 c3 c4 o1 o2 o3 o4 o5 o6;by_cases hlk:l.length-m<pn
       ·have hlk2:(n:Int)-m<pn:=by omega
        have hE2:q=(0,8,M'):=by rw[←hq.out];unfold Rn;rw[hE];rw[JC,aK hlk]
        have KF:=dS hE2 Mi;clear hE hE2 Mi hBi o5 o6 hdr hlk;go_wp2_with fail;go_ret2;obtain⟨rfl,q3⟩:=KF.out;refine⟨rfl,?_⟩;rw[aJ (by simp)];exact(q3.alloc _ _).sub (fun g=>by simp only[aP,bK];omega) (fun b hb=>by simp only[ay,aC];first|exact .inr hb|exact .inr (.inl hb)|exact .inr (.inr (.inl hb)))
       ·have hlk2:¬(n:Int)-m<pn:=by omega
        go_upto_region 13 with fail;obtain⟨w4,hw4⟩:=Y_ (wb.alloc (.cells #[p_ (S_ ⟨d.lb,k*5,N_⟩),p_ (S_ ⟨d.bb,0,N_⟩),i_ l_ k,i_ l_ pp,i_ l_ pn] 96));obtain⟨bx,hbx⟩:=X_ (wb.heap.size);have M4:=Mi.alloc 96 #[p_ (S_ ⟨d.lb,k*5,N_⟩),p_ (S_ ⟨d.bb,0,N_⟩),i_ l_ k,i_ l_ pp,i_ l_ pn];rw[←hw4,hbx]at M4;rw[←hw4];simp only[hbx];clear hw4 hbx c0 c1 c2 c3 c4;have y0:w4.drew.cell? ⟨bx,0,N_⟩=S_ (p_ (S_ ⟨d.lb,k*5,N_⟩)):=M4.cell 0 rfl 0;have y1:w4.drew.cell? ⟨bx,1,N_⟩=S_ (p_ (S_ ⟨d.bb,0,N_⟩)):=M4.cell 0 rfl 1;have y2:w4.drew.cell? ⟨bx,2,N_⟩=S_ (i_ l_ k):=M4.cell 0 rfl 2;have y3:w4.drew.cell? ⟨bx,3,N_⟩=S_ (i_ l_ pp):=M4.cell 0 rfl 3;have y4:w4.drew.cell? ⟨bx,4,N_⟩=S_ (i_ l_ pn):=M4.cell 0 rfl 4;have hsum:m+pn≤n:=by omega
        obtain⟨mp,hmp⟩:=X_ (m+pn);have hwr:IntKind.i64.wrap ((m:Int)+pn)=(mp:Int):=by rw[←hmp,←Int.natCast_add];exact fF _ ⟨by omega,by omega⟩
        have acL:m≤mp∧mp≤n∧mp≤vc:=by omega
        have hmx:Tryz.prog.follows .mixedOrders=T_:=by kernel_rfl
        obtain⟨C,hC⟩:∃C:World→Prop,C=fun w'=>w'=w4.drew:=⟨_,rfl⟩;have CF:Hid (∀w',C w'→w'.cell? ⟨bx,0,N_⟩=S_ (p_ (S_ ⟨d.lb,k*5,N_⟩))∧w'.cell? ⟨bx,1,N_⟩=S_ (p_ (S_ ⟨d.bb,0,N_⟩))∧w'.cell? ⟨bx,2,N_⟩=S_ (i_ l_ k)∧w'.cell? ⟨bx,3,N_⟩=S_ (i_ l_ pp)∧w'.cell? ⟨bx,4,N_⟩=S_ (i_ l_ pn)):=af (by intro w' h;rw[hC]at h;subst h;exact⟨y0,y1,y2,y3,y4⟩);have CD:C w4.drew:=by rw[hC]
        have HC:=af hC;clear hC y0 y1 y2 y3 y4;refine uf 9 C hmx CD (by kernel_rfl) ?_;simp only[List.take_succ_cons,List.take_zero,iE,iW];iterate 9 (first|((with_reducible refine Iz ?_ ?_);(next=>(go_simp;done));(try simp only[Act.put,bf,List.set_cons_zero,List.set_cons_succ]))|((with_reducible refine Md ?_ ?_ (fun w' hw'=>?_) ?_);rotate_left;(next=>(go_simp;done));(next=>(first|(refine Ak ?_;(obtain⟨a0,a1,a2,a3,a4⟩:=CF w' hw');clear hw';go_simp;done)|(refine Ak ?_;(obtain⟨a0,a1,a2,a3,a4⟩:=CF w' hw');clear hw';go_simp;rfl)|(refine IA (f:=?_) (args:=?_) ?_ ?_;rotate_left 2;(next=>((obtain⟨a0,a1,a2,a3,a4⟩:=CF w' hw');go_simp;constructor<;>rfl));(next=>(fail)))|(refine Iy ?_;(obtain⟨a0,a1,a2,a3,a4⟩:=CF w' hw');clear hw';go_simp;done)));(try simp only[Act.put,bf,List.set_cons_zero,List.set_cons_succ])))
        refine wpQuiet_nil ?_;intro w' hw';obtain rfl:w'=w4.drew:=by rw[HC.out]at hw';exact hw'
        clear hw' CF CD HC C hwr;obtain⟨sM,hsM⟩:∃s,(M' d.bb).ss[k]?=S_ s:=by
         obtain⟨bd,e1,e2,-⟩:=hBi.band o1;have hsl:(M' d.bb).ss.length=d.n:=by rw[←e1];show(bd.G.map _).length=_;rw[aO];exact e2.len
         exact⟨_,ai (by rw[hsl];exact o2)⟩
        obtain⟨o51,o52⟩:=o5 sM hsM;have M4':Mv W ((HL++HB0)++HV) w4.drew ((⟨bx,96,#[p_ (S_ ⟨d.lb,k*5,N_⟩),p_ (S_ ⟨d.bb,0,N_⟩),i_ l_ k,i_ l_ pp,i_ l_ pn]⟩::(Ho++(HV++HL)))++HBi):=M4.drew.Z_;have hpn:mp-m=pn:=by omega
        have bvp:=aaw (amC w4.drew M4'.sat.left.yA.right.left) hnl acL.1 acL.2.1 hnc.1;rw[hpn]at bvp⊢;have TK:=af (step_take hBi o1 o2 hsM M4' ah pp pn _ _ bvp hst o51 (by
         have:((l.drop m).take pn).length≤min pn l.length:=by rw[bT,fH];omega
         omega))
        have KQ:=nY hE o6 hlk;have HMP:=af hmp;clear hE o6 hlk M4 M4' hBi hsM o5 o51 o52 bvp hdr hmp;generalize(Value.slice (if vc=m then S_ (⟨vg,0,N_⟩:Addr)else S_ ⟨vg,m,N_⟩) pn (vc-m))=vv at*;go_wp2_with (go_at_call 41;(with_reducible refine TK.out.mono ?_);rintro e w5 ⟨rfl,HB5,p1,p2⟩;(have z4:w5.cell? ⟨bx,4,N_⟩=S_ (i_ l_ pn):=((p2.sat.left).at_ 0 rfl).cell 4);have K5:=dS p1 p2;clear p1 p2);go_roundg (no-(i+1))
        case measure=>omega
        case rel=>
         refine⟨i+1,mp,_,HB5,by omega,rfl,by push_cast;rfl,by rw[←HMP.out];push_cast;rfl,acL.2.1,?_,?_,K5.1,?_⟩
         ·rw[KQ.1];rw[JC,aJ KQ.2.2,HMP.out]
         ·have h:=KQ.2.1;rw[HMP.out]at h;exact h
         ·exact K5.2.Z_
      ·obtain rfl:i=no:=by omega
       have hlt2:¬(i:Int)<i:=by omega
       have hE2:q=(m,0,M'):=by rw[←hq.out];unfold Rn;rw[hE,List.drop_of_length_le (by rw[HNO.out];exact aN _)];rfl
       have KF:=nY hE2 hBi Mi;clear hE hO hBi Mi hE2;go_wp2_with fail;go_ret2;obtain⟨rfl,q2,q3⟩:=KF.out;refine⟨rfl,?_⟩;rw[aK rfl];exact⟨HBi,q2,q3.drop⟩
    ·have he1:¬(er:Int)=0:=by omega
     have h:=hZ.out;rw[aJ he0]at h;subst h;clear MC hZ;go_wp2_with fail;go_ret2;refine⟨rfl,?_⟩;rw[aJ he0];exact K2.2.2.sub (fun g=>by simp only[aP,bK];omega) (fun b hb=>by simp only[ay,aC];first|exact .inr hb|exact .inr (.inl hb)|exact .inr (.inr (.inl hb)))
  ·have h0':¬(e1:Int)=0:=by omega
   unfold ac5 at hq9;rw[aJ h0]at hq9;subst hq9;clear hL hB hs bv hg MR HD hhd hn1 he1 hee hq K0 hv hok;go_enter Tryz.func12,Tryz.ntmps12;go_wp2_with (go_at_call 39;(with_reducible refine HS.out.mono ?_);rintro e w2 ⟨ao,co,Ho,HB1,rfl,p1,p2,p3⟩;have K2:=af p3;clear p1 p2 p3);go_ret2;refine⟨rfl,?_⟩;rw[aJ h0];exact K2.sub (fun g=>by simp only[aP,bK];omega) (fun b hb=>by simp only[ay,aC];first|exact .inr hb|exact .inr (.inl hb)|exact .inr (.inr (.inl hb)))
def Ji(D:List bu)(X:Nat)(M:Nat→aT):Prop:=∀d∈D,Ce (M d.bb)∧(M d.bb).ss.length=d.n∧∀s∈(M d.bb).ss,s.bs.length≤X
theorem ajV{D:List bu}{X:Nat}{M:Nat→aT}(h:Ji D X M)(hn:(D.map (·.bb)).Nodup){l:List UInt8}{ah aB:Nat}(hl:aB≤100)(hX:X+2*l.length≤10000000):∀S,headD l ah aB D M=S_ S→∀m,WH D l ah S.out S.M m:=by intro S hS m;have hf:=Tv l ah aB D M;rw[hS]at hf;obtain⟨S2,hS2,rfl⟩:=iU.1 hf;exact(MN hn h hl hS2).WH l ah m hX
theorem afx{D:List bu}{B X:Nat}{S:tJ×List qU}(h:FW D B X (aX D) S)(l:List UInt8)(ah n:Nat)(hn:n≤l.length)(hX:X+l.length≤100000000):(Rn l ah S.1 n).1=(finQ l ah S n).1∧(Rn l ah S.1 n).2.1=(finQ l ah S n).2.1∧((finQ l ah S n).2.1=0→(Rn l ah S.1 n).2.2=(finQ l ah S n).2.2∧Ji D (X+l.length) (finQ l ah S n).2.2):=by
 obtain⟨e1,e2⟩:=TS l ah S.2 S.1.M n (fun q hq=>(h.qs q hq).2.1) hn;rw[←h.out]at e1 e2;have hq:=h.qi l n;unfold Rn finQ;cases hg:(Vo l ah S.2 S.1.M n).2 with
 |none=>rw[hg]at e1;obtain⟨⟨M1,o1⟩,h1⟩:∃t,decGo l ah S.1.out S.1.M n=t:=⟨_,rfl⟩;obtain⟨⟨M2,o2⟩,h2⟩:∃t,Vo l ah S.2 S.1.M n=t:=⟨_,rfl⟩;rw[h1]at e1;rw[h2]at hg;simp only at e1 hg;subst e1 hg;rw[h1,h2];exact⟨rfl,rfl,fun h=>by simp at h⟩
 |some n'=>rw[e2 (by rw[hg];simp)];have hA:=QI.all hX ah hq hn n' hg;obtain⟨⟨M2,o2⟩,h2⟩:∃t,Vo l ah S.2 S.1.M n=t:=⟨_,rfl⟩;rw[h2]at hg hA⊢;simp only at hg hA;subst hg;exact⟨rfl,rfl,fun _=>⟨rfl,hA.1⟩⟩
theorem afJ{D:List bu}{X:Nat}{M:Nat→aT}(h:Ji D X M)(hn:(D.map (·.bb)).Nodup)(l:List UInt8)(ah aB:Nat)(wQ:Bool)(hl:aB≤100)(hX:X+l.length≤100000000):(decodeP l ah aB wQ D M).1=(pR l ah aB wQ D M).1∧(decodeP l ah aB wQ D M).2.1=(pR l ah aB wQ D M).2.1∧((pR l ah aB wQ D M).2.1=0→(decodeP l ah aB wQ D M).2.2=(pR l ah aB wQ D M).2.2∧Ji D (X+l.length) (pR l ah aB wQ D M).2.2):=by
 have hf:=Tv l ah aB D M;unfold decodeP pR;cases hq:AA l ah aB D M oL with
 |none=>rw[hq]at hf;rw[←hf];exact⟨rfl,rfl,fun h=>by simp at h⟩
 |some S=>
  rw[hq]at hf;rw[←hf];have hI:=MN hn h hl hq;have hE:=UZ l S.1.rd;simp only[Option.map_some];obtain⟨⟨n1,e1⟩,hen⟩:∃t,zJ l S.1.rd=t:=⟨_,rfl⟩;rw[hen]at hE⊢;simp only at hE;unfold ac5 N!;simp only;by_cases h0:e1=0
  ·rw[aK h0,aK h0];by_cases hep:wQ=T_
   ·rw[aK hep,aK hep];by_cases hm:yC l n1=0
    ·rw[aK hm,aK hm];refine afx hI l ah (n1+2) ?_ hX;unfold yC at hm;split at hm
     ·cases hm
     ·omega
    ·rw[aJ hm,aJ hm];exact⟨rfl,rfl,fun h=>absurd h hm⟩
   ·rw[aJ hep,aJ hep];exact afx hI l ah n1 hE.1 hX
  ·rw[aJ h0,aJ h0];exact⟨rfl,rfl,fun h=>absurd h h0⟩
theorem SN(s:ShapeM):Ce s.new∧∀x∈s.new.ss,x.bs.length≤0:=by
 have hl:=s.lt;have hx:∀x∈s.new.ss,x=lV.m:=fun x h=>jC h;have hlen:s.new.ss.length=s.W*s.H:=ja;refine⟨⟨acs s,fun h=>?_,fun x h=>?_⟩,fun x h=>?_⟩
 ·rw[hlen]at h⊢;have hw1:1≤s.W:=lN.2 fun e=>by rw[e,Nat.zero_mul]at h;omega
  have hh1:1≤s.H:=lN.2 fun e=>by rw[e,Nat.mul_zero]at h;omega
  have:=(Jj (w:=s.W) (h:=s.H) ⟨hw1,by omega⟩ ⟨hh1,by omega⟩).2;exact⟨this,this⟩
 ·rw[hx x h];exact⟨fun h=>absurd rfl h,aY _,by show(0:Int)≤3;decide,fun p hp=>by cases hp⟩
 ·rw[hx x h];exact aN _
theorem aiC:∀(Lb:List (bu×aT)) (Ld:List (Nat×aT)) (H:List HB) (M:Nat→aT),Dn Ld H→Lb.map (·.2)=Ld.map (·.2)→(∀p∈Lb,M p.1.bb=p.2)→gJ vN (Ld.map (·.1)) (Lb.map (·.1)) M H
 | [],[],H,M,h,_,_=>h
 |p::Lb,q::Ld,H,M,⟨H1,H2,e,h1,h2⟩,he,hm=>by rw[bJ,bJ,iM]at he;refine⟨H1,H2,e,?_,aiC Lb Ld H2 M h2 he.2 fun x hx=>hm x (aU _ hx)⟩;show vN q.1 (M p.1.bb) H1;rw[hm p aG,he.1];exact⟨F_,F_,h1⟩
 | [],_::_,_,_,_,he,_=>by simp at he
 |_::_,[],_,_,_,he,_=>by simp at he
theorem ag9{G:Vj}{l:List ShapeM}{ah:Nat}{va vb vc vd:Value}(h:G.ok l ah l.length va vb vc vd)(hl:l.length≤3)(hk:(keys G.B2).Nodup):iK (G.Lb.map (·.1)) (modelL G.Lb) G.B2∧(G.Lb.map (·.1)).length≤3∧(∀d∈G.Lb.map (·.1),d.n≤9)∧((G.Lb.map (·.1)).map (·.bb)).Nodup∧gJ vN (G.Ld.map (·.1)) (G.Lb.map (·.1)) (modelL G.Lb) G.B4∧Ji (G.Lb.map (·.1)) 0 (modelL G.Lb):=by
 have hnd:=h.bb.nodup hk;have hm:G.Lb.map (·.2)=Gu l:=by rw[h.mb,dC (by rw[Es];exact aN _)]
 have hm2:G.Ld.map (·.2)=Gu l:=by rw[h.md,dC (by rw[Es];exact aN _)]
 have hmm:∀p∈G.Lb,modelL G.Lb p.1.bb=p.2:=fun p hp=>Fp hnd hp;have hs:∀p∈G.Lb,∃s:ShapeM,p.2=s.new:=by
  intro p hp;have:p.2∈Gu l:=by rw[←hm];exact bW.2 ⟨p,hp,rfl⟩
  unfold Gu at this;obtain⟨s,-,e⟩:=bW.1 this;exact⟨s,e.symm⟩
 have hbR:=h.bb.af0 hmm;refine⟨hbR,by rw[aO,(h.lens (aN _)).2.1];exact hl,?_,by rw[jc];exact hnd,aiC G.Lb G.Ld G.B4 _ h.bd (hm.trans hm2.symm) hmm,?_⟩
 ·intro d hd;obtain⟨p,hp,rfl⟩:=bW.1 hd;obtain⟨s,e⟩:=hs p hp;rw[h.bb.n p hp,e];have hl:=s.lt;show s.W*s.H≤9;have:s.W*s.H≤3*3:=bZ (by omega) (by omega);omega
 ·intro d hd;have hlen:=Ub hbR d hd;obtain⟨p,hp,rfl⟩:=bW.1 hd;obtain⟨s,e⟩:=hs p hp;rw[hmm p hp]at hlen⊢;rw[e]at hlen⊢;exact⟨(SN s).1,hlen,(SN s).2⟩
def agd(D:List bu)(M:Nat→aT):Prop:=∀d∈D,∀s∈(M d.bb).ss,Az s∧s.bs.length≤110000
theorem aas(count ah aB:Nat)(D:List bu)(M:Nat→aT)(b k:Nat):(((encS count ah aB D M).M b).ss[k]?).map pbS=((M b).ss[k]?).map pbS:=by
 unfold encS;split
 ·rw[Qm];simp only[uS]
 ·simp only[uS]
theorem ajS{count ah aB:Nat}{D:List bu}{M:Nat→aT}(h:agd D M):agd D (encS count ah aB D M).M:=by intro d hd s hs;obtain⟨k,hk,rfl⟩:=wV hs;have hp:=aas count ah aB D M d.bb k;rw[ai hk]at hp;obtain⟨t,ht,h1,h2⟩:=UH hp.symm;have:=h d hd t (aF ht);unfold Az at this⊢;rw[h1,h2]at this;exact this
theorem adR(count ah aB ly:Nat)(D:List bu)(M:Nat→aT)(L:List dF):sumE count ly (encS count ah aB D M).M L=sumE count ly M L:=by
 unfold sumE;congr 1;refine wU fun x _=>?_;have hp:=aas count ah aB D M x.d.bb x.k;unfold OY;cases h:(M x.d.bb).ss[x.k]? with
 |none=>
  rw[h]at hp;cases h2:((encS count ah aB D M).M x.d.bb).ss[x.k]? with
  |none=>rfl
  |some t=>rw[h2]at hp;cases hp
 |some s=>rw[h]at hp;obtain⟨t,ht,h1,h2⟩:=UH hp;rw[ht];simp only;rw[h1,Ht h1]
theorem ahe{count ah aB:Nat}{D:List bu}{M:Nat→aT}(h:∀d∈D,(M d.bb).ss.length=d.n):∀d∈D,((encS count ah aB D M).M d.bb).ss.length=d.n:=by
 intro d hd;rw[←h d hd];unfold encS;split
 ·rw[MV];simp only[uS]
 ·simp only[uS]
theorem ahc{G:Vj}{l:List ShapeM}{ah:Nat}{va vb vc vd:Value}(h:G.ok l ah l.length va vb vc vd)(hk:(keys G.B1).Nodup):∀d∈G.La.map (·.1),(modelL G.La d.bb).ss.length=d.n:=Ub (h.ba.af0 fun p hp=>Fp (h.ba.nodup hk) hp)
theorem akk{G:Vj}{l:List ShapeM}{ah:Nat}{va vb vc vd:Value}(h:G.ok l ah l.length va vb vc vd)(hl:l.length≤3)(hs:ah≤63)(hk:(keys G.B1).Nodup)(c:Nat):True∧(G.La.map (·.1)).length≤3∧(∀d∈G.La.map (·.1),d.n≤9)∧(∀d∈G.La.map (·.1),sG (modelL G.La d.bb))∧((G.La.map (·.1)).map (·.bb)).Nodup∧gJ Aw (G.Lc.map (·.1)) (G.La.map (·.1)) (modelL G.La) G.B3∧jZ c 0 (G.La.map (·.1)) [] (modelL G.La):=by
 have hnd:=h.ba.nodup hk;have hm:G.La.map (·.2)=AB l ah:=by rw[h.ma,dC (by rw[AV];exact aN _)]
 have hm2:G.Lc.map (·.2)=AB l ah:=by rw[h.mc,dC (by rw[AV];exact aN _)]
 have hb:∀p∈G.La,sG p.2∧p.2.w*p.2.h≤9:=fun p hp=>ν l ah p.2 (by rw[←hm];exact bW.2 ⟨p,hp,rfl⟩);have hr:∀p∈G.La,v! p.2∧∀x∈p.2.ss,x.said=0:=fun p hp=>acS l ah hs p.2 (by rw[←hm];exact bW.2 ⟨p,hp,rfl⟩);have hmm:∀p∈G.La,modelL G.La p.1.bb=p.2:=fun p hp=>Fp hnd hp;refine⟨trivial,by rw[aO,(h.lens (aN _)).1];exact hl,?_,?_,by rw[jc];exact hnd,aiA G.La G.Lc G.B3 _ h.bc (hm.trans hm2.symm) (fun p hp=>(hr p hp).1) hmm,abj c G.La _ (fun p hp=>(hr p hp).2) hmm⟩
 ·intro d hd;obtain⟨p,hp,rfl⟩:=bW.1 hd;rw[h.ba.n p hp];exact(hb p hp).2
 ·intro d hd;obtain⟨p,hp,rfl⟩:=bW.1 hd;rw[hmm p hp];exact(hb p hp).1
theorem acT{G:Vj}{l:List ShapeM}{ah:Nat}{va vb vc vd:Value}(h:G.ok l ah l.length va vb vc vd)(hs:ah≤63)(hk:(keys G.B1).Nodup):agd (G.La.map (·.1)) (modelL G.La):=by
 have hnd:=h.ba.nodup hk;have hm:G.La.map (·.2)=AB l ah:=by rw[h.ma,dC (by rw[AV];exact aN _)]
 intro d hd s hss;obtain⟨p,hp,rfl⟩:=bW.1 hd;rw[Fp hnd hp]at hss;have h2:p.2∈AB l ah:=by rw[←hm];exact bW.2 ⟨p,hp,rfl⟩
 unfold AB at h2;obtain⟨i,hi,e⟩:=List.mem_mapIdx.1 h2;rw[←e]at hss;obtain⟨-,-,-,-,-,-,-,-,h9⟩:=ShapeM.Lm _ i ah _ (aN _);rcases h9 s hss with rfl|⟨q,-,rfl⟩
 ·have:=acr (12:Int) (by decide);exact⟨⟨this.g.up,this.g.ends⟩,aY _⟩
 ·have:=adn l[i] i ah q hs;exact⟨⟨this.g.up,this.g.ends⟩,this.bs⟩
section
variable(K:Act→World→Prop)(bx gb qg k n qc np pc:Nat)(e:Int)(tb:Bool)(pa:Option Addr)(ps:List (Int×Bool))(Hp R H0:List YtjngfhgakokejaaGreat.HB)(w0:World)(w:World){s0 s2 s5 s6 s7 s8 s9 s10 s11 s12 s13 s14 s15 s16 l9 kH kS s20 lF lC s23 s24 kZ s26 kW kR kY lu lJ lK lI lL lD:Value}
inductive OI(bQ:Array Bool)(a:Act)(W:World):Prop|mk {b0 b1 b2 b3 b4 b5 b6 b7 b8 b9 b10 b11 b12 b13 b14 b15 b16 b17 b18:Bool} {M! L! K! u20 u21 u22 u23 u24 u25 u26 u27 u28 u29 u30 u31 u32 u33 u34:Value} {g8:Nat} {HB:List YtjngfhgakokejaaGreat.HB} {Wp:World} (hl:bQ=#[b0,b1,b2,b3,b4,b5,b6,b7,b8,b9,b10,b11,b12,b13,b14,b15,b16,b17,b18]) (ha:a=⟨List.toArray (s0::(.pointer (some ⟨gb,0,none⟩))::s2::(.pointer (some ⟨bx,0,none⟩))::(.int .i64 k)::s5::s6::s7::s8::s9::s10::s11::s12::s13::s14::s15::s16::M!::L!::K!::u20::u21::u22::u23::u24::u25::u26::u27::u28::u29::u30::u31::u32::u33::u34::lD::[]),[]⟩) (HW:(Mv w0 H0 Wp (oh b15 ⟨g8,90,#[.int .i64 e,.bool tb]⟩++(HB++R))∧(b16=false→HB=Hp)∧(b16=true→b15=true)∧(b18=false→W=Wp)∧(b18=true→W=Wp.setCell ⟨bx,1,none⟩ u33)∧(b18=true→b0=true∧b1=true∧b2=true∧b3=true∧b4=true∧b5=true∧b6=true∧b7=true∧b8=true∧b9=true∧b10=true∧b11=true∧b12=true∧b13=true∧b14=true∧b15=true∧b16=true∧b17=true))) (hF:(b0=true→M!=.pointer (some ⟨bx,1,none⟩))∧(b1=true→L!=.slice pa np pc)∧(b2=true→K!=.pointer (some ⟨gb,1,none⟩))∧(b3=true→u20=.slice (some ⟨qg,0,none⟩) n qc)∧(b4=true→u21=.int .i64 k)∧(b5=true→u22=.pointer (some ⟨qg,k*2,none⟩))∧(b6=true→u23=.pointer (some ⟨qg,k*2,none⟩))∧(b7=true→u24=.int .i64 e)∧(b8=true→u25=.pointer (some ⟨gb,1,none⟩))∧(b9=true→u26=.slice (some ⟨qg,0,none⟩) n qc)∧(b10=true→u27=.int .i64 k)∧(b11=true→u28=.pointer (some ⟨qg,k*2,none⟩))∧(b12=true→u29=.pointer (some ⟨qg,k*2+1,none⟩))∧(b13=true→u30=.bool tb)∧(b14=true→u31=.agg #[.int .i64 e,.bool tb])∧(b15=true→u32=.slice (some ⟨g8,0,none⟩) 1 1)∧(b16=true→dh 90 2 u33 (np+1) (jd (ps++[(e,tb)])) HB)∧(b17=true→u34=.pointer (some ⟨bx,1,none⟩)):=by and_intros<;>first|assumption|exact fun _=>rfl|(simp only[bM,bI,aI]<;>assumption)):OI bQ a W
theorem adO(CE:Hid (∀V A',Mv w0 H0 V (A'++R)→V.cell? ⟨bx,1,N_⟩=S_ (s_ pa np pc)∧V.frozen? ⟨bx,1,N_⟩=F_∧V.cell? ⟨gb,1,N_⟩=S_ (s_ (S_ ⟨qg,0,N_⟩) n qc)∧V.cell? ⟨qg,k*2,N_⟩=S_ (i_ l_ e)∧V.cell? ⟨qg,k*2+1,N_⟩=S_ (b_ tb)))(hkn:(k:Int)<n)(xu:np≤1000)(hrow:dh 90 2 (s_ pa np pc) np (jd ps) Hp)(hM:Mv w0 H0 w (Hp++R))
 (hk:∀(M! L! K! u20 u21 u22 u23 u24 u25 u26 u27 u28 u29 u30 u31 u32 u33 u34:Value) (g8:Nat) (HB:List YtjngfhgakokejaaGreat.HB) (Wp:World) (W:World),(Mv w0 H0 Wp (oh T_ ⟨g8,90,#[i_ l_ e,b_ tb]⟩++(HB++R))∧(T_=F_→HB=Hp)∧(T_=T_→T_=T_)∧(T_=F_→W=Wp)∧(T_=T_→W=Wp.setCell ⟨bx,1,N_⟩ u33)∧(T_=T_→T_=T_∧T_=T_∧T_=T_∧T_=T_∧T_=T_∧T_=T_∧T_=T_∧T_=T_∧T_=T_∧T_=T_∧T_=T_∧T_=T_∧T_=T_∧T_=T_∧T_=T_∧T_=T_∧T_=T_∧T_=T_))→(dh 90 2 u33 (np+1) (jd (ps++[(e,tb)])) HB)→K ⟨List.toArray (s0::(p_ (S_ ⟨gb,0,N_⟩))::s2::(p_ (S_ ⟨bx,0,N_⟩))::(i_ l_ k)::s5::s6::s7::s8::s9::s10::s11::s12::s13::s14::s15::s16::M!::L!::K!::u20::u21::u22::u23::u24::u25::u26::u27::u28::u29::u30::u31::u32::u33::u34::lD::[]),[]⟩ W):
 (dQ 5 Tryz.f47).wp P_ (Exit.then K qX) ⟨List.toArray (s0::(p_ (S_ ⟨gb,0,N_⟩))::s2::(p_ (S_ ⟨bx,0,N_⟩))::(i_ l_ k)::s5::s6::s7::s8::s9::s10::s11::s12::s13::s14::s15::s16::l9::kH::kS::s20::lF::lC::s23::s24::kZ::s26::kW::kR::kY::lu::lJ::lK::lI::lL::lD::[]),[]⟩ w:=by
 conv in(dQ _ _)=>whnf
 unfold qX;have HK:=af hk;clear hk;refine jS (by kernel_rfl) [[],[0],[],[2],[],[3,4],[5],[6],[],[8],[],[9,10],[11],[12],[7,13],[14],[1,15],[0,1,2,3,4,5,6,7,8,9,10,11,12,13,14,15,16],[17,16,16,0,1,2,3,4,5,6,7,8,9,10,11,12,13,14,15,16]] [0,1,2,3,4,5,6,7,8,9,10,11,12,13,14,15,16,17,18] (by kernel_rfl) (by kernel_rfl) (@OI bx gb qg k n qc np pc e tb pa ps Hp R H0 w0 s0 s2 s5 s6 s7 s8 s9 s10 s11 s12 s13 s14 s15 s16 lD) ?_ ?_ ?_
 ·refine .mk (g8:=0) (HB:=Hp) (Wp:=w.drew) rfl rfl ⟨by simpa[jl]using hM.drew,fun _=>rfl,(fun e=>nomatch e),fun _=>rfl,(fun e=>nomatch e),(fun e=>nomatch e)⟩ ⟨nofun,nofun,nofun,nofun,nofun,nofun,nofun,nofun,nofun,nofun,nofun,nofun,nofun,nofun,nofun,nofun,nofun,nofun⟩
 ·rintro _ _ W ⟨rfl,rfl,HW,-,-,-,-,-,-,-,-,-,-,-,-,-,-,-,-,h16,-⟩ hb;simp only[List.all_cons,List.all_nil,dO,kJ]at hb;obtain⟨rfl,rfl,rfl,rfl,rfl,rfl,rfl,rfl,rfl,rfl,rfl,rfl,rfl,rfl,rfl,rfl,rfl,rfl,rfl⟩:=hb;exact HK _ _ _ _ _ _ _ _ _ _ _ _ _ _ _ _ _ _ _ _ _ W HW (h16 rfl)
 ·rintro _ _ W i @⟨_,_,_,_,_,_,_,_,_,_,_,_,_,_,_,b15,b16,_,b18,_,_,_,_,_,_,_,_,_,_,_,_,_,_,_,_,_,_,g8,HB,Wp,rfl,rfl,HW,h0,h1,h2,h3,h4,h5,h6,h7,h8,h9,h10,h11,h12,h13,JH,h15,h16,h17⟩ hi hi2 zp;have hi4:i=18∨i=15∨i=16∨i=0∨i=1∨i=2∨i=3∨i=4∨i=5∨i=6∨i=7∨i=8∨i=9∨i=10∨i=11∨i=12∨i=13∨i=14∨i=17:=(by have:i<19:=hi;omega);clear hi;rcases hi4 with rfl|rfl|rfl|rfl|rfl|rfl|rfl|rfl|rfl|rfl|rfl|rfl|rfl|rfl|rfl|rfl|rfl|rfl|rfl
  all_goals simp at hi2 zp;(repeat obtain⟨_,zp⟩:=zp);(try subst_vars);try simp only[bM,bI,aI]at h0 h1 h2 h3 h4 h5 h6 h7 h8 h9 h10 h11 h12 h13 JH h15 h16 h17
  all_goals try subst_vars
  all_goals refine jm rfl (fun K hK=>?_)
  ·obtain rfl:=HW.2.2.2.1 rfl;obtain⟨a9,c9,e9⟩:=dh.slice (h16);subst e9;obtain⟨y1,y3,y5,y6,y7⟩:=CE W (oh T_ ⟨g8,90,#[i_ l_ e,b_ tb]⟩++HB) (by simpa only[az]using HW.1);go_simp;refine hK _ _ (.mk (g8:=g8) (HB:=HB) (Wp:=W) rfl rfl ⟨HW.1,HW.2.1,HW.2.2.1,(fun e=>nomatch e),(fun _=>rfl),(fun _=>by simp)⟩ ?_);and_intros<;>first|assumption|exact fun _=>rfl|(simp only[bM,bI,aI]<;>assumption)|exact fun _=>trivial
  all_goals (obtain rfl:b18=F_:=by cases b18;rfl;have:=HW.2.2.2.2.2 rfl;simp at this);obtain rfl:=HW.2.2.2.1 rfl
  ·obtain rfl:b16=F_:=by cases b16;rfl;cases(HW.2.2.1 rfl)
   obtain rfl:=HW.2.1 rfl;have M9:=HW.1.alloc 90 #[i_ l_ e,b_ tb];go_simp;exact hK _ _ (.mk (g8:=W.heap.size) rfl rfl ⟨M9.O_,HW.2.1,(fun e=>nomatch e),(fun _=>rfl),(fun e=>nomatch e),(fun e=>nomatch e)⟩)
  ·obtain rfl:=HW.2.1 rfl;have M9:Mv w0 H0 W (HB++(⟨g8,90,#[i_ l_ e,b_ tb]⟩::R)):=HW.1.O_;have RD:Reads W W.heap.size 2 (S_ ⟨g8,0,N_⟩) 1 (Nz (e,tb)):=Reads.zD (dh.owns (H:=[⟨g8,90,#[i_ l_ e,b_ tb]⟩]) (dh.new 90 g8 1 #[i_ l_ e,b_ tb] rfl (by decide)) (M9.sat.Z_) (B:=0) (fun _ _=>aY _));refine Ip (A:=S_ ⟨g8,0,N_⟩) (m:=1) (c:=1) Tryz.underlying49 Z7 rfl (by decide) (by decide) rfl (.tmp 18) (.tmp 32) rfl (s_ pa np pc) (by simp[Act.eval]) (by simp[Act.eval]) hrow M9.sat.left RD (fun u hu=>Aa [(e,tb)] u (by simpa[jd]using hu)) (by omega) ?_;intro v9 w9 H9 r10 m9;have N9:=Mv.call M9 m9;refine hK _ _ (.mk (g8:=g8) (HB:=H9) (Wp:=w9) rfl rfl ⟨N9.O_,(fun e=>nomatch e),(fun _=>rfl),(fun _=>rfl),(fun e=>nomatch e),(fun e=>nomatch e)⟩ ?_);and_intros<;>first|assumption|exact fun _=>rfl|(simp only[bM,bI,aI]<;>assumption)|exact fun _=>by rw[vG];exact r10
  all_goals first|(go_simp;exact hK _ _ (.mk rfl rfl ⟨HW.1,HW.2.1,HW.2.2.1,(fun _=>rfl),(fun e=>nomatch e),(fun e=>nomatch e)⟩))|((obtain⟨y1,y3,y5,y6,y7⟩:=CE W (oh b15 ⟨g8,90,#[.int .i64 e,.bool tb]⟩++HB) (by simpa only[az]using HW.1));go_simp;exact hK _ _ (.mk rfl rfl ⟨HW.1,HW.2.1,HW.2.2.1,(fun _=>rfl),(fun e=>nomatch e),(fun e=>nomatch e)⟩))
end
theorem aaO(pl:Int)(vp:Value)(ba:Option Addr)(bn bc:Nat)(ps:List (Int×Bool))(Hq:List HB)(w:World)(hq:vM vp ps Hq)(hs:Sat w Hq)(hn:ps.length≤1000):Calls P_ 47 #[g_ #[i_ l_ pl,vp,s_ ba bn bc]] w fun e w'=>∃Ij Hp,e=r_ (g_ #[i_ l_ pl,Ij,s_ ba bn bc])∧lH Ij ps Hp∧Mv w Hq w' (Hp++Hq):=by
 obtain⟨qa,qc,rfl⟩:=dh.slice hq;obtain⟨n,hnn⟩:=X_ (ps.length);rw[hnn]at hq hn⊢;have M1:=((Mv.refl hs).alloc 58 #[i_ l_ pl,s_ qa n qc,s_ ba bn bc]).alloc 51 #[i_ l_ 0,s_ N_ 0 0,s_ N_ 0 0];have M2:=M1.alloc 51 #[i_ l_ pl,s_ N_ 0 0,s_ ba bn bc];simp only[jV]at M1 M2;have K2:Hid (Mv w Hq _ ([]++(Bi (w.heap.size+1+1) pl (s_ N_ 0 0) (s_ ba bn bc)::Bi (w.heap.size+1) 0 (s_ N_ 0 0) (s_ N_ 0 0)::blT w.heap.size pl (s_ qa n qc) (s_ ba bn bc)::Hq))):=af M2;have KQ:=dS hq hnn;clear M1 M2 hq hs hnn;go_enter Tryz.func47,Tryz.ntmps47;go_upto_region 2 with fail;generalize((w.alloc (.cells #[i_ l_ pl,s_ qa n qc,s_ ba bn bc] 58)).alloc (.cells #[i_ l_ 0,s_ N_ 0 0,s_ N_ 0 0] 51)).alloc (.cells #[i_ l_ pl,s_ N_ 0 0,s_ ba bn bc] 51)=w2 at*;generalize w.heap.size=g at*;have K3:Hid (Mv w Hq w2 ([]++(Bi (g+2) pl (s_ N_ 0 0) (s_ ba bn bc)::Bi (g+1) 0 (s_ N_ 0 0) (s_ N_ 0 0)::blT g pl (s_ qa n qc) (s_ ba bn bc)::Hq))):=K2;clear K2;go_wp2_with fail;go_loopg [4] n (fun mm s4 wx=>∃(k:Nat) (l:List (Int×Bool)) (a:Option Addr) (c:Nat) (H:List HB),k≤n∧mm=n-k∧s4=i_ l_ k∧ps.take k=l∧l.length=k∧lH (s_ a k c) l H∧Mv w Hq wx (H++(Bi (g+2) pl (s_ a k c) (s_ ba bn bc)::Bi (g+1) 0 (s_ N_ 0 0) (s_ N_ 0 0)::blT g pl (s_ qa n qc) (s_ ba bn bc)::Hq)))
 case atStart=>exact⟨0,[],N_,0,[],aY _,rfl,rfl,rfl,rfl,dh.nil _ _,K3.out⟩
 case round=>
  obtain⟨k,l,a,c,H,hk,rfl,rfl,hl,hll,hp,hm⟩:=hrel;have c1:wr.cell? ⟨g,1,N_⟩=S_ (s_ qa n qc):=(hm.drop.cell 2 (g:=g) rfl 1);by_cases hlt:k<n
  ·have d1:decide ((k:Int)<n)=T_:=by simp;omega
   obtain⟨qg,rfl⟩:=KQ.1.form (by omega);obtain⟨⟨pe,pt⟩,hpk⟩:∃p,ps[k]?=S_ p:=⟨_,ai (by rw[KQ.2];exact hlt)⟩;have hkn:(k:Int)<n:=by omega
   have e6:ps.take (k+1)=l++[(pe,pt)]:=by rw[eU,hl,hpk];rfl
   have e7:(l++[(pe,pt)]).length=k+1:=by rw[au,hll];rfl
   have hp2:dh 90 2 (s_ a k c) k (jd l) H:=by have:=hp;unfold lH at this;rw[hll]at this;exact this
   have KP:=LH hp2 hm e6 e7 hpk;clear hp hm hl hll e6 e7 hp2 hpk;go_upto_region 5 with fail;clear c1;refine lU (adO _ (g+2) g qg k n qc k c pe pt a l H (Bi (g+2) pl (s_ a k c) (s_ ba bn bc)::Bi (g+1) 0 (s_ N_ 0 0) (s_ N_ 0 0)::blT g pl (s_ (S_ ⟨qg,0,N_⟩) n qc) (s_ ba bn bc)::Hq) Hq w wr (af fun V A' m=>?_) hkn (by omega) KP.1 KP.2.1 ?_)
   ·have s1:=m.sat.right;have s4:Sat V Hq:=s1.yA.yA.yA;obtain⟨p1,p2⟩:=KQ.1.at_ s4 KP.2.2.2.2;exact⟨(s1.at_ 0 rfl).cell 1,(s1.at_ 0 rfl).frozen 1,(s1.at_ 2 rfl).cell 1,p1,p2⟩
   rintro _ _ _ _ _ _ _ _ _ _ _ _ _ _ _ _ u33 _ g8 HB Wp w5 ⟨m5,-,-,-,e5,-⟩ h10;replace e5:=e5 rfl;obtain⟨a9,c9,rfl⟩:=dh.slice h10;have m6:=Mv.setAt (A:=[⟨g8,90,#[i_ l_ pe,b_ pt]⟩]++HB) (g:=g+2) (cs:=#[i_ l_ pl,s_ a k c,s_ ba bn bc]) (R:=Bi (g+1) 0 (s_ N_ 0 0) (s_ N_ 0 0)::blT g pl (s_ (S_ ⟨qg,0,N_⟩) n qc) (s_ ba bn bc)::Hq) (by simpa only[kN,Bi,az]using m5) 1 (s_ a9 (k+1) c9);rw[←e5]at m6;have m7:Mv w Hq w5 (([⟨g8,90,#[i_ l_ pe,b_ pt]⟩]++HB)++Bi (g+2) pl (s_ a9 (k+1) c9) (s_ ba bn bc)::(Bi (g+1) 0 (s_ N_ 0 0) (s_ N_ 0 0)::blT g pl (s_ (S_ ⟨qg,0,N_⟩) n qc) (s_ ba bn bc)::Hq)):=m6;have K6:=dS h10 m7;clear m5 m6 m7 h10 e5 d1;go_wp2_with fail;go_roundg (n-(k+1))
   case measure=>omega
   case rel=>
    obtain⟨-,-,e6,e7,-⟩:=KP.out;refine⟨k+1,l++[(pe,pt)],a9,c9,HB,by omega,rfl,by push_cast;rfl,e6,e7,?_,?_⟩
    ·unfold lH;rw[e7];exact K6.1
    ·exact K6.2.Z_
  ·have d1:decide ((k:Int)<n)=F_:=by simp;omega
   obtain rfl:k=n:=by omega
   have el:ps=l:=by rw[←hl,dC (by rw[KQ.2];exact aN _)]
   rw[←el]at hp;have HL:=af hp;have m1:Mv w Hq wr ([Bi (g+1) 0 (s_ N_ 0 0) (s_ N_ 0 0)]++(Bi (g+2) pl (s_ a k c) (s_ ba bn bc)::(H++Hq))):=hm.sub (fun g=>by simp only[aP,bK,gI];omega) (fun b hb=>by
    simp only[ay,aC,bP,gQ]at hb⊢;rcases hb with h|h|h|h
    ·exact .inr (.inr (.inl h))
    ·exact .inr (.inl h)
    ·exact .inl h
    ·exact .inr (.inr (.inr (.inr h))))
   have K1:=af m1;clear el hl hll hp hm m1;go_upto_region 6 with fail;clear c1;refine wp_region_lit ?_;refine wpList_load_row rfl 51 (.tmp 3) rfl (g+2) rfl 51 #[i_ l_ pl,s_ a k c,s_ ba bn bc] (0,0) _ (K1.blk 1 (g:=g+2) (t:=51) (cs:=#[i_ l_ pl,s_ a k c,s_ ba bn bc]) rfl) Tryz.underlying51 rfl (by kernel_rfl) ?_;refine tK rfl 51 (.tmp 2) (.tmp 35) rfl (g+1) #[i_ l_ pl,s_ a k c,s_ ba bn bc] rfl rfl 51 _ (K1.blk 0 (g:=g+1) (t:=51) (cs:=#[i_ l_ 0,s_ N_ 0 0,s_ N_ 0 0]) rfl) (by kernel_rfl) rfl (by simp[Value.oneCell']) ?_;have M9:=af (Mv.call K1 (zx (cs:=#[i_ l_ pl,s_ a k c,s_ ba bn bc]) (K1.blk 0 (g:=g+1) (t:=51) (cs:=#[i_ l_ 0,s_ N_ 0 0,s_ N_ 0 0]) rfl)));generalize wr.setRow (g+1) #[i_ l_ pl,s_ a k c,s_ ba bn bc]=w9 at*;go_wp2_with fail;refine dU (v:=g_ #[i_ l_ pl,s_ a k c,s_ ba bn bc]) (iT Tryz.results47 _ _ (g+1) 51 _ (0,0) _ rfl (M9.blk 0 rfl) Tryz.underlying51 rfl (by kernel_rfl)) rfl ?_;exact⟨_,H,rfl,HL.out,M9.drop1.drop1⟩
theorem NQ{w:World}{v:Value}{l:List UInt8}(h:BV w v l):(convert 30 9 v).run P_ w=.ok (.string ⟨l.toArray⟩) w:=by
 obtain⟨A,c,rfl,h1,h2,h3⟩:=h;rcases A with _|ad
 ·have h0:l.length=0:=by
   rcases iZ l.length with h|h
   ·exact h
   ·obtain⟨_,h,_⟩:=h3.2 h;cases h
  obtain rfl:l=[]:=dN h0;exact run_convert_bytes_nil (P:=P_) w 30 5 Tryz.underlying30 Tryz.underlying5 0 c 9 Tryz.underlying9
 ·exact run_convert_bytes_back (P:=P_) w 30 9 5 ad c l Tryz.underlying30 Tryz.underlying5 Tryz.underlying9 (fun j hj=>by obtain⟨ad',e,-,hc⟩:=h3.cell (ai hj);injection e with e;rw[e];exact hc)
theorem afz(e:Int)(b:Bool)(w:World):(Op.equalIn 10000 90 (g_ #[i_ l_ e,b_ b]) (g_ #[i_ l_ e,b_ b])).run P_ w=.ok T_ w:=by rw[show(10000:Nat)=9999+1 from rfl,run_equalIn_struct w 9999 90 _ _ (by kernel_rfl) (by kernel_rfl)];simp only[Program.fieldsOf,Tryz.underlying90];have u3:=Tryz.underlying3;have u4:=Tryz.underlying4;have a3:=Tryz.isAgg3;have a4:=Tryz.isAgg4;have z3:=Tryz.sizeOf3;have z4:=Tryz.sizeOf4;go_simp
theorem Zg(pl:Int)(v1 v2 b1 b2:Value)(ps:List (Int×Bool))(bs:List UInt8)(H1 H2 G1 G2:List HB)(w:World)(h1:lH v1 ps H1)(h2:lH v2 ps H2)(g1:dR b1 bs G1)(g2:dR b2 bs G2)
 (s1:Sat w H1) (s2:Sat w H2) (t1:Sat w G1) (t2:Sat w G2) (hn:ps.length≤1000):
 Calls P_ 46 #[g_ #[i_ l_ pl,v1,b1],g_ #[i_ l_ pl,v2,b2]] w fun e w'=>e=r_ (b_ T_)∧Mv w [] w' []:=by
 obtain⟨a1,c1,rfl⟩:=h1.slice;obtain⟨a2,c2,rfl⟩:=h2.slice;obtain⟨a3,c3,rfl⟩:=g1.slice;obtain⟨a4,c4,rfl⟩:=g2.slice;have A:∀{H:List HB},Sat w H→Sat ((w.alloc (.cells #[i_ l_ pl,s_ a1 ps.length c1,s_ a3 bs.length c3] 51)).alloc (.cells #[i_ l_ pl,s_ a2 ps.length c2,s_ a4 bs.length c4] 51)) H:=fun s=>(((Mv.refl s).alloc _ _).alloc _ _).drop1.drop1.sat;have M:=(iF w 51 #[i_ l_ pl,s_ a1 ps.length c1,s_ a3 bs.length c3]).alloc 51 #[i_ l_ pl,s_ a2 ps.length c2,s_ a4 bs.length c4];rw[jV]at M;obtain⟨w2,hw2⟩:=Y_ ((w.alloc (.cells #[i_ l_ pl,s_ a1 ps.length c1,s_ a3 bs.length c3] 51)).alloc (.cells #[i_ l_ pl,s_ a2 ps.length c2,s_ a4 bs.length c4] 51));rw[←hw2]at M;obtain⟨n,hnn⟩:=X_ (ps.length);have S1:Sat w2 H1:=by rw[hw2];exact A s1
 have S2:Sat w2 H2:=by rw[hw2];exact A s2
 have T1:Sat w2 G1:=by rw[hw2];exact A t1
 have T2:Sat w2 G2:=by rw[hw2];exact A t2
 have v1:=NQ (g1.bv T1);have v2:=NQ (g2.bv T2);obtain⟨nb,hnb⟩:=X_ (bs.length);rw[hnb]at v1 v2;obtain⟨g,hg⟩:=X_ (w.heap.size);rw[hnn,hnb,hg]at M;have x0:w2.cell? ⟨g,0,N_⟩=S_ (i_ l_ pl):=M.cell 1 rfl 0;have x1:∀nn,(w2.drewN nn).cell? ⟨g,1,N_⟩=S_ (s_ a1 n c1):=fun nn=>M.cell 1 rfl 1;have x2:w2.cell? ⟨g,2,N_⟩=S_ (s_ a3 nb c3):=M.cell 1 rfl 2;have y0:w2.cell? ⟨g+1,0,N_⟩=S_ (i_ l_ pl):=M.cell 0 rfl 0;have y1:∀nn,(w2.drewN nn).cell? ⟨g+1,1,N_⟩=S_ (s_ a2 n c2):=fun nn=>M.cell 0 rfl 1;have y2:w2.cell? ⟨g+1,2,N_⟩=S_ (s_ a4 nb c4):=M.cell 0 rfl 2;have x10:w2.cell? ⟨g,1,N_⟩=S_ (s_ a1 n c1):=M.cell 1 rfl 1;have y10:w2.cell? ⟨g+1,1,N_⟩=S_ (s_ a2 n c2):=M.cell 0 rfl 1;rw[hnn]at h1 h2 hn hw2⊢;rw[hnb]at hw2⊢;have K:=af M;have KP:=nY h1 h2 hnn;have KS:=dS S1 S2;have HW:=af hw2;have d:(pl !=pl)=F_:=by simp
 have dn:((n:Int) !=(n:Int))=F_:=by simp
 have hgg:=af hg;clear hw2 M A h1 h2 g1 g2 s1 s2 t1 t2 hnn hnb S1 S2 T1 T2 hg;go_enter Tryz.func46,Tryz.ntmps46;go_upto_region 1 with fail;rw[←HW.out];simp only[hgg.out];clear HW;go_wp2_with fail;clear x0 x2 y0 y2 v1 v2 x10 y10;go_loopg [5] n (fun mm s5 wx=>∃j nn:Nat,j≤n∧mm=n-j∧s5=i_ l_ j∧wx=w2.drewN nn)
 case atStart=>exact⟨0,0,aY _,rfl,rfl,rfl⟩
 case round=>
  obtain⟨j,nn,hj,rfl,rfl,rfl⟩:=hrel;have x1:=x1 nn;have y1:=y1 nn;by_cases hlt:j<n
  ·have d1:decide ((j:Int)<n)=T_:=by simp;omega
   have hjn:(j:Int)<n:=by omega
   obtain⟨-,q1,rfl⟩:=KP.1.form (by omega);obtain⟨-,q2,rfl⟩:=KP.2.1.form (by omega);obtain⟨p,hp⟩:∃p,ps[j]?=S_ p:=⟨_,ai (by rw[KP.2.2];exact hlt)⟩;have z1:=(KP.1.at_ (KS.1.drewN nn) hp).1;have z2:=KP.1.at2 (KS.1.drewN nn) hp;have z3:=(KP.2.1.at_ (KS.2.drewN nn) hp).1;have z4:=KP.2.1.at2 (KS.2.drewN nn) hp;obtain⟨e,b⟩:=p;have EP:=afz e b;obtain⟨wz,hz⟩:=X_ (w2.drewN nn);have HZ:=af hz;simp only at z1 z2 z3 z4;rw[hz]at x1 y1 z1 z2 z3 z4⊢;clear hz hp;go_upto_region 6 with fail;go_quiet (fail);go_wp2_with fail;go_roundg (n-(j+1))
   case measure=>omega
   case rel=>exact⟨j+1,nn+nq,by omega,rfl,by push_cast;rfl,by rw[←HZ.out,World.drewN_drewN]⟩
  ·obtain rfl:j=n:=by omega
   have d1:decide ((j:Int)<j)=F_:=by simp
   go_wp2_with fail;go_ret;exact⟨rfl,(K.drewN _).drop1.drop1⟩
theorem Zr(b n lc:Nat)(k:Int)(va:Option Addr)(H:List HB)(V:World)(hs:Sat V H)(hk:k<0∨(n:Int)≤k)(CE:∀V,Sat V H→V.cell? ⟨b,1,N_⟩=S_ (s_ va n lc)):Calls P_ 49 #[p_ (S_ ⟨b,0,N_⟩),i_ l_ k] V fun e W'=>e=r_ (g_ #[i_ l_ 0,s_ N_ 0 0,s_ N_ 0 0])∧Mv V [] W' []:=by
 obtain⟨w1,hw1⟩:=X_ (V.alloc (.cells #[i_ l_ 0,s_ N_ 0 0,s_ N_ 0 0] 51));have M0:=iF V 51 #[i_ l_ 0,s_ N_ 0 0,s_ N_ 0 0];have M1:=(Mv.refl hs).alloc 51 #[i_ l_ 0,s_ N_ 0 0,s_ N_ 0 0];obtain⟨g,hg⟩:=X_ (V.heap.size);rw[hw1,hg]at M0 M1;have c1:=CE w1 M1.sat.yA;have z0:w1.cell? ⟨g,0,N_⟩=S_ (i_ l_ 0):=M0.cell 0 rfl 0;have z1:w1.cell? ⟨g,1,N_⟩=S_ (s_ N_ 0 0):=M0.cell 0 rfl 1;have z2:w1.cell? ⟨g,2,N_⟩=S_ (s_ N_ 0 0):=M0.cell 0 rfl 2;have f0:w1.frozen? ⟨g,0,N_⟩=F_:=M0.frozen 0 rfl 0;have f1:w1.frozen? ⟨g,1,N_⟩=F_:=M0.frozen 0 rfl 1;have f2:w1.frozen? ⟨g,2,N_⟩=F_:=M0.frozen 0 rfl 2;have M3:Mv V [] (((w1.setCell ⟨g,0,N_⟩ (i_ l_ 0)).setCell ⟨g,1,N_⟩ (s_ N_ 0 0)).setCell ⟨g,2,N_⟩ (s_ N_ 0 0)) [⟨g,51,#[i_ l_ 0,s_ N_ 0 0,s_ N_ 0 0]⟩]:=((M0.set 0 (i_ l_ 0)).set 1 (s_ N_ 0 0)).set 2 (s_ N_ 0 0);have K3:=af M3;have HW:=dS hw1 hg;clear M0 M1 M3 CE hs hw1 hg;by_cases h0:k<0
 ·have d0:decide (k<0)=T_:=aQ h0;clear hk;go_enter Tryz.func49,Tryz.ntmps49;go_upto_region 1 with fail;rw[HW.1];simp only[HW.2];go_wp2_with fail;refine dU (v:=g_ #[i_ l_ 0,s_ N_ 0 0,s_ N_ 0 0]) (iT Tryz.results49 _ _ g 51 _ (0,0) _ rfl (K3.blk 0 rfl) Tryz.underlying51 rfl (by kernel_rfl)) rfl ?_;exact⟨rfl,K3.drop1⟩
 ·have d0:decide (k<0)=F_:=aW h0;have hk1:(n:Int)≤k:=by omega
  have d1:decide ((n:Int)≤k)=T_:=aQ hk1;clear hk;go_enter Tryz.func49,Tryz.ntmps49;go_upto_region 1 with fail;rw[HW.1];simp only[HW.2];go_wp2_with fail;refine dU (v:=g_ #[i_ l_ 0,s_ N_ 0 0,s_ N_ 0 0]) (iT Tryz.results49 _ _ g 51 _ (0,0) _ rfl (K3.blk 0 rfl) Tryz.underlying51 rfl (by kernel_rfl)) rfl ?_;exact⟨rfl,K3.drop1⟩
theorem ace(b lg lc n k np pc nb bc:Nat)(pl:Int)(pa ba:Option Addr)(H:List HB)(V:World)(hs:Sat V H)(hk:k<n)(hn:n≤10000)(CE:∀V,Sat V H→V.cell? ⟨b,1,N_⟩=S_ (s_ (S_ ⟨lg,0,N_⟩) n lc)∧V.cell? ⟨lg,k*5,N_⟩=S_ (i_ l_ pl)∧V.cell? ⟨lg,k*5+1,N_⟩=S_ (s_ pa np pc)∧V.cell? ⟨lg,k*5+2,N_⟩=S_ (s_ ba nb bc)):Calls P_ 49 #[p_ (S_ ⟨b,0,N_⟩),i_ l_ k] V fun e W'=>e=r_ (g_ #[i_ l_ pl,s_ pa np pc,s_ ba nb bc])∧Mv V [] W' []:=by
 obtain⟨w1,hw1⟩:=X_ (V.alloc (.cells #[i_ l_ 0,s_ N_ 0 0,s_ N_ 0 0] 51));have M0:=iF V 51 #[i_ l_ 0,s_ N_ 0 0,s_ N_ 0 0];have M1:=(Mv.refl hs).alloc 51 #[i_ l_ 0,s_ N_ 0 0,s_ N_ 0 0];obtain⟨g,hg⟩:=X_ (V.heap.size);rw[hw1,hg]at M0 M1;obtain⟨c1,c2,c3,c4⟩:=CE w1 M1.sat.yA;have z0:w1.cell? ⟨g,0,N_⟩=S_ (i_ l_ 0):=M0.cell 0 rfl 0;have z1:w1.cell? ⟨g,1,N_⟩=S_ (s_ N_ 0 0):=M0.cell 0 rfl 1;have z2:w1.cell? ⟨g,2,N_⟩=S_ (s_ N_ 0 0):=M0.cell 0 rfl 2;have f0:w1.frozen? ⟨g,0,N_⟩=F_:=M0.frozen 0 rfl 0;have f1:w1.frozen? ⟨g,1,N_⟩=F_:=M0.frozen 0 rfl 1;have f2:w1.frozen? ⟨g,2,N_⟩=F_:=M0.frozen 0 rfl 2;have M3:Mv V [] (((w1.setCell ⟨g,0,N_⟩ (i_ l_ pl)).setCell ⟨g,1,N_⟩ (s_ pa np pc)).setCell ⟨g,2,N_⟩ (s_ ba nb bc)) [⟨g,51,#[i_ l_ pl,s_ pa np pc,s_ ba nb bc]⟩]:=((M0.set 0 (i_ l_ pl)).set 1 (s_ pa np pc)).set 2 (s_ ba nb bc);have K3:=af M3;have HW:=dS hw1 hg;have d0:decide ((k:Int)<0)=F_:=aW (by omega);have d1:decide ((n:Int)≤k)=F_:=aW (by omega);have hkI:(k:Int)<n:=by omega
 have hk5:k*5<100000:=by omega
 clear M0 M1 M3 CE hs hw1 hg;go_enter Tryz.func49,Tryz.ntmps49;go_upto_region 1 with fail;rw[HW.1];simp only[HW.2];go_wp2_with fail;refine dU (v:=g_ #[i_ l_ pl,s_ pa np pc,s_ ba nb bc]) (iT Tryz.results49 _ _ g 51 _ (0,0) _ rfl (K3.blk 0 rfl) Tryz.underlying51 rfl (by kernel_rfl)) rfl ?_;exact⟨rfl,K3.drop1⟩
theorem Zt(b:Nat)(m:aT)(ff fz:Bool)(H:List HB)(hB:kC b m ff fz H)(hn:m.ss.length≤10000)(k:Int): ∃vp vb Hp Hb,lH vp (xZ m k).ps Hp∧dR vb (xZ m k).bs Hb∧(xZ m k).ps.length≤1000∧(∀V,Sat V H→Sat V Hp∧Sat V Hb)∧∀V,Sat V H→Calls P_ 49 #[p_ (S_ ⟨b,0,N_⟩),i_ l_ k] V fun e W'=>e=r_ (g_ #[i_ l_ (xZ m k).pl,vp,vb])∧Mv V [] W' []:=by
 obtain⟨g,hg,rfl⟩:=hB;by_cases hk:k<0∨(m.ss.length:Int)≤k
 ·have e:xZ m k=OV:=ad1 hk;rw[e];obtain⟨va,vc,hvl⟩:=dh.slice hg.row;have hgl:g.G.length=m.ss.length:=by rw[←hg.ss,aO]
  rw[hgl]at hvl;refine⟨s_ N_ 0 0,s_ N_ 0 0,[],[],dh.nil _ _,dh.nil _ _,aY _,fun V _=>⟨Sat.nil V,Sat.nil V⟩,fun V hV=>Zr b m.ss.length vc k va _ V hV hk fun V' h=>?_⟩;rw[←hvl];exact(h.at_ 0 rfl).cell 1
 ·obtain⟨j,rfl⟩:=dW (a:=k) (by omega);obtain⟨s,hs⟩:∃s,m.ss[j]?=S_ s:=⟨_,ai (by omega)⟩;have e:xZ m (j:Int)=s:=Oi hs;rw[e];obtain⟨lg,lc,pc,uc,pa,ua,Hp0,Hb0,r1,r2,r3,hcs⟩:=RY b m g ff fz hg hs;refine⟨_,_,Hp0,Hb0,r1,r2,r3.np,fun V hV=>?_,fun V hV=>?_⟩
  ·obtain⟨-,-,-,-,-,-,-,s1,s2⟩:=hcs V hV;exact⟨s1,s2⟩
  ·refine ace b lg lc m.ss.length j s.ps.length pc s.bs.length uc s.pl pa ua _ V hV (by omega) hn fun V' h=>?_;obtain⟨c1,-,c2,c3,c4,-⟩:=hcs V' h;exact⟨c1,c2,c3,c4⟩
section
variable(K:Act→World→Prop)(lgA lgB n cA cB i bb b:Nat)(k pl:Int)(pv bv:Value)(ps:List (Int×Bool))(bs:List UInt8)(R H0:List YtjngfhgakokejaaGreat.HB)(w0:World)(w:World){s2 s3 s4 s7 s8 s9 s10 s11 s12 s13 s14 s15 s16 l9 kH kS s20 lF lC s23 s24 kZ s26 kW kR kY lu lJ lK lI lL lD s36 lY lX mG:Value}
inductive Oy(bQ:Array Bool)(a:Act)(W:World):Prop|mk {b0 b1 b2 b3 b4 b5 b6 b7 b8 b9 b10 b11 b12 b13 b14:Bool} {u25 u26 u27 u28 u29 u30 u31 u32 u33 u34 u35 u36 u37 u38 XV:Value} {X:List YtjngfhgakokejaaGreat.HB} (hl:bQ=#[b0,b1,b2,b3,b4,b5,b6,b7,b8,b9,b10,b11,b12,b13,b14]) (ha:a=⟨List.toArray ((.slice (some ⟨lgA,0,none⟩) n cA)::(.slice (some ⟨lgB,0,none⟩) n cB)::s2::s3::s4::(.int .i64 i)::(.int .i64 k)::s7::s8::s9::s10::s11::s12::s13::s14::s15::s16::l9::kH::kS::s20::lF::lC::s23::s24::u25::u26::u27::u28::u29::u30::u31::u32::u33::u34::u35::u36::u37::u38::XV::[]),[]⟩) (HW:(Mv w0 H0 W (X++R)∧(b5=false→X=[])∧(b6=true→b5=true))) (hF:(b0=true→u25=.slice (some ⟨lgA,0,none⟩) n cA)∧(b1=true→u26=.int .i64 i)∧(b2=true→u27=.pointer (some ⟨lgA,i,none⟩))∧(b3=true→u28=.pointer (some ⟨bb,0,none⟩))∧(b4=true→u29=.int .i64 k)∧(b5=true→(b6=false→∃vp vb Hp Hb,u30=.agg #[.int .i64 pl,vp,vb]∧vM vp ps Hp∧dR vb bs Hb∧X=Hp++Hb))∧(b6=true→(∃vq vb Hq Hb,u31=.agg #[.int .i64 pl,vq,vb]∧lH vq ps Hq∧dR vb bs Hb∧X=Hq++Hb))∧(b7=true→u32=.slice (some ⟨lgB,0,none⟩) n cB)∧(b8=true→u33=.int .i64 i)∧(b9=true→u34=.pointer (some ⟨lgB,i,none⟩))∧(b10=true→u35=.pointer (some ⟨b,0,none⟩))∧(b11=true→u36=.int .i64 k)∧(b12=true→u37=.agg #[.int .i64 pl,pv,bv])∧(b13=true→u38=.bool true)∧(b14=true→XV=.bool false):=by and_intros<;>first|assumption|exact fun _=>rfl|(simp only[bM,bI,aI]<;>assumption)):Oy bQ a W
theorem adE(CE:Hid (∀V A',Mv w0 H0 V (A'++R)→V.cell? ⟨lgA,i,N_⟩=S_ (p_ (S_ ⟨bb,0,N_⟩))∧V.cell? ⟨lgB,i,N_⟩=S_ (p_ (S_ ⟨b,0,N_⟩))))(hin:(i:Int)<n)
 (BK:Hid (∀V,Mv w0 H0 V ([]++R)→Calls P_ 48 #[p_ (S_ ⟨bb,0,N_⟩),i_ l_ k] V fun e W'=>∃vp vb Hp Hb,e=r_ (g_ #[i_ l_ pl,vp,vb])∧vM vp ps Hp∧dR vb bs Hb∧Mv w0 H0 W' ((Hp++Hb)++R)))
 (TR:Hid (∀V vp vb Hp Hb,vM vp ps Hp→dR vb bs Hb→Mv w0 H0 V ((Hp++Hb)++R)→Calls P_ 47 #[g_ #[i_ l_ pl,vp,vb]] V fun e W'=>∃vq Hq,e=r_ (g_ #[i_ l_ pl,vq,vb])∧lH vq ps Hq∧Mv w0 H0 W' ((Hq++Hb)++R)))
 (RB:Hid (∀V A',Mv w0 H0 V (A'++R)→Calls P_ 49 #[p_ (S_ ⟨b,0,N_⟩),i_ l_ k] V fun e W'=>e=r_ (g_ #[i_ l_ pl,pv,bv])∧Mv w0 H0 W' (A'++R)))
 (SM:Hid (∀V vq vb Hq Hb,lH vq ps Hq→dR vb bs Hb→Mv w0 H0 V ((Hq++Hb)++R)→Calls P_ 46 #[g_ #[i_ l_ pl,vq,vb],g_ #[i_ l_ pl,pv,bv]] V fun e W'=>e=r_ (b_ T_)∧Mv w0 H0 W' ((Hq++Hb)++R)))
 (hM:Mv w0 H0 w R)
 (hk:∀(u25 u26 u27 u28 u29 u30 u31 u32 u33 u34 u35 u36 u37 u38 XV:Value) (X:List YtjngfhgakokejaaGreat.HB) (W:World),(Mv w0 H0 W (X++R)∧(T_=F_→X=[])∧(T_=T_→T_=T_))→(XV=b_ F_)→K ⟨List.toArray ((s_ (S_ ⟨lgA,0,N_⟩) n cA)::(s_ (S_ ⟨lgB,0,N_⟩) n cB)::s2::s3::s4::(i_ l_ i)::(i_ l_ k)::s7::s8::s9::s10::s11::s12::s13::s14::s15::s16::l9::kH::kS::s20::lF::lC::s23::s24::u25::u26::u27::u28::u29::u30::u31::u32::u33::u34::u35::u36::u37::u38::XV::[]),[]⟩ W):
 (dQ 7 Tryz.f14).wp P_ (Exit.then K qX) ⟨List.toArray ((s_ (S_ ⟨lgA,0,N_⟩) n cA)::(s_ (S_ ⟨lgB,0,N_⟩) n cB)::s2::s3::s4::(i_ l_ i)::(i_ l_ k)::s7::s8::s9::s10::s11::s12::s13::s14::s15::s16::l9::kH::kS::s20::lF::lC::s23::s24::kZ::s26::kW::kR::kY::lu::lJ::lK::lI::lL::lD::s36::lY::lX::mG::[]),[]⟩ w:=by
 conv in(dQ _ _)=>whnf
 unfold qX;have HK:=af hk;clear hk;refine jS (by kernel_rfl) [[],[],[0,1],[2],[],[3,4],[5,5],[],[],[7,8],[9],[],[10,11,6],[6,12,12],[13]] [0,1,2,3,4,5,6,7,8,9,10,11,12,13,14] (by kernel_rfl) (by kernel_rfl) (@Oy lgA lgB n cA cB i bb b k pl pv bv ps bs R H0 w0 s2 s3 s4 s7 s8 s9 s10 s11 s12 s13 s14 s15 s16 l9 kH kS s20 lF lC s23 s24) ?_ ?_ ?_
 ·refine .mk (X:=[]) rfl rfl ⟨hM.drew,fun _=>rfl,(fun e=>nomatch e)⟩ ⟨nofun,nofun,nofun,nofun,nofun,nofun,nofun,nofun,nofun,nofun,nofun,nofun,nofun,nofun,nofun⟩
 ·rintro _ _ W ⟨rfl,rfl,HW,-,-,-,-,-,-,-,-,-,-,-,-,-,-,JH⟩ hb;simp only[List.all_cons,List.all_nil,dO,kJ]at hb;obtain⟨rfl,rfl,rfl,rfl,rfl,rfl,rfl,rfl,rfl,rfl,rfl,rfl,rfl,rfl,rfl⟩:=hb;exact HK _ _ _ _ _ _ _ _ _ _ _ _ _ _ _ _ W HW (JH rfl)
 ·rintro _ _ W i @⟨_,_,_,_,_,_,b6,_,_,_,_,_,_,_,_,_,_,_,_,_,_,_,_,_,_,_,_,_,_,_,X,rfl,rfl,HW,h0,h1,h2,h3,h4,h5,h6,h7,h8,h9,h10,h11,h12,h13,JH⟩ hi hi2 zp;have hi4:i=5∨i=6∨i=12∨i=13∨i=0∨i=1∨i=2∨i=3∨i=4∨i=7∨i=8∨i=9∨i=10∨i=11∨i=14:=(by have:i<15:=hi;omega);clear hi;rcases hi4 with rfl|rfl|rfl|rfl|rfl|rfl|rfl|rfl|rfl|rfl|rfl|rfl|rfl|rfl|rfl
  all_goals simp at hi2 zp;(repeat obtain⟨_,zp⟩:=zp);(try subst_vars);try simp only[bM,bI,aI]at h0 h1 h2 h3 h4 h5 h6 h7 h8 h9 h10 h11 h12 h13 JH
  all_goals try subst_vars
  all_goals refine jm rfl (fun K hK=>?_)
  ·obtain rfl:b6=F_:=by cases b6;rfl;cases(HW.2.2 rfl)
   obtain rfl:=HW.2.1 rfl;go_simp;go_at_call 48
   (with_reducible refine(BK.out W HW.1).mono ?_)
   rintro e9 w9 ⟨vp,vb,Hp,Hb,rfl,r1,r2,m9⟩;refine hK _ _ (.mk (X:=Hp++Hb) rfl rfl ⟨m9,(fun e=>nomatch e),(fun e=>nomatch e)⟩ ?_);and_intros<;>first|assumption|exact fun _=>rfl|(simp only[bM,bI,aI]<;>assumption)|exact fun _ _=>⟨vp,vb,Hp,Hb,rfl,r1,r2,rfl⟩|exact nofun
  ·obtain⟨vp,vb,Hp,Hb,e30,r1,r2,eX⟩:=h5;subst e30 eX;go_simp;go_at_call 47
   (with_reducible refine(TR.out W vp vb Hp Hb r1 r2 HW.1).mono ?_)
   rintro e9 w9 ⟨vq,Hq,rfl,r3,m9⟩;refine hK _ _ (.mk (X:=Hq++Hb) rfl rfl ⟨m9,(fun e=>nomatch e),(fun _=>rfl)⟩ ?_);and_intros<;>first|assumption|exact fun _=>rfl|(simp only[bM,bI,aI]<;>assumption)|exact fun _=>⟨vq,vb,Hq,Hb,rfl,r3,r2,rfl⟩|exact fun _ e=>nomatch e
  ·go_simp;go_at_call 49
   (with_reducible refine(RB.out W X HW.1).mono ?_)
   rintro e9 w9 ⟨rfl,m9⟩;exact hK _ _ (.mk rfl rfl ⟨m9,HW.2.1,HW.2.2⟩)
  ·obtain⟨vq,vb,Hq,Hb,e31,r1,r2,eX⟩:=h6;subst e31 eX;go_simp;go_at_call 46
   (with_reducible refine(SM.out W vq vb Hq Hb r1 r2 HW.1).mono ?_)
   rintro e9 w9 ⟨rfl,m9⟩;refine hK _ _ (.mk rfl rfl ⟨m9,HW.2.1,HW.2.2⟩ ?_);and_intros<;>first|assumption|exact fun _=>rfl|(simp only[bM,bI,aI]<;>assumption)|exact fun _=>⟨vq,vb,Hq,Hb,rfl,r1,r2,rfl⟩|exact fun _ e=>nomatch e
  all_goals first|(go_simp;exact hK _ _ (.mk rfl rfl HW))|(obtain⟨y0,y1⟩:=CE W X HW.1;go_simp;exact hK _ _ (.mk rfl rfl HW))
end
theorem ae3{A:Option Addr}{c:Nat}{D:List bu}{HL:List HB}(h:zn (s_ A D.length c) D HL){i:Nat}{d:bu}(hd:D[i]?=S_ d):∃g,A=S_ ⟨g,0,N_⟩∧∀V,Sat V HL→V.cell? ⟨g,i,N_⟩=S_ (p_ (S_ ⟨d.bb,0,N_⟩)):=by
 have hi:=(aj.1 hd).1;obtain⟨g,cap,cur,hv,-⟩:=dh.form h (by omega);injection hv with h1 h2 h3;refine⟨g,h1,fun V hV=>?_⟩;have e:(Value.slice A D.length c)=s_ (S_ ⟨g,0,N_⟩) D.length c:=by rw[h1]
 have:=(dh.cell h hV e i (by omega)).1;rw[this,aV,hd];rfl
theorem aaJ(A1 A2:Option Addr)(c1 c2 n:Nat)(Bs:List Nat)(D:List bu)(M:Nat→aT)(HL1 HB1 HL2 HB2 R H0:List HB)(w0 W:World)
 (hL1:zn (s_ A1 D.length c1) D HL1) (hB1:iK D M HB1) (hL2:wZ (s_ A2 n c2) Bs HL2) (hB2:gJ vN Bs D M HB2) (hM:Mv w0 H0 W (HL1++(HB1++(HL2++(HB2++R))))) (hn:D.length=n) (hn3:n≤1000) (hnd:(D.map (·.bb)).Nodup) (hdn:∀d∈D,(M d.bb).ss.length=d.n∧d.n≤1000):
 Calls P_ 14 #[s_ A1 D.length c1,s_ A2 n c2] W fun e w'=>e=r_ (b_ T_)∧Mv w0 H0 w' (HL1++(HB1++(HL2++(HB2++R)))):=by
 have hbl:Bs.length=n:=hB2.len.trans hn;rw[hn]at hL1⊢;have hkeys:(keys HB1).Nodup:=hM.sat.right.left.1;obtain⟨RR,hRR⟩:=X_ (HL1++(HB1++(HL2++(HB2++R))));have KI:=aiu hL1 hB1 hL2 hB2 hn hnd hbl hdn hkeys hRR;rw[hRR]at hM⊢;have K0:=af hM;clear hL1 hB1 hL2 hB2 hn hnd hbl hdn hkeys hRR hM;go_enter Tryz.func14,Tryz.ntmps14;go_wp2_with fail;go_loopg [5] n (fun mm s5 wx=>∃i:Nat,i≤n∧mm=n-i∧s5=i_ l_ i∧Mv w0 H0 wx RR)
 case atStart=>exact⟨0,aY _,rfl,rfl,K0.out⟩
 case round=>
  clear K0;obtain⟨i,hi,rfl,rfl,m⟩:=hrel;by_cases hlt:i<n
  ·have d1:decide ((i:Int)<n)=T_:=aQ (by omega);obtain⟨hL1,hB1,hL2,hB2,hn,hnd,hbl,hdn,hkeys,hRR⟩:=KI.out;obtain⟨b,hbb⟩:∃b,Bs[i]?=S_ b:=⟨_,ai (by rw[hbl];exact hlt)⟩;obtain⟨d,hd⟩:∃d,D[i]?=S_ d:=⟨_,ai (by rw[hn];exact hlt)⟩;have hdm:=aF hd;rw[←hn]at hL1;obtain⟨lgA,rfl,hcA⟩:=ae3 hL1 hd;obtain⟨lgB,rfl,hcB⟩:=JX hL2 hbb;obtain⟨P1,Q1,hBd,akH,-⟩:=hB1.split hkeys hdm;obtain⟨A3,H3,A4,hH3,⟨ff,fz,hR⟩,-⟩:=hB2.split hnd hbb hd;obtain⟨hdl,ama⟩:=hdn d hdm;obtain⟨nk,hnk⟩:=X_ (d.n);rw[hnk]at hdl ama;have SR:∀V,Sat V RR→(Sat V HL1∧Sat V P1∧Sat V HL2∧Sat V H3):=by intro V hV;rw[←hRR]at hV;have h1:=hV.right.left;have h2:Sat V (P1++Q1):=(akH.mv (Mv.refl h1)).sat;have h3:=hV.right.right.right.left;rw[hH3]at h3;exact⟨hV.left,h2.left,hV.right.right.left,h3.right.left⟩
   have hlen:∃va vc,∀V,Sat V RR→V.cell? ⟨b,1,N_⟩=S_ (s_ va nk vc):=by
    obtain⟨g,hg,rfl⟩:=id hR;obtain⟨va,vc,hvl⟩:=dh.slice hg.row;have hgl:g.G.length=nk:=by rw[←hdl,←hg.ss,aO]
    rw[hgl]at hvl;refine⟨va,vc,fun V hV=>?_⟩;have h:Sat V (jk b g.ti g.tu g.vl (M d.bb)::(g.Hl++(g.Hi++(g.Hu++g.G.flatMap gu.heap)))):=(SR V hV).2.2.2;rw[←hvl];exact(h.at_ 0 rfl).cell 1
   obtain⟨va,vc,hlen⟩:=hlen;have CE:Hid (∀V A',Mv w0 H0 V (A'++RR)→V.cell? ⟨lgA,i,N_⟩=S_ (p_ (S_ ⟨d.bb,0,N_⟩))∧V.cell? ⟨lgB,i,N_⟩=S_ (p_ (S_ ⟨b,0,N_⟩))):=af (fun V A' m=>by obtain⟨s1,s2,s3,s4⟩:=SR V m.sat.right;exact⟨hcA V s1,hcB V s3⟩);have BS:=af (fun(k:Int)=>Zt b (M d.bb) ff fz H3 hR (by omega) k);have BB:=af (fun(k:Int) V (h:Sat V P1)=>adm d (M d.bb) P1 V hBd h k);have SR:=af SR;have LE:=af hlen;have y1:=hlen wr m.sat;have y0:=hcB wr (SR wr m.sat).2.2.1;have K1:=af m;have hiI:(i:Int)<n:=by omega
   have hi3:i≤1000:=by omega
   clear hL1 hB1 hL2 hB2 hnd hbl hdn hkeys hRR hbb hd hdm hcA hcB hBd akH hH3 hR hlen m hdl hnk;rw[hn]at*;go_upto_region 4 with fail;clear y0 y1;go_wp2_with fail;go_loopg [6] (nk+2) (fun mm s6 wx=>∃(j:Nat) (k:Int),j≤nk+2∧mm=nk+2-j∧k=(j:Int)-1∧s6=i_ l_ k∧Mv w0 H0 wx RR)
   case atStart=>exact⟨0,-1,aY _,rfl,rfl,rfl,K1.out⟩
   case round=>
    clear K1;obtain⟨j,k,hj,rfl,hk,rfl,m⟩:=hrel;have y1:=LE wr m.sat;obtain⟨y2,y0⟩:=CE wr [] m;have HJ:=af hk;have hkb: -1≤k∧k≤1001:=by omega
    by_cases hjt:j<nk+2
    ·have d2:decide (k≤(nk:Int))=T_:=aQ (by omega);obtain⟨vp,vb,Hp,Hb,r1,r2,r3,r4,r5⟩:=BS k;have K1:=af m;have KB:=LH r1 r2 r3 r4 r5;clear r1 r2 r3 r4 r5 m hk;go_upto_region 7 with fail;refine ik (adE _ lgA lgB n c1 c2 i d.bb b k (xZ (M d.bb) k).pl vp vb (xZ (M d.bb) k).ps (xZ (M d.bb) k).bs RR H0 w0 wr CE hiI (af fun V mv=>?_) (af fun V xp xb Xp Xb h1 h2 mv=>?_) (af fun V A' mv=>?_) (af fun V xq xb Xq Xb h1 h2 mv=>?_) K1.out ?_)
     ·refine(BB k V (SR V mv.sat).2.1).mono ?_;rintro e w' ⟨xp,xb,Xp,Xb,rfl,q1,q2,q3⟩;exact⟨xp,xb,Xp,Xb,rfl,q1,q2,Mv.call (H:=[]) mv q3⟩
     ·obtain⟨ba,bc,rfl⟩:=h2.slice;refine(aaO _ xp ba _ bc _ Xp V h1 mv.sat.left.left KB.2.2.1).mono ?_;rintro e w' ⟨xq,Xq,rfl,q1,q2⟩;refine⟨xq,Xq,rfl,q1,?_⟩;have m1:Mv w0 H0 V (Xp++(Xb++RR)):=by rw[←az];exact mv
      exact(Mv.call m1 q2).Z_
     ·refine(KB.2.2.2.2 V (SR V mv.sat.right).2.2.2).mono ?_;rintro e w' ⟨rfl,q1⟩;exact⟨rfl,Mv.call (H:=[]) (H':=[]) mv q1⟩
     ·obtain⟨t1,t2⟩:=KB.2.2.2.1 V (SR V mv.sat.right).2.2.2;refine(Zg _ xq vp xb vb _ _ Xq Hp Xb Hb V h1 KB.1 h2 KB.2.1 mv.sat.left.left t1 mv.sat.left.right t2 KB.2.2.1).mono ?_;rintro e w' ⟨rfl,q1⟩;exact⟨rfl,Mv.call (H:=[]) (H':=[]) mv q1⟩
     rintro _ _ _ _ _ _ _ _ _ _ _ _ _ _ XV X w5 ⟨m5,-,-⟩ h39;subst h39;have K5:Hid (Mv w0 H0 w5 RR):=af (m5.sub (fun g=>by simp only[aP];omega) (fun x hx=>aS _ hx));clear m5 y0 y1 y2;go_wp2_with fail;go_roundg (nk+2-(j+1))
     case measure=>omega
     case rel=>exact⟨j+1,k+1,by omega,rfl,by have:=HJ.out;push_cast;omega,rfl,K5.out⟩
    ·have d2:decide (k≤(nk:Int))=F_:=aW (by omega);have K1:=af m;clear m hk;go_wp2_with fail;go_roundg (n-(i+1))
     case measure=>omega
     case rel=>exact⟨i+1,hlt,rfl,by push_cast;rfl,K1.out⟩
  ·obtain rfl:i=n:=by omega
   have d1:decide ((i:Int)<i)=F_:=by simp
   have K1:=af m;clear m;go_wp2_with fail;go_ret;exact⟨rfl,K1.out⟩
end
end Go.Proofs.YtjngfhgakokejaaGreat
