/- PacketReads: part 12. -/
import Derived.Test.YtjngfhgakokejaaGreatRq11
set_option maxRecDepth 100000
set_option maxHeartbeats 8000000
set_option linter.all false
namespace Go.Proofs.YtjngfhgakokejaaGreat
open Value renaming int→i_,slice→s_,pointer→p_,bool→b_,agg→g_,tuple→t_
open IntKind renaming i64→l_
open Ending renaming returned→r_
open Tryz renaming prog→P_
open Option renaming some→S_,none→N_
open Bool renaming true→T_,false→F_
variable{s1 s2 s3 s4 s5 s6 s7 s8 s10 s12 s13 s14 s15 s16 l9 kH kS s20 lF lC s23 s24 kZ s26 kW kR kY lu lJ lK lI lL lD s36 lY lX mG ni mZ mY s43 s44 nI mF nH nK s49 mD mg lW s53 mX mQ mP mO nX nJ oU oQ pO qW qN qV rD rC s68 rM rJ sN s72 sK sJ ry ru rf s78 qZ rH rG s82 s83 uk uj xI s87 xH xG xF xE xn xk xC xA xy xw xR s0 s9 s11 zl oK oJ nT nS qj qh pY pX pG pF oI oH o9 oG nP nO nN nM oZ oW oV wK wJ wI wH wG wF wC wB wu vY vX vW uO yL yK yJ yI yH yG x9:Value}
section
open Go.RowKit
variable{vR:Value}
theorem Wh(rb:Nat)(l:List UInt8)(s:jG)(size:Int)(w:World)(H:List HB)(h:iq vR rb l s H)(hs:Sat w H)(hl:l.length≤90000000)(hb:s.begun≤70000000)(h8:s.left≤8):Calls P_ 118 #[p_ (S_ ⟨rb,0,N_⟩),i_ l_ size] w fun e w'=>e=r_ (i_ l_ ((yO l size s).1:Int))∧∃H',iq vR rb l (yO l size s).2 H'∧Mv w H w' H':=by
 by_cases hz:1≤size∧size≤32
 ·obtain⟨z,rfl⟩:=dW (a:=size) (by omega);have d1:decide ((z:Int)<1)=F_:=by simp;omega
  have d2:decide ((32:Int)<z)=F_:=by simp;omega
  have hz2:1≤z∧z≤32:=by omega
  have HG:Hid (yO l (z:Int) s=rdB l z s):=af (by unfold yO;rw[aK hz];simp);rw[HG.out];have K:=nY h hs h8;clear h hs hz HG;go_enter Tryz.func118,Tryz.ntmps118;go_wp2_with fail;go_loopg [5,6] z (fun g s5 s6 wx=>∃i:Nat,i≤z∧g=z-i∧s6=i_ l_ i∧s5=i_ l_ ((rdB l i s).1:Int)∧∃H',iq vR rb l (rdB l i s).2 H'∧Mv w H wx H')
  case atStart=>exact⟨0,aY _,rfl,rfl,rfl,H,K.1,Mv.refl K.2.1⟩
  case round=>
   obtain⟨wa,rfl⟩:∃wa:World,wa=wr:=⟨_,rfl⟩;obtain⟨i,hik,rfl,rfl,rfl,H1,h1,m1⟩:=hrel;by_cases hlt:i<z
   ·have d3:decide ((i:Int)<z)=T_:=by simp;omega
    obtain⟨q1,q2,q3⟩:=wM l s K.2.2 i;obtain⟨p1,p2,p3⟩:=jD l (rdB l i s).2 q2;have B1:=af (Iu rb l (rdB l i s).2 wa H1 h1 m1.sat hl (by omega) q2);have q4:(rdB l i s).1<4294967296:=eH q1 (fB (n:=2) (by decide) (show i≤32 by omega));have E1:Hid (rdB l (i+1) s=(2*(rdB l i s).1+(eY l (rdB l i s).2).1,(eY l (rdB l i s).2).2)):=af rfl;generalize(rdB l i s).1=n at*;generalize(eY l (rdB l i s).2).1=b at*;have M1:=af m1;have OB:=dS (or_bit n b p1 q4) (aah n b p1 q4);clear h1 m1 q1 p1;go_wp2_with (go_at_call 93;refine B1.out.mono ?_;rintro e w2 ⟨rfl,H2,h2,m2⟩;have K2:=dS h2 (M1.out.trans m2);clear h2 m2);go_roundg (z-(i+1))
    case measure=>omega
    case rel=>
     refine⟨i+1,hlt,rfl,by go_num,?_,H2,by rw[E1.out];exact K2.1,K2.2⟩;rw[E1.out]
     first|rw[OB.1]|rw[OB.2]|exact fM (Value.int IntKind.i64) OB.1|exact fM (Value.int IntKind.i64) OB.2
   ·obtain rfl:i=z:=by omega
    have d3:decide ((i:Int)<i)=F_:=by simp
    go_wp2_with fail;go_ret;exact⟨rfl,H1,h1,m1⟩
 ·have HG:Hid (yO l size s=(0,s)):=af (by unfold yO;rw[aJ hz]);rw[HG.out];have K:=dS h (Mv.refl hs);clear h hs HG;by_cases h1:size<1
  ·have d1:decide (size<1)=T_:=aQ h1;clear hz;go_enter Tryz.func118,Tryz.ntmps118;go_wp2_with fail;go_ret;exact⟨rfl,H,K.1,K.2⟩
  ·have d1:decide (size<1)=F_:=aW h1;have h2:32<size:=by omega
   have d2:decide (32<size)=T_:=aQ h2;clear hz;go_enter Tryz.func118,Tryz.ntmps118;go_wp2_with fail;go_ret;exact⟨rfl,H,K.1,K.2⟩
theorem ag3(rb:Nat)(l:List UInt8)(s:jG)(W:World)(H:List HB)(h:iq vR rb l s H)(hs:Sat W H)(hl:l.length≤90000000)(hb:s.begun≤70000000):Calls P_ 44 #[p_ (S_ ⟨rb,0,N_⟩)] W fun e w'=>e=r_ (t_ #[i_ l_ ((zJ l s).1:Int),i_ l_ ((zJ l s).2:Int)])∧Mv W H w' H:=by
 obtain⟨Hr,rfl,hr⟩:=h;obtain⟨a,vc,rfl⟩:=hr.slice;obtain⟨n,hn⟩:=X_ (l.length);rw[hn]at hr hs hl⊢;obtain⟨P,hP⟩:=X_ (s.begun);obtain⟨cur,Xi⟩:=X_ ((mJ l P).toNat);obtain⟨cut,hcut⟩:=X_ (decide (n<P));obtain⟨left,hleft⟩:=X_ (s.left);obtain⟨bad,hbad⟩:=X_ (s.bad);have hc255:cur=255↔mJ l P=255:=by rw[←Xi];exact⟨fun h=>gU.1 h,fun h=>by rw[h];rfl⟩
 have hcb:cur≤255:=by have:=jM (mJ l P);omega
 have hp0:cur=255→0<P:=by
  intro h;rcases iZ P with e|e
  ·rw[e]at Xi;have h9:mJ l 0=0:=rfl;rw[h9]at Xi;rw[←Xi]at h;exact absurd h (by decide)
  ·exact e
 obtain⟨E,hE⟩:=X_ (zJ l s);have HE:Hid (E=if n<(if cur=255 then P+1 else P)then(0,8)else if(if cur=255 then bad||decide (128≤(l.getD P 0).toNat)else bad)=T_ then(0,10)else((if cur=255 then P+1 else P),0)):=af (by
  rw[←hE];unfold zJ;rw[hP,hbad,hn];by_cases h:mJ l P=255
  ·simp only[aK h,aK (hc255.2 h)]
  ·simp only[aJ h,aJ (fun x=>h (hc255.1 x))])
 rw[hE,hP,Xi,hleft,hbad,hcut];rw[hP,Xi,hleft,hbad,hcut]at hs;rw[hP]at hb;have M0:=Mv.refl hs;obtain⟨xb,hxb⟩:=X_ (W.heap.size);have M1:=M0.alloc 172 #[s_ a n vc,i_ l_ P,i_ l_ cur,i_ l_ left,b_ cut,b_ bad];obtain⟨w1,hw1⟩:=Y_ (W.alloc (.cells #[s_ a n vc,i_ l_ P,i_ l_ cur,i_ l_ left,b_ cut,b_ bad] 172));rw[←hw1,hxb]at M1;obtain⟨H0,hH0⟩:=X_ (Q3 rb (s_ a n vc) P cur left cut bad::Hr);rw[hH0]at M1 M0⊢;have M2:Mv W H0 w1 ((Q3 xb (s_ a n vc) P cur left cut bad::Hr)++[Q3 rb (s_ a n vc) P cur left cut bad]):=M1.sub (fun g=>by rw[←hH0];simp only[Q3,aP,bK,gI];omega) (fun c hc=>by rw[←hH0];simp only[Q3,ay,aC,bP,gQ]at hc⊢;grind);have NX:=af (Pn xb l (s_ a n vc) Hr P cur left cut bad w1 (by rw[←hn];rw[←hn]at hr;exact hr) M2.sat.left (by omega) (by omega) hp0 hcb);have FIN:Hid (∀V C B P' cur' left',Mv W H0 V ((Q3 xb (s_ a n vc) P' cur' left' C B::Hr)++[Q3 rb (s_ a n vc) P cur left cut bad])→Mv W H0 V H0):=af (by
  intro V C B P' cur' left' m;refine m.sub (fun g=>?_) (fun c hc=>?_)
  ·rw[←hH0];simp only[Q3,aP,bK,gI];omega
  ·rw[←hH0]at hc;simp only[Q3,ay,aC,bP,gQ]at hc⊢;grind)
 have c0:W.cell? ⟨rb,0,N_⟩=S_ (s_ a n vc):=by have m:=M0;rw[←hH0]at m;exact m.cell 0 rfl 0
 have c1:W.cell? ⟨rb,1,N_⟩=S_ (i_ l_ P):=by have m:=M0;rw[←hH0]at m;exact m.cell 0 rfl 1
 have c2:W.cell? ⟨rb,2,N_⟩=S_ (i_ l_ cur):=by have m:=M0;rw[←hH0]at m;exact m.cell 0 rfl 2
 have c3:W.cell? ⟨rb,3,N_⟩=S_ (i_ l_ left):=by have m:=M0;rw[←hH0]at m;exact m.cell 0 rfl 3
 have c4:W.cell? ⟨rb,4,N_⟩=S_ (b_ cut):=by have m:=M0;rw[←hH0]at m;exact m.cell 0 rfl 4
 have c5:W.cell? ⟨rb,5,N_⟩=S_ (b_ bad):=by have m:=M0;rw[←hH0]at m;exact m.cell 0 rfl 5
 have K2:=af M2;have HW1:=af hw1;obtain⟨C2,hC2⟩:=X_ ((cut||decide (n≤P)));obtain⟨B2,hB2⟩:=X_ ((bad||decide (128≤(l.getD P 0).toNat)));have eC2:Hid (C2=decide (n<P+1)):=af (by
  rw[←hC2,←hcut];by_cases h1:n≤P
  ·rw[aQ h1,aQ (show n<P+1 by omega),Bool.or_true]
  ·rw[aW h1,aW (show¬n<P by omega),aW (show¬n<P+1 by omega)];rfl)
 have aj2:=af hcut;rw[hB2]at HE;have HB2:=af hB2;rw[hn,hC2,hB2]at NX;have sc:Hid (w1.heap.size=w1.heap.size):=af rfl;clear hr hs M0 M1 M2 hw1 hH0 hE hcut hC2 hB2 hP Xi hleft hbad hn hc255;go_enter Tryz.func44,Tryz.ntmps44;go_upto_region 2 with fail;rw[←HW1.out]
 try simp only[hxb]
 clear c0 c1 c2 c3 c4 c5;have y1:w1.cell? ⟨xb,1,N_⟩=S_ (i_ l_ P):=K2.cell 0 rfl 1;have y2:w1.cell? ⟨xb,2,N_⟩=S_ (i_ l_ cur):=K2.cell 0 rfl 2;have y4:w1.cell? ⟨xb,4,N_⟩=S_ (b_ cut):=K2.cell 0 rfl 4;have y5:w1.cell? ⟨xb,5,N_⟩=S_ (b_ bad):=K2.cell 0 rfl 5;by_cases hw:cur=255
 ·have hp:=hp0 hw;subst hw;simp only[ji]at HE NX;go_upto_block 0 with(go_at_call 96;refine NX.out.mono ?_;rintro e w2 ⟨rfl,q1⟩;have K3:=af (Mv.call K2.out q1);clear q1);clear y1 y2 y4 y5;have z1:w2.cell? ⟨xb,1,N_⟩=S_ (i_ l_ (P+1:Nat)):=K3.cell 0 rfl 1;have z4:w2.cell? ⟨xb,4,N_⟩=S_ (b_ C2):=K3.cell 0 rfl 4;have z5:w2.cell? ⟨xb,5,N_⟩=S_ (b_ B2):=K3.cell 0 rfl 5;have FF:=af (FIN _ _ _ _ _ _ K3.out);by_cases hc:n<P+1
  ·have e1:C2=T_:=by rw[eC2.out,aQ hc]
   have e2:=HE.out;rw[aK hc]at e2;subst e1 e2;go_wp2_with fail;go_ret2;exact⟨rfl,FF.out⟩
  ·have e1:C2=F_:=by rw[eC2.out,aW hc]
   have e2:=HE.out;rw[aJ hc]at e2;subst e1;cases B2 with
   |true=>rw[aK rfl]at e2;subst e2;clear HE;go_wp2_with fail;go_ret2;exact⟨rfl,FF.out⟩
   |false=>rw[aJ (by simp)]at e2;subst e2;clear HE;go_wp2_with fail;go_ret2;exact⟨rfl,FF.out⟩
 ·have dw:((cur:Int)==255)=F_:=by simp;omega
  have hw2:¬(cur:Int)=255:=by omega
  have e0:=HE.out;rw[aJ hw,aJ hw]at e0;have FF:=af (FIN _ _ _ _ _ _ K2.out);have HE0:=af e0;clear e0 HE NX hp0;by_cases hp:0<P
  ·by_cases hc:n<P
   ·have e1:cut=T_:=by rw[←aj2.out,aQ hc]
    have e2:=HE0.out;rw[aK hc]at e2;subst e1 e2;go_wp2_with fail;go_ret2;exact⟨rfl,FF.out⟩
   ·have e1:cut=F_:=by rw[←aj2.out,aW hc]
    have e2:=HE0.out;rw[aJ hc]at e2;subst e1;cases bad with
    |true=>rw[aK rfl]at e2;subst e2;clear HE0;go_wp2_with fail;go_ret2;exact⟨rfl,FF.out⟩
    |false=>rw[aJ (by simp)]at e2;subst e2;clear HE0;go_wp2_with fail;go_ret2;exact⟨rfl,FF.out⟩
  ·have hc:¬n<P:=by omega
   have e1:cut=F_:=by rw[←aj2.out,aW hc]
   have e2:=HE0.out;rw[aJ hc]at e2;subst e1;cases bad with
   |true=>rw[aK rfl]at e2;subst e2;clear HE0;go_wp2_with fail;go_ret2;exact⟨rfl,FF.out⟩
   |false=>rw[aJ (by simp)]at e2;subst e2;clear HE0;go_wp2_with fail;go_ret2;exact⟨rfl,FF.out⟩
end
section
open Go.RowKit
variable{vR:Value}
theorem akj(K:Act→World→Prop)(tb g lg N nl vc lc i k:Nat)(z:dY)(u:Int)(w:World)(hi:i<nl)(hk:k<N)
 (c0:w.cell? ⟨tb,0,N_⟩=S_ (s_ (S_ ⟨g,0,N_⟩) N vc)) (c1:w.cell? ⟨lg,i,N_⟩=S_ (i_ l_ k))
 (e0:w.cell? ⟨g,k*4,N_⟩=S_ (i_ l_ z.n)) (e1:w.cell? ⟨g,k*4+1,N_⟩=S_ (i_ l_ z.low)) (e2:w.cell? ⟨g,k*4+2,N_⟩=S_ (b_ z.said)) (e3:w.cell? ⟨g,k*4+3,N_⟩=S_ (i_ l_ u))
 (hk1:k≤100000) (hn1:nl≤100000)
 (hK:∀(t32 t33 t34 t35 t36 t37 t38 t39 t40 t41:Value),K ⟨List.toArray ((p_ (S_ ⟨tb,0,N_⟩))::s1::s2::s3::s4::s5::s6::s7::s8::(s_ (S_ ⟨lg,0,N_⟩) nl lc)::s10::(i_ l_ i)::(p_ (S_ ⟨w.heap.size,0,N_⟩))::s13::s14::s15::s16::l9::kH::kS::s20::lF::lC::s23::s24::kZ::s26::kW::kR::kY::lu::lJ::t32::t33::t34::t35::t36::t37::t38::t39::t40::t41::mY::s43::s44::nI::mF::nH::nK::s49::mD::mg::lW::s53::mX::mQ::mP::mO::nX::nJ::oU::oQ::pO::qW::qN::qV::rD::rC::s68::rM::rJ::sN::s72::sK::sJ::ry::ru::rf::s78::qZ::rH::rG::s82::s83::uk::uj::xI::s87::xH::xG::xF::xE::xn::xk::xC::xA::xy::xw::xR::[]),[]⟩ (w.alloc (.cells #[i_ l_ z.n,i_ l_ z.low,b_ z.said,i_ l_ u] 162)).drew):
 (dQ 8 Tryz.f94).wp P_ (Exit.then K qX) ⟨List.toArray ((p_ (S_ ⟨tb,0,N_⟩))::s1::s2::s3::s4::s5::s6::s7::s8::(s_ (S_ ⟨lg,0,N_⟩) nl lc)::s10::(i_ l_ i)::s12::s13::s14::s15::s16::l9::kH::kS::s20::lF::lC::s23::s24::kZ::s26::kW::kR::kY::lu::lJ::lK::lI::lL::lD::s36::lY::lX::mG::ni::mZ::mY::s43::s44::nI::mF::nH::nK::s49::mD::mg::lW::s53::mX::mQ::mP::mO::nX::nJ::oU::oQ::pO::qW::qN::qV::rD::rC::s68::rM::rJ::sN::s72::sK::sJ::ry::ru::rf::s78::qZ::rH::rG::s82::s83::uk::uj::xI::s87::xH::xG::xF::xE::xn::xk::xC::xA::xy::xw::xR::[]),[]⟩ w:=by
 conv in(dQ _ _)=>whnf
 unfold qX;have HK:=af hK;clear hK;have MA:=iF w 162 #[i_ l_ 0,i_ l_ 0,b_ F_,i_ l_ 0];have od:∀(a:Addr) (v:Value),w.cell? a=S_ v→(w.alloc (.cells #[i_ l_ 0,i_ l_ 0,b_ F_,i_ l_ 0] 162)).cell? a=S_ v:=fun a v h=>(MA.tC.cell (gZ w _ h)).trans h;have c0':=od _ _ c0;have c1':=od _ _ c1;have e0':=od _ _ e0;have e1':=od _ _ e1;have e2':=od _ _ e2;have e3':=od _ _ e3;clear od MA;go_region_law fail
 all_goals exact HK _ _ _ _ _ _ _ _ _ _
theorem aki(K:Act→World→Prop)(xb:Nat)(a lo:Int)(w:World)(c1:w.cell? ⟨xb,1,N_⟩=S_ (i_ l_ a))(f1:w.frozen? ⟨xb,1,N_⟩=F_)
 (hK:∀(t42 t43 t44 t45 t46:Value),K ⟨List.toArray (s0::s1::s2::s3::s4::s5::s6::s7::s8::s9::(i_ l_ lo)::s11::(p_ (S_ ⟨xb,0,N_⟩))::s13::s14::s15::s16::l9::kH::kS::s20::lF::lC::s23::s24::kZ::s26::kW::kR::kY::lu::lJ::lK::lI::lL::lD::s36::lY::lX::mG::ni::mZ::t42::t43::t44::t45::t46::nH::nK::s49::mD::mg::lW::s53::mX::mQ::mP::mO::nX::nJ::oU::oQ::pO::qW::qN::qV::rD::rC::s68::rM::rJ::sN::s72::sK::sJ::ry::ru::rf::s78::qZ::rH::rG::s82::s83::uk::uj::xI::s87::xH::xG::xF::xE::xn::xk::xC::xA::xy::xw::xR::[]),[]⟩ (w.setCell ⟨xb,1,N_⟩ (i_ l_ (max a lo)))):
 (dQ 9 Tryz.f94).wp P_ (Exit.then K qX) ⟨List.toArray (s0::s1::s2::s3::s4::s5::s6::s7::s8::s9::(i_ l_ lo)::s11::(p_ (S_ ⟨xb,0,N_⟩))::s13::s14::s15::s16::l9::kH::kS::s20::lF::lC::s23::s24::kZ::s26::kW::kR::kY::lu::lJ::lK::lI::lL::lD::s36::lY::lX::mG::ni::mZ::mY::s43::s44::nI::mF::nH::nK::s49::mD::mg::lW::s53::mX::mQ::mP::mO::nX::nJ::oU::oQ::pO::qW::qN::qV::rD::rC::s68::rM::rJ::sN::s72::sK::sJ::ry::ru::rf::s78::qZ::rH::rG::s82::s83::uk::uj::xI::s87::xH::xG::xF::xE::xn::xk::xC::xA::xy::xw::xR::[]),[]⟩ w:=by
 conv in(dQ _ _)=>whnf
 unfold qX;have HK:=af hK;clear hK;by_cases h:a<lo
 ·have d:decide (a<lo)=T_:=aQ h;rw[show max a lo=lo by omega]at HK;go_wp2_with fail;exact HK _ _ _ _ _
 ·have d:decide (a<lo)=F_:=aW h;rw[show max a lo=a by omega]at HK;go_wp2_with fail;exact HK _ _ _ _ _
theorem ai3(K:Act→World→Prop)(tb g lg N nl vc lc i k xb:Nat)(z o:dY)(u o3:Int)(w:World)(hi:i<nl)(hk:k<N)
 (c0:w.cell? ⟨tb,0,N_⟩=S_ (s_ (S_ ⟨g,0,N_⟩) N vc)) (c1:w.cell? ⟨lg,i,N_⟩=S_ (i_ l_ k))
 (x0:w.cell? ⟨xb,0,N_⟩=S_ (i_ l_ z.n)) (x1:w.cell? ⟨xb,1,N_⟩=S_ (i_ l_ z.low)) (x2:w.cell? ⟨xb,2,N_⟩=S_ (b_ z.said)) (x3:w.cell? ⟨xb,3,N_⟩=S_ (i_ l_ u))
 (e0:w.cell? ⟨g,k*4,N_⟩=S_ (i_ l_ o.n)) (e1:w.cell? ⟨g,k*4+1,N_⟩=S_ (i_ l_ o.low)) (e2:w.cell? ⟨g,k*4+2,N_⟩=S_ (b_ o.said)) (e3:w.cell? ⟨g,k*4+3,N_⟩=S_ (i_ l_ o3))
 (f0:w.frozen? ⟨g,k*4,N_⟩=F_) (f1:w.frozen? ⟨g,k*4+1,N_⟩=F_) (f2:w.frozen? ⟨g,k*4+2,N_⟩=F_) (f3:w.frozen? ⟨g,k*4+3,N_⟩=F_)
 (hk1:k≤100000) (hn1:nl≤100000)
 (hK:∀(t67 t68 t69 t70 t71 t72 t73 t74 t75 t76:Value),K ⟨List.toArray ((p_ (S_ ⟨tb,0,N_⟩))::s1::s2::s3::s4::s5::s6::s7::s8::(s_ (S_ ⟨lg,0,N_⟩) nl lc)::s10::(i_ l_ i)::(p_ (S_ ⟨xb,0,N_⟩))::s13::s14::s15::s16::l9::kH::kS::s20::lF::lC::s23::s24::kZ::s26::kW::kR::kY::lu::lJ::lK::lI::lL::lD::s36::lY::lX::mG::ni::mZ::mY::s43::s44::nI::mF::nH::nK::s49::mD::mg::lW::s53::mX::mQ::mP::mO::nX::nJ::oU::oQ::pO::qW::qN::qV::rD::t67::t68::t69::t70::t71::t72::t73::t74::t75::t76::rf::s78::qZ::rH::rG::s82::s83::uk::uj::xI::s87::xH::xG::xF::xE::xn::xk::xC::xA::xy::xw::xR::[]),[]⟩ ((((w.setCell ⟨g,k*4,N_⟩ (i_ l_ z.n)).setCell ⟨g,k*4+1,N_⟩ (i_ l_ z.low)).setCell ⟨g,k*4+2,N_⟩ (b_ z.said)).setCell ⟨g,k*4+3,N_⟩ (i_ l_ u)).drew):
 (dQ 15 Tryz.f94).wp P_ (Exit.then K qX) ⟨List.toArray ((p_ (S_ ⟨tb,0,N_⟩))::s1::s2::s3::s4::s5::s6::s7::s8::(s_ (S_ ⟨lg,0,N_⟩) nl lc)::s10::(i_ l_ i)::(p_ (S_ ⟨xb,0,N_⟩))::s13::s14::s15::s16::l9::kH::kS::s20::lF::lC::s23::s24::kZ::s26::kW::kR::kY::lu::lJ::lK::lI::lL::lD::s36::lY::lX::mG::ni::mZ::mY::s43::s44::nI::mF::nH::nK::s49::mD::mg::lW::s53::mX::mQ::mP::mO::nX::nJ::oU::oQ::pO::qW::qN::qV::rD::rC::s68::rM::rJ::sN::s72::sK::sJ::ry::ru::rf::s78::qZ::rH::rG::s82::s83::uk::uj::xI::s87::xH::xG::xF::xE::xn::xk::xC::xA::xy::xw::xR::[]),[]⟩ w:=by
 conv in(dQ _ _)=>whnf
 unfold qX;have HK:=af hK;clear hK;have hiN:(i:Int)<nl:=by omega
 have hkN:(k:Int)<N:=by omega
 go_still_tail 10,(by kernel_rfl);go_wp2_with fail;exact HK _ _ _ _ _ _ _ _ _ _
theorem ahb(K:Act→World→Prop)(rb xb:Nat)(l:List UInt8)(b u:Int)(z:dY)(r:jG)(HW Y H0:List HB)(w0 w:World)(hw:iq vR rb l r HW)(m:Mv w0 H0 w (HW++(wO xb z u::Y)))(h0:0≤z.low)(hb:b≤1000)(hll:l.length≤90000000)(hrb:r.begun≤70000000)(h8:r.left≤8)
 (hK:∀(t47 t48 t49 t50 t51 t52 t53 t54 t55 t56 t57 t58 t59 t60 t61 t62 t63 t64 t65 t66:Value) (wx:World) (lM:List HB),iq vR rb l (decL l (b-z.low).toNat z b r).2 lM→Mv w0 H0 wx (lM++(wO xb (decL l (b-z.low).toNat z b r).1 u::Y))→K ⟨List.toArray (s0::(p_ (S_ ⟨rb,0,N_⟩))::s2::(i_ l_ b)::s4::s5::s6::s7::s8::s9::s10::s11::(p_ (S_ ⟨xb,0,N_⟩))::s13::s14::s15::s16::l9::kH::kS::s20::lF::lC::s23::s24::kZ::s26::kW::kR::kY::lu::lJ::lK::lI::lL::lD::s36::lY::lX::mG::ni::mZ::mY::s43::s44::nI::mF::t47::t48::t49::t50::t51::t52::t53::t54::t55::t56::t57::t58::t59::t60::t61::t62::t63::t64::t65::t66::rC::s68::rM::rJ::sN::s72::sK::sJ::ry::ru::rf::s78::qZ::rH::rG::s82::s83::uk::uj::xI::s87::xH::xG::xF::xE::xn::xk::xC::xA::xy::xw::xR::[]),[]⟩ wx):
 (jB 2 Tryz.f94).wp P_ (Exit.then K qX) ⟨List.toArray (s0::(p_ (S_ ⟨rb,0,N_⟩))::s2::(i_ l_ b)::s4::s5::s6::s7::s8::s9::s10::s11::(p_ (S_ ⟨xb,0,N_⟩))::s13::s14::s15::s16::l9::kH::kS::s20::lF::lC::s23::s24::kZ::s26::kW::kR::kY::lu::lJ::lK::lI::lL::lD::s36::lY::lX::mG::ni::mZ::mY::s43::s44::nI::mF::nH::nK::s49::mD::mg::lW::s53::mX::mQ::mP::mO::nX::nJ::oU::oQ::pO::qW::qN::qV::rD::rC::s68::rM::rJ::sN::s72::sK::sJ::ry::ru::rf::s78::qZ::rH::rG::s82::s83::uk::uj::xI::s87::xH::xG::xF::xE::xn::xk::xC::xA::xy::xw::xR::[]),[]⟩ w:=by
 conv in(jB _ _)=>whnf
 unfold qX;have HK:=af hK;have K0:=dS hw m;have HZ:=nY h0 hrb h8;clear hK hw m h0 hrb h8;obtain⟨E,hE⟩:=X_ (decL l (b-z.low).toNat z b r);rw[hE]at HK;have HE:=af hE;clear hE;go_wp2_with fail;go_loopg [] (if z.said=T_ then 0 else(b-z.low).toNat+1) (fun mm wx=>∃(z':dY) (r1:jG) (lM:List YtjngfhgakokejaaGreat.HB),mm=(if z'.said=T_ then 0 else(b-z'.low).toNat+1)∧0≤z'.low∧r1.left≤8∧r1.begun+(if z'.said=T_ then 0 else(b-z'.low).toNat+1)≤r.begun+((b-z.low).toNat+1)∧E=decL l (b-z'.low).toNat z' b r1∧iq vR rb l r1 lM∧Mv w0 H0 wx (lM++(wO xb z' u::Y)))
 case atStart=>refine⟨z,r,HW,rfl,HZ.1,HZ.2.2,?_,HE.symm,K0.1,K0.2⟩;split<;>omega
 case round=>
  clear K0;obtain⟨z',r1,HW1,rfl,h0,h8,hms,hEE,hw,m⟩:=hrel;obtain⟨n',jK,said'⟩:=z';simp only at h0 hms;have MB:Mv w0 H0 wr (wO xb ⟨n',jK,said'⟩ u::(HW1++Y)):=m.Z_;have c0:wr.cell? ⟨xb,0,N_⟩=S_ (i_ l_ n'):=MB.cell 0 rfl 0;have c1:wr.cell? ⟨xb,1,N_⟩=S_ (i_ l_ jK):=MB.cell 0 rfl 1;have c2:wr.cell? ⟨xb,2,N_⟩=S_ (b_ said'):=MB.cell 0 rfl 2;by_cases hgo:jK<b∧said'=F_
  ·obtain⟨hlb,rfl⟩:=hgo;have d1:decide (jK<b)=T_:=aQ hlb;have hbl:r1.begun≤80000000:=by have:=HZ.out;simp only[aI,iJ]at hms;omega
   have BT0:=Iu rb l r1 wr HW1 hw m.sat.left hll hbl h8;obtain⟨k1,k2,k3⟩:=jD l r1 h8;have KM:=af m;by_cases hnl:(eY l r1).1=1
   ·have e1:=Qy l (b-jK).toNat ⟨n',jK,F_⟩ b r1 ⟨hlb,rfl⟩ hnl rfl;rw[e1]at hEE;rw[hnl]at BT0;have BT:=af BT0;have KE:=nY hEE k2 k3;have acK:r1.begun+1+((b-jK).toNat)≤r.begun+((b-z.low).toNat+1):=by simp only[aI,iJ]at hms;omega
    clear hEE e1 hw m MB hms BT0 hnl k1 k2 k3;go_upto_region 12 with(go_at_call 93;(with_reducible refine BT.out.mono ?_);rintro e w2 ⟨rfl,HW2,q1,q2⟩;have K2:=dS q1 (Mv.call KM.out q2);clear q1 q2);have MC:Mv w0 H0 w2 (wO xb ⟨n',jK,F_⟩ u::(HW2++Y)):=K2.2.Z_;have y0:w2.cell? ⟨xb,0,N_⟩=S_ (i_ l_ n'):=MC.cell 0 rfl 0;have y1:w2.cell? ⟨xb,1,N_⟩=S_ (i_ l_ jK):=MC.cell 0 rfl 1;have y2:w2.cell? ⟨xb,2,N_⟩=S_ (b_ F_):=MC.cell 0 rfl 2;have yf:w2.frozen? ⟨xb,2,N_⟩=F_:=MC.frozen 0 rfl 2;have yg:w2.frozen? ⟨xb,0,N_⟩=F_:=MC.frozen 0 rfl 0;have MD:=(MC.set 2 (b_ T_)).set 0 (i_ l_ jK);have KD:Hid (Mv w0 H0 ((w2.setCell ⟨xb,2,N_⟩ (b_ T_)).setCell ⟨xb,0,N_⟩ (i_ l_ jK)) (HW2++(wO xb ⟨jK,jK,T_⟩ u::Y))):=af ((show Mv w0 H0 _ (wO xb ⟨jK,jK,T_⟩ u::(HW2++Y))from MD).Z_);clear MC MD c0 c1 c2;go_wp2_with fail;go_roundg 0
    case measure=>simp
    case rel=>
     refine⟨⟨jK,jK,T_⟩,(eY l r1).2,HW2,by simp,h0,KE.2.1,?_,?_,K2.1,KD.out⟩
     ·have:=KE.2.2;simp only[ji];omega
     ·rw[KE.1,zM _ _ _ _ _ (by simp)]
   ·obtain⟨e0,e1⟩:=Nh l (b-jK).toNat ⟨n',jK,F_⟩ b r1 ⟨hlb,rfl⟩ hnl rfl;rw[e1]at hEE;have hn0:(eY l r1).1=0:=by omega
    rw[hn0]at BT0;have BT:=af BT0;have KE:=nY hEE k2 k3;have acK:r1.begun+1+((b-(jK+1)).toNat+1)≤r.begun+((b-z.low).toNat+1):=by simp only[aI,iJ]at hms;omega
    clear hEE e1 e0 hw m MB hms BT0 hnl hn0 k1 k2 k3;go_upto_region 14 with(go_at_call 93;(with_reducible refine BT.out.mono ?_);rintro e w2 ⟨rfl,HW2,q1,q2⟩;have K2:=dS q1 (Mv.call KM.out q2);clear q1 q2);have MC:Mv w0 H0 w2 (wO xb ⟨n',jK,F_⟩ u::(HW2++Y)):=K2.2.Z_;have y1:w2.cell? ⟨xb,1,N_⟩=S_ (i_ l_ jK):=MC.cell 0 rfl 1;have yf:w2.frozen? ⟨xb,1,N_⟩=F_:=MC.frozen 0 rfl 1;have KD:Hid (Mv w0 H0 (w2.setCell ⟨xb,1,N_⟩ (i_ l_ (jK+1))) (HW2++(wO xb ⟨n',jK+1,F_⟩ u::Y))):=af ((show Mv w0 H0 _ (wO xb ⟨n',jK+1,F_⟩ u::(HW2++Y))from MC.set 1 (i_ l_ (jK+1))).Z_);clear MC c0 c1 c2;go_wp2_with fail;go_roundg ((b-(jK+1)).toNat+1)
    case measure=>first|(simp only[aI,iJ];omega)|omega|(simp;omega)
    case rel=>refine⟨⟨n',jK+1,F_⟩,(eY l r1).2,HW2,by simp,by simp only;omega,KE.2.1,?_,KE.1,K2.1,KD.out⟩;have:=KE.2.2;simp only[aI,iJ];omega
  ·have e1:=zM l (b-jK).toNat ⟨n',jK,said'⟩ b r1 hgo;rw[e1]at hEE;have hE1:E.1=⟨n',jK,said'⟩:=by rw[hEE]
   have hE2:E.2=r1:=by rw[hEE]
   rw[hE1,hE2]at HK;have KM:=dS hw m;clear hEE hE1 hE2 e1 hw m MB hms;by_cases hlb:jK<b
   ·have d1:decide (jK<b)=T_:=aQ hlb;obtain rfl:said'=T_:=by
     cases said' with
     |true=>rfl
     |false=>exact absurd ⟨hlb,rfl⟩ hgo
    clear hgo;go_wp2_with fail;exact HK _ _ _ _ _ _ _ _ _ _ _ _ _ _ _ _ _ _ _ _ _ HW1 KM.1 KM.2
   ·have d1:decide (jK<b)=F_:=aW hlb;clear hgo;go_wp2_with fail;exact HK _ _ _ _ _ _ _ _ _ _ _ _ _ _ _ _ _ _ _ _ _ HW1 KM.1 KM.2
end
section
open Go.RowKit
variable{vR:Value}
def Dj(l:List UInt8)(T:List bV)(x y:Nat)(b:Int)(r:jG)(j:Nat):List bV×Int×jG:=decT l (T.drop j) (x/2^j) (y/2^j) b r
def Sd(l:List UInt8)(T:List bV)(x y:Nat)(b:Int)(r:jG)(j:Nat):List bV:=T.take j++(Dj l T x y b r j).1
section
variable{l:List UInt8}{T:List bV}{x y j:Nat}{b:Int}{r:jG}{L:bV}
theorem aaI(h:T[j]?=S_ L):Dj l T x y b r j=(L.qY (x/2^j) (y/2^j) (pU l (zj L x y j) (Dj l T x y b r (j+1)).2.1 b (Dj l T x y b r (j+1)).2.2).1::(Dj l T x y b r (j+1)).1,(pU l (zj L x y j) (Dj l T x y b r (j+1)).2.1 b (Dj l T x y b r (j+1)).2.2).1.low,(pU l (zj L x y j) (Dj l T x y b r (j+1)).2.1 b (Dj l T x y b r (j+1)).2.2).2):=by
 have hj:=(aj.1 h).1;have e:T.drop j=L::T.drop (j+1):=by rw[fG hj];congr 1;exact(aj.1 h).2
 have ex:x/2^j/2=x/2^(j+1):=by rw[fE,Nat.pow_succ]
 have ey:y/2^j/2=y/2^(j+1):=by rw[fE,Nat.pow_succ]
 unfold Dj zj;rw[e];simp only[decT,ex,ey]
theorem B!:Dj l T x y b r T.length=([],0,r):=by unfold Dj;rw[List.drop_length];rfl
theorem aga:Sd l T x y b r T.length=T:=by unfold Sd;rw[B!,vP,dD]
theorem Sd_zero:Sd l T x y b r 0=(decT l T x y b r).1∧Dj l T x y b r 0=decT l T x y b r:=by unfold Sd Dj;simp
theorem agb(h:T[j]?=S_ L):(Sd l T x y b r (j+1))[j]?=S_ L:=by have hj:=(aj.1 h).1;unfold Sd;rw[df (by rw[bT];omega),iC,aK (by omega),h]
theorem aaF(h:T[j]?=S_ L):Sd l T x y b r j=(Sd l T x y b r (j+1)).set j (L.qY (x/2^j) (y/2^j) (pU l (zj L x y j) (Dj l T x y b r (j+1)).2.1 b (Dj l T x y b r (j+1)).2.2).1):=by
 have hj:=(aj.1 h).1;have e1:T.take (j+1)=T.take j++[L]:=by rw[eU,h];rfl
 unfold Sd;rw[aaI h,e1,az,dZ _ _ (by rw[bT];omega),bT,show j-min j T.length=0 by omega];rfl
theorem QX:∀(i:Nat),i≤T.length→(Sd l T x y b r (T.length-i)).map dM=T.map dM
 |0,_=>by rw[Nat.sub_zero,aga]
 |i+1,hi=>by
  have ih:=QX i (by omega);obtain⟨L,hL⟩:∃L,T[T.length-(i+1)]?=S_ L:=⟨_,ai (by omega)⟩;have e:T.length-(i+1)+1=T.length-i:=by omega
  rw[aaF hL,e,jb];have hs:∀z,dM (L.qY (x/2^(T.length-(i+1))) (y/2^(T.length-(i+1))) z)=dM L:=fun z=>by simp[dM,bV.qY]
  rw[hs,ih];exact Ea (by rw[aV,hL];rfl)
theorem aj7(h8:r.left≤8)(hT:T.length≤20)(hb:b≤1000)(j:Nat):(Dj l T x y b r j).2.2.left≤8∧(Dj l T x y b r j).2.2.begun≤r.begun+20000∧0≤(Dj l T x y b r j).2.1:=by obtain⟨-,h1,h2,h3⟩:=Ky l (T.drop j) (x/2^j) (y/2^j) b r h8;have h4:(T.drop j).length*b.toNat≤20*1000:=bZ (by rw[fH];omega) (by omega);unfold Dj;exact⟨h2,by omega,h1⟩
end
theorem abW(tb rb:Nat)(l:List UInt8)(T1:List bV)(fr:Bool)(H HW:List HB)(r:jG)(W:World)(x y:Nat)(b:Int)(L0:bV)(h:ku tb T1 fr H)(hw:iq vR rb l r HW)(hs:Sat W (H++HW))(hd1:Dims T1)(hst1:rE T1)(hL1:T1[0]?=S_ L0)(hx:x<L0.w)(hy:y<L0.h)
 (hN1:offT T1 T1.length≤100000) (hl:T1.length≤20) (hb:b≤1000) (hll:l.length≤90000000) (hrb:r.begun≤60000000) (h8:r.left≤8):
 Calls P_ 94 #[p_ (S_ ⟨tb,0,N_⟩),p_ (S_ ⟨rb,0,N_⟩),i_ l_ (y*L0.w+x:Nat),i_ l_ b] W fun e w'=>e=r_ (b_ (qM (leafT (decT l T1 x y b r).1 x y) b))∧∃H' lM,ku tb (decT l T1 x y b r).1 fr H'∧iq vR rb l (decT l T1 x y b r).2.2 lM∧Mv W (H++HW) w' (H'++lM):=by
 have M0:=Mv.refl hs;have WAY:Hid (Calls P_ 81 #[p_ (S_ ⟨tb,0,N_⟩),i_ l_ (y*L0.w+x:Nat)] W fun e w'=>∃v Hn,e=r_ v∧jy v ((wayI 0 T1 x y).map fun(k:Nat)=>(k:Int)) Hn∧Mv W (H++HW) w' (Hn++H++HW)):=af (by refine(VT tb T1 fr H W L0 x y h hs.left hL1 hd1 hst1 hx hy hN1 (by omega)).mono ?_;rintro e w' ⟨v,Hn,rfl,h1,h2⟩;exact⟨v,Hn,rfl,h1,Mv.call M0 h2⟩);have akR:L0.l.length=L0.w*L0.h:=hd1.len hL1;have hk0:y*L0.w+x<L0.l.length:=by rw[akR];exact nU hx hy
 have hlv:leavesM T1=L0.l.length:=by
  cases T1 with
  |nil=>simp at hL1
  |cons A U=>simp at hL1;subst hL1;rfl
 obtain⟨v0,Hl0,hH,hr0⟩:=h;have c1:W.cell? ⟨tb,1,N_⟩=S_ (i_ l_ L0.l.length):=by rw[hH]at hs;rw[←hlv];exact(Mv.refl hs.left).cell 0 rfl 1
 have AT:Hid (∀j L,T1[j]?=S_ L→x/2^j<L.w∧y/2^j<L.h):=af (fun j L hL=>hd1.at_ hL1 hx hy hL);have LEAF:Hid (∀(T2:List bV) (V:World) (g N c:Nat) (Hl R:List HB),T2.map dM=T1.map dM→dh 162 4 (s_ (S_ ⟨g,0,N_⟩) N c) N (kM (rnodes 0 T2)) Hl→Sat V (Hl++R)→V.cell? ⟨g,(y*L0.w+x)*4,N_⟩=S_ (i_ l_ (leafT T2 x y).n)∧V.cell? ⟨g,(y*L0.w+x)*4+2,N_⟩=S_ (b_ (leafT T2 x y).said)∧y*L0.w+x<N):=af (by
  intro T2 V g N c Hl R hsh hr hV;obtain⟨L2,hL2,e1,e2,e3⟩:=Bc hsh (j:=0) hL1;have hz:L2.l[y*L2.w+x]?=S_ (leafT T2 x y):=by
   cases T2 with
   |nil=>simp at hL2
   |cons A U=>simp at hL2;subst hL2;show A.l[y*A.w+x]?=S_ (A.at_ x y);unfold bV.at_;rw[ax,ai (by rw[e1,e3];exact hk0)];rfl
  have hg:=Bv 0 hL2 hz;have h0:offT T2 0=0:=by cases T2<;>rfl
  rw[h0,dH,dH,e1]at hg;have hN:y*L0.w+x<N:=by have h1:=(aj.1 hg).1;have h3:=hr.1;rw[vz]at h3;omega
  obtain⟨⟨r0,r1,r2,r3⟩,-⟩:=GM hr hV.left rfl hg hN;exact⟨r0,r2,hN⟩)
 obtain⟨k0,ζ⟩:=X_ (y*L0.w+x);obtain⟨ln,hln⟩:=X_ (L0.l.length);obtain⟨n,hn⟩:=X_ (T1.length);rw[ζ,hln]at hk0;rw[ζ]at WAY LEAF⊢;rw[hln]at c1;have d1:decide ((k0:Int)<0)=F_:=by simp
 have d2:decide ((ln:Int)≤k0)=F_:=by simp;omega
 have hn1:1≤n:=by have:=(aj.1 hL1).1;omega
 have BL:Hid (∀j,(Dj l T1 x y b r j).2.2.left≤8∧(Dj l T1 x y b r j).2.2.begun≤r.begun+20000∧0≤(Dj l T1 x y b r j).2.1):=af (fun j=>aj7 h8 hl hb j);have hNp:0<(rnodes 0 T1).length:=by have h1:=J8 hL1;rw[sS];simp only[offT,dH]at h1;omega
 have KX:=LH hd1 hN1 hlv hn hw;obtain⟨N,hNN⟩:=X_ ((rnodes 0 T1).length);rw[hNN]at hr0 hNp;obtain⟨g,vc,cur,rfl,-⟩:=hr0.form hNp;obtain⟨X,hX⟩:∃X:HB,X=yw tb (s_ (S_ ⟨g,0,N_⟩) N vc) (leavesM T1:Int) fr:=⟨_,rfl⟩;have hH2:H=X::Hl0:=by rw[hH,hX];rfl
 have hN5:N≤100000:=by have h1:=KX.2.1;rw[←hNN,sS];exact h1
 have KR0:=dS hr0 hH2;have alZ:n≤20:=by omega
 obtain⟨q0,hq0⟩:=X_ (qM (leafT (decT l T1 x y b r).1 x y) b);have HQ0:=af hq0;obtain⟨Q,hQ⟩:∃Q:World→Prop,Q=fun w'=>∃H' lM,ku tb (decT l T1 x y b r).1 fr H'∧iq vR rb l (decT l T1 x y b r).2.2 lM∧Mv W (H++HW) w' (H'++lM):=⟨_,rfl⟩;have HQ:=af hQ
 suffices hh:Calls P_ 94 #[p_ (S_ ⟨tb,0,N_⟩),p_ (S_ ⟨rb,0,N_⟩),i_ l_ k0,i_ l_ b] W fun e w'=>e=r_ (b_ q0)∧Q w' by refine hh.mono ?_;rintro e w' ⟨h1,h2⟩;rw[hQ]at h2;exact⟨by rw[hq0];exact h1,h2⟩
 clear M0 hQ hq0 hr0 hH ζ hln hN1 hl hst1 hd1 hL1 hs hx hy hw hn hH2 hlv akR h8;go_enter Tryz.func94,Tryz.ntmps94;go_upto_region 4 with(go_at_call 81;(with_reducible refine WAY.out.mono ?_);rintro e w2 ⟨v,Hn,rfl,q1,q2⟩;have K2:=dS q1 q2;clear q1 q2);clear WAY c1;have M2:Mv W (H++HW) w2 (HW++(Hl0++(X::Hn))):=by have h:=K2.2;rw[KR0.2]at h⊢;exact aiB h
 have hwl:((wayI 0 T1 x y).map fun(k:Nat)=>(k:Int)).length=n:=by rw[aO,yz];exact KX.2.2.2.1
 have RW:=K2.1;obtain⟨va,lc,rfl⟩:=RW.slice;rw[hwl]at RW⊢;obtain⟨lg,rfl⟩:=RW.form (by omega);have HX:=nY hX hNN RW;have K3:=af M2;clear M2 K2 hX hNN RW hwl hNp;go_wp2_with fail;go_loopg [10,11] n (fun mm s10 s11 wx=>∃(i:Nat) (Hl' lM:List YtjngfhgakokejaaGreat.HB),i≤n∧mm=n-i∧s11=i_ l_ i∧s10=i_ l_ (Dj l T1 x y b r (n-i)).2.1∧dh 162 4 (s_ (S_ ⟨g,0,N_⟩) N vc) N (kM (rnodes 0 (Sd l T1 x y b r (n-i)))) Hl'∧iq vR rb l (Dj l T1 x y b r (n-i)).2.2 lM∧Mv W (H++HW) wx (lM++(Hl'++(X::Hn))))
 case atStart=>
  refine⟨0,Hl0,HW,aY _,rfl,rfl,?_,?_,?_,K3.out⟩
  ·rw[Nat.sub_zero,←KX.2.2.2.1,B!]
  ·rw[Nat.sub_zero,←KX.2.2.2.1,aga];exact KR0.1
  ·rw[Nat.sub_zero,←KX.2.2.2.1,B!];exact KX.2.2.2.2
 case round=>
  clear K3 KR0;obtain⟨i,Hl2,HW2,hi,rfl,rfl,rfl,hr,hwr,m⟩:=hrel;by_cases hlt:i<n
  ·have d3:decide ((i:Int)<n)=T_:=by simp;omega
   obtain⟨j,hj⟩:∃j,n-i=j+1:=⟨n-i-1,by omega⟩;rw[hj]at hr hwr⊢;obtain⟨L,hL⟩:∃L,T1[j]?=S_ L:=⟨_,ai (by rw[KX.2.2.2.1];omega)⟩;obtain⟨hxj,hyj⟩:=AT j L hL;have hLl:=KX.1.len hL;have hp:y/2^j*L.w+x/2^j<L.l.length:=by rw[hLl];exact nU hxj hyj
   obtain⟨p,hpe⟩:=X_ (y/2^j*L.w+x/2^j);have hz:L.l[p]?=S_ (zj L x y j):=by unfold zj bV.at_;rw[hpe,ax,ai (by rw[←hpe];exact hp)];rfl
   have hoj:offT (Sd l T1 x y b r (j+1)) j=offT T1 j:=by have hs:=QX (l:=l) (T:=T1) (x:=x) (y:=y) (b:=b) (r:=r) i (by rw[KX.2.2.2.1];omega);rw[KX.2.2.2.1,hj]at hs;exact Fh (Ba hs) j
   have hg:=Bv 0 (agb (l:=l) (x:=x) (y:=y) (b:=b) (r:=r) hL) hz;have hst:=Jo 0 (agb (l:=l) (x:=x) (y:=y) (b:=b) (r:=r) hL) (p:=p) (by rw[←hpe];exact hp) (pU l (zj L x y j) (Dj l T1 x y b r (j+1)).2.1 b (Dj l T1 x y b r (j+1)).2.2).1;rw[hoj,dH]at hg hst;have hSt:(rnodes 0 (Sd l T1 x y b r (j+1))).set (offT T1 j+p) (JZ (offT T1 j) L.w L.h p,(pU l (zj L x y j) (Dj l T1 x y b r (j+1)).2.1 b (Dj l T1 x y b r (j+1)).2.2).1)=rnodes 0 (Sd l T1 x y b r j):=by rw[hst,aaF hL];unfold bV.qY;rw[hpe]
   have hwy:=OD T1 0 x y j L hL;rw[KX.2.2.2.1,show n-1-j=i by omega,dH,hpe]at hwy;obtain⟨k,hk⟩:=X_ (offT T1 j+p);rw[hk]at hg hSt hwy;have hkN:k<N:=by
    have h1:=(aj.1 hg).1;have h2:(rnodes 0 (Sd l T1 x y b r (j+1))).length=N:=by have h3:=hr.1;rw[vz]at h3;omega
    omega
   have hEs:=aaI (l:=l) (x:=x) (y:=y) (b:=b) (r:=r) hL;obtain⟨hb8,hbb,hlo0⟩:=BL (j+1);obtain⟨E1,hE1⟩:=X_ (Dj l T1 x y b r (j+1));rw[hE1]at hwr hSt hEs hb8 hbb hlo0⊢;obtain⟨z,hze⟩:=X_ (zj L x y j);rw[hze]at hg hSt hEs;obtain⟨u,hu⟩:=X_ (JZ (offT T1 j) L.w L.h p);rw[hu]at hg hSt;obtain⟨lo,hlo⟩:=X_ (E1.2.1);rw[hlo]at hlo0 hSt hEs⊢;obtain⟨r5,Ob⟩:=X_ (E1.2.2);rw[Ob]at hwr hb8 hbb hSt hEs;obtain⟨l1,hl1⟩:=X_ (rnodes 0 (Sd l T1 x y b r (j+1)));rw[hl1]at hr hg hSt;have mr:Mv W (H++HW) wr (Hl2++(HW2++(X::Hn))):=m.Z_;obtain⟨⟨r0,r1,r2,r3⟩,-⟩:=GM hr mr.sat.left rfl hg hkN;have sX:Hid (∀V Z,Sat V (Z++(X::Hn))→V.cell? ⟨tb,0,N_⟩=S_ (s_ (S_ ⟨g,0,N_⟩) N vc)∧V.cell? ⟨lg,i,N_⟩=S_ (i_ l_ k)):=af (fun V Z hV=>by
    have h1:=hV.right;refine⟨?_,?_⟩
    ·have hb:=h1.at_ 0 (g:=tb) (t:=X.t) (cs:=X.cs) (by rw[HX.1];rfl);rw[HX.1]at hb;exact hb.cell 0
    ·exact HX.2.2.at_ (Sat.right (A:=[_]) h1) (by rw[aV,hwy];rfl))
   have mr2:Mv W (H++HW) wr ((HW2++Hl2)++(X::Hn)):=by rw[az];exact m
   obtain⟨t0,t1⟩:=sX _ _ mr2.sat;have MA:=(m.alloc 162 #[i_ l_ z.n,i_ l_ z.low,b_ z.said,i_ l_ u]).drew;have KA:Hid (Mv W (H++HW) (wr.alloc (.cells #[i_ l_ z.n,i_ l_ z.low,b_ z.said,i_ l_ u] 162)).drew (wO wr.heap.size z u::(HW2++(Hl2++(X::Hn))))):=af MA;have KR:=LH hr hwr hg hSt hEs;have KB:=nY hb8 hbb hlo0;have KJ:=nY hj hlo Ob;clear hr hwr hg hSt hEs hb8 hbb hlo0 m mr mr2 MA hz hoj hst hwy hE1 hze hu hk hpe hp hLl hxj hyj hL hj hl1 hlo Ob;go_upto_region 8 with fail;refine ik (akj _ tb g lg N n vc lc i k z u wr hlt hkN t0 t1 r0 r1 r2 r3 (by omega) (by omega) ?_);rintro t32 t33 t34 t35 t36 t37 t38 t39 t40 t41;clear r0 r1 r2 r3 t0 t1;obtain⟨xb,hxb⟩:=X_ (wr.heap.size);rw[hxb]at KA⊢;generalize(wr.alloc (.cells #[i_ l_ z.n,i_ l_ z.low,b_ z.said,i_ l_ u] 162)).drew=wa at*;have q1:wa.cell? ⟨xb,1,N_⟩=S_ (i_ l_ z.low):=KA.cell 0 rfl 1;have qf:wa.frozen? ⟨xb,1,N_⟩=F_:=KA.frozen 0 rfl 1;have M8:Mv W (H++HW) (wa.setCell ⟨xb,1,N_⟩ (i_ l_ (max z.low lo))) (wO xb {z with low:=max z.low lo} u::(HW2++(Hl2++(X::Hn)))):=KA.out.set 1 (i_ l_ (max z.low lo));have K8:Hid (Mv W (H++HW) (wa.setCell ⟨xb,1,N_⟩ (i_ l_ (max z.low lo))) (HW2++(wO xb {z with low:=max z.low lo} u::(Hl2++(X::Hn))))):=af (M8.Z_);clear M8 hxb KA;go_upto_region 9 with fail;refine ik (aki _ xb z.low lo wa q1 qf ?_);rintro t42 t43 t44 t45 t46;clear q1 qf;generalize wa.setCell ⟨xb,1,N_⟩ (i_ l_ (max z.low lo))=wb8 at*;go_upto_block 2 with fail;refine ik (ahb _ rb xb l b u {z with low:=max z.low lo} r5 HW2 (Hl2++(X::Hn)) (H++HW) W wb8 KR.2.1 K8 (by have:=KB.2.2;show 0≤max z.low lo;omega) hb hll (by have:=KB.2.1;omega) KB.1 ?_);rintro t47 t48 t49 t50 t51 t52 t53 t54 t55 t56 t57 t58 t59 t60 t61 t62 t63 t64 t65 t66 wc HW3 q1 q2;have hen:decL l (b-({z with low:=max z.low lo}:dY).low).toNat {z with low:=max z.low lo} b r5=pU l z lo b r5:=rfl;rw[hen]at q1 q2;obtain⟨e,he⟩:=X_ (pU l z lo b r5);rw[he]at q1 q2 KR;have M10:Mv W (H++HW) wc (Hl2++(HW3++(wO xb e.1 u::(X::Hn)))):=q2.Z_;obtain⟨⟨r0,r1,r2,r3⟩,f0,f1,f2,f3⟩:=GM KR.1 M10.sat.left rfl KR.2.2.1 hkN;have M11:Mv W (H++HW) wc ((Hl2++(HW3++[wO xb e.1 u]))++(X::Hn)):=by simpa using M10
   obtain⟨t0,t1⟩:=sX _ _ M11.sat;have M12:Mv W (H++HW) wc (wO xb e.1 u::(Hl2++(HW3++(X::Hn)))):=q2.Z_;have x0:wc.cell? ⟨xb,0,N_⟩=S_ (i_ l_ e.1.n):=M12.cell 0 rfl 0;have x1:wc.cell? ⟨xb,1,N_⟩=S_ (i_ l_ e.1.low):=M12.cell 0 rfl 1;have x2:wc.cell? ⟨xb,2,N_⟩=S_ (b_ e.1.said):=M12.cell 0 rfl 2;have x3:wc.cell? ⟨xb,3,N_⟩=S_ (i_ l_ u):=M12.cell 0 rfl 3;obtain⟨Hl3,rr,ms⟩:=RZ KR.1 M10 rfl KR.2.2.1 hkN e.1;rw[KR.2.2.2.1]at rr;have x!:=nY rr q1 ms.drew;clear K8 hen he M10 M11 M12 rr ms q1 q2;go_upto_region 15 with fail;refine ik (ai3 _ tb g lg N n vc lc i k xb e.1 z u u wc hlt hkN t0 t1 x0 x1 x2 x3 r0 r1 r2 r3 f0 f1 f2 f3 (by omega) (by omega) ?_);rintro t67 t68 t69 t70 t71 t72 t73 t74 t75 t76;clear t0 t1 x0 x1 x2 x3 r0 r1 r2 r3 f0 f1 f2 f3;generalize((((wc.setCell ⟨g,k*4,N_⟩ (i_ l_ e.1.n)).setCell ⟨g,k*4+1,N_⟩ (i_ l_ e.1.low)).setCell ⟨g,k*4+2,N_⟩ (b_ e.1.said)).setCell ⟨g,k*4+3,N_⟩ (i_ l_ u)).drew=wd at*;have M16:Mv W (H++HW) wd (wO xb e.1 u::(HW3++(Hl3++(X::Hn)))):=x!.2.2.Z_;have x1:wd.cell? ⟨xb,1,N_⟩=S_ (i_ l_ e.1.low):=M16.cell 0 rfl 1;have K16:=af M16.drop1;clear M16;go_wp2_with fail;go_roundg (n-(i+1))
   case measure=>omega
   case rel=>
    have hj:=KJ.1;have hEs:=KR.2.2.2.2;refine⟨i+1,Hl3,HW3,hlt,rfl,by push_cast;rfl,?_,?_,?_,K16.out⟩
    ·rw[show n-(i+1)=j by omega,hEs]
    ·rw[show n-(i+1)=j by omega];exact x!.1
    ·rw[show n-(i+1)=j by omega,hEs];exact x!.2.1
  ·obtain rfl:i=n:=by omega
   have d3:decide ((i:Int)<i)=F_:=by simp
   rw[iI,Sd_zero.1]at hr;rw[iI,Sd_zero.2]at hwr;have hsz:=QX (l:=l) (T:=T1) (x:=x) (y:=y) (b:=b) (r:=r) T1.length (aN _);rw[iI,Sd_zero.1]at hsz;have hlv:leavesM (decT l T1 x y b r).1=leavesM T1:=by
    have h2:=Ba hsz;cases h3:(decT l T1 x y b r).1 with
    |nil=>
     rw[h3]at h2;have:T1=[]:=by simpa using h2.symm
     rw[this]
    |cons A U=>
     rw[h3]at h2;cases T1 with
     |nil=>simp at h2
     |cons A' U'=>simp only[bJ,iM]at h2;exact h2.1
   have Z9:(rnodes 0 (decT l T1 x y b r).1).length=N:=by have h3:=hr.1;rw[vz]at h3;omega
   have mr:Mv W (H++HW) wr (Hl2++(HW2++(X::Hn))):=m.Z_;obtain⟨a0,a2,hkN⟩:=LEAF _ wr g N vc Hl2 _ hsz hr mr.sat;have t0:wr.cell? ⟨tb,0,N_⟩=S_ (s_ (S_ ⟨g,0,N_⟩) N vc):=by
    have mr2:Mv W (H++HW) wr ((HW2++Hl2)++(X::Hn)):=by rw[az];exact m
    have hb:=mr2.sat.right.at_ 0 (g:=tb) (t:=X.t) (cs:=X.cs) (by rw[HX.1];rfl);rw[HX.1]at hb;exact hb.cell 0
   have K:=LH hr hwr m hlv Z9;have hkI:(k0:Int)<N:=by omega
   have FIN:Hid (Q wr):=af (by
    rw[HQ.out];refine⟨X::Hl2,HW2,⟨s_ (S_ ⟨g,0,N_⟩) N vc,Hl2,?_,?_⟩,K.2.1,?_⟩
    ·rw[HX.1,K.2.2.2.1];rfl
    ·rw[K.2.2.2.2];exact K.1
    ·exact K.2.2.1.Z_)
   obtain⟨z,hz⟩:=X_ (leafT (decT l T1 x y b r).1 x y);rw[hz]at a0 a2;have EQ:qM z b=q0:=by rw[←hz];exact HQ0.out
   clear hr hwr m hlv Z9 hsz hlt K mr LEAF AT BL KX HX HQ HQ0 hz;by_cases hsd:z.said=T_
   ·rw[hsd]at a2;by_cases hnb:z.n<b
    ·obtain rfl:T_=q0:=by rw[←EQ];unfold qM;rw[hsd,aQ hnb];rfl
     have d4:decide (z.n<b)=T_:=aQ hnb;clear EQ;go_wp2_with fail;go_ret;exact⟨rfl,FIN.out⟩
    ·obtain rfl:F_=q0:=by rw[←EQ];unfold qM;rw[hsd,aW hnb];rfl
     have d4:decide (z.n<b)=F_:=aW hnb;clear EQ;go_wp2_with fail;go_ret;exact⟨rfl,FIN.out⟩
   ·have hsf:z.said=F_:=by simpa using hsd
    rw[hsf]at a2;obtain rfl:F_=q0:=by rw[←EQ];unfold qM;rw[hsf];rfl
    clear EQ hsd;go_wp2_with fail;go_ret;exact⟨rfl,FIN.out⟩
end
section
open Go.RowKit
variable{vR:Value}
theorem UB(rb:Nat)(l:List UInt8)(r:jG)(w:World)(H:List HB)(h:iq vR rb l r H)(hs:Sat w H)(hl:l.length≤90000000)(hb:r.begun≤60000000)(h8:r.left≤8):Calls P_ 117 #[p_ (S_ ⟨rb,0,N_⟩)] w fun e w'=>e=r_ (i_ l_ ((pM l r).1:Int))∧∃H',iq vR rb l (pM l r).2 H'∧Mv w H w' H':=by
 have BT:Hid (∀W H' r' q,iq vR rb l r' H'→Mv w H W H'→r'.begun≤70000000→r'.left≤8→(eY l r').1=q→Calls P_ 93 #[p_ (S_ ⟨rb,0,N_⟩)] W fun e w'=>e=r_ (i_ l_ q)∧∃Vk,iq vR rb l (eY l r').2 Vk∧Mv w H w' Vk):=af (by intro W H' r' q h1 m1 h2 h3 h4;refine(Iu rb l r' W H' h1 m1.sat hl (by omega) h3).mono ?_;rintro e w' ⟨rfl,Vk,k1,k2⟩;exact⟨by rw[h4],Vk,k1,m1.trans k2⟩);have GT:Hid (∀W H' r' sz q,iq vR rb l r' H'→Mv w H W H'→r'.begun≤70000000→r'.left≤8→(yO l sz r').1=q→Calls P_ 118 #[p_ (S_ ⟨rb,0,N_⟩),i_ l_ sz] W fun e w'=>e=r_ (i_ l_ q)∧∃Vk,iq vR rb l (yO l sz r').2 Vk∧Mv w H w' Vk):=af (by intro W H' r' sz q h1 m1 h2 h3 h4;refine(Wh rb l r' sz W H' h1 m1.sat hl (by omega) h3).mono ?_;rintro e w' ⟨rfl,Vk,k1,k2⟩;exact⟨by rw[h4],Vk,k1,m1.trans k2⟩);obtain⟨a1,a2,a3⟩:=jD l r h8;obtain⟨r1,hr1⟩:=X_ ((eY l r).2);rw[hr1]at a2 a3;obtain⟨b1,b2,b3⟩:=jD l r1 a2;obtain⟨r2,hr2⟩:=X_ ((eY l r1).2);rw[hr2]at b2 b3;obtain⟨c1,c2,c3⟩:=wM l r2 b2 2;rw[←show yO l 2 r2=rdB l 2 r2 by unfold yO;rw[aK (by omega)];rfl]at c1 c2 c3;obtain⟨r3,hr3⟩:=X_ ((yO l 2 r2).2);rw[hr3]at c2 c3;obtain⟨d1,d2,d3⟩:=wM l r3 c2 5;rw[←show yO l 5 r3=rdB l 5 r3 by unfold yO;rw[aK (by omega)];rfl]at d1 d2 d3;obtain⟨r4,hr4⟩:=X_ ((yO l 5 r3).2);rw[hr4]at d2 d3;obtain⟨e1,e2,e3⟩:=wM l r4 d2 7;rw[←show yO l 7 r4=rdB l 7 r4 by unfold yO;rw[aK (by omega)];rfl]at e1 e2 e3;obtain⟨qa,hqa⟩:∃q,(eY l r).1=q:=⟨_,rfl⟩;obtain⟨qb,NH⟩:∃q,(eY l r1).1=q:=⟨_,rfl⟩;obtain⟨qc,hqc⟩:∃q,(yO l 2 r2).1=q:=⟨_,rfl⟩;obtain⟨qd,hqd⟩:∃q,(yO l 5 r3).1=q:=⟨_,rfl⟩;obtain⟨qe,hqe⟩:∃q,(yO l 7 r4).1=q:=⟨_,rfl⟩;have K0:=dS h (Mv.refl hs);unfold pM;simp only[hr1,hr2,hr3,hr4,hqa,NH,hqc,hqd,hqe];rw[hqa]at a1;rw[NH]at b1;rw[hqc]at c1;rw[hqd]at d1;rw[hqe]at e1;clear h hs;have CA:=af (BT w H r qa K0.1 K0.2 (by omega) h8 hqa);have CB:=af (fun W H' (h1:iq vR rb l r1 H') m1=>BT W H' r1 qb h1 m1 (by omega) a2 NH);have CC:=af (fun W H' (h1:iq vR rb l r2 H') m1=>GT W H' r2 2 qc h1 m1 (by omega) b2 hqc);have CD:=af (fun W H' (h1:iq vR rb l r3 H') m1=>GT W H' r3 5 qd h1 m1 (by omega) c2 hqd);have CE:=af (fun W H' (h1:iq vR rb l r4 H') m1=>GT W H' r4 7 qe h1 m1 (by omega) d2 hqe);rw[hr1]at CA;rw[hr2]at CB;rw[hr3]at CC;rw[hr4]at CD;clear hr1 hr2 hr3 hr4 hqa NH hqc hqd hqe a2 a3 b2 b3 c2 c3 d2 d3 e2 e3 BT GT K0;by_cases ha:qa=0
 ·subst ha;go_enter Tryz.func117,Tryz.ntmps117;go_wp2_with (go_at_call 93;(with_reducible refine CA.out.mono ?_);rintro e w1 ⟨rfl,H1,q1,m1⟩;have K1:=dS q1 m1;clear q1 m1);go_ret;exact⟨rfl,H1,K1.1,K1.2⟩
 ·obtain rfl:qa=1:=by omega
  rw[aJ (by decide)];by_cases hb:qb=0
  ·subst hb;go_enter Tryz.func117,Tryz.ntmps117;go_upto_region 3 with(go_at_call 93;(with_reducible refine CA.out.mono ?_);rintro e w1 ⟨rfl,H1,q1,m1⟩;have K1:=dS q1 m1;clear q1 m1);go_wp2_with (go_at_call 93;(with_reducible refine(CB.out _ _ K1.out.1 K1.out.2).mono ?_);rintro e w2 ⟨rfl,H2,q1,m1⟩;have K2:=dS q1 m1;clear q1 m1);go_ret;exact⟨rfl,H2,K2.1,K2.2⟩
  ·obtain rfl:qb=1:=by omega
   rw[aJ (by decide)];by_cases hc:qc<3
   ·rw[aK hc];have hc':(qc:Int)<3:=by omega
    go_enter Tryz.func117,Tryz.ntmps117;go_upto_region 3 with(go_at_call 93;(with_reducible refine CA.out.mono ?_);rintro e w1 ⟨rfl,H1,q1,m1⟩;have K1:=dS q1 m1;clear q1 m1);go_upto_region 5 with(go_at_call 93;(with_reducible refine(CB.out _ _ K1.out.1 K1.out.2).mono ?_);rintro e w2 ⟨rfl,H2,q1,m1⟩;have K2:=dS q1 m1;clear q1 m1);go_wp2_with (go_at_call 118;(with_reducible refine(CC.out _ _ K2.out.1 K2.out.2).mono ?_);rintro e w3 ⟨rfl,H3,q1,m1⟩;have K3:=dS q1 m1;clear q1 m1);go_ret;exact⟨by push_cast;rfl,H3,K3.1,K3.2⟩
   ·rw[aJ hc];have hc':¬(qc:Int)<3:=by omega
    by_cases hd:qd<31
    ·rw[aK hd];have hd':(qd:Int)<31:=by omega
     go_enter Tryz.func117,Tryz.ntmps117;go_upto_region 3 with(go_at_call 93;(with_reducible refine CA.out.mono ?_);rintro e w1 ⟨rfl,H1,q1,m1⟩;have K1:=dS q1 m1;clear q1 m1);go_upto_region 5 with(go_at_call 93;(with_reducible refine(CB.out _ _ K1.out.1 K1.out.2).mono ?_);rintro e w2 ⟨rfl,H2,q1,m1⟩;have K2:=dS q1 m1;clear q1 m1);go_upto_region 8 with(go_at_call 118;(with_reducible refine(CC.out _ _ K2.out.1 K2.out.2).mono ?_);rintro e w3 ⟨rfl,H3,q1,m1⟩;have K3:=dS q1 m1;clear q1 m1);go_wp2_with (go_at_call 118;(with_reducible refine(CD.out _ _ K3.out.1 K3.out.2).mono ?_);rintro e w4 ⟨rfl,H4,q1,m1⟩;have K4:=dS q1 m1;clear q1 m1);go_ret;exact⟨by push_cast;rfl,H4,K4.1,K4.2⟩
    ·rw[aJ hd];have hd':¬(qd:Int)<31:=by omega
     go_enter Tryz.func117,Tryz.ntmps117;go_upto_region 3 with(go_at_call 93;(with_reducible refine CA.out.mono ?_);rintro e w1 ⟨rfl,H1,q1,m1⟩;have K1:=dS q1 m1;clear q1 m1);go_upto_region 5 with(go_at_call 93;(with_reducible refine(CB.out _ _ K1.out.1 K1.out.2).mono ?_);rintro e w2 ⟨rfl,H2,q1,m1⟩;have K2:=dS q1 m1;clear q1 m1);go_upto_region 8 with(go_at_call 118;(with_reducible refine(CC.out _ _ K2.out.1 K2.out.2).mono ?_);rintro e w3 ⟨rfl,H3,q1,m1⟩;have K3:=dS q1 m1;clear q1 m1);go_upto_region 11 with(go_at_call 118;(with_reducible refine(CD.out _ _ K3.out.1 K3.out.2).mono ?_);rintro e w4 ⟨rfl,H4,q1,m1⟩;have K4:=dS q1 m1;clear q1 m1);go_wp2_with (go_at_call 118;(with_reducible refine(CE.out _ _ K4.out.1 K4.out.2).mono ?_);rintro e w5 ⟨rfl,H5,q1,m1⟩;have K5:=dS q1 m1;clear q1 m1);go_ret;exact⟨by push_cast;rfl,H5,K5.1,K5.2⟩
end
section
open Go.RowKit
variable{vR:Value}
theorem Θ(l:List UInt8)(T:List bV)(x y:Nat)(b:Int)(r:jG):(decT l T x y b r).1.map dM=T.map dM:=by
 induction T generalizing x y with
 |nil=>rfl
 |cons L R ih=>
  have e:∀z,dM (L.qY x y z)=dM L:=fun z=>by simp[dM,bV.qY]
  simp only[decT,bJ,ih,e]
theorem NM(l:List UInt8)(T:List bV)(k:Nat)(b:Int)(r:jG):(iR l T k b r).1.map dM=T.map dM:=by
 cases T with
 |nil=>rfl
 |cons L R=>exact Θ l (L::R) _ _ b r
theorem Fz{l:List UInt8}{T:List bV}{n k:Nat}(b:Int)(r:jG)(h:kE T n):kE (iR l T k b r).1 n:=h.congr (NM l T k b r)
theorem Nr(tb rb:Nat)(l:List UInt8)(T:List bV)(fr:Bool)(H HW:List HB)(r:jG)(W:World)(n k:Nat)(b:Int)(h:ku tb T fr H)(hw:iq vR rb l r HW)(hs:Sat W (H++HW))(hg:kE T n)(hk:k<n)(hb:b≤1000)(hll:l.length≤90000000)(hrb:r.begun≤60000000)(h8:r.left≤8):Calls P_ 94 #[p_ (S_ ⟨tb,0,N_⟩),p_ (S_ ⟨rb,0,N_⟩),i_ l_ k,i_ l_ b] W fun e w'=>e=r_ (b_ (iR l T k b r).2.1)∧∃H' lM,ku tb (iR l T k b r).1 fr H'∧iq vR rb l (iR l T k b r).2.2 lM∧Mv W (H++HW) w' (H'++lM):=by obtain⟨⟨L0,R,rfl,hn⟩,hd,hst,ho,hl⟩:=hg;obtain⟨p1,p2,p3⟩:=J4 (w:=L0.w) (h:=L0.h) (by rw[←hn];exact hk);have:=abW tb rb l (L0::R) fr H HW r W (k%L0.w) (k/L0.w) b L0 h hw hs hd hst rfl p1 p2 ho hl hb hll hrb h8;rw[p3]at this;exact this
def G8(T:List bV)(k:Nat):dY:=match T with
 | []=>⟨0,0,F_⟩
 |L::R=>leafT (L::R) (k%L.w) (k/L.w)
def adw(T:List bV)(k:Nat)(n:Int):Prop:=if(G8 T k).said=T_ then n-1≤(G8 T k).n else n≤1∨n-1≤(G8 T k).low
theorem Z4(l:List UInt8)(L:bV)(R:List bV){n k:Nat}(b:Int)(r:jG)(hg:kE (L::R) n)(hk:k<n):G8 (iR l (L::R) k b r).1 k=(pU l (G8 (L::R) k) (decT l R (k%L.w/2) (k/L.w/2) b r).2.1 b (decT l R (k%L.w/2) (k/L.w/2) b r).2.2).1:=by obtain⟨⟨L0,R0,e,hn⟩,hd,-⟩:=hg;cases e;obtain⟨p1,p2,-⟩:=J4 (w:=L.w) (h:=L.h) (by rw[←hn];exact hk);show(bV.qY L (k%L.w) (k/L.w) _).at_ (k%L.w) (k/L.w)=_;rw[bV.at_set _ _ _ _ (by have h:=hd.len (i:=0) (L:=L) rfl;rw[h];exact nU p1 p2)];rfl
theorem XB(l:List UInt8)(T:List bV){n k:Nat}(b:Int)(r:jG)(hg:kE T n)(hk:k<n)(h8:r.left≤8)(hu:adw T k b)(h1:1≤b):if(iR l T k b r).2.1=T_ then xU (iR l T k b r).1 k=b-1 else adw (iR l T k b r).1 k (b+1):=by
 obtain⟨⟨L,R,rfl,hn⟩,-⟩:=id hg;have hl:=Z4 l L R b r hg hk;have h0:=(Ky l R (k%L.w/2) (k/L.w/2) b r h8).2.1;obtain⟨q,hq⟩:=X_ ((decT l R (k%L.w/2) (k/L.w/2) b r).2.1);obtain⟨r2,hr2⟩:=X_ ((decT l R (k%L.w/2) (k/L.w/2) b r).2.2);rw[hq]at h0 hl;rw[hr2]at hl;have hsh:=NM l (L::R) k b r;obtain⟨L',R',e1,e2⟩:∃L' R',(iR l (L::R) k b r).1=L'::R'∧L'.w=L.w:=⟨_,_,rfl,rfl⟩;have ek:xU (iR l (L::R) k b r).1 k=Ap (G8 (iR l (L::R) k b r).1 k):=by rw[e1];rfl
 have et:(iR l (L::R) k b r).2.1=qM (G8 (iR l (L::R) k b r).1 k) b:=by show qM (leafT (decT l (L::R) (k%L.w) (k/L.w) b r).1 (k%L.w) (k/L.w)) b=_;rfl
 rw[ek,et];unfold adw at hu⊢;rw[hl];obtain⟨z,hz⟩:=X_ (G8 (L::R) k);rw[hz]at hu⊢;unfold pU;obtain⟨z1,hz1,hzl,hzn,hzs⟩:∃z1:dY,({z with low:=max z.low q}:dY)=z1∧z1.low=max z.low q∧z1.n=z.n∧z1.said=z.said:=⟨_,rfl,rfl,rfl,rfl⟩;rw[hz1,←hzl];by_cases hs:z.said=T_
 ·rw[aK hs]at hu;rw[hs]at hzs;rw[zM _ _ _ _ _ (by simp[hzs])];unfold qM Ap;simp only[hzs,sO,jF,ji];split<;>omega
 ·have hsf:z.said=F_:=by simpa using hs
  rw[aJ hs]at hu;rw[hsf]at hzs;by_cases hlow:z1.low<b
  ·have hm:z1.low=b-1:=by omega
   by_cases hb1:(eY l r2).1=1
   ·rw[Qy _ _ _ _ _ ⟨hlow,hzs⟩ hb1 rfl];unfold qM Ap;simp only[sO,jF,ji];split<;>omega
   ·rw[(Nh _ _ _ _ _ ⟨hlow,hzs⟩ hb1 rfl).2,zM _ _ _ _ _ (by simp only;omega)];unfold qM;simp only[Bool.false_and,aI,iJ];omega
  ·rw[zM _ _ _ _ _ (by simp only[hzs];omega)];unfold qM;simp only[hzs,Bool.false_and,aI,iJ];omega
theorem adK{T:List bV}(h:uQ T)(k:Nat):adw T k 1:=by
 unfold adw;split
 ·cases T with
  |nil=>exact gG _
  |cons L R=>have:=af2 (h L aG) (k%L.w) (k/L.w);show 1-1≤(L.at_ (k%L.w) (k/L.w)).n;omega
 ·exact .inl (gG _)
end
section
open Go.RowKit
variable{vR:Value}
section
variable(K:Act→World→Prop)(qb xb bb rb g1 i n c1 k lb p ln qn c2:Nat)(a2:Option Addr)(l:List UInt8)(r9:jG)(l2:List Int)(QY H2 R H0:List YtjngfhgakokejaaGreat.HB)(w0:World)(w:World){s0 s2 s3 s4 s5 s6 s7 s8 s9 s11 s12 s13 s15 kH kS s20 lF lC s23 s24 kZ s26 kW kR kY lu lJ lK lI lL lD s36 lY lX mG ni mZ mY s43 s44 nI mF nH nK s49 mD mg lW s53 mX mQ mP mO nX nJ oU oQ pO qW qN qV rD rC s68 rM rJ sN s72 sK sJ ry ru rf s78 qZ rH rG s82 s83 uk uj xI s87 xH xG xF xE xn xk xC xA xy xw xR zl oK oJ nT nS qj qh pY pX pG pF oI oH o9 oG nP nO nN nM oZ oW oV wK wJ wI wH wG wF wC wB wu vY vX vW uO yL yK yJ yI yH yG x9:Value}
inductive Qh(bQ:Array Bool)(a:Act)(W:World):Prop|mk {b0 b1 b2 b3 b4 b5 b6 b7 b8 b9 b10 b11 b12 b13 b14 b15:Bool} {agu u119 agt ags agr agq u124 agp agn u127 agm adM agl u131 agk:Value} {g8:Nat} {HB:List YtjngfhgakokejaaGreat.HB} {DY:List YtjngfhgakokejaaGreat.HB} {vv:Value} (hl:bQ=#[b0,b1,b2,b3,b4,b5,b6,b7,b8,b9,b10,b11,b12,b13,b14,b15]) (ha:a=⟨List.toArray (s0::(.pointer (some ⟨rb,0,none⟩))::s2::s3::s4::s5::s6::s7::s8::s9::(.pointer (some ⟨xb,0,none⟩))::s11::s12::s13::(.slice (some ⟨g1,0,none⟩) n c1)::s15::(.pointer (some ⟨qb,0,none⟩))::(.int .i64 i)::kH::kS::s20::lF::lC::s23::s24::kZ::s26::kW::kR::kY::lu::lJ::lK::lI::lL::lD::s36::lY::lX::mG::ni::mZ::mY::s43::s44::nI::mF::nH::nK::s49::mD::mg::lW::s53::mX::mQ::mP::mO::nX::nJ::oU::oQ::pO::qW::qN::qV::rD::rC::s68::rM::rJ::sN::s72::sK::sJ::ry::ru::rf::s78::qZ::rH::rG::s82::s83::uk::uj::xI::s87::xH::xG::xF::xE::xn::xk::xC::xA::xy::xw::xR::zl::oK::oJ::nT::nS::qj::qh::pY::pX::pG::pF::oI::oH::o9::oG::nP::nO::nN::nM::agu::u119::agt::ags::agr::agq::u124::agp::agn::u127::agm::adM::agl::u131::agk::uO::yL::yK::yJ::yI::yH::yG::x9::[]),[]⟩) (HW:(Mv w0 H0 W (DY++(oh b12 ⟨g8,3,#[.int .i64 qn]⟩++(HB++(⟨qb,106,#[.pointer (some ⟨bb,0,none⟩),.int .i64 k,.slice (some ⟨g1,0,none⟩) n c1,vv]⟩::R))))∧(b11=false→DY=QY)∧(b13=false→HB=H2)∧(b15=false→vv=.slice a2 l2.length c2)∧(b12=true→b11=true)∧(b13=true→b12=true)∧(b15=true→b0=true∧b1=true∧b2=true∧b3=true∧b4=true∧b5=true∧b6=true∧b7=true∧b8=true∧b9=true∧b10=true∧b11=true∧b12=true∧b13=true∧b14=true))) (hF:(b0=true→agu=.pointer (some ⟨qb,3,none⟩))∧(b1=true→u119=.slice a2 l2.length c2)∧(b2=true→agt=.pointer (some ⟨rb,0,none⟩))∧(b3=true→ags=.pointer (some ⟨xb,4,none⟩))∧(b4=true→agr=.int .i64 lb)∧(b5=true→agq=.slice (some ⟨g1,0,none⟩) n c1)∧(b6=true→u124=.int .i64 i)∧(b7=true→agp=.pointer (some ⟨g1,i,none⟩))∧(b8=true→agn=.int .i64 p)∧(b9=true→u127=.int .i64 ln)∧(b10=true→agm=.int .i64 ((lb:Int)+ln))∧(b11=true→adM=.int .i64 qn)∧(b11=true→iq vR rb l r9 DY)∧(b12=true→agl=.slice (some ⟨g8,0,none⟩) 1 1)∧(b13=true→jy u131 (l2++[(qn:Int)]) HB)∧(b14=true→agk=.pointer (some ⟨qb,3,none⟩))∧(b15=true→vv=u131):=by and_intros<;>first|assumption|exact fun _=>rfl|(simp only[bM,bI,aI]<;>assumption)):Qh bQ a W
theorem afo(CE:Hid (∀V A',Mv w0 H0 V (A'++R)→V.cell? ⟨xb,4,N_⟩=S_ (i_ l_ lb)∧V.cell? ⟨g1,i,N_⟩=S_ (i_ l_ p)))(LG:Hid (∀V,Calls P_ 85 #[i_ l_ p] V fun e w'=>e=r_ (i_ l_ ln)∧w'=V))(BI:Hid (∀V R,Mv w0 H0 V (QY++R)→Calls P_ 118 #[p_ (S_ ⟨rb,0,N_⟩),(i_ l_ ((lb:Int)+ln))] V fun e w'=>e=r_ (i_ l_ qn)∧∃HR',iq vR rb l r9 HR'∧Mv w0 H0 w' (HR'++R)))(hlb:lb≤24)(hlg:ln≤64)(hin:i<n)(hn:n≤1000)(hl2:l2.length≤1000)(hrow:jy (s_ a2 l2.length c2) l2 H2)(hM:Mv w0 H0 w (QY++(H2++(⟨qb,106,#[p_ (S_ ⟨bb,0,N_⟩),i_ l_ k,s_ (S_ ⟨g1,0,N_⟩) n c1,s_ a2 l2.length c2]⟩::R))))
 (hk:∀(agu u119 agt ags agr agq u124 agp agn u127 agm adM agl u131 agk:Value) (g8:Nat) (HB:List YtjngfhgakokejaaGreat.HB) (DY:List YtjngfhgakokejaaGreat.HB) (vv:Value) (W:World),(Mv w0 H0 W (DY++(oh T_ ⟨g8,3,#[i_ l_ qn]⟩++(HB++(⟨qb,106,#[p_ (S_ ⟨bb,0,N_⟩),i_ l_ k,s_ (S_ ⟨g1,0,N_⟩) n c1,vv]⟩::R))))∧(T_=F_→DY=QY)∧(T_=F_→HB=H2)∧(T_=F_→vv=s_ a2 l2.length c2)∧(T_=T_→T_=T_)∧(T_=T_→T_=T_)∧(T_=T_→T_=T_∧T_=T_∧T_=T_∧T_=T_∧T_=T_∧T_=T_∧T_=T_∧T_=T_∧T_=T_∧T_=T_∧T_=T_∧T_=T_∧T_=T_∧T_=T_∧T_=T_))→(adM=i_ l_ qn∧iq vR rb l r9 DY)→(jy u131 (l2++[(qn:Int)]) HB)→(vv=u131)→K ⟨List.toArray (s0::(p_ (S_ ⟨rb,0,N_⟩))::s2::s3::s4::s5::s6::s7::s8::s9::(p_ (S_ ⟨xb,0,N_⟩))::s11::s12::s13::(s_ (S_ ⟨g1,0,N_⟩) n c1)::s15::(p_ (S_ ⟨qb,0,N_⟩))::(i_ l_ i)::kH::kS::s20::lF::lC::s23::s24::kZ::s26::kW::kR::kY::lu::lJ::lK::lI::lL::lD::s36::lY::lX::mG::ni::mZ::mY::s43::s44::nI::mF::nH::nK::s49::mD::mg::lW::s53::mX::mQ::mP::mO::nX::nJ::oU::oQ::pO::qW::qN::qV::rD::rC::s68::rM::rJ::sN::s72::sK::sJ::ry::ru::rf::s78::qZ::rH::rG::s82::s83::uk::uj::xI::s87::xH::xG::xF::xE::xn::xk::xC::xA::xy::xw::xR::zl::oK::oJ::nT::nS::qj::qh::pY::pX::pG::pF::oI::oH::o9::oG::nP::nO::nN::nM::agu::u119::agt::ags::agr::agq::u124::agp::agn::u127::agm::adM::agl::u131::agk::uO::yL::yK::yJ::yI::yH::yG::x9::[]),[]⟩ W):
 (dQ 22 Tryz.f95).wp P_ (Exit.then K qX) ⟨List.toArray (s0::(p_ (S_ ⟨rb,0,N_⟩))::s2::s3::s4::s5::s6::s7::s8::s9::(p_ (S_ ⟨xb,0,N_⟩))::s11::s12::s13::(s_ (S_ ⟨g1,0,N_⟩) n c1)::s15::(p_ (S_ ⟨qb,0,N_⟩))::(i_ l_ i)::kH::kS::s20::lF::lC::s23::s24::kZ::s26::kW::kR::kY::lu::lJ::lK::lI::lL::lD::s36::lY::lX::mG::ni::mZ::mY::s43::s44::nI::mF::nH::nK::s49::mD::mg::lW::s53::mX::mQ::mP::mO::nX::nJ::oU::oQ::pO::qW::qN::qV::rD::rC::s68::rM::rJ::sN::s72::sK::sJ::ry::ru::rf::s78::qZ::rH::rG::s82::s83::uk::uj::xI::s87::xH::xG::xF::xE::xn::xk::xC::xA::xy::xw::xR::zl::oK::oJ::nT::nS::qj::qh::pY::pX::pG::pF::oI::oH::o9::oG::nP::nO::nN::nM::oZ::oW::oV::wK::wJ::wI::wH::wG::wF::wC::wB::wu::vY::vX::vW::uO::yL::yK::yJ::yI::yH::yG::x9::[]),[]⟩ w:=by
 conv in(dQ _ _)=>whnf
 unfold qX;have HK:=af hk;clear hk;refine jS (by kernel_rfl) [[],[0],[],[],[3],[],[],[5,6],[7],[8],[4,9],[2,10,9],[11],[1,12,11],[0,1,2,3,4,5,6,7,8,9,10,11,12,13],[14,13,13,0,1,2,3,4,5,6,7,8,9,10,11,12,13]] [0,1,2,3,4,5,6,7,8,9,10,11,12,13,14,15] (by kernel_rfl) (by kernel_rfl) (@Qh vR qb xb bb rb g1 i n c1 k lb p ln qn c2 a2 l r9 l2 QY H2 R H0 w0 s0 s2 s3 s4 s5 s6 s7 s8 s9 s11 s12 s13 s15 kH kS s20 lF lC s23 s24 kZ s26 kW kR kY lu lJ lK lI lL lD s36 lY lX mG ni mZ mY s43 s44 nI mF nH nK s49 mD mg lW s53 mX mQ mP mO nX nJ oU oQ pO qW qN qV rD rC s68 rM rJ sN s72 sK sJ ry ru rf s78 qZ rH rG s82 s83 uk uj xI s87 xH xG xF xE xn xk xC xA xy xw xR zl oK oJ nT nS qj qh pY pX pG pF oI oH o9 oG nP nO nN nM uO yL yK yJ yI yH yG x9) ?_ ?_ ?_
 ·refine .mk (g8:=0) (HB:=H2) (DY:=QY) (vv:=(s_ a2 l2.length c2)) rfl rfl ⟨by simpa[jl]using hM.drew,fun _=>rfl,fun _=>rfl,fun _=>rfl,(fun e=>nomatch e),(fun e=>nomatch e),(fun e=>nomatch e)⟩ ⟨nofun,nofun,nofun,nofun,nofun,nofun,nofun,nofun,nofun,nofun,nofun,nofun,nofun,nofun,nofun,nofun,nofun⟩
 ·rintro _ _ W ⟨rfl,rfl,HW,-,-,-,-,-,-,-,-,-,-,-,h11,k11,-,h13,-,h15⟩ hb;simp only[List.all_cons,List.all_nil,dO,kJ]at hb;obtain⟨rfl,rfl,rfl,rfl,rfl,rfl,rfl,rfl,rfl,rfl,rfl,rfl,rfl,rfl,rfl,rfl⟩:=hb;exact HK _ _ _ _ _ _ _ _ _ _ _ _ _ _ _ _ _ _ _ W HW ⟨h11 rfl,k11 rfl⟩ (h13 rfl) (h15 rfl)
 ·rintro _ _ W i @⟨_,_,_,_,_,_,_,_,_,_,_,_,b12,b13,_,b15,_,_,_,_,_,_,_,_,_,_,_,_,_,_,_,g8,HB,DY,vv,rfl,rfl,HW,h0,h1,h2,h3,h4,h5,h6,h7,h8,h9,h10,h11,k11,h12,h13,JH,h15⟩ hi hi2 zp;have hi4:i=15∨i=1∨i=7∨i=9∨i=10∨i=11∨i=12∨i=13∨i=0∨i=2∨i=3∨i=4∨i=5∨i=6∨i=8∨i=14:=(by have:i<16:=hi;omega);clear hi;rcases hi4 with rfl|rfl|rfl|rfl|rfl|rfl|rfl|rfl|rfl|rfl|rfl|rfl|rfl|rfl|rfl|rfl
  all_goals simp at hi2 zp;(repeat obtain⟨_,zp⟩:=zp);(try subst_vars);try simp only[bM,bI,aI]at h0 h1 h2 h3 h4 h5 h6 h7 h8 h9 h10 h11 k11 h12 h13 JH h15
  all_goals try subst_vars
  all_goals refine jm rfl (fun K hK=>?_)
  ·obtain rfl:=HW.2.2.2.1 rfl;have Xf:=h13;obtain⟨a9,c9,e9⟩:=Xf.slice;subst e9;have hlen:(l2++[(qn:Int)]).length=l2.length+1:=by simp
   rw[hlen]at Xf;have M9:Mv w0 H0 W (⟨qb,106,#[p_ (S_ ⟨bb,0,N_⟩),i_ l_ k,s_ (S_ ⟨g1,0,N_⟩) n c1,s_ a2 l2.length c2]⟩::(⟨g8,3,#[i_ l_ qn]⟩::(DY++(HB++R)))):=HW.1.O_;have e:=(M9.blk 0 rfl).cell 3;have f:=(M9.blk 0 rfl).frozen 3;have N9:=M9.set 3 (s_ a9 (l2.length+1) c9);go_simp;refine hK _ _ (.mk (g8:=g8) (HB:=HB) (DY:=DY) (vv:=(s_ a9 (l2.length+1) c9)) rfl rfl ⟨N9.O_,HW.2.1,HW.2.2.1,(fun e=>nomatch e),HW.2.2.2.2.1,HW.2.2.2.2.2.1,(fun _=>by simp)⟩ ?_);and_intros<;>first|assumption|exact fun _=>rfl|(simp only[bM,bI,aI]<;>assumption)|exact fun _=>Xf
  all_goals (obtain rfl:b15=F_:=by cases b15;rfl;have:=HW.2.2.2.2.2.2 rfl;simp at this);obtain rfl:=HW.2.2.2.1 rfl
  ·have e:=(HW.1.kT (x:=⟨qb,106,#[p_ (S_ ⟨bb,0,N_⟩),i_ l_ k,s_ (S_ ⟨g1,0,N_⟩) n c1,s_ a2 l2.length c2]⟩) (aS _ (aS _ (aS _ aG)))).cell 3;go_simp;exact hK _ _ (.mk rfl rfl ⟨HW.1,HW.2.1,HW.2.2.1,HW.2.2.2.1,HW.2.2.2.2.1,HW.2.2.2.2.2.1,(fun e=>nomatch e)⟩)
  ·have e:(i:Int)<n:=by omega
   go_simp;exact hK _ _ (.mk rfl rfl ⟨HW.1,HW.2.1,HW.2.2.1,HW.2.2.2.1,HW.2.2.2.2.1,HW.2.2.2.2.2.1,(fun e=>nomatch e)⟩)
  ·go_simp;go_at_call 85
   (with_reducible refine(LG.out _).mono ?_)
   rintro e w10 ⟨rfl,rfl⟩;exact hK _ _ (.mk rfl rfl ⟨HW.1,HW.2.1,HW.2.2.1,HW.2.2.2.1,HW.2.2.2.2.1,HW.2.2.2.2.2.1,(fun e=>nomatch e)⟩)
  ·have ew:=fF ((lb:Int)+ln) ⟨by omega,by omega⟩;go_simp;exact hK _ _ (.mk rfl rfl ⟨HW.1,HW.2.1,HW.2.2.1,HW.2.2.2.1,HW.2.2.2.2.1,HW.2.2.2.2.2.1,(fun e=>nomatch e)⟩)
  ·obtain rfl:b12=F_:=by cases b12;rfl;cases(HW.2.2.2.2.1 rfl)
   obtain rfl:b13=F_:=by cases b13;rfl;cases(HW.2.2.2.2.2.1 rfl)
   obtain rfl:=HW.2.1 rfl;go_simp;go_at_call 118;refine(BI W _ HW.1).mono ?_;rintro e w11 ⟨rfl,HR',p1,p2⟩;refine hK _ _ (.mk (g8:=g8) (HB:=HB) (DY:=HR') rfl rfl ⟨p2,(fun e=>nomatch e),HW.2.2.1,HW.2.2.2.1,(fun e=>nomatch e),(fun e=>nomatch e),(fun e=>nomatch e)⟩ ?_);and_intros<;>first|assumption|exact fun _=>rfl|(simp only[bM,bI,aI]<;>assumption)|exact fun _=>p1
  ·obtain rfl:b13=F_:=by cases b13;rfl;cases(HW.2.2.2.2.2.1 rfl)
   obtain rfl:=HW.2.2.1 rfl;have M9:=HW.1.alloc 3 #[i_ l_ qn];go_simp;exact hK _ _ (.mk (g8:=W.heap.size) (DY:=DY) rfl rfl ⟨M9.O_,HW.2.1,HW.2.2.1,HW.2.2.2.1,(fun _=>rfl),(fun e=>nomatch e),(fun e=>nomatch e)⟩)
  ·obtain rfl:=HW.2.2.1 rfl;have M9:Mv w0 H0 W (HB++(⟨g8,3,#[i_ l_ qn]⟩::(DY++(⟨qb,106,#[p_ (S_ ⟨bb,0,N_⟩),i_ l_ k,s_ (S_ ⟨g1,0,N_⟩) n c1,s_ a2 l2.length c2]⟩::R)))):=HW.1.O_;have IV9:IV W (s_ (S_ ⟨g8,0,N_⟩) 1 1) [(qn:Int)]:=jy.iv (H:=[⟨g8,3,#[i_ l_ qn]⟩]) (dh.new 3 g8 1 #[i_ l_ qn] rfl (by decide)) (M9.sat.sub (fun g=>by simp only[aP,bK,gI];omega) (fun c hc=>by simp only[ay,aC,bP,gQ]at hc⊢;exact .inr (.inl hc)));refine A8 rfl (.tmp 119) (.tmp 130) rfl (s_ a2 l2.length c2) (s_ (S_ ⟨g8,0,N_⟩) 1 1) l2 [(qn:Int)] HB (by simp[Act.eval]) (by simp[Act.eval]) hrow M9.sat.left IV9 (by simp only[List.length_cons,List.length_nil];omega) ?_;intro v9 w9 H9 r10 m9;have N9:=Mv.call M9 m9;refine hK _ _ (.mk (g8:=g8) (HB:=H9) (DY:=DY) rfl rfl ⟨N9.O_,HW.2.1,(fun e=>nomatch e),HW.2.2.2.1,HW.2.2.2.2.1,(fun _=>rfl),(fun e=>nomatch e)⟩ ?_);and_intros<;>first|assumption|exact fun _=>rfl|(simp only[bM,bI,aI]<;>assumption)|exact fun _=>r10|exact(fun e=>nomatch e)
  all_goals first|(go_simp;exact hK _ _ (.mk rfl rfl ⟨HW.1,HW.2.1,HW.2.2.1,HW.2.2.2.1,HW.2.2.2.2.1,HW.2.2.2.2.2.1,(fun e=>nomatch e)⟩))|((obtain⟨y1,y2⟩:=CE W (DY++(oh b12 ⟨g8,3,#[.int .i64 qn]⟩++(HB++[⟨qb,106,#[.pointer (some ⟨bb,0,none⟩),.int .i64 k,.slice (some ⟨g1,0,none⟩) n c1,.slice a2 l2.length c2]⟩]))) (by simpa only[az,List.cons_append,List.nil_append]using HW.1));go_simp;exact hK _ _ (.mk rfl rfl ⟨HW.1,HW.2.1,HW.2.2.1,HW.2.2.2.1,HW.2.2.2.2.1,HW.2.2.2.2.2.1,(fun e=>nomatch e)⟩))
end
end
section
open Go.RowKit
variable{vR:Value}
theorem afn(K:Act→World→Prop)(bb xb lg lc n k:Nat)(pl said lb:Int)(va:Option Addr)(vn vc:Nat)(ua:Option Addr)(un uc:Nat)(w:World)
 (c1:w.cell? ⟨bb,1,N_⟩=S_ (s_ (S_ ⟨lg,0,N_⟩) n lc)) (x0:w.cell? ⟨xb,0,N_⟩=S_ (i_ l_ pl)) (x1:w.cell? ⟨xb,1,N_⟩=S_ (s_ va vn vc)) (x2:w.cell? ⟨xb,2,N_⟩=S_ (s_ ua un uc)) (x3:w.cell? ⟨xb,3,N_⟩=S_ (i_ l_ said)) (x4:w.cell? ⟨xb,4,N_⟩=S_ (i_ l_ lb))
 (f0:w.frozen? ⟨lg,k*5,N_⟩=F_) (f1:w.frozen? ⟨lg,k*5+1,N_⟩=F_) (f2:w.frozen? ⟨lg,k*5+2,N_⟩=F_) (f3:w.frozen? ⟨lg,k*5+3,N_⟩=F_) (f4:w.frozen? ⟨lg,k*5+4,N_⟩=F_)
 (y0:∃v,w.cell? ⟨lg,k*5,N_⟩=S_ v) (y1:∃v,w.cell? ⟨lg,k*5+1,N_⟩=S_ v) (y2:∃v,w.cell? ⟨lg,k*5+2,N_⟩=S_ v) (y3:∃v,w.cell? ⟨lg,k*5+3,N_⟩=S_ v) (y4:∃v,w.cell? ⟨lg,k*5+4,N_⟩=S_ v)
 (hk:k<n) (hn:n≤1000)
 (hK:∀(t133 t134 t135 t136 t137 t138 t139:Value),K ⟨List.toArray ((p_ (S_ ⟨bb,0,N_⟩))::s1::(i_ l_ k)::s3::s4::s5::s6::s7::s8::s9::(p_ (S_ ⟨xb,0,N_⟩))::s11::s12::s13::s14::s15::s16::l9::kH::kS::s20::lF::lC::s23::s24::kZ::s26::kW::kR::kY::lu::lJ::lK::lI::lL::lD::s36::lY::lX::mG::ni::mZ::mY::s43::s44::nI::mF::nH::nK::s49::mD::mg::lW::s53::mX::mQ::mP::mO::nX::nJ::oU::oQ::pO::qW::qN::qV::rD::rC::s68::rM::rJ::sN::s72::sK::sJ::ry::ru::rf::s78::qZ::rH::rG::s82::s83::uk::uj::xI::s87::xH::xG::xF::xE::xn::xk::xC::xA::xy::xw::xR::zl::oK::oJ::nT::nS::qj::qh::pY::pX::pG::pF::oI::oH::o9::oG::nP::nO::nN::nM::oZ::oW::oV::wK::wJ::wI::wH::wG::wF::wC::wB::wu::vY::vX::vW::t133::t134::t135::t136::t137::t138::t139::x9::[]),[]⟩ (((((w.setCell ⟨lg,k*5,N_⟩ (i_ l_ pl)).setCell ⟨lg,k*5+1,N_⟩ (s_ va vn vc)).setCell ⟨lg,k*5+2,N_⟩ (s_ ua un uc)).setCell ⟨lg,k*5+3,N_⟩ (i_ l_ said)).setCell ⟨lg,k*5+4,N_⟩ (i_ l_ lb)).drew):
 (dQ 23 Tryz.f95).wp P_ (Exit.then K qX) ⟨List.toArray ((p_ (S_ ⟨bb,0,N_⟩))::s1::(i_ l_ k)::s3::s4::s5::s6::s7::s8::s9::(p_ (S_ ⟨xb,0,N_⟩))::s11::s12::s13::s14::s15::s16::l9::kH::kS::s20::lF::lC::s23::s24::kZ::s26::kW::kR::kY::lu::lJ::lK::lI::lL::lD::s36::lY::lX::mG::ni::mZ::mY::s43::s44::nI::mF::nH::nK::s49::mD::mg::lW::s53::mX::mQ::mP::mO::nX::nJ::oU::oQ::pO::qW::qN::qV::rD::rC::s68::rM::rJ::sN::s72::sK::sJ::ry::ru::rf::s78::qZ::rH::rG::s82::s83::uk::uj::xI::s87::xH::xG::xF::xE::xn::xk::xC::xA::xy::xw::xR::zl::oK::oJ::nT::nS::qj::qh::pY::pX::pG::pF::oI::oH::o9::oG::nP::nO::nN::nM::oZ::oW::oV::wK::wJ::wI::wH::wG::wF::wC::wB::wu::vY::vX::vW::uO::yL::yK::yJ::yI::yH::yG::x9::[]),[]⟩ w:=by
 conv in(dQ _ _)=>whnf
 unfold qX;have HK:=af hK;clear hK;obtain⟨v0,y0⟩:=y0;obtain⟨v1,y1⟩:=y1;obtain⟨v2,y2⟩:=y2;obtain⟨v3,y3⟩:=y3;obtain⟨v4,y4⟩:=y4;have hkn:(k:Int)<n:=by omega
 have hk5:k*5<100000:=by omega
 go_still_tail 7,(by kernel_rfl);go_wp2_with fail;exact HK _ _ _ _ _ _ _
def UQ(P:Int):Option Int→Int
 |none=>P+1
 |some p=>P-p+1
theorem ahU(K:Act→World→Prop)(bb tu rb k n:Nat)(P:Int)(l:List UInt8)(T:List bV)(fz:Bool)(r:jG)(HU HW Y H0:List HB)(w0 w:World)(hT:ku tu T fz HU)(hw:iq vR rb l r HW)(m:Mv w0 H0 w (HU++(HW++Y)))
 (hS:∀V,Sat V Y→V.cell? ⟨bb,0,N_⟩=S_ (i_ l_ P)∧V.cell? ⟨bb,3,N_⟩=S_ (p_ (S_ ⟨tu,0,N_⟩))) (hg:kE T n) (hk:k<n) (hnn:uQ T) (hP:0≤P∧P≤60) (hll:l.length≤90000000) (hrb:r.begun≤50000000) (h8:r.left≤8)
 (hK:∀(t30 t31 t32 t33 t34 t35 t36 t37 t38 t39 t40 t41 t42 t43 t44 t45 t46 t47 t48:Value) (wx:World) (HU' lM:List HB),ku tu (beginGo l P k P.toNat 1 T r).1 fz HU'→iq vR rb l (beginGo l P k P.toNat 1 T r).2.2 lM→Mv w0 H0 wx (HU'++(lM++Y))→K ⟨List.toArray ((p_ (S_ ⟨bb,0,N_⟩))::(p_ (S_ ⟨rb,0,N_⟩))::(i_ l_ k)::s3::s4::s5::s6::s7::s8::s9::s10::(i_ l_ (UQ P (beginGo l P k P.toNat 1 T r).2.1))::s12::s13::s14::s15::s16::l9::kH::kS::s20::lF::lC::s23::s24::kZ::s26::kW::kR::kY::t30::t31::t32::t33::t34::t35::t36::t37::t38::t39::t40::t41::t42::t43::t44::t45::t46::t47::t48::s49::mD::mg::lW::s53::mX::mQ::mP::mO::nX::nJ::oU::oQ::pO::qW::qN::qV::rD::rC::s68::rM::rJ::sN::s72::sK::sJ::ry::ru::rf::s78::qZ::rH::rG::s82::s83::uk::uj::xI::s87::xH::xG::xF::xE::xn::xk::xC::xA::xy::xw::xR::zl::oK::oJ::nT::nS::qj::qh::pY::pX::pG::pF::oI::oH::o9::oG::nP::nO::nN::nM::oZ::oW::oV::wK::wJ::wI::wH::wG::wF::wC::wB::wu::vY::vX::vW::uO::yL::yK::yJ::yI::yH::yG::x9::[]),[]⟩ wx):
 (jB 0 Tryz.f95).wp P_ (Exit.then K qX) ⟨List.toArray ((p_ (S_ ⟨bb,0,N_⟩))::(p_ (S_ ⟨rb,0,N_⟩))::(i_ l_ k)::s3::s4::s5::s6::s7::s8::s9::s10::(i_ l_ 1)::s12::s13::s14::s15::s16::l9::kH::kS::s20::lF::lC::s23::s24::kZ::s26::kW::kR::kY::lu::lJ::lK::lI::lL::lD::s36::lY::lX::mG::ni::mZ::mY::s43::s44::nI::mF::nH::nK::s49::mD::mg::lW::s53::mX::mQ::mP::mO::nX::nJ::oU::oQ::pO::qW::qN::qV::rD::rC::s68::rM::rJ::sN::s72::sK::sJ::ry::ru::rf::s78::qZ::rH::rG::s82::s83::uk::uj::xI::s87::xH::xG::xF::xE::xn::xk::xC::xA::xy::xw::xR::zl::oK::oJ::nT::nS::qj::qh::pY::pX::pG::pF::oI::oH::o9::oG::nP::nO::nN::nM::oZ::oW::oV::wK::wJ::wI::wH::wG::wF::wC::wB::wu::vY::vX::vW::uO::yL::yK::yJ::yI::yH::yG::x9::[]),[]⟩ w:=by
 conv in(jB _ _)=>whnf
 unfold qX;obtain⟨E,hE⟩:=X_ (beginGo l P k P.toNat 1 T r);rw[hE]at hK;have HK:=af hK;have hu:=adK hnn k;have K0:=NU hT hw m hg hu hE;have HS:=af hS;clear hK hT hw m hg hu hE hS hnn;obtain⟨hP0,hP1⟩:=hP;go_wp2_with fail;go_loopg [11] P.toNat (fun mm s11 wx=>∃(f0:Nat) (i:Int) (T1:List bV) (r1:jG) (FV HW1:List YtjngfhgakokejaaGreat.HB),mm=f0∧i=P+1-(f0:Int)∧f0≤P.toNat∧s11=i_ l_ i∧beginGo l P k f0 i T1 r1=E∧kE T1 n∧adw T1 k i∧r1.left≤8∧r1.begun+f0*1200≤r.begun+P.toNat*1200∧ku tu T1 fz FV∧iq vR rb l r1 HW1∧Mv w0 H0 wx (FV++(HW1++Y)))
 case atStart=>exact⟨P.toNat,1,T,r,HU,HW,rfl,by omega,aN _,rfl,K0.2.2.2.2.2,K0.2.2.2.1,K0.2.2.2.2.1,h8,aN _,K0.1,K0.2.1,K0.2.2.1⟩
 case round=>
  clear K0;obtain⟨f0,i,T1,r1,FV,HW1,hf0,hi,hmm,rfl,hE,hg,hu,h81,hb1,hT,hw,m⟩:=hrel;obtain⟨y0,y3⟩:=HS wr m.sat.right.right;have mA:Mv w0 H0 wr ((FV++HW1)++Y):=by rw[az];exact m
  cases f0 with
  |zero=>
   have d:decide (i≤P)=F_:=by simp;omega
   have hx:UQ P E.2.1=i:=by rw[←hE];show P+1=i;omega
   have e1:E.1=T1:=by rw[←hE];rfl
   have e2:E.2.2=r1:=by rw[←hE];rfl
   rw[hx,e1,e2]at HK;have KM:=nY hT hw m;clear hE hx e1 e2 hT hw m mA hg hu hi;go_wp2_with fail;exact HK _ _ _ _ _ _ _ _ _ _ _ _ _ _ _ _ _ _ _ wr FV HW1 KM.1 KM.2.1 KM.2.2
  |succ f=>
   have hi1:1≤i∧i≤P:=by omega
   have d:decide (i≤P)=T_:=by simp;omega
   have DEC:=Nr tu rb l T1 fz FV HW1 r1 wr n k i hT hw mA.sat.left hg hk (by omega) hll (by omega) h81;have hd:=XB l T1 i r1 hg hk h81 hu hi1.1;obtain⟨-,ib,ic⟩:=IG l T1 k i r1 h81 hg.2.2.2.2 (by omega);have hg2:=Fz (l:=l) (k:=k) i r1 hg;rw[FN]at hE;obtain⟨D,hD⟩:=X_ (iR l T1 k i r1);rw[hD]at DEC hd ib ic hg2 hE;obtain⟨T2,q,r2⟩:=D;simp only at DEC hd ib ic hg2 hE;have DC:=af DEC;have KM:=af mA;cases q with
   |true=>
    simp only[ji]at hd hE;have hx:UQ P E.2.1=i:=by rw[←hE];show P-(P-xU T2 k)+1=i;omega
    have e1:E.1=T2:=by rw[←hE]
    have e2:E.2.2=r2:=by rw[←hE]
    rw[hx,e1,e2]at HK;clear hE hx e1 e2 hT hw m mA hg hu hi DEC hd hD hg2;go_wp2_with (go_at_call 94;(with_reducible refine DC.out.mono ?_);rintro e w2 ⟨rfl,XR,HW2,q1,q2,q3⟩;have K2:=nY q1 q2 (Mv.call KM.out q3);clear q1 q2 q3);exact HK _ _ _ _ _ _ _ _ _ _ _ _ _ _ _ _ _ _ _ w2 XR HW2 K2.1 K2.2.1 (by rw[←az];exact K2.2.2)
   |false=>
    simp only[aI,iJ]at hd hE;have KE:=nY hE hg2 hd;have hb2:r2.begun+f*1200≤r.begun+P.toNat*1200:=by omega
    have hi2:i+1=P+1-(f:Int):=by omega
    have hi3:=af hi2;clear hE hT hw m mA hg hu hi DEC hd hD hg2 hi2;go_wp2_with (go_at_call 94;(with_reducible refine DC.out.mono ?_);rintro e w2 ⟨rfl,XR,HW2,q1,q2,q3⟩;have K2:=nY q1 q2 (Mv.call KM.out q3);clear q1 q2 q3);go_roundg f
    case measure=>omega
    case rel=>exact⟨f,i+1,T2,r2,XR,HW2,rfl,hi3.out,by omega,rfl,KE.1,KE.2.1,KE.2.2,ib,hb2,K2.1,K2.2.1,by rw[←az];exact K2.2.2⟩
end
section
open Go.RowKit
variable{vR:Value}
theorem Wx(l:List UInt8)(x:dF)(lb:Nat):∀(L:List Int) (r:jG),(pcGo l x lb L r).1.length=L.length
 | [],_=>rfl
 |p::L,r=>by simp only[pcGo,List.length_cons,Wx l x lb L]
theorem SI(l:List UInt8)(x:dF)(lb:Nat):∀(L:List Int) (r:jG),r.left≤8→(pcGo l x lb L r).2.left≤8∧(pcGo l x lb L r).2.begun≤r.begun+L.length*32
 | [],r,h=>⟨h,by simp[pcGo]⟩
 |p::L,r,h=>by obtain⟨h1,h2,-⟩:=X! l ((lb+p.toNat.log2:Nat):Int) r h;obtain⟨h3,h4⟩:=SI l x lb L _ h1;simp only[pcGo,List.length_cons];exact⟨h3,by omega⟩
def DD(qb bb k:Nat)(vp vl:Value):HB:=⟨qb,106,#[p_ (S_ ⟨bb,0,N_⟩),i_ l_ k,vp,vl]⟩
theorem η(K:Act→World→Prop)(qb xb bb rb g1 n c1 k lb:Nat)(x:dF)(l:List UInt8)(r:jG)(L1:List Int)(HR Y H0:List HB)(w0 w:World)(hL:L1.length=n)(hp:∀i,i<n→0≤L1.getD i 0∧L1.getD i 0≤1000)(hn:n≤200)(hlb:lb≤24)
 (hw:iq vR rb l r HR) (m:Mv w0 H0 w (HR++(DD qb bb k (s_ (S_ ⟨g1,0,N_⟩) n c1) (s_ N_ 0 0)::Y))) (hS:∀i,i<n→∀V,Sat V Y→V.cell? ⟨xb,4,N_⟩=S_ (i_ l_ lb)∧V.cell? ⟨g1,i,N_⟩=S_ (i_ l_ (L1.getD i 0))) (hll:l.length≤90000000) (hrb:r.begun≤60000000) (h8:r.left≤8)
 (hK:∀(t112 t113 t114 t115 t116 t117 t118 t119 t120 t121 t122 t123 t124 t125 t126 t127 t128 t129 t130 t131 t132:Value) (wx:World) (HR' HQ:List HB) (a2:Option Addr) (c2:Nat),jy (s_ a2 n c2) ((pcGo l x lb L1 r).1.map fun q=>(q.n:Int)) HQ→iq vR rb l (pcGo l x lb L1 r).2 HR'→Mv w0 H0 wx (HR'++(HQ++(DD qb bb k (s_ (S_ ⟨g1,0,N_⟩) n c1) (s_ a2 n c2)::Y)))→K ⟨List.toArray (s0::(p_ (S_ ⟨rb,0,N_⟩))::s2::s3::s4::s5::s6::s7::s8::s9::(p_ (S_ ⟨xb,0,N_⟩))::s11::s12::s13::(s_ (S_ ⟨g1,0,N_⟩) n c1)::s15::(p_ (S_ ⟨qb,0,N_⟩))::(i_ l_ n)::kH::kS::s20::lF::lC::s23::s24::kZ::s26::kW::kR::kY::lu::lJ::lK::lI::lL::lD::s36::lY::lX::mG::ni::mZ::mY::s43::s44::nI::mF::nH::nK::s49::mD::mg::lW::s53::mX::mQ::mP::mO::nX::nJ::oU::oQ::pO::qW::qN::qV::rD::rC::s68::rM::rJ::sN::s72::sK::sJ::ry::ru::rf::s78::qZ::rH::rG::s82::s83::uk::uj::xI::s87::xH::xG::xF::xE::xn::xk::xC::xA::xy::xw::xR::zl::oK::oJ::nT::nS::qj::qh::pY::pX::pG::pF::oI::oH::t112::t113::t114::t115::t116::t117::t118::t119::t120::t121::t122::t123::t124::t125::t126::t127::t128::t129::t130::t131::t132::uO::yL::yK::yJ::yI::yH::yG::x9::[]),[]⟩ wx):
 (jB 4 Tryz.f95).wp P_ (Exit.then K qX) ⟨List.toArray (s0::(p_ (S_ ⟨rb,0,N_⟩))::s2::s3::s4::s5::s6::s7::s8::s9::(p_ (S_ ⟨xb,0,N_⟩))::s11::s12::s13::(s_ (S_ ⟨g1,0,N_⟩) n c1)::s15::(p_ (S_ ⟨qb,0,N_⟩))::(i_ l_ 0)::kH::kS::s20::lF::lC::s23::s24::kZ::s26::kW::kR::kY::lu::lJ::lK::lI::lL::lD::s36::lY::lX::mG::ni::mZ::mY::s43::s44::nI::mF::nH::nK::s49::mD::mg::lW::s53::mX::mQ::mP::mO::nX::nJ::oU::oQ::pO::qW::qN::qV::rD::rC::s68::rM::rJ::sN::s72::sK::sJ::ry::ru::rf::s78::qZ::rH::rG::s82::s83::uk::uj::xI::s87::xH::xG::xF::xE::xn::xk::xC::xA::xy::xw::xR::zl::oK::oJ::nT::nS::qj::qh::pY::pX::pG::pF::oI::oH::o9::oG::nP::nO::nN::nM::oZ::oW::oV::wK::wJ::wI::wH::wG::wF::wC::wB::wu::vY::vX::vW::uO::yL::yK::yJ::yI::yH::yG::x9::[]),[]⟩ w:=by
 conv in(jB _ _)=>whnf
 unfold qX;have HK:=af hK;have K0:=dS hw m;have HS:=dS hS hp;have HL:=af hL;clear hK hw m hS hp hL;go_wp2_with fail;go_loopg [17] n (fun mm l9 wx=>∃(i:Nat) (HR1 HQ1:List YtjngfhgakokejaaGreat.HB) (a2:Option Addr) (c2:Nat),i≤n∧mm=n-i∧l9=i_ l_ i∧jy (s_ a2 i c2) ((pcGo l x lb (L1.take i) r).1.map fun q=>(q.n:Int)) HQ1∧iq vR rb l (pcGo l x lb (L1.take i) r).2 HR1∧Mv w0 H0 wx (HR1++(HQ1++(DD qb bb k (s_ (S_ ⟨g1,0,N_⟩) n c1) (s_ a2 i c2)::Y))))
 case atStart=>exact⟨0,HR,[],N_,0,aY _,rfl,rfl,dh.nil _ _,K0.1,K0.2⟩
 case round=>
  clear K0;obtain⟨i,HR1,HQ1,a2,c2,hi,rfl,rfl,hr,hw,m⟩:=hrel;by_cases hlt:i<n
  ·have d1:decide ((i:Int)<n)=T_:=by simp;omega
   have hS1:=HS.1 i hlt;have hp1:=HS.2 i hlt;have hLl:=HL.out;have hlen:(L1.take i).length=i:=by rw[bT];omega
   have hsn:=MH l x lb (L1.take i) (L1.getD i 0) r;have etk:L1.take i++[L1.getD i 0]=L1.take (i+1):=by rw[eU,ax,ai (by omega)];rfl
   rw[etk]at hsn;have hpl:=Wx l x lb (L1.take i) r;obtain⟨hi8,hib⟩:=SI l x lb (L1.take i) r h8;rw[hlen]at hpl hib;obtain⟨p,hpe⟩:=dW hp1.1;rw[hpe,Int.toNat_natCast]at hsn;rw[hpe]at hS1 hp1;have ahS:=Qa (n:=p) (by omega);obtain⟨D,hD⟩:=X_ (pcGo l x lb (L1.take i) r);rw[hD]at hsn hpl hi8 hib hr hw;obtain⟨l2,hl2⟩:=X_ (D.1.map (fun q=>(q.n:Int)));rw[hl2]at hr;have akT:l2.length=i:=by rw[←hl2,aO];exact hpl
   have LG:=af (fun V=>Po p V (by omega));obtain⟨ln,hln⟩:=X_ (p.log2);rw[hln]at LG ahS hsn;have ecast:((lb+ln:Nat):Int)=lb+ln:=by push_cast;rfl
   rw[ecast]at hsn;obtain⟨G,hG⟩:=X_ (yO l ((lb:Int)+ln) D.2);have BI:Hid (∀V R,Mv w0 H0 V (HR1++R)→Calls P_ 118 #[p_ (S_ ⟨rb,0,N_⟩),i_ l_ ((lb:Int)+ln)] V fun e w'=>e=r_ (i_ l_ G.1)∧∃HR',iq vR rb l G.2 HR'∧Mv w0 H0 w' (HR'++R)):=af (fun V R mm=>by refine(Wh rb l D.2 _ V HR1 hw mm.sat.left hll (by omega) hi8).mono ?_;rintro e w' ⟨rfl,HR',q1,q2⟩;rw[hG]at q1⊢;exact⟨rfl,HR',q1,Mv.call mm q2⟩);rw[hG]at hsn;have CE:Hid (∀V A',Mv w0 H0 V (A'++Y)→V.cell? ⟨xb,4,N_⟩=S_ (i_ l_ lb)∧V.cell? ⟨g1,i,N_⟩=S_ (i_ l_ p)):=af (fun V A' mm=>hS1 V mm.sat.right);have KE:=nY hsn hl2 hw;have KM:=dS hr m;have ahT:=af akT;clear hS1 hp1 hpe etk hsn hD hl2 hG hw hr m hln ecast hlen hpl HS HL akT;go_upto_region 22 with fail;refine lU (afo _ qb xb bb rb g1 i n c1 k lb p ln G.1 c2 a2 l G.2 l2 HR1 HQ1 Y H0 w0 wr CE LG BI hlb (by omega) hlt (by omega) (by rw[ahT.out];omega) (by rw[ahT.out];exact KM.1) (by rw[ahT.out];exact KM.2) ?_);rintro _ _ _ _ _ _ _ _ _ _ _ _ _ _ _ g8 HB2 DY vv w2 ⟨m2,-⟩ ⟨-,r11⟩ r13 rfl;obtain⟨a9,c9,e9⟩:=r13.slice;subst e9;have hlen2:(l2++[(G.1:Int)]).length=i+1:=by rw[au,ahT.out];rfl
   rw[hlen2]at m2 r13;have K2:=nY r11 r13 m2;clear r11 r13 m2 hlen2;go_wp2_with fail;go_roundg (n-(i+1))
   case measure=>omega
   case rel=>
    refine⟨i+1,DY,HB2,a9,c9,hlt,rfl,by push_cast;rfl,?_,?_,?_⟩
    ·rw[KE.1,bU,KE.2.1];exact K2.2.1
    ·rw[KE.1];exact K2.1
    ·exact K2.2.2.sub (fun g=>by simp only[DD,kN,aP,bK,gI];omega) (fun c hc=>by simp only[DD,kN,ay,aC,bP,gQ]at hc⊢;grind)
  ·obtain rfl:i=n:=by omega
   have d1:decide ((i:Int)<i)=F_:=by simp
   have e:L1.take i=L1:=dC (by rw[HL.out];exact aN _);rw[e]at hr hw;have K2:=nY hr hw m;clear hw m hr e;go_wp2_with fail;exact HK _ _ _ _ _ _ _ _ _ _ _ _ _ _ _ _ _ _ _ _ _ wr HR1 HQ1 a2 c2 K2.1 K2.2.1 K2.2.2
end
section
open Go.RowKit
variable{vR:Value}
theorem UG(l:List UInt8)(x:dF)(lb:Nat):∀(L:List Int) (r:jG),(∀p∈L,0≤p)→(pcGo l x lb L r).1.map (fun q=>(q.p:Int))=L
 | [],_,_=>rfl
 |p::L,r,h=>by have h0:=h p aG;simp only[pcGo,bJ,UG l x lb L _ (fun q hq=>h q (aU _ hq)),iM,kJ];omega
def nz(g0:Nat):HB:=⟨g0,106,#[.pointer N_,i_ l_ 0,s_ N_ 0 0,s_ N_ 0 0]⟩
theorem yZ(tmps:Array Value)(w:World)(g:Nat)(a b c d v:Value)(h8:tmps.getD 8 undef=p_ (S_ ⟨g,0,N_⟩))(h9:tmps.getD 9 undef=v)(hg:w.heap[g]?=S_ (.cells #[a,b,c,d] 106 (0,0))):(results Tryz.f95 tmps).run P_ w=.ok (t_ #[g_ #[a,b,c,d],v]) w:=by
 have h8':tmps[8]?.getD undef=p_ (S_ ⟨g,0,N_⟩):=by simpa using h8
 have h9':tmps[9]?.getD undef=v:=by simpa using h9
 simp[results,h8',h9',asAddr,run_loadVar_row w g 106 106 _ _ _ hg Tryz.underlying106 rfl (by kernel_rfl)]
def XQ(vR:Value)(l:List UInt8)(bb rb k:Nat)(ff fz:Bool)(H0:List HB)(W:World)(q:Option (aT×List yx×jG))(e:Ending)(w':World):Prop:=match q with
 |none=>e=r_ (t_ #[g_ #[.pointer N_,i_ l_ 0,s_ N_ 0 0,s_ N_ 0 0],i_ l_ 10])∧Mv W H0 w' []
 |some q=>∃vp vl HP HQ HR' H',e=r_ (t_ #[g_ #[p_ (S_ ⟨bb,0,N_⟩),i_ l_ k,vp,vl],i_ l_ 0])∧jy vp (q.2.1.map fun z=>(z.p:Int)) HP∧jy vl (q.2.1.map fun z=>(z.n:Int)) HQ∧iq vR rb l q.2.2 HR'∧kC bb q.1 ff fz H'∧Mv W H0 w' (HP++(HQ++(HR'++H')))
def aj1(bb tu lg lc n k np vc bn uc:Nat)(va ua:Option Addr)(P:Int)(s:og)(lb:Int)(V:World):Prop:=
 (V.cell? ⟨bb,0,N_⟩=S_ (i_ l_ P)∧V.cell? ⟨bb,3,N_⟩=S_ (p_ (S_ ⟨tu,0,N_⟩))∧V.cell? ⟨bb,1,N_⟩=S_ (s_ (S_ ⟨lg,0,N_⟩) n lc))∧
 (V.cell? ⟨lg,k*5,N_⟩=S_ (i_ l_ s.pl)∧V.cell? ⟨lg,k*5+1,N_⟩=S_ (s_ va np vc)∧V.cell? ⟨lg,k*5+2,N_⟩=S_ (s_ ua bn uc)∧V.cell? ⟨lg,k*5+3,N_⟩=S_ (i_ l_ s.said)∧V.cell? ⟨lg,k*5+4,N_⟩=S_ (i_ l_ lb))∧
 (∀j,j<5→V.frozen? ⟨lg,k*5+j,N_⟩=F_)
theorem hear_walk(bb rb tu k n ah lg lc np vc bn uc Cj:Nat)(s:og)(m:aT)(d:bu)(va ua:Option Addr)(ff fz:Bool)(HU HW Y H0:List HB)(l:List UInt8)(r:jG)(W:World)
 (hT:ku tu m.dA fz HU) (hw:iq vR rb l r HW) (hM:Mv W H0 W (HU++(HW++Y))) (hS:∀V,Sat V Y→aj1 bb tu lg lc n k np vc bn uc va ua m.aH s (Cj:Int) V)
 (hsk:m.ss[k]?=S_ s) (hkn:k<n) (hn1:n≤1000) (hg:kE m.dA n) (hnn:uQ m.dA) (hP:0≤m.aH∧m.aH≤60) (xu:s.ps.length=np) (ajE:np≤200) (hpl:np≠0→1≤s.pl) (ajB:s.pl≤60) (afk:s.lb=(Cj:Int)) (hlb:Cj≤24) (hs63:ah≤63) (hll:l.length≤90000000) (hrb:r.begun≤40000000) (h8:r.left≤8)
 (hfin:∀(w2:World) (A XR:List HB) (T1:List bV) (pl1:Int) (lb1:Nat),ku tu T1 fz XR→1≤pl1→pl1≤60→lb1≤24→Mv W H0 w2 (A++(XR++Y))→∃H',kC bb {m with dA:=T1,ss:=m.ss.set k {s with pl:=pl1,lb:=(lb1:Int)}} ff fz H'∧Mv W H0 (O4 w2 lg k pl1 (s_ va np vc) (s_ ua bn uc) s.said (lb1:Int)).drew (A++H')):
 Calls P_ 95 #[p_ (S_ ⟨bb,0,N_⟩),p_ (S_ ⟨rb,0,N_⟩),i_ l_ k,i_ l_ ah] W (XQ vR l bb rb k ff fz H0 W (readM l ah m d k s r)):=by
 obtain⟨g0,hg0⟩:=X_ (W.heap.size);obtain⟨w1,hw1⟩:=Y_ (W.alloc (.cells #[.pointer N_,i_ l_ 0,s_ N_ 0 0,s_ N_ 0 0] 106));have M1:=hM.alloc 106 #[.pointer N_,i_ l_ 0,s_ N_ 0 0,s_ N_ 0 0];rw[←hw1,hg0]at M1;obtain⟨xb,hxb⟩:=X_ (w1.heap.size);obtain⟨w2,hw2⟩:=Y_ (w1.alloc (.cells #[i_ l_ s.pl,s_ va np vc,s_ ua bn uc,i_ l_ s.said,i_ l_ Cj] 85));have M2:=M1.alloc 85 #[i_ l_ s.pl,s_ va np vc,s_ ua bn uc,i_ l_ s.said,i_ l_ Cj];rw[←hw2,hxb]at M2;obtain⟨⟨i0,i3,i1⟩,⟨j0,j1,j2,j3,j4⟩,-⟩:=hS w1 (Sat.right (A:=[_]) M1.sat).right.right;have HLB:=af afk;clear afk;have FIN:=af hfin;have HS:=af hS;have K2:=NU hT hw M2 hg hnn hsk;have hkI:(k:Int)<n:=by omega
 have hk5:k*5<100000:=by omega
 clear hT hw hM hS hfin M1 M2 hg hnn hsk;go_enter Tryz.func95,Tryz.ntmps95;go_upto_region 1 with fail;rw[←hw1]
 try simp only[hg0]
 clear hw1 hg0;go_upto_region 2 with fail;rw[←hw2]
 try simp only[hxb]
 clear i0 i1 i3 j0 j1 j2 j3 j4 hw2 hxb;have YB:Hid (∀V,Sat V Y→V.cell? ⟨bb,0,N_⟩=S_ (i_ l_ m.aH)∧V.cell? ⟨bb,3,N_⟩=S_ (p_ (S_ ⟨tu,0,N_⟩))):=af (fun V h=>⟨(HS V h).1.1,(HS V h).1.2.1⟩);have M2:=K2.2.2.1;have x1:w2.cell? ⟨xb,1,N_⟩=S_ (s_ va np vc):=M2.cell 0 rfl 1;clear M2;have X6:Hid (∀V A,Mv W H0 V A→Mv W H0 V []):=af (fun V A h=>Mv.drop (A:=A) (H:=[]) (by rw[dD];exact h));obtain⟨P,hPe⟩:=X_ (m.aH);have HPE:=af hPe;rw[hPe]at YB hP;clear hPe;go_upto_if 29 with fail;go_cut [11,29]from 30 (fun _ _ wx=>∃(T1:List bV) (pl1:Int) (r1:jG) (FV HR1:List YtjngfhgakokejaaGreat.HB),readA l m k s r=({m with dA:=T1,ss:=m.ss.set k {s with pl:=pl1}},{s with pl:=pl1},r1,T_)∧1≤pl1∧pl1≤60∧r1.left≤8∧r1.begun≤40100000∧ku tu T1 fz FV∧iq vR rb l r1 HR1∧Mv W H0 wx (jJ xb pl1 s.said (Cj:Int) (s_ va np vc) (s_ ua bn uc)::(nz g0::(FV++(HR1++Y)))))
 case first=>
  by_cases h0:np=0
  ·subst h0;have M5:Mv W H0 w2 (HU++(HW++(jJ xb s.pl s.said (Cj:Int) (s_ va 0 vc) (s_ ua bn uc)::(nz g0::Y)))):=K2.2.2.1.sub (fun g=>by simp only[jJ,nz,aP,bK];omega) (fun c hc=>by simp only[jJ,nz,ay,aC]at hc⊢;grind);have QI:=Dl l P k hP.2 P.toNat 1 m.dA r h8 K2.2.2.2.1.2.2.2.2 K2.2.2.2.2.1 (by omega) (by omega);have hA:readA l m k s r=(j! m s k (beginGo l P k P.toNat 1 m.dA r),begS s (beginGo l P k P.toNat 1 m.dA r).2.1,(beginGo l P k P.toNat 1 m.dA r).2.2,Cb (beginGo l P k P.toNat 1 m.dA r).2.1):=by unfold readA vK;rw[aK xu,HPE.out]
   have hpn:P.toNat*1200≤60*1200:=dK _ (by omega);have NH:(beginGo l P k P.toNat 1 m.dA r).2.2.begun≤40100000:=by have:=QI.2.2.2.2;omega
   have K5:=af M5;have KA:=nY hA QI NH;clear M5 hA QI NH hpn;go_upto_block 0 with fail;refine ik (ahU _ bb tu rb k n P l m.dA fz r HU HW (jJ xb s.pl s.said (Cj:Int) (s_ va 0 vc) (s_ ua bn uc)::(nz g0::Y)) H0 W w2 K2.1 K2.2.1 K5 (fun V h=>YB V (Sat.right (A:=[_,_]) h)) K2.2.2.2.1 hkn K2.2.2.2.2.1 hP hll (by omega) h8 ?_);rintro _ _ _ _ _ _ _ _ _ _ _ _ _ _ _ _ _ _ _ w5 HU5 Cm q1 q2 m5;obtain⟨Z,hZ⟩:=X_ (beginGo l P k P.toNat 1 m.dA r);rw[hZ]at q1 q2 KA⊢;have M6:Mv W H0 w5 (jJ xb s.pl s.said (Cj:Int) (s_ va 0 vc) (s_ ua bn uc)::(nz g0::(HU5++(Cm++Y)))):=m5.Z_;have y0:=(YB w5 (Sat.right (A:=[_,_]) M6.sat).right.right).1;have z0:w5.cell? ⟨xb,0,N_⟩=S_ (i_ l_ s.pl):=M6.cell 0 rfl 0;have zf:w5.frozen? ⟨xb,0,N_⟩=F_:=M6.frozen 0 rfl 0;obtain⟨x,hx⟩:=X_ (UQ P Z.2.1);rw[hx];obtain⟨pv,hpv⟩:=X_ (P-x+1);have ajz:pv=(match Z.2.1 with|none=>0|some p=>p):=by
    rw[←hpv,←hx];cases Z.2.1 with
    |none=>show P-(P+1)+1=0;omega
    |some p=>show P-(P-p+1)+1=p;omega
   have alQ:0≤pv∧pv≤60:=by
    have:=KA.2.1.2.2.1;rw[ajz];cases hz:Z.2.1 with
    |none=>exact⟨gG _,by decide⟩
    |some p=>have:=this p hz;exact⟨by show 0≤p;omega,by show p≤60;omega⟩
   have hxb: -100≤x∧x≤200:=by omega
   have M7:=M6.set 0 (i_ l_ pv);have K7:=nY q1 q2 M7;have HPV:=af ajz;have akL:=af hpv;clear q1 q2 m5 M6 M7 hx ajz hpv x1;go_upto_region 7 with fail;rw[akL.out];clear y0 z0 zf akL;obtain⟨w6,hw6⟩:=X_ (w5.setCell ⟨xb,0,N_⟩ (i_ l_ pv));rw[hw6]at K7⊢;have M7:=K7.2.2;have x0:w6.cell? ⟨xb,0,N_⟩=S_ (i_ l_ pv):=M7.cell 0 rfl 0;have p0:w6.cell? ⟨g0,0,N_⟩=S_ (.pointer N_):=M7.cell 1 rfl 0;have p1:w6.cell? ⟨g0,1,N_⟩=S_ (i_ l_ 0):=M7.cell 1 rfl 1;have p2:w6.cell? ⟨g0,2,N_⟩=S_ (s_ N_ 0 0):=M7.cell 1 rfl 2;have p3:w6.cell? ⟨g0,3,N_⟩=S_ (s_ N_ 0 0):=M7.cell 1 rfl 3;have f0:w6.frozen? ⟨g0,0,N_⟩=F_:=M7.frozen 1 rfl 0;have f1:w6.frozen? ⟨g0,1,N_⟩=F_:=M7.frozen 1 rfl 1;have f2:w6.frozen? ⟨g0,2,N_⟩=F_:=M7.frozen 1 rfl 2;have f3:w6.frozen? ⟨g0,3,N_⟩=F_:=M7.frozen 1 rfl 3;clear M7 hw6;by_cases hok:1≤pv∧pv≤30
   ·have d1:decide (pv<1)=F_:=by simp;omega
    have d2:decide (30<pv)=F_:=by simp;omega
    clear p0 p1 p2 p3 f0 f1 f2 f3;go_wp2_with fail;go_meet;refine⟨Z.1,pv,Z.2.2,HU5,Cm,?_,hok.1,alQ.2,KA.2.1.2.2.2.1,KA.2.2,K7.1,K7.2.1,K7.2.2⟩;have h2:=HPV.out;have hb:Cb Z.2.1=T_∧begS s Z.2.1={s with pl:=pv}:=by
     cases hz:Z.2.1 with
     |none=>rw[hz]at h2;have h3:pv=0:=h2;omega
     |some p=>rw[hz]at h2;have h3:pv=p:=h2;subst h3;unfold Cb;simp only[dO,jF];exact⟨⟨hok.1,hok.2⟩,rfl⟩
    rw[KA.1,hb.1];unfold j!;rw[hb.2]
   ·have RN:Hid (readM l ah m d k s r=N_):=af (by
     have hb:Cb Z.2.1=F_:=by
      have h2:=HPV.out;cases hz:Z.2.1 with
      |none=>rfl
      |some p=>rw[hz]at h2;have h3:pv=p:=h2;subst h3;unfold Cb;simp only[Bool.and_eq_false_iff,decide_eq_false_iff_not];omega
     rw[GX l ah m d k s r KA.1,aK hb])
    have K8:Hid (Mv W H0 ((((w6.setCell ⟨g0,0,N_⟩ (.pointer N_)).setCell ⟨g0,1,N_⟩ (i_ l_ 0)).setCell ⟨g0,2,N_⟩ (s_ N_ 0 0)).setCell ⟨g0,3,N_⟩ (s_ N_ 0 0)) (nz g0::(jJ xb pv s.said (Cj:Int) (s_ va 0 vc) (s_ ua bn uc)::(HU5++(Cm++Y))))):=af (by have M8:Mv W H0 w6 (nz g0::(jJ xb pv s.said (Cj:Int) (s_ va 0 vc) (s_ ua bn uc)::(HU5++(Cm++Y)))):=(show Mv W H0 w6 (jJ xb pv s.said (Cj:Int) (s_ va 0 vc) (s_ ua bn uc)::(nz g0::(HU5++(Cm++Y))))from K7.2.2).Z_;exact(((M8.set 0 (.pointer N_)).set 1 (i_ l_ 0)).set 2 (s_ N_ 0 0)).set 3 (s_ N_ 0 0));by_cases h1:pv<1
    ·have d1:decide (pv<1)=T_:=aQ h1;go_wp2_with fail
     (try simp only[Exit.inBlock,Exit.then])
     refine dU (yZ _ _ g0 _ _ _ _ _ rfl rfl (Mv.kT K8 aG)) rfl ?_;rw[RN.out];exact⟨rfl,X6 _ _ K8.out⟩
    ·have d1:decide (pv<1)=F_:=by simp;omega
     have d2:decide (30<pv)=T_:=by simp;omega
     go_wp2_with fail
     (try simp only[Exit.inBlock,Exit.then])
     refine dU (yZ _ _ g0 _ _ _ _ _ rfl rfl (Mv.kT K8 aG)) rfl ?_;rw[RN.out];exact⟨rfl,X6 _ _ K8.out⟩
  ·have d:((np:Int)==0)=F_:=by simp;exact h0
   go_wp2_with fail;go_meet;have e:m.ss.set k {s with pl:=s.pl}=m.ss:=Ea K2.2.2.2.2.2;refine⟨m.dA,s.pl,r,HU,HW,?_,hpl h0,ajB,h8,by omega,K2.1,K2.2.1,K2.2.2.1⟩;unfold readA;rw[e,xu,aJ h0]
 case rest=>
  obtain⟨T1,pl1,r1,FV,HR1,hA,hp1,hp2,h81,hb1,t1,q1,M⟩:=hcut;have PC:Hid (∀V A,Mv W H0 V (nz g0::A)→(V.cell? ⟨g0,0,N_⟩=S_ (.pointer N_)∧V.cell? ⟨g0,1,N_⟩=S_ (i_ l_ 0)∧V.cell? ⟨g0,2,N_⟩=S_ (s_ N_ 0 0)∧V.cell? ⟨g0,3,N_⟩=S_ (s_ N_ 0 0))∧(V.frozen? ⟨g0,0,N_⟩=F_∧V.frozen? ⟨g0,1,N_⟩=F_∧V.frozen? ⟨g0,2,N_⟩=F_∧V.frozen? ⟨g0,3,N_⟩=F_)∧Mv W H0 ((((V.setCell ⟨g0,0,N_⟩ (.pointer N_)).setCell ⟨g0,1,N_⟩ (i_ l_ 0)).setCell ⟨g0,2,N_⟩ (s_ N_ 0 0)).setCell ⟨g0,3,N_⟩ (s_ N_ 0 0)) (nz g0::A)):=af (fun V A h=>⟨⟨h.cell 0 rfl 0,h.cell 0 rfl 1,h.cell 0 rfl 2,h.cell 0 rfl 3⟩,⟨h.frozen 0 rfl 0,h.frozen 0 rfl 1,h.frozen 0 rfl 2,h.frozen 0 rfl 3⟩,(((h.set 0 (.pointer N_)).set 1 (i_ l_ 0)).set 2 (s_ N_ 0 0)).set 3 (s_ N_ 0 0)⟩);have M5:Mv W H0 wc (HR1++(jJ xb pl1 s.said (Cj:Int) (s_ va np vc) (s_ ua bn uc)::(nz g0::(FV++Y)))):=M.Z_;have TL:=af (UB rb l r1 wc HR1 q1 M5.sat.left hll (by omega) h81);have TI:=Io l r1 h81;have RE:=GX l ah m d k s r hA;rw[aJ (by simp)]at RE;unfold readB at RE;obtain⟨tn,htn⟩:=X_ ((pM l r1).1);obtain⟨r2,hr2⟩:=X_ ((pM l r1).2);rw[htn,hr2]at TL TI RE;simp only at RE;obtain⟨M1,hM1⟩:∃M1,({m with dA:=T1,ss:=m.ss.set k {s with pl:=pl1}}:aT)=M1:=⟨_,rfl⟩;obtain⟨S1,hS1⟩:∃S1,({s with pl:=pl1}:og)=S1:=⟨_,rfl⟩;rw[hM1,hS1]at RE;rw[xu,HLB.out,Int.toNat_natCast]at RE;have HS1:=af hS1;have RB:=af RE;have HM1:=af hM1;obtain⟨pn,rfl⟩:=dW (show 0≤pl1 by omega);obtain⟨cn,hcn⟩:=X_ (oM pn);have ajJ:(cn:Int)=3*(pn:Int)-2:=by
   rw[←hcn];unfold oM
   first|omega|(split<;>omega)
  have CA:Hid (∀V,Calls P_ 55 #[i_ l_ pn] V fun e w'=>e=r_ (i_ l_ cn)∧w'=V):=af (fun V=>by rw[←hcn];exact count_any pn V (by omega));have K5:=dS t1 M5;have K5':=af t1;clear hA t1 q1 M M5 RE htn hr2 hM1 hS1 hcn K2 YB;go_upto_region 10 with(go_at_call 117;(with_reducible refine TL.out.mono ?_);rintro e w3 ⟨rfl,HR3,q1,q2⟩;have K3:=dS q1 (Mv.call K5.out.2 q2);clear q1 q2);clear TL;have M6:Mv W H0 w3 (jJ xb (pn:Int) s.said (Cj:Int) (s_ va np vc) (s_ ua bn uc)::(HR3++(nz g0::(FV++Y)))):=K3.2.Z_;have x0:w3.cell? ⟨xb,0,N_⟩=S_ (i_ l_ pn):=M6.cell 0 rfl 0;have x1:w3.cell? ⟨xb,1,N_⟩=S_ (s_ va np vc):=M6.cell 0 rfl 1;have M7:Mv W H0 w3 (nz g0::(jJ xb (pn:Int) s.said (Cj:Int) (s_ va np vc) (s_ ua bn uc)::(HR3++(FV++Y)))):=M6.Z_;have KP:=af (PC w3 _ M7);clear M6 M7;by_cases hbad:3*(pn:Int)-2<((np+tn:Nat):Int)
  ·have RN:Hid (readM l ah m d k s r=N_):=af (by rw[RB.out,aK hbad]);have d1:decide ((cn:Int)-np<tn)=T_:=by simp;omega
   obtain⟨⟨p0,p1,p2,p3⟩,⟨f0,f1,f2,f3⟩,-⟩:=KP.out;go_wp2_with (go_at_call 55;refine(CA.out _).mono ?_;rintro e w6 ⟨rfl,rfl⟩)
   (try simp only[Exit.inBlock,Exit.then])
   refine dU (yZ _ _ g0 _ _ _ _ _ rfl rfl (Mv.kT KP.2.2 aG)) rfl ?_;rw[RN.out];exact⟨rfl,X6 _ _ KP.2.2⟩
  ·have d1:decide ((cn:Int)-np<tn)=F_:=by simp;omega
   have RB2:Hid (readM l ah m d k s r=readC l ah M1 d k S1 tn (lbGo l (25-Cj) Cj r2)):=af (by rw[RB.out,aJ hbad]);have LI:=G9 l (25-Cj) Cj r2 TI.2.2.1 (by omega);have hnt:np+tn≤178:=by omega
   have alL:1≤tn:=TI.1;have KI:=af LI;clear LI RB;go_wp2_with (go_at_call 55;refine(CA.out _).mono ?_;rintro e w6 ⟨rfl,rfl⟩);clear d1 x0 x1 KP CA hbad;go_loopg [] (25-Cj) (fun gg wx=>∃(lb:Nat) (HR4:List YtjngfhgakokejaaGreat.HB) (r4:jG),Cj≤lb∧lb≤24∧gg=25-lb∧lbGo l (25-Cj) Cj r2=lbGo l (25-lb) lb r4∧iq vR rb l r4 HR4∧Mv W H0 wx (HR4++(jJ xb (pn:Int) s.said (lb:Int) (s_ va np vc) (s_ ua bn uc)::(nz g0::(FV++Y))))∧r4.left≤8∧r4.begun+Cj≤r2.begun+lb)
   case atStart=>exact⟨Cj,HR3,r2,aN _,hlb,rfl,rfl,K3.1,K3.2,TI.2.2.1,aN _⟩
   case round=>
    clear K3;obtain⟨lb,HR4,r4,hl1,hl2,rfl,hE,q4,M4,h48,h4b⟩:=hrel;obtain⟨hbq,hb2,hb3⟩:=jD l r4 h48;rw[show 25-lb=(24-lb)+1 by omega,ML]at hE;have BB0:=Iu rb l r4 wr HR4 q4 M4.sat.left hll (by omega) h48;have KE:=dS hE M4;have SM:Hid (∀V Cm,Mv W H0 V (Cm++(jJ xb (pn:Int) s.said (lb:Int) (s_ va np vc) (s_ ua bn uc)::(nz g0::(FV++Y))))→(V.cell? ⟨xb,4,N_⟩=S_ (i_ l_ lb)∧V.frozen? ⟨xb,4,N_⟩=F_)∧Mv W H0 (V.setCell ⟨xb,4,N_⟩ (i_ l_ ((lb:Int)+1))) (jJ xb (pn:Int) s.said ((lb:Int)+1) (s_ va np vc) (s_ ua bn uc)::(nz g0::(Cm++(FV++Y))))):=af (fun V Cm h=>by have h2:Mv W H0 V (jJ xb (pn:Int) s.said (lb:Int) (s_ va np vc) (s_ ua bn uc)::(nz g0::(Cm++(FV++Y)))):=h.Z_;exact⟨⟨h2.cell 0 rfl 4,h2.frozen 0 rfl 4⟩,h2.set 4 (i_ l_ ((lb:Int)+1))⟩);clear hE q4 M4;by_cases hq:(eY l r4).1=1
    ·rw[hq]at BB0;have BB:=af BB0;have KQ:=af hq;clear BB0 hbq hq;go_upto_region 15 with(go_at_call 93;(with_reducible refine BB.out.mono ?_);rintro e w5 ⟨rfl,Cm,p1,p2⟩;obtain⟨⟨v4,f4⟩,m6⟩:=SM.out w5 Cm (Mv.call KE.out.2 p2);have K6:=dS p1 m6;clear p1 p2 m6);obtain⟨w6,hw6⟩:=X_ (w5.setCell ⟨xb,4,N_⟩ (i_ l_ ((lb:Int)+1)));rw[hw6]at K6⊢;have x4:w6.cell? ⟨xb,4,N_⟩=S_ (i_ l_ ((lb:Int)+1)):=K6.2.cell 0 rfl 4;clear hw6 v4 f4;by_cases hov:24<lb+1
     ·have ajD:decide ((24:Int)<lb+1)=T_:=by simp;omega
      have RN:Hid (readM l ah m d k s r=N_):=af (by rw[RB2.out,KE.1,aK KQ.out,aK hov];rfl);have M7:Mv W H0 w6 (nz g0::(jJ xb (pn:Int) s.said ((lb:Int)+1) (s_ va np vc) (s_ ua bn uc)::(Cm++(FV++Y)))):=K6.2.Z_;have KP:=af (PC w6 _ M7).2.2;obtain⟨⟨p0,p1,p2,p3⟩,⟨f0,f1,f2,f3⟩,-⟩:=PC w6 _ M7;clear M7;go_wp2_with fail
      (try simp only[Exit.inBlock,Exit.then])
      refine dU (yZ _ _ g0 _ _ _ _ _ rfl rfl (Mv.kT KP aG)) rfl ?_;rw[RN.out];exact⟨rfl,X6 _ _ KP.out⟩
     ·have ajD:decide ((24:Int)<lb+1)=F_:=by simp;omega
      have hE3:Hid (lbGo l (25-Cj) Cj r2=lbGo l (25-(lb+1)) (lb+1) (eY l r4).2):=af (by rw[KE.1,aK KQ.out,aJ hov,show 25-(lb+1)=24-lb by omega]);go_wp2_with fail;go_roundg (25-(lb+1))
      case measure=>omega
      case rel=>refine⟨lb+1,Cm,(eY l r4).2,by omega,by omega,rfl,hE3.out,K6.1,?_,hb2,by omega⟩;push_cast;exact K6.2.Z_
    ·have hq0:(eY l r4).1=0:=by omega
     rw[hq0]at BB0;obtain⟨L,hL⟩:=X_ (jT (dV ah np (np+tn)));obtain⟨r5,Ob⟩:=X_ ((eY l r4).2);have hLb:∀i,0≤L.getD i 0∧L.getD i 0≤1000:=by rw[←hL];exact Ko ah np (np+tn) (by omega)
     have hLn:0<L.length∧L.length≤200:=by
      have h1:=xJ ah np (np+tn);have h2:=fP.2 (SB ah np (np+tn) (by omega));have h3:L.length=(dV ah np (np+tn)).length:=by rw[←hL];exact aO _
      omega
     have ak9:S1.ps.length=np:=by rw[←HS1.out];exact xu
     have RE2:Hid (readM l ah m d k s r=S_ ({M1 with ss:=M1.ss.set k {S1 with lb:=(lb:Int)}},(pcGo l ⟨d,k⟩ lb L r5).1,(pcGo l ⟨d,k⟩ lb L r5).2)):=af (by rw[RB2.out,KE.1,aJ hq,Ob];unfold readC;simp only[ak9,hL]);rw[Ob]at BB0 hb2 hb3;have BB:=af BB0;obtain⟨i0,hti,hz0,hz1,hz2⟩:=qJ aan;have hm:=fun W=>Ec (P:=P_) 38 3 i0 _ 1 8 (np+tn) Tryz.underlying38 hti hz0 hz1 hz2 rfl (by decide) (by omega) (by omega) W;rw[Qr]at hm;simp only[Int.natCast_add]at hm;have ar:(List.replicate (np+tn) (Value.int l_ 0)).toArray=Array.replicate (np+tn) (i_ l_ 0):=by simp
     rw[ar]at hm;have MS:Hid (∀V Cm,Mv W H0 V (Cm++(jJ xb (pn:Int) s.said (lb:Int) (s_ va np vc) (s_ ua bn uc)::(nz g0::(FV++Y))))→Calls P_ 83 #[i_ l_ ah,i_ l_ np,i_ l_ ((np:Int)+tn),s_ (S_ ⟨V.heap.size,0,N_⟩) (np+tn) (np+tn)] (V.alloc (.cells (Array.replicate (np+tn) (Value.int l_ 0)) 3)) fun e w'=>∃a1 c1 a2 c2 n2 H1,e=r_ (t_ #[s_ a1 L.length c1,s_ a2 n2 c2])∧jy (s_ a1 L.length c1) L H1∧Mv W H0 w' (H1++(Cm++(jJ xb (pn:Int) s.said (lb:Int) (s_ va np vc) (s_ ua bn uc)::(nz g0::(FV++Y)))))):=af (by
      intro V Cm m;have m1:=m.alloc 3 (Array.replicate (np+tn) (Value.int l_ 0));have hrow:jy (s_ (S_ ⟨V.heap.size,0,N_⟩) (np+tn) (np+tn)) (List.replicate (np+tn) 0) [AU V.heap.size (List.replicate (np+tn) 0)]:=VX _ _ _ (by simp) (by unfold maxLen;omega);have hrc:AU V.heap.size (List.replicate (np+tn) 0)=⟨V.heap.size,3,Array.replicate (np+tn) (Value.int l_ 0)⟩:=by unfold AU;rw[List.map_replicate,ar]
      have m2:Mv W H0 (V.alloc (.cells (Array.replicate (np+tn) (Value.int l_ 0)) 3)) ([AU V.heap.size (List.replicate (np+tn) 0)]++(Cm++(jJ xb (pn:Int) s.said (lb:Int) (s_ va np vc) (s_ ua bn uc)::(nz g0::(FV++Y))))):=by rw[hrc];exact m1
      have sg:=RX ah np (np+tn) (List.replicate (np+tn) 0) _ _ _ hs63 (by omega) (by simp) (by simp;omega) (by intro e he;rw[List.mem_replicate]at he;omega) hrow m2.sat.left;simp only[Int.natCast_add]at sg;refine sg.mono ?_;rintro e w' ⟨v1,v2,H1,H2,rfl,h1,h2,m3⟩;obtain⟨a1,c1,rfl⟩:=h1.slice;obtain⟨a2,c2,rfl⟩:=h2.slice;rw[hL]at h1⊢;refine⟨a1,c1,a2,c2,_,H1,rfl,h1,?_⟩;exact(Mv.call m2 m3).Z_)
     have hpos:(0:Int)≤np+tn:=by omega
     have ht2:(np:Int)+tn≤1000:=by omega
     have HL2:=dS hLb hLn;clear BB0 Ob hL hq hq0 hbq ar hz0 hz1 hz2 hLb SM RB2 ak9;go_upto_region 18 with(first
      |(go_at_call 93;(with_reducible refine BB.out.mono ?_);rintro e w5 ⟨rfl,Cm,p1,p2⟩;have K5:=dS p1 (Mv.call KE.out.2 p2);clear p1 p2)
      |(go_at_call 83;(with_reducible refine(MS.out w5 Cm K5.out.2).mono ?_);rintro e w7 ⟨a1,c1,a2,c2,n2,H1,rfl,p1,p2⟩;have K7:=dS p1 p2;clear p1 p2))
     clear hm MS BB;obtain⟨cnt,hcnt⟩:=X_ (L.length);rw[hcnt]at K7 hLn⊢;have HCN:=af hcnt;clear hcnt;obtain⟨g1,rfl⟩:=K7.1.form hLn.1;have M8:=K7.2.alloc 106 #[p_ (S_ ⟨bb,0,N_⟩),i_ l_ k,s_ (S_ ⟨g1,0,N_⟩) cnt c1,s_ N_ 0 0];have K8R:=af M8;clear M8;go_upto_region 19 with fail;replace K8R:=K8R.out;obtain⟨qb,NH⟩:=X_ (w7.heap.size);obtain⟨w8,hw8⟩:=X_ (w7.alloc (.cells #[p_ (S_ ⟨bb,0,N_⟩),i_ l_ k,s_ (S_ ⟨g1,0,N_⟩) cnt c1,s_ N_ 0 0] 106));rw[NH]at K8R⊢;rw[hw8]at K8R⊢;have K8:Hid (Mv W H0 w8 (Cm++(DD qb bb k (s_ (S_ ⟨g1,0,N_⟩) cnt c1) (s_ N_ 0 0)::(jJ xb (pn:Int) s.said (lb:Int) (s_ va np vc) (s_ ua bn uc)::(H1++(nz g0::(FV++Y))))))):=af ((show Mv W H0 w8 (DD qb bb k (s_ (S_ ⟨g1,0,N_⟩) cnt c1) (s_ N_ 0 0)::(H1++(Cm++(jJ xb (pn:Int) s.said (lb:Int) (s_ va np vc) (s_ ua bn uc)::(nz g0::(FV++Y))))))from K8R).Z_);clear K8R NH hw8;go_upto_block 4 with fail;refine ik (η _ qb xb bb rb g1 cnt c1 k lb ⟨d,k⟩ l r5 L Cm (jJ xb (pn:Int) s.said (lb:Int) (s_ va np vc) (s_ ua bn uc)::(H1++(nz g0::(FV++Y)))) H0 W w8 HCN (fun i _=>HL2.1 i) hLn.2 hl2 K5.1 K8 (fun i hi V h=>⟨(h.at_ 0 rfl).cell 4,K7.1.at_ (Sat.right (A:=[_]) h).left (by rw[ax,ai (by rw[HCN.out];exact hi)];rfl)⟩) hll (by omega) hb2 ?_);rintro _ _ _ _ _ _ _ _ _ _ _ _ _ _ _ _ _ _ _ _ _ w9 HR9 HQ9 a9 c9 s1 s2 m9;have K9:=nY s1 s2 m9;have MX:Mv W H0 w9 (jJ xb (pn:Int) s.said (lb:Int) (s_ va np vc) (s_ ua bn uc)::(HR9++(HQ9++(DD qb bb k (s_ (S_ ⟨g1,0,N_⟩) cnt c1) (s_ a9 cnt c9)::(H1++(nz g0::(FV++Y))))))):=m9.Z_;have MF:Mv W H0 w9 ((nz g0::(DD qb bb k (s_ (S_ ⟨g1,0,N_⟩) cnt c1) (s_ a9 cnt c9)::(H1++(HQ9++HR9))))++(FV++Y)):=m9.Z_;have z0:w9.cell? ⟨xb,0,N_⟩=S_ (i_ l_ pn):=MX.cell 0 rfl 0;have z1:w9.cell? ⟨xb,1,N_⟩=S_ (s_ va np vc):=MX.cell 0 rfl 1;have z2:w9.cell? ⟨xb,2,N_⟩=S_ (s_ ua bn uc):=MX.cell 0 rfl 2;have z3:w9.cell? ⟨xb,3,N_⟩=S_ (i_ l_ s.said):=MX.cell 0 rfl 3;have z4:w9.cell? ⟨xb,4,N_⟩=S_ (i_ l_ lb):=MX.cell 0 rfl 4;obtain⟨⟨-,-,b1⟩,⟨j0,j1,j2,j3,j4⟩,fz5⟩:=HS w9 MF.sat.right.right;obtain⟨H',hB,MB⟩:=FIN w9 _ FV T1 (pn:Int) lb K5' hp1 hp2 hl2 MF;have KB:=dS hB MB;clear s1 s2 m9 MX MF hB MB;go_upto_region 23 with fail;refine ik (afn _ bb xb lg lc n k (pn:Int) s.said (lb:Int) va np vc ua bn uc w9 b1 z0 z1 z2 z3 z4 (fz5 0 (by decide)) (fz5 1 (by decide)) (fz5 2 (by decide)) (fz5 3 (by decide)) (fz5 4 (by decide)) ⟨_,j0⟩ ⟨_,j1⟩ ⟨_,j2⟩ ⟨_,j3⟩ ⟨_,j4⟩ hkn hn1 ?_);rintro _ _ _ _ _ _ _;clear b1 z0 z1 z2 z3 z4 fz5 j0 j1 j2 j3 j4;obtain⟨w10,ahI⟩:=X_ ((O4 w9 lg k (pn:Int) (s_ va np vc) (s_ ua bn uc) s.said (lb:Int)).drew);rw[ahI]at KB;unfold O4 at ahI;rw[ahI];have MB:Mv W H0 w10 (nz g0::(DD qb bb k (s_ (S_ ⟨g1,0,N_⟩) cnt c1) (s_ a9 cnt c9)::(H1++(HQ9++(HR9++H'))))):=KB.2.Z_;have q0:w10.cell? ⟨qb,0,N_⟩=S_ (p_ (S_ ⟨bb,0,N_⟩)):=MB.cell 1 rfl 0;have q1:w10.cell? ⟨qb,1,N_⟩=S_ (i_ l_ k):=MB.cell 1 rfl 1;have q2:w10.cell? ⟨qb,2,N_⟩=S_ (s_ (S_ ⟨g1,0,N_⟩) cnt c1):=MB.cell 1 rfl 2;have q3:w10.cell? ⟨qb,3,N_⟩=S_ (s_ a9 cnt c9):=MB.cell 1 rfl 3;have p0:w10.cell? ⟨g0,0,N_⟩=S_ (.pointer N_):=MB.cell 0 rfl 0;have p1:w10.cell? ⟨g0,1,N_⟩=S_ (i_ l_ 0):=MB.cell 0 rfl 1;have p2:w10.cell? ⟨g0,2,N_⟩=S_ (s_ N_ 0 0):=MB.cell 0 rfl 2;have p3:w10.cell? ⟨g0,3,N_⟩=S_ (s_ N_ 0 0):=MB.cell 0 rfl 3;have f0:w10.frozen? ⟨g0,0,N_⟩=F_:=MB.frozen 0 rfl 0;have f1:w10.frozen? ⟨g0,1,N_⟩=F_:=MB.frozen 0 rfl 1;have f2:w10.frozen? ⟨g0,2,N_⟩=F_:=MB.frozen 0 rfl 2;have f3:w10.frozen? ⟨g0,3,N_⟩=F_:=MB.frozen 0 rfl 3;have KZ:=af ((((MB.set 0 (p_ (S_ ⟨bb,0,N_⟩))).set 1 (i_ l_ k)).set 2 (s_ (S_ ⟨g1,0,N_⟩) cnt c1)).set 3 (s_ a9 cnt c9));clear MB ahI;go_wp2_with fail
     (try simp only[Exit.inBlock,Exit.then])
     refine dU (yZ _ _ g0 _ _ _ _ _ rfl rfl (Mv.kT KZ aG)) rfl ?_;rw[RE2.out];refine⟨_,_,H1,HQ9,HR9,H',rfl,?_,K9.1,K9.2.1,?_,?_⟩
     ·rw[UG]
      ·exact K7.1
      ·intro p hp;obtain⟨i,hi,rfl⟩:=List.mem_iff_getElem.1 hp;have:=(HL2.1 i).1;rw[ax,ai hi]at this;exact this
     ·have e:({M1 with ss:=M1.ss.set k {S1 with lb:=(lb:Int)}}:aT)={m with dA:=T1,ss:=m.ss.set k {s with pl:=(pn:Int),lb:=(lb:Int)}}:=by rw[←HM1.out,←HS1.out];simp only[jo]
      rw[e];exact KB.1
     ·exact KZ.drop1.drop1
end
section
open Go.RowKit
variable{vR:Value}
def gu.heard(s:gu)(pl lb:Int):gu:={s with m:={s.m with pl:=pl,lb:=lb}}
theorem WG{G:List gu}{k:Nat}{s:gu}(h:G[k]?=S_ s)(pl lb:Int):((((((G.flatMap gu.v).set (k*5) (i_ l_ pl)).set (k*5+1) s.vp).set (k*5+2) s.vb).set (k*5+3) (i_ l_ s.m.said)).set (k*5+4) (i_ l_ lb))=(G.set k (s.heard pl lb)).flatMap gu.v:=by have hk:=(aj.1 h).1;obtain⟨t,ht⟩:∃t:gu,t={s with m:={s.m with pl:=pl}}:=⟨_,rfl⟩;have s0:(G.set k t)[k]?=S_ t:=dJ hk;have e0:=jh gu.v 5 gu.jw G k s t h 0 (by omega) (i_ l_ pl) (by rw[ht];rfl);have e1:=jh gu.v 5 gu.jw (G.set k t) k t t s0 1 (by omega) s.vp (by rw[ht];rfl);have e2:=jh gu.v 5 gu.jw (G.set k t) k t t s0 2 (by omega) s.vb (by rw[ht];rfl);have e3:=jh gu.v 5 gu.jw (G.set k t) k t t s0 3 (by omega) (i_ l_ s.m.said) (by rw[ht];rfl);have e4:=jh gu.v 5 gu.jw (G.set k t) k t (s.heard pl lb) s0 4 (by omega) (i_ l_ lb) (by rw[ht];rfl);rw[jo]at e1 e2 e3 e4;rw[Nat.add_zero]at e0;rw[e0,e1,e2,e3,e4]
theorem afp(bb rb k ah:Nat)(m:aT)(d:bu)(s:og)(ff fz:Bool)(H HW:List HB)(l:List UInt8)(r:jG)(W:World)(hB:kC bb m ff fz H)(hw:iq vR rb l r HW)(hs:Sat W (H++HW))(hk:m.ss[k]?=S_ s)(hn1:m.ss.length≤1000)(hg:kE m.dA m.ss.length)(hnn:uQ m.dA)(hP:0≤m.aH∧m.aH≤60)
 (ajE:s.ps.length≤200) (hpl:s.ps.length≠0→1≤s.pl) (ajB:s.pl≤60) (hlb:s.lb≤24) (hs63:ah≤63) (hll:l.length≤90000000) (hrb:r.begun≤40000000) (h8:r.left≤8):
 Calls P_ 95 #[p_ (S_ ⟨bb,0,N_⟩),p_ (S_ ⟨rb,0,N_⟩),i_ l_ k,i_ l_ ah] W (XQ vR l bb rb k ff fz (H++HW) W (readM l ah m d k s r)):=by
 obtain⟨b,hb,rfl⟩:=hB;have hlen:b.G.length=m.ss.length:=by rw[←hb.ss,aO]
 have δ:=(aj.1 hk).1;obtain⟨g,hgk⟩:∃g,b.G[k]?=S_ g:=⟨_,ai (by omega)⟩;have e:g.m=s:=by
  have:m.ss[k]?=S_ g.m:=by rw[←hb.ss,aV,hgk];rfl
  rw[hk]at this;exact(iL this).symm
 have hq:=hb.st g (aF hgk);subst e;obtain⟨q1,q2,q3⟩:=id hq;obtain⟨pa,pc,hvp⟩:=q1.slice;obtain⟨ua,uc,hvb⟩:=dR.slice q2;have hlb0:=q3.lb;have Xe:Sat W (b.heap bb m):=hs.left;have Oa:Sat W (jk bb b.ti b.tu b.vl m::(b.Hl++(b.Hi++(b.Hu++b.G.flatMap gu.heap)))):=Xe;obtain⟨lg,lc,hvl,-⟩:=uw hb.row (Sat.left (B:=_) (Sat.right (A:=[_]) Oa)) hgk;have M0:Mv W (b.heap bb m++HW) W (b.Hu++(HW++Jl bb m b)):=(Mv.refl hs).sub (fun c=>by simp only[iG.heap,Jl,aP,bK];omega) (fun c hc=>by simp only[iG.heap,Jl,ay,aC]at hc⊢;grind);obtain⟨Cj,afk⟩:=dW hlb0.1;refine hear_walk bb rb b.tu k m.ss.length ah lg lc g.m.ps.length pc g.m.bs.length uc Cj g.m m d pa ua ff fz b.Hu HW (Jl bb m b) (b.heap bb m++HW) l r W hb.tu hw M0 ?_ hk δ hn1 hg hnn hP rfl ajE hpl ajB afk (by omega) hs63 hll hrb h8 ?_
 ·intro V h1;obtain⟨lg',lc',Jv,d0,d1,d2,d3,d4,fz0⟩:=uw hb.row (Sat.left (B:=_) (Sat.right (A:=[_]) h1)) hgk;rw[hvl]at Jv;simp only[pI,dG,Addr.mk.injEq,kJ,true_and]at Jv;obtain⟨rfl,rfl⟩:=Jv;rw[hvp]at d1;rw[hvb]at d2;rw[afk]at d4;refine⟨⟨(h1.at_ 0 rfl).cell 0,(h1.at_ 0 rfl).cell 3,?_⟩,⟨d0,d1,d2,d3,d4⟩,fun j hj=>fz0 _ (by omega)⟩;rw[←hlen,←hvl];exact(h1.at_ 0 rfl).cell 1
 ·intro w2 A XR T1 pl1 lb1 hU hp1 hp2 hl1 m2;have m3:Mv W (b.heap bb m++HW) w2 (b.Hl++(A++(XR++(jk bb b.ti b.tu b.vl m::(b.Hi++b.G.flatMap gu.heap))))):=m2.sub (fun c=>by simp only[Jl,aP,bK];omega) (fun c hc=>by simp only[Jl,ay,aC]at hc⊢;grind);have hk5:k*5+5≤b.G.length*5:=by omega
  obtain⟨H1,r1,p1⟩:=hb.row.set m3.sat.left hvl (k*5) (i_ l_ pl1) (by omega);obtain⟨H2,r2,p2⟩:=r1.set p1.sat hvl (k*5+1) (s_ pa g.m.ps.length pc) (by omega);obtain⟨H3,r3,p3⟩:=r2.set p2.sat hvl (k*5+2) (s_ ua g.m.bs.length uc) (by omega);obtain⟨H4,r4,p4⟩:=r3.set p3.sat hvl (k*5+3) (i_ l_ g.m.said) (by omega);obtain⟨H5,r5,p5⟩:=r4.set p4.sat hvl (k*5+4) (i_ l_ lb1) (by omega);have m4:=Mv.call m3 (Mv.call (R:=[]) (by simpa using Mv.call (R:=[]) (by simpa using Mv.call (R:=[]) (by simpa using Mv.call (R:=[]) (by simpa using p1) p2) p3) p4) p5);rw[←hvp,←hvb,WG hgk]at r5;have e5:(b.G.set k (g.heard pl1 (lb1:Int))).flatMap gu.heap=b.G.flatMap gu.heap:=qI gu.heap (by rfl) b.G k hgk;refine⟨_,⟨{b with Hl:=H5,Hu:=XR,G:=b.G.set k (g.heard pl1 (lb1:Int))},⟨?_,?_,?_,hb.ti,hU,hb.pl⟩,rfl⟩,Mv.drew (m4.sub (fun c=>?_) (fun c hc=>?_))⟩
  ·show(b.G.set k _).map _=m.ss.set k _;rw[jb,hb.ss];rfl
  ·intro x hx;rcases cZ hx with h|rfl
   ·exact hb.st x h
   ·exact⟨q1,q2,⟨q3.np,q3.nb,by show-1000≤pl1∧pl1≤1000;omega,q3.said,by show 0≤(lb1:Int)∧(lb1:Int)≤1000;omega,q3.ends⟩⟩
  ·simp only[fC];exact r5
  ·simp only[iG.heap,e5,jk,aP,bK];omega
  ·simp only[iG.heap,e5,jk,ay,aC]at hc⊢;grind
end
end Go.Proofs.YtjngfhgakokejaaGreat
