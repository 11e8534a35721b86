/- PacketReads: part 15. -/
import Derived.Test.YtjngfhgakokejaaGreatRq14
import Derived.Test.YtjngfhgakokejaaGreatChecked
import Derived.ProofKit
import Derived.OpenShut
import Derived.ShutString
import Derived.Deep.Slices
set_option maxRecDepth 100000
set_option maxHeartbeats 8000000
set_option linter.all false
namespace Go.Proofs.YtjngfhgakokejaaGreat
open Value renaming int→i_,slice→s_,pointer→p_,bool→b_,agg→g_,tuple→t_
open IntKind renaming i64→l_
open Ending renaming returned→r_
open Tryz renaming prog→P_
open Option renaming some→S_,none→N_
open Bool renaming true→T_,false→F_
variable{s0 s4 s5 s6 s7 s8 s9 s11 s12 s13 s14 s15 l9 s20 lF lC s23 s24 kZ s26 kW kR kY lu lJ lK lI lL lD s36 lY lX mG ni mZ mY s43 s44 nI mF nH nK s49 mD mg lW s53 mX mQ mP mO nX nJ oU oQ pO qW qN qV rD rC s68 rM rJ sN s72 sK sJ ry ru rf s78 qZ rH rG s82 s83 uk uj xI s87 xH xG xF xE xn xk xC xA xy xw xR zl oK oJ nT nS qj qh pY pX pG pF oI oH o9 oG nP nO nN nM oZ oW oV wK wJ wI wH wG wF wC wB wu vY vX vW uO yL yK yJ yI yH yG x9 Fa E9 E8 E5 EY EX EW EU EL EJ EG ED Ez Ey Gm IY IX IW IU IQ IP IL IK GK GI GH Jn Jm Gl Gj Gi kH kS s1 s2 s10 s16:Value}
section
open Go.RowKit
theorem Oz(x:Int)(n:Nat)(w:World)(h3:1≤n)(h4:n≤9000000):Calls P_ 8 #[i_ l_ x,i_ l_ n] w fun e w'=>e=r_ (i_ l_ (JG x n:Nat))∧w'=w:=by
 rw[OE x h3];have h3':(1:Int)≤n:=by omega
 have h4':(n:Int)≤9000000:=by omega
 obtain⟨m,hm⟩:∃m:Int,(n:Int)=m:=⟨_,rfl⟩;rw[hm]at h3' h4'⊢;clear hm h3 h4;obtain⟨h5,h6⟩:=Ul x m h3';have E:=af (OJ x m h3');go_enter Tryz.func8,Tryz.ntmps8;go_wp2
 all_goals go_ret
 ·exact⟨by rw[←E.out,aK (by assumption)];rfl,rfl⟩
 ·exact⟨by rw[←E.out,aJ (by omega)];rfl,rfl⟩
theorem dR.cut{g c n:Nat}{l:List UInt8}{H:List HB}(h:dR (s_ (S_ ⟨g,0,N_⟩) n c) l H){k:Nat}(hk:k≤n):dR (s_ (S_ ⟨g,0,N_⟩) k c) (l.take k) H:=by
 have hl:=h.len;subst hl;obtain⟨h1,h2⟩:=h;rcases h2 with⟨h3,-,-⟩|⟨g',cap,cur,e,k1,k2,k3,k4,rfl⟩
 ·cases h3
 ·cases e;refine⟨by simp[cellsB],.inr ⟨g,c,cur,by rw[bT,Nat.min_eq_left hk],by rw[bT];omega,k2,k3,?_,rfl⟩⟩;rw[bT,Nat.min_eq_left hk];have e2:cellsB (l.take k)=(cellsB l).take k:=by unfold cellsB;rw[List.map_take]
  rw[e2,←k4,List.take_take,um,um,Nat.min_eq_left hk]
theorem qE.Oj{b:Nat}{m:aT}{H:List HB}(h:qE b m H)(k cO:Nat):qE b (setSaidM m k cO) H:=by obtain⟨mr,ff,fz,h1,h2⟩:=h;exact⟨mr,ff,fz,h1,h2.Oj k cO⟩
theorem Xk(ps:List (Int×Bool)){i:Nat}(hi:i<ps.length):∃p,ps[i]?=S_ p∧(ps.map (·.1)).getD i 0=p.1:=by refine⟨ps[i],ai hi,?_⟩;rw[ax,aV,ai hi];rfl
theorem ag4(K:Act→World→Prop)(b wb k n ah count aB from_ cO:Nat)(m:aT)(s:og)(bs:List Bool)(body:List UInt8)(vb:Value)(H1 HW Hb R H0:List HB)(w0 w:World)
 (hB:qE b m H1) (hw:oN wb bs HW) (hb:dR vb body Hb) (hM:Mv w0 H0 w (HW++(Hb++(H1++R)))) (hk:m.ss[k]?=S_ s) (hn:m.ss.length=n) (hkn:k<n)
 (hfr:jg (s.ps.length:Int) (count:Int) (aB:Int)=from_) (ahL:jg (s.ps.length:Int) (count:Int) ((aB:Int)+1)=(cO:Int)) (hle:from_≤cO) (hto:cO≤s.ps.length) (hc:1≤count∧count≤100) (hl:aB≤99) (Em:ah≤63) (hbs:bs.length≤30000000) (hbody:body.length≤30000000)
 (hK:∀(t20 t21 t22 t23 t98 t99 t100 t101 t102 t103 t104 t105 t106 t107 t108 t109 t110 t111 t112 t113 t114 t115 t116 t117 t118 t119 t120 t121 t122 t123 t124 t125 t126 t127 t128 t129 t130 t131 t132 t133 t134 t135 t136 t137 t138 t139 t140 t141 t142 t143 t144 t145 t146 t147 t148 t149 t150 t151 t152 t153 t154 t155 t156 t157 t158 t159 t160 t161 t162 t163 t164 t165 t166 t167 t168:Value) (DZ:Value) (lM Ue DX:List HB) (wx:World),qE b (setSaidM (ug m k ah aB from_ cO s).1 k cO) DX→oN wb (bs++(ug m k ah aB from_ cO s).2) lM→dR DZ (if from_<cO then body++AL s.ps s.bs from_ cO else body) Ue→Mv w0 H0 wx (lM++(Ue++(DX++R)))→K ⟨List.toArray (s0::(i_ l_ ah)::(i_ l_ count)::(i_ l_ aB)::s4::s5::s6::s7::s8::s9::(p_ (S_ ⟨wb,0,N_⟩))::s11::s12::s13::s14::s15::(DZ)::l9::(p_ (S_ ⟨b,0,N_⟩))::(i_ l_ k)::t20::t21::t22::t23::s24::kZ::s26::kW::kR::kY::lu::lJ::lK::lI::lL::lD::s36::lY::lX::mG::ni::mZ::mY::s43::s44::nI::mF::nH::nK::s49::mD::mg::lW::s53::mX::mQ::mP::mO::nX::nJ::oU::oQ::pO::qW::qN::qV::rD::rC::s68::rM::rJ::sN::s72::sK::sJ::ry::ru::rf::s78::qZ::rH::rG::s82::s83::uk::uj::xI::s87::xH::xG::xF::xE::xn::xk::xC::xA::xy::xw::t98::t99::t100::t101::t102::t103::t104::t105::t106::t107::t108::t109::t110::t111::t112::t113::t114::t115::t116::t117::t118::t119::t120::t121::t122::t123::t124::t125::t126::t127::t128::t129::t130::t131::t132::t133::t134::t135::t136::t137::t138::t139::t140::t141::t142::t143::t144::t145::t146::t147::t148::t149::t150::t151::t152::t153::t154::t155::t156::t157::t158::t159::t160::t161::t162::t163::t164::t165::t166::t167::t168::Gl::Gj::Gi::[]),[]⟩ wx):
 (jB 7 Tryz.f11).wp P_ (Exit.then K qX) ⟨List.toArray (s0::(i_ l_ ah)::(i_ l_ count)::(i_ l_ aB)::s4::s5::s6::s7::s8::s9::(p_ (S_ ⟨wb,0,N_⟩))::s11::s12::s13::s14::s15::vb::l9::(p_ (S_ ⟨b,0,N_⟩))::(i_ l_ k)::s20::lF::lC::s23::s24::kZ::s26::kW::kR::kY::lu::lJ::lK::lI::lL::lD::s36::lY::lX::mG::ni::mZ::mY::s43::s44::nI::mF::nH::nK::s49::mD::mg::lW::s53::mX::mQ::mP::mO::nX::nJ::oU::oQ::pO::qW::qN::qV::rD::rC::s68::rM::rJ::sN::s72::sK::sJ::ry::ru::rf::s78::qZ::rH::rG::s82::s83::uk::uj::xI::s87::xH::xG::xF::xE::xn::xk::xC::xA::xy::xw::xR::zl::oK::oJ::nT::nS::qj::qh::pY::pX::pG::pF::oI::oH::o9::oG::nP::nO::nN::nM::oZ::oW::oV::wK::wJ::wI::wH::wG::wF::wC::wB::wu::vY::vX::vW::uO::yL::yK::yJ::yI::yH::yG::x9::Fa::E9::E8::E5::EY::EX::EW::EU::EL::EJ::EG::ED::Ez::Ey::Gm::IY::IX::IW::IU::IQ::IP::IL::IK::GK::GI::GH::Jn::Jm::Gl::Gj::Gi::[]),[]⟩ w:=by
 conv in(jB _ _)=>whnf
 unfold qX;have HK:=af hK;obtain⟨mr,ff,fz,⟨g,hg,rfl⟩,hr⟩:=hB;have sg:=hr.good s (aF hk);obtain⟨r,hrk,er⟩:=hr.get hk;obtain⟨e1,e2,e3,e4⟩:=zF er;have hf1:(yD m k aB from_ cO).2.length≤3000∨True:=.inr trivial;obtain⟨lg,lc,pc,uc,pa,ua,Hp0,Hb0,-,-,-,hcs⟩:=RY b mr g ff fz hg hrk;obtain⟨-,y2,c0,c1,c2,c3,c4,-,-⟩:=hcs w hM.sat.right.right.left;have y1:=(hcs w hM.sat.right.right.left).1;rw[hr.len,hn]at y1;rw[e1]at c0;rw[e2]at c1;rw[e3]at c2;rw[e4]at c4;have NW:=af (Si s.pl r.said s.lb pa s.ps.length pc (s_ ua s.bs.length uc) count aB w sg.np hc (by omega) ⟨_,_,_,rfl⟩);rw[hfr,ahL]at NW;have M0:Mv w0 H0 w (g.heap b mr++(HW++(Hb++R))):=hM.sub (fun c=>by simp only[aP];omega) (fun c hc=>by simp only[ay]at hc⊢;grind);have KM:=af M0;have KB:=NU hg hr hw hb hk sg;have hkI:(k:Int)<n:=by omega
 have hk5:k*5<100000:=by have:=hr.few;omega
 have hn1:n≤1000:=by have:=hr.few;omega
 obtain⟨np,xu⟩:=X_ (s.ps.length);have UN:np≤100:=by rw[←xu];exact sg.np
 obtain⟨nb,hnb⟩:=X_ (s.bs.length);have alX:nb≤300000:=by rw[←hnb];exact sg.bs
 rw[xu]at c1 NW hto;rw[hnb]at c2 NW;have HN:=nY xu hnb hn;have YC:Hid (∀V HX,Mv w0 H0 V (g.heap b mr++HX)→V.cell? ⟨b,2,N_⟩=S_ (p_ (S_ ⟨g.ti,0,N_⟩))):=af (fun V HX m1=>(hcs V m1.sat.left).2.1);clear hK hg hr hw hb hM hk sg hrk er e1 e2 e3 e4 hf1 hcs hfr ahL M0 hn xu hnb;go_upto_if 112 with(go_at_call 34;refine NW.out.mono ?_;rintro e w1 ⟨rfl,q1⟩;have K1:=af (Mv.call (H:=[]) (H':=[]) KM.out q1);clear q1);clear y1 y2 c0 c1 c2 c3 c4;have y2:=YC _ _ K1.out;go_cut [112]from 113 to 168 (fun _ wx=>∃DX lM,qE b {m with first:=(yD m k aB from_ cO).1} DX∧oN wb (bs++(yD m k aB from_ cO).2) lM∧Mv w0 H0 wx (DX++(lM++(Hb++R))))
 case first=>
  have M1:Mv w0 H0 w1 ((g.heap b mr++HW)++(Hb++R)):=by rw[az];exact K1.out
  have FE:=af (Zk b wb k m mr ff fz g KB.1 KB.2.1 bs HW w1 ((aB:Int)+1) (by rw[HN.2.2];exact hkn) (by omega) KB.2.2.1 M1.sat.left (by omega));have BT1:=af (CZ wb bs 1 w1 HW KB.2.2.1 M1.sat.left.right (by omega));have BT0:=af (CZ wb bs 0 w1 HW KB.2.2.1 M1.sat.left.right (by omega));have M2:Mv w0 H0 w1 (HW++(g.heap b mr++(Hb++R))):=M1.sub (fun c=>by simp only[aP];omega) (fun c hc=>by simp only[ay]at hc⊢;grind);have KM1:=af M1;have KM2:=af M2;have BF:Hid (∀(v:Bool) lM V,from_≠0→v=decide (from_<cO)→oN wb (bs++[v]) lM→Mv w0 H0 V (lM++(g.heap b mr++(Hb++R)))→∃DX lM,qE b {m with first:=(yD m k aB from_ cO).1} DX∧oN wb (bs++(yD m k aB from_ cO).2) lM∧Mv w0 H0 V (DX++(lM++(Hb++R)))):=af (by intro v lM V h0 hv h1 h2;rw[Tz,aJ h0,←hv];exact⟨_,lM,⟨mr,ff,fz,⟨g,KB.1,rfl⟩,KB.2.1⟩,h1,h2.sub (fun c=>by simp only[aP];omega) (fun c hc=>by simp only[ay]at hc⊢;grind)⟩);clear M1 M2;by_cases h0:from_=0
  ·have eF:Hid (yD m k aB from_ cO=encAt m.first k ((aB:Int)+1)):=af (by rw[Tz,aK h0]);have d0:((from_:Int)==0)=T_:=by simp;exact h0
   subst h0;go_wp2_with (go_at_call 37;refine FE.out.mono ?_;rintro e w2 ⟨rfl,DX,lM,q1,q2,q3⟩;have K2:=nY q1 q2 (Mv.call KM1.out q3);clear q1 q2 q3);go_meet;rw[eF.out];exact⟨DX,lM,K2.1,K2.2.1,by have h:=K2.2.2;rw[az]at h;exact h⟩
  ·have d0:((from_:Int)==0)=F_:=by simp;exact h0
   by_cases h1:from_<cO
   ·have B1:=af (BF T_ · · h0 (aQ h1).symm);have d1:decide ((from_:Int)<cO)=T_:=aQ (by omega);clear h0;go_wp2_with (go_at_call 35;refine BT1.out.mono ?_;rintro e w2 ⟨rfl,lM,q1,q2⟩;have K2:=dS q1 (Mv.call KM2.out q2);clear q1 q2);go_meet;exact B1 lM _ K2.1 K2.2
   ·have B1:=af (BF F_ · · h0 (aW h1).symm);have d1:decide ((from_:Int)<cO)=F_:=aW (by omega);clear h0;go_wp2_with (go_at_call 35;refine BT0.out.mono ?_;rintro e w2 ⟨rfl,lM,q1,q2⟩;have K2:=dS q1 (Mv.call KM2.out q2);clear q1 q2);go_meet;exact B1 lM _ K2.1 K2.2
 case rest=>
  obtain⟨H2,HW2,q1,q2,q3⟩:=hcut;have K2:=nY q1 q2 q3;clear q1 q2 q3 K1 KM NW y2 YC;by_cases hne:cO=from_
  ·have d0:((cO:Int)==(from_:Int))=T_:=by simp;omega
   have EH:Hid (ug m k ah aB from_ cO s=({m with first:=(yD m k aB from_ cO).1},(yD m k aB from_ cO).2)):=af (by unfold ug;rw[aK hne]);have EB:Hid ((if from_<cO then body++AL s.ps s.bs from_ cO else body)=body):=af (aJ (by omega));clear hne;go_wp2_with fail;refine HK _ _ _ _ _ _ _ _ _ _ _ _ _ _ _ _ _ _ _ _ _ _ _ _ _ _ _ _ _ _ _ _ _ _ _ _ _ _ _ _ _ _ _ _ _ _ _ _ _ _ _ _ _ _ _ _ _ _ _ _ _ _ _ _ _ _ _ _ _ _ _ _ _ _ _ vb HW2 Hb H2 _ ?_ ?_ ?_ ?_
   ·rw[EH.out];exact K2.1.Oj k cO
   ·rw[EH.out];exact K2.2.1
   ·rw[EB.out];exact KB.2.2.2.1
   ·exact K2.2.2.sub (fun c=>by simp only[aP];omega) (fun c hc=>by simp only[ay]at hc⊢;grind)
  ·have hft:from_<cO:=by omega
   have d0:((cO:Int)==(from_:Int))=F_:=by simp;omega
   have M2:Mv w0 H0 wc ((H2++HW2)++(Hb++R)):=by rw[az];exact K2.2.2
   have hl2:(bs++(yD m k aB from_ cO).2).length≤39000000:=by
    have h:=Kq m k aB from_ cO (by
     rcases iZ from_ with h|h
     ·exact(KB.2.1.first (by rw[HN.2.2];omega)).2.1.2.2.2.2
     ·exact(KB.2.1.first (by rw[HN.2.2];omega)).2.1.2.2.2.2) (by omega)
    rw[au];omega
   have SY:=af (aem b wb k from_ cO ah {m with first:=(yD m k aB from_ cO).1} s H2 HW2 _ wc K2.1 K2.2.1 M2.sat.left KB.2.2.2.2.1 hl2 hft (by rw[HN.1];exact hto) Em);have KM2:=af M2;have hnF:Hid (¬cO=from_):=af hne;clear M2 hl2 hne;go_upto_region 32 with(go_at_call 38;refine SY.out.mono ?_;rintro e w3 ⟨rfl,H3,HW3,q1,q2,q3⟩;have K3:=nY q1 q2 (Mv.call KM2.out q3);clear q1 q2 q3);obtain⟨m3,hm3⟩:∃m3:aT,m3={m with first:=(yD m k aB from_ cO).1,dA:=(Jc m k from_ s).1,ss:=m.ss.set k (s.jP s.said (qy s ah from_ cO))}:=⟨_,rfl⟩;have hB3:qE b m3 H3:=by rw[hm3];exact K3.1
   have hk3:m3.ss[k]?=S_ (s.jP s.said (qy s ah from_ cO)):=by rw[hm3];exact dJ (by rw[HN.2.2];exact hkn)
   have hn3:m3.ss.length=n:=by rw[hm3];show(m.ss.set k _).length=n;rw[fC];exact HN.2.2
   have HM3:=af hm3;clear hm3;have KB3:=af hB3;obtain⟨mr3,ff3,fz3,⟨g3,hg3,rfl⟩,hr3⟩:=hB3;obtain⟨r3,akI,er3⟩:=hr3.get hk3;obtain⟨f1,f2,f3,f4⟩:=zF er3;obtain⟨lg3,lc3,pc3,uc3,pa3,ua3,Hp3,Hb3,p1,p2,p3,hcs3⟩:=RY b mr3 g3 ff3 fz3 hg3 akI;have M3:Mv w0 H0 w3 (g3.heap b mr3++(HW3++(Hb++R))):=by rw[←az];exact K3.2.2
   obtain⟨y1,-,c0,c1,c2,-,-,-,-⟩:=hcs3 w3 M3.sat.left;rw[hr3.len,hn3]at y1;replace f1:r3.pl=s.pl:=f1;replace f2:r3.ps=s.ps:=f2;replace f3:r3.bs=s.bs:=f3;rw[f1]at c0;rw[f2,HN.1]at c1;rw[f3,HN.2.1]at c2;rw[f2,HN.1]at p1;rw[f3,HN.2.1]at p2;obtain⟨e0,pg,rfl⟩:=p1.form (by omega);obtain⟨lo,Ha,hlo,hhi,hlh,hhn,hbm⟩:=adl KB.2.2.2.2.2 hft (by rw[HN.1];exact hto);have M4:=M3.alloc 51 #[i_ l_ s.pl,s_ (S_ ⟨pg,0,N_⟩) np pc3,s_ ua3 nb uc3];obtain⟨xb,hxb⟩:=X_ (w3.heap.size);obtain⟨w4,hw4⟩:=Y_ (w3.alloc (.cells #[i_ l_ s.pl,s_ (S_ ⟨pg,0,N_⟩) np pc3,s_ ua3 nb uc3] 51));rw[←hw4,hxb]at M4;have KM4:=af M4;have CE:Hid (∀V HX,Mv w0 H0 V (⟨xb,51,#[i_ l_ s.pl,s_ (S_ ⟨pg,0,N_⟩) np pc3,s_ ua3 nb uc3]⟩::(g3.heap b mr3++HX))→V.cell? ⟨xb,1,N_⟩=S_ (s_ (S_ ⟨pg,0,N_⟩) np pc3)∧V.cell? ⟨xb,2,N_⟩=S_ (s_ ua3 nb uc3)∧V.cell? ⟨pg,(cO-1)*2,N_⟩=S_ (i_ l_ Ha)∧(0<from_→V.cell? ⟨pg,(from_-1)*2,N_⟩=S_ (i_ l_ lo))∧BV V (s_ ua3 nb uc3) s.bs):=af (by
    intro V HX m5;have sA:=m5.sat.at_ 0 rfl;have sB:Sat V (g3.heap b mr3):=(Sat.right (A:=[_]) m5.sat).left;obtain⟨-,-,-,-,-,-,-,sp,sb⟩:=hcs3 V sB;refine⟨sA.cell 1,sA.cell 2,?_,fun h0=>?_,?_⟩
    ·obtain⟨p,h1,h2⟩:=Xk s.ps (i:=cO-1) (by rw[HN.1];omega);rw[hhi,h2];exact(p1.at_ sp h1).1
    ·obtain⟨p,h1,h2⟩:=Xk s.ps (i:=from_-1) (by rw[HN.1];omega);rw[hlo,aJ (by omega),h2];exact(p1.at_ sp h1).1
    ·exact p2.bv sb)
   have HBM:=zO hlo hlh hhn hbm;have UA:Hid ((ua3=N_∧nb=0∧uc3=0)∨∃bg,ua3=S_ ⟨bg,0,N_⟩∧nb≤uc3):=af (by
    rcases p2.2 with⟨h1,h2,h3⟩|⟨bg,vc,cur,h1,h2,h3⟩
    ·simp only[pI]at h1;exact .inl h1
    ·simp only[pI]at h1;refine .inr ⟨bg,h1.1,?_⟩;have h4:=h1.2.1;have h5:=h1.2.2;omega)
   clear M3 M4 p1 p2 p3 hcs3 hg3 hr3 akI er3 f2 f3 f4 hk3 hn3 hlo hhi hlh hhn hbm e0;go_upto_region 33 with fail;rw[←hw4]
   try simp only[hxb]
   clear y1 c0 c1 c2 hw4;obtain⟨x1,x2,x3,x4,-⟩:=CE w4 _ KM4.out;go_upto_if 148 with fail;go_cut [23,148]from 149 to 168 (fun s23 _ wx=>s23=i_ l_ lo∧wx=w4)
   case first=>
    by_cases h0:from_=0
    ·have d1:decide ((0:Int)<from_)=F_:=by simp;omega
     have d2:¬0<from_:=by omega
     have e:Hid (lo=0):=af (by have h:=HBM.1;rw[aK h0]at h;omega);clear x4 h0;go_wp2_with fail;go_meet;exact⟨by rw[e.out];rfl,rfl⟩
    ·have d1:decide ((0:Int)<from_)=T_:=by simp;omega
     have d2:0<from_:=by omega
     have x5:=x4 (by omega);obtain⟨t1,ht1⟩:=X_ (from_-1);rw[ht1]at x5;have ect:(from_:Int)-1=(t1:Int):=by omega
     have hct:(t1:Int)<np:=by omega
     have hcn:t1<np:=by omega
     have ew:IntKind.i64.wrap (t1:Int)=t1:=fF _ (by omega);clear x4 h0 ht1;go_wp2_with fail;go_meet;exact⟨rfl,rfl⟩
   case rest=>
    obtain⟨rfl,rfl⟩:=hcut;have EH:Hid (ug m k ah aB from_ cO s=(m3,(yD m k aB from_ cO).2++((Jc m k from_ s).2++(D8 (cO-from_)++Dt s ah from_ cO)))):=af (by unfold ug;rw[aJ hnF.out,HM3.out]);have EB:Hid ((if from_<cO then body++AL s.ps s.bs from_ cO else body)=body++AL s.ps s.bs from_ cO):=af (aK hft);have M5:Mv w0 H0 wc (Hb++(⟨xb,51,#[i_ l_ s.pl,s_ (S_ ⟨pg,0,N_⟩) np pc3,s_ ua3 nb uc3]⟩::(g3.heap b mr3++(HW3++R)))):=KM4.sub (fun c=>by simp only[aP,bK];omega) (fun c hc=>by simp only[ay,aC]at hc⊢;grind);have FIN:Hid (∀(DZ:Value) (Ue:List HB) (wx:World),dR DZ (body++AL s.ps s.bs from_ cO) Ue→Mv w0 H0 wx (Ue++(⟨xb,51,#[i_ l_ s.pl,s_ (S_ ⟨pg,0,N_⟩) np pc3,s_ ua3 nb uc3]⟩::(g3.heap b mr3++(HW3++R))))→∃DX lM,qE b (setSaidM (ug m k ah aB from_ cO s).1 k cO) DX∧oN wb (bs++(ug m k ah aB from_ cO s).2) lM∧dR DZ (if from_<cO then body++AL s.ps s.bs from_ cO else body) Ue∧Mv w0 H0 wx (lM++(Ue++(DX++R)))):=af (by
     intro DZ Ue wx h1 h2;refine⟨g3.heap b mr3,HW3,?_,?_,?_,h2.sub (fun c=>?_) (fun c hc=>?_)⟩
     ·rw[EH.out];exact KB3.Oj k cO
     ·rw[EH.out];have h:=K3.2.1;rw[az]at h;exact h
     ·rw[EB.out];exact h1
     ·simp only[aP,bK];omega
     ·simp only[ay,aC]at hc⊢;grind)
    obtain⟨x1,x2,x3,-,x5⟩:=CE wc _ KM4.out;have X5:=af x5;have KM5:=af M5;clear x4 x5 M5;go_upto_region 36 with fail;rcases UA.out with⟨rfl,rfl,rfl⟩|⟨bg,rfl,hvc⟩
    ·have hz:lo=0∧Ha=0∧AL s.ps s.bs from_ cO=[]:=by obtain⟨-,h2,h3,h4⟩:=HBM.out;rw[HN.2.1]at h3;refine⟨by omega,by omega,?_⟩;rw[h4,show Ha-lo=0 by omega,List.take_zero]
     obtain⟨rfl,rfl,hbz⟩:=hz;refine lU (aca _ xb pg np pc3 cO vb body Hb _ H0 w0 wc KB.2.2.2.1 KM5 (by omega) ⟨by omega,hto⟩ UN x1 x2 x3 ?_);rintro _ _ _ _ _ _ _ _ _ _ _ _ _ DZ Ue wx h1 h2;obtain⟨DX,lM,a1,a2,a3,a4⟩:=FIN DZ Ue wx (by rw[hbz,dD];exact h1) h2;exact HK _ _ _ _ _ _ _ _ _ _ _ _ _ _ _ _ _ _ _ _ _ _ _ _ _ _ _ _ _ _ _ _ _ _ _ _ _ _ _ _ _ _ _ _ _ _ _ _ _ _ _ _ _ _ _ _ _ _ _ _ _ _ _ _ _ _ _ _ _ _ _ _ _ _ _ DZ lM Ue DX wx a1 a2 a3 a4
    ·refine lU (acb _ xb bg nb uc3 pg np pc3 lo Ha cO vb body s.bs Hb _ H0 w0 wc KB.2.2.2.1 KM5 (by omega) HN.2.1 alX hvc HBM.2.1 (by rw[←HN.2.1];exact HBM.2.2.1) ⟨by omega,hto⟩ UN x1 x2 x3 X5.out ?_);rintro _ _ _ _ _ _ _ _ _ _ _ _ _ DZ Ue wx h1 h2;rw[←HBM.2.2.2]at h1;obtain⟨DX,lM,a1,a2,a3,a4⟩:=FIN DZ Ue wx h1 h2;exact HK _ _ _ _ _ _ _ _ _ _ _ _ _ _ _ _ _ _ _ _ _ _ _ _ _ _ _ _ _ _ _ _ _ _ _ _ _ _ _ _ _ _ _ _ _ _ _ _ _ _ _ _ _ _ _ _ _ _ _ _ _ _ _ _ _ _ _ _ _ _ _ _ _ _ _ DZ lM Ue DX wx a1 a2 a3 a4
structure XU(count aB ah:Nat)(D:List bu)(S0:zg)(pre:List dF)(S:zg):Prop where
 eq:S=pre.foldl (qK count ah aB) S0
 said:jZ count aB D pre S.M
 len:∀d∈D,(S.M d.bb).ss.length=d.n
 both:∀d∈D,sG (S.M d.bb)
 bits:S.bits.length≤130000*pre.length+1
 body:S.body.length≤300000*pre.length
theorem XU.step{count aB ah:Nat}{D:List bu}{S0 S:zg}{pre:List dF}(h:XU count aB ah D S0 pre S)(hl:aB≤99){d:bu}(hd:d∈D){k:Nat}{s:og}(hs:(S.M d.bb).ss[k]?=S_ s)(hlb:0≤s.lb)(xu:s.ps.length≤100)(hbs:s.bs.length≤300000)(hf:(S.M d.bb).first.length≤20)(hz:(S.M d.bb).dA.length≤20)(hto:toM count aB s≤s.ps.length):
 qK count ah aB S ⟨d,k⟩=⟨ou S.M d.bb (setSaidM (ug (S.M d.bb) k ah aB s.said.toNat (toM count aB s) s).1 k (toM count aB s)),S.bits++(ug (S.M d.bb) k ah aB s.said.toNat (toM count aB s) s).2,if s.said.toNat<toM count aB s then S.body++AL s.ps s.bs s.said.toNat (toM count aB s)else S.body⟩∧
 XU count aB ah D S0 (pre++[⟨d,k⟩]) (qK count ah aB S ⟨d,k⟩):=by
 have e:qK count ah aB S ⟨d,k⟩=⟨ou S.M d.bb (setSaidM (ug (S.M d.bb) k ah aB s.said.toNat (toM count aB s) s).1 k (toM count aB s)),S.bits++(ug (S.M d.bb) k ah aB s.said.toNat (toM count aB s) s).2,if s.said.toNat<toM count aB s then S.body++AL s.ps s.bs s.said.toNat (toM count aB s)else S.body⟩:=by unfold qK;simp only[hs]
 refine⟨e,⟨?_,h.said.step ah hd,fun x hx=>by rw[Ry];exact h.len x hx,OU count ah aB D S ⟨d,k⟩ hd h.both,?_,?_⟩⟩
 ·rw[dP,←h.eq];rfl
 ·have b:=h.both d hd;have hh:=UT (S.M d.bb) k ah aB s.said.toNat (toM count aB s) s hf hz b.g (b.g.ss s (aF hs)) (by omega) (b.e s (aF hs)) hlb (by omega);have h2:=h.bits;rw[e];simp only[au,List.length_cons,List.length_nil];omega
 ·have hh:=U7 s.ps s.bs s.said.toNat (toM count aB s);have h2:=h.body;rw[e];simp only;split
  ·simp only[au,List.length_cons,List.length_nil];omega
  ·simp only[au,List.length_cons,List.length_nil];omega
theorem ajU{w0 w:World}{H0 HW HY HL A1 H1 A2 R:List HB}(m:Mv w0 H0 w (HW++(HY++(HL++((A1++(H1++A2))++R))))):Mv w0 H0 w (HW++(HY++(H1++(HL++(A1++(A2++R)))))):=m.Z_
theorem ajT{w0 w:World}{H0 HW HY HL A1 H1 A2 R:List HB}(m:Mv w0 H0 w (HW++(HY++(H1++(HL++(A1++(A2++R))))))):Mv w0 H0 w (HW++(HY++(HL++((A1++(H1++A2))++R)))):=m.Z_
theorem ag5(K:Act→World→Prop)(A:Option Addr)(c n wb ah count aB:Nat)(Bs:List Nat)(D:List bu)(S0:zg)(vb:Value)(HL HW HY HB0 R H0:List HB)(w0 w:World)
 (hL:wZ (s_ A n c) Bs HL) (hB:gJ qE Bs D S0.M HB0) (hw:oN wb S0.bits HW) (hb:dR vb S0.body HY) (hM:Mv w0 H0 w (HW++(HY++(HL++(HB0++R))))) (hn:D.length=n) (hn3:n≤1000) (hnd:(D.map (·.bb)).Nodup) (hI:XU count aB ah D S0 [] S0) (hc:1≤count∧count≤100) (hl:aB≤99) (Em:ah≤63) (hsp:(aX D).length≤90)
 (hK:∀(t16 t17 t18 t19 t20 t21 t22 t23 t79 t80 t81 t82 t83 t84 t85 t86 t87 t88 t89 t90 t91 t92 t93 t94 t95 t96 t97 t98 t99 t100 t101 t102 t103 t104 t105 t106 t107 t108 t109 t110 t111 t112 t113 t114 t115 t116 t117 t118 t119 t120 t121 t122 t123 t124 t125 t126 t127 t128 t129 t130 t131 t132 t133 t134 t135 t136 t137 t138 t139 t140 t141 t142 t143 t144 t145 t146 t147 t148 t149 t150 t151 t152 t153 t154 t155 t156 t157 t158 t159 t160 t161 t162 t163 t164 t165 t166 t167 t168 t169 t170 t171:Value) (lM HY' HB':List HB) (wx:World),XU count aB ah D S0 (aX D) ((aX D).foldl (qK count ah aB) S0)→oN wb ((aX D).foldl (qK count ah aB) S0).bits lM→dR t16 ((aX D).foldl (qK count ah aB) S0).body HY'→gJ qE Bs D ((aX D).foldl (qK count ah aB) S0).M HB'→Mv w0 H0 wx (lM++(HY'++(HL++(HB'++R))))→K ⟨List.toArray ((s_ A n c)::(i_ l_ ah)::(i_ l_ count)::(i_ l_ aB)::s4::s5::s6::s7::s8::s9::(p_ (S_ ⟨wb,0,N_⟩))::s11::s12::s13::s14::s15::t16::t17::t18::t19::t20::t21::t22::t23::s24::kZ::s26::kW::kR::kY::lu::lJ::lK::lI::lL::lD::s36::lY::lX::mG::ni::mZ::mY::s43::s44::nI::mF::nH::nK::s49::mD::mg::lW::s53::mX::mQ::mP::mO::nX::nJ::oU::oQ::pO::qW::qN::qV::rD::rC::s68::rM::rJ::sN::s72::sK::sJ::ry::ru::rf::s78::t79::t80::t81::t82::t83::t84::t85::t86::t87::t88::t89::t90::t91::t92::t93::t94::t95::t96::t97::t98::t99::t100::t101::t102::t103::t104::t105::t106::t107::t108::t109::t110::t111::t112::t113::t114::t115::t116::t117::t118::t119::t120::t121::t122::t123::t124::t125::t126::t127::t128::t129::t130::t131::t132::t133::t134::t135::t136::t137::t138::t139::t140::t141::t142::t143::t144::t145::t146::t147::t148::t149::t150::t151::t152::t153::t154::t155::t156::t157::t158::t159::t160::t161::t162::t163::t164::t165::t166::t167::t168::t169::t170::t171::[]),[]⟩ wx):
 (jB 4 Tryz.f11).wp P_ (Exit.then K qX) ⟨List.toArray ((s_ A n c)::(i_ l_ ah)::(i_ l_ count)::(i_ l_ aB)::s4::s5::s6::s7::s8::s9::(p_ (S_ ⟨wb,0,N_⟩))::s11::s12::s13::s14::s15::vb::(i_ l_ 0)::kH::kS::s20::lF::lC::s23::s24::kZ::s26::kW::kR::kY::lu::lJ::lK::lI::lL::lD::s36::lY::lX::mG::ni::mZ::mY::s43::s44::nI::mF::nH::nK::s49::mD::mg::lW::s53::mX::mQ::mP::mO::nX::nJ::oU::oQ::pO::qW::qN::qV::rD::rC::s68::rM::rJ::sN::s72::sK::sJ::ry::ru::rf::s78::qZ::rH::rG::s82::s83::uk::uj::xI::s87::xH::xG::xF::xE::xn::xk::xC::xA::xy::xw::xR::zl::oK::oJ::nT::nS::qj::qh::pY::pX::pG::pF::oI::oH::o9::oG::nP::nO::nN::nM::oZ::oW::oV::wK::wJ::wI::wH::wG::wF::wC::wB::wu::vY::vX::vW::uO::yL::yK::yJ::yI::yH::yG::x9::Fa::E9::E8::E5::EY::EX::EW::EU::EL::EJ::EG::ED::Ez::Ey::Gm::IY::IX::IW::IU::IQ::IP::IL::IK::GK::GI::GH::Jn::Jm::Gl::Gj::Gi::[]),[]⟩ w:=by
 conv in(jB _ _)=>whnf
 unfold qX;have HK:=af hK;have hbl:Bs.length=n:=hB.len.trans hn;have KI:=zO hL hn hnd hbl;have K0:=LH hB hw hb hM hI;clear hK hL hB hw hb hM hn hnd hbl hI;go_wp2_with fail;go_loopg [16,17] n (fun mm s16 l9 wx=>∃(i:Nat) (S:zg) (lM HY' QZ:List YtjngfhgakokejaaGreat.HB),i≤n∧mm=n-i∧l9=i_ l_ i∧XU count aB ah D S0 (aX (D.take i)) S∧gJ qE Bs D S.M QZ∧oN wb S.bits lM∧dR s16 S.body HY'∧Mv w0 H0 wx (lM++(HY'++(HL++(QZ++R)))))
 case atStart=>exact⟨0,S0,HW,HY,HB0,aY _,rfl,rfl,by simp only[List.take_zero];exact K0.2.2.2.2,K0.1,K0.2.1,K0.2.2.1,K0.2.2.2.1⟩
 case round=>
  clear K0;obtain⟨i,S,HW1,HY1,QZ,hi,rfl,rfl,hE,hB,hw,hb,m⟩:=hrel;by_cases hlt:i<n
  ·have d1:decide ((i:Int)<n)=T_:=by simp;omega
   obtain⟨b,hbb⟩:∃b,Bs[i]?=S_ b:=⟨_,ai (by rw[KI.2.2.2];exact hlt)⟩;obtain⟨d,hd⟩:∃d,D[i]?=S_ d:=⟨_,ai (by rw[KI.2.1];exact hlt)⟩;have hdm:=aF hd;obtain⟨lg,rfl,hLc⟩:=JX KI.1 hbb;have y0:=hLc wr m.sat.right.right.left;have KS:=zO hd hdm hbb hLc;have KE:=LH hE hB hw hb m;have hiI:(i:Int)<n:=by omega
   have hi3:i≤1000:=by omega
   obtain⟨nk,hnk⟩:=X_ (d.n);have HNK:=af hnk;have alW:nk≤90:=by
    have h1:nk≤(aX D).length:=by
     have h2:(aX (D.take (i+1))).length≤(aX D).length:=by
      have h3:aX D=aX (D.take (i+1))++aX (D.drop (i+1)):=by unfold aX;rw[←gX,iP]
      rw[h3,au];omega
     rw[su hd,au,aO,rX]at h2;omega
    omega
   clear hE hB hw hb m hd hdm hbb hLc hnk;go_upto_region 21 with fail;go_wp2_with fail;clear y0;go_loopg [16,19] nk (fun mm s16 kS wx=>∃(k:Nat) (S:zg) (lM HY' QZ:List YtjngfhgakokejaaGreat.HB),k≤nk∧mm=nk-k∧kS=i_ l_ k∧XU count aB ah D S0 (aX (D.take i)++(List.range k).map (fun j=>(⟨d,j⟩:dF))) S∧gJ qE Bs D S.M QZ∧oN wb S.bits lM∧dR s16 S.body HY'∧Mv w0 H0 wx (lM++(HY'++(HL++(QZ++R)))))
   case atStart=>exact⟨0,S,HW1,HY1,QZ,aY _,rfl,rfl,by simp only[List.range_zero,gW,dD];exact KE.1,KE.2.1,KE.2.2.1,KE.2.2.2.1,KE.2.2.2.2⟩
   case round=>
    clear KE;obtain⟨k,S,HW1,HY1,QZ,hk,rfl,rfl,hE,hB,hw,hb,m⟩:=hrel;obtain⟨A1,H1,A2,rfl,hP,hstep⟩:=hB.split KI.2.2.1 KS.2.2.1 KS.1;have M1:=ajU m;have hsl:=hE.len d KS.2.1;rw[HNK.out]at hsl;have y1:∃va vc,wr.cell? ⟨b,1,N_⟩=S_ (s_ va nk vc):=by
     obtain⟨mr,ff,fz,⟨g,hg,rfl⟩,hr⟩:=id hP;obtain⟨va,vc,hvl⟩:=dh.slice hg.row;have hgl:g.G.length=nk:=by rw[←hsl,←hr.len,←hg.ss,aO]
     rw[hgl]at hvl;have h:Sat wr (jk b g.ti g.tu g.vl mr::(g.Hl++(g.Hi++(g.Hu++g.G.flatMap gu.heap)))):=M1.sat.right.right.left;exact⟨va,vc,by rw[←hvl];exact(h.at_ 0 rfl).cell 1⟩
    obtain⟨va,vc,y1⟩:=y1;by_cases hlk:k<nk
    ·have d2:decide ((k:Int)<nk)=T_:=by simp;omega
     obtain⟨s,hs⟩:∃s,(S.M d.bb).ss[k]?=S_ s:=⟨_,ai (by rw[hsl];exact hlk)⟩;have hfresh:=Jf KI.2.2.1 KS.1 k;obtain⟨hf,ht,hle,hto⟩:=hE.said.round KS.2.1 hfresh hs;have hrel:∃mr ff fz,FT (S.M d.bb) mr ff fz:=by obtain⟨mr,ff,fz,-,hr⟩:=id hP;exact⟨mr,ff,fz,hr⟩
     obtain⟨mr,ff,fz,hr⟩:=hrel;have sg:=hr.good s (aF hs);have hlb:0≤s.lb:=by obtain⟨mr,ff,fz,⟨g,hg,-⟩,hr⟩:=id hP;obtain⟨r,hrk,er⟩:=hr.get hs;obtain⟨-,-,-,-,-,-,-,-,-,-,q3,-⟩:=RY b mr g ff fz hg hrk;rw[←(zF er).2.2.2];exact q3.lb.1
     have hpl:(aX (D.take i)++(List.range k).map (fun j=>(⟨d,j⟩:dF))).length≤90:=by
      have h2:(aX (D.take (i+1))).length≤(aX D).length:=by
       have h3:aX D=aX (D.take (i+1))++aX (D.drop (i+1)):=by unfold aX;rw[←gX,iP]
       rw[h3,au];omega
      rw[su KS.1,au,aO,rX,HNK.out]at h2;rw[au,aO,rX];omega
     have hb1:=hE.bits;have hb2:=hE.body;obtain⟨eS,hE2⟩:=hE.step hl KS.2.1 hs hlb sg.np sg.bs (hr.first (by omega)).2.1.2.2.2.2 (hr.dA (by omega)).2.1.2.2.2.2 hto;obtain⟨f,hf2⟩:=X_ (s.said.toNat);obtain⟨t,ht2⟩:=X_ (toM count aB s);rw[hf2]at hf hle eS;rw[ht2]at ht hle hto eS;have KQ:=aiu hP hw hb M1 hs hsl hf ht hstep (And.intro eS hE2);have amg:S.bits.length≤30000000:=by omega
     have amf:S.body.length≤30000000:=by omega
     clear hP hw hb M1 hs hsl hf ht hstep eS hE2 hE hfresh hr sg hlb hpl hb1 hb2 m hf2 ht2 mr ff fz;go_upto_block 7 with fail;refine ik (ag4 _ b wb k nk ah count aB f t (S.M d.bb) s S.bits S.body _ H1 HW1 HY1 (HL++(A1++(A2++R))) H0 w0 wr KQ.1 KQ.2.1 KQ.2.2.1 KQ.2.2.2.1 KQ.2.2.2.2.1 KQ.2.2.2.2.2.1 hlk KQ.2.2.2.2.2.2.1 KQ.2.2.2.2.2.2.2.1 hle hto hc hl Em amg amf ?_);rintro _ _ _ _ _ _ _ _ _ _ _ _ _ _ _ _ _ _ _ _ _ _ _ _ _ _ _ _ _ _ _ _ _ _ _ _ _ _ _ _ _ _ _ _ _ _ _ _ _ _ _ _ _ _ _ _ _ _ _ _ _ _ _ _ _ _ _ _ _ _ _ _ _ _ _ v2 HW2 HY2 H2 w2 r1 r2 r3 r4;have KR:=zO r1 r2 r3 r4;clear r1 r2 r3 r4;go_wp2_with fail;go_roundg (nk-(k+1))
     case measure=>omega
     case rel=>
      obtain⟨r1,r2,r3,r4⟩:=KR.out;obtain⟨hstep,eS,hE2⟩:=KQ.2.2.2.2.2.2.2.2;refine⟨k+1,qK count ah aB S ⟨d,k⟩,HW2,HY2,A1++(H2++A2),hlk,rfl,by push_cast;rfl,?_,?_,?_,?_,ajT r4⟩
      ·rw[fO,bU,←az];exact hE2
      ·rw[eS];exact hstep _ _ r1
      ·rw[eS];exact r2
      ·rw[eS];exact r3
    ·obtain rfl:k=nk:=by omega
     have d2:decide ((k:Int)<k)=F_:=by simp
     have KQ:=LH hE (hstep _ _ hP) hw hb m;clear hE hP hw hb m hstep M1 hsl;go_wp2_with fail;go_roundg (n-(i+1))
     case measure=>omega
     case rel=>
      obtain⟨h1,h2,h3,h4,h5⟩:=KQ.out;refine⟨i+1,S,HW1,HY1,A1++(H1++A2),hlt,rfl,by push_cast;rfl,?_,?_,h3,h4,h5⟩
      ·rw[su KS.1,HNK.out];exact h1
      ·rw[LQ]at h2;exact h2
  ·obtain rfl:i=n:=by omega
   have d1:decide ((i:Int)<i)=F_:=by simp
   have e2:D.take i=D:=dC (by rw[KI.2.1];exact aN _);rw[e2]at hE;have eS:=hE.eq;subst eS;have KQ:=LH hE hB hw hb m;clear hE hB hw hb m e2;go_wp2_with fail;exact HK _ _ _ _ _ _ _ _ _ _ _ _ _ _ _ _ _ _ _ _ _ _ _ _ _ _ _ _ _ _ _ _ _ _ _ _ _ _ _ _ _ _ _ _ _ _ _ _ _ _ _ _ _ _ _ _ _ _ _ _ _ _ _ _ _ _ _ _ _ _ _ _ _ _ _ _ _ _ _ _ _ _ _ _ _ _ _ _ _ _ _ _ _ _ _ _ _ _ _ _ _ HW1 HY1 QZ _ KQ.1 KQ.2.2.1 KQ.2.2.2.1 KQ.2.1 KQ.2.2.2.2
theorem last_cases{w:World}{v:Value}{l:List UInt8}{H:List HB}(h:dR v l H)(hs:Sat w H):(l=[]∧∃a c,v=s_ a 0 c)∨(∃g m c,l.length=m+1∧v=s_ (S_ ⟨g,0,N_⟩) (m+1) c∧w.cell? ⟨g,m,N_⟩=S_ (i_ .u8 ((l.getLastD 0).toNat:Int))∧((l.getLast?=S_ 255)↔l.getLastD 0=255)):=by
 by_cases hl:l=[]
 ·subst hl;obtain⟨a,c,rfl⟩:=dR.slice h;exact .inl ⟨rfl,a,c,rfl⟩
 ·have h0:0<l.length:=fP.2 hl;obtain⟨g,c,rfl,h1,-⟩:=h.last hs h0;obtain⟨m,hm⟩:∃m,l.length=m+1:=⟨l.length-1,by omega⟩;rw[hm]at h1⊢;refine .inr ⟨g,m,c,rfl,rfl,h1,?_⟩;constructor
  ·intro e;rw[kD,e];rfl
  ·intro e;rw[Df e];trivial
def full(l:List UInt8):Bool:=decide (l.getLast?=S_ 255)
theorem akm(K:Act→World→Prop)(l:List UInt8)(v:Value)(w:World)(hl:l.length≤90000000)
 (LC:(l=[]∧∃a c,v=s_ a 0 c)∨(∃g m c,l.length=m+1∧v=s_ (S_ ⟨g,0,N_⟩) (m+1) c∧w.cell? ⟨g,m,N_⟩=S_ (i_ .u8 ((l.getLastD 0).toNat:Int))∧((l.getLast?=S_ 255)↔l.getLastD 0=255)))
 (hK:∀(t11 t12 t13 t14 t15 t16 t17 t18 t19 t20 t21:Value),K ⟨List.toArray (s0::s1::s2::v::s4::s5::s6::s7::s8::s9::s10::t11::t12::t13::t14::t15::t16::t17::t18::t19::t20::t21::(b_ (full l))::s23::s24::kZ::s26::kW::kR::kY::lu::lJ::lK::lI::lL::lD::s36::lY::lX::mG::ni::mZ::mY::s43::s44::nI::mF::nH::nK::s49::mD::mg::lW::[]),[]⟩ w):
 (dQ 3 Tryz.f36).wp P_ (Exit.then K qX) ⟨List.toArray (s0::s1::s2::v::s4::s5::s6::s7::s8::s9::s10::s11::s12::s13::s14::s15::s16::l9::kH::kS::s20::lF::lC::s23::s24::kZ::s26::kW::kR::kY::lu::lJ::lK::lI::lL::lD::s36::lY::lX::mG::ni::mZ::mY::s43::s44::nI::mF::nH::nK::s49::mD::mg::lW::[]),[]⟩ w:=by
 conv in(dQ _ _)=>whnf
 unfold qX;have HK:=af hK;clear hK;rcases LC with⟨h0,a,k,rfl⟩|⟨g,m,k,hm,rfl,hc,ig⟩
 ·have hf:full l=F_:=by rw[h0];rfl
  rw[hf]at HK;clear h0 hf hl;go_wp2_with fail;exact HK _ _ _ _ _ _ _ _ _ _ _
 ·have hmb:(m:Int)≤90000000:=by omega
  by_cases hx:l.getLastD 0=255
  ·have hf:full l=T_:=aQ (ig.2 hx);rw[hf]at HK;rw[hx]at hc;have h25:((255:UInt8).toNat:Int)=255:=rfl;rw[h25]at hc;clear hx ig hf hm hl h25;go_wp2_with fail;exact HK _ _ _ _ _ _ _ _ _ _ _
  ·have hf:full l=F_:=aW fun h=>hx (ig.1 h);rw[hf]at HK;obtain⟨x,hxx⟩:=X_ (l.getLastD 0);rw[hxx]at hc hx;have d3:((x.toNat:Int)==255)=F_:=bF.2 (fun h=>hx (gU.1 (by show x.toNat=255;omega)));clear hx ig hm hxx hf hl;go_wp2_with fail;exact HK _ _ _ _ _ _ _ _ _ _ _
theorem akl(K:Act→World→Prop)(l:List UInt8)(v:Value)(w:World)(hl:l.length≤90000000)
 (LC:(l=[]∧∃a c,v=s_ a 0 c)∨(∃g m c,l.length=m+1∧v=s_ (S_ ⟨g,0,N_⟩) (m+1) c∧w.cell? ⟨g,m,N_⟩=S_ (i_ .u8 ((l.getLastD 0).toNat:Int))∧((l.getLast?=S_ 255)↔l.getLastD 0=255)))
 (hK:∀(t37 t38 t39 t40 t41 t42 t43 t44 t45 t46 t47:Value),K ⟨List.toArray (s0::s1::s2::v::s4::s5::s6::s7::s8::s9::s10::s11::s12::s13::s14::s15::s16::l9::kH::kS::s20::lF::lC::s23::s24::kZ::s26::kW::kR::kY::lu::lJ::lK::lI::lL::lD::s36::t37::t38::t39::t40::t41::t42::t43::t44::t45::t46::t47::(b_ (full l))::s49::mD::mg::lW::[]),[]⟩ w):
 (dQ 7 Tryz.f36).wp P_ (Exit.then K qX) ⟨List.toArray (s0::s1::s2::v::s4::s5::s6::s7::s8::s9::s10::s11::s12::s13::s14::s15::s16::l9::kH::kS::s20::lF::lC::s23::s24::kZ::s26::kW::kR::kY::lu::lJ::lK::lI::lL::lD::s36::lY::lX::mG::ni::mZ::mY::s43::s44::nI::mF::nH::nK::s49::mD::mg::lW::[]),[]⟩ w:=by
 conv in(dQ _ _)=>whnf
 unfold qX;have HK:=af hK;clear hK;rcases LC with⟨h0,a,k,rfl⟩|⟨g,m,k,hm,rfl,hc,ig⟩
 ·have hf:full l=F_:=by rw[h0];rfl
  rw[hf]at HK;clear h0 hf hl;go_wp2_with fail;exact HK _ _ _ _ _ _ _ _ _ _ _
 ·have hmb:(m:Int)≤90000000:=by omega
  by_cases hx:l.getLastD 0=255
  ·have hf:full l=T_:=aQ (ig.2 hx);rw[hf]at HK;rw[hx]at hc;have h25:((255:UInt8).toNat:Int)=255:=rfl;rw[h25]at hc;clear hx ig hf hm hl h25;go_wp2_with fail;exact HK _ _ _ _ _ _ _ _ _ _ _
  ·have hf:full l=F_:=aW fun h=>hx (ig.1 h);rw[hf]at HK;obtain⟨x,hxx⟩:=X_ (l.getLastD 0);rw[hxx]at hc hx;have d3:((x.toNat:Int)==255)=F_:=bF.2 (fun h=>hx (gU.1 (by show x.toNat=255;omega)));clear hx ig hm hxx hf hl;go_wp2_with fail;exact HK _ _ _ _ _ _ _ _ _ _ _
theorem Pv(wb:Nat)(bs:List Bool)(w:World)(H:List HB)(h:oN wb bs H)(hs:Sat w H)(hl:bs.length≤70000000):Calls P_ 36 #[p_ (S_ ⟨wb,0,N_⟩)] w fun e w'=>∃v Hn,e=r_ v∧dR v (NY (qx bs)) Hn∧Mv w H w' (Hn++H):=by
 rw[aaK];obtain⟨h1,h2,h3⟩:=Sr bs;unfold oN at h;generalize F9 bs=s at*;obtain⟨l,c,f⟩:=s;obtain⟨v,Hr,rfl,hr⟩:=h;simp only at hr h1 h2 h3 hs⊢;have hll:l.length≤70000000:=by omega
 obtain⟨va,vc,rfl⟩:=dR.slice hr;have M0:=(Mv.refl hs).alloc 5 #[];obtain⟨X,hX⟩:∃X:HB,X=Vm wb (s_ va l.length vc) (c.toNat:Int) (f:Int):=⟨_,rfl⟩;replace M0:Mv w (X::Hr) (w.alloc (.cells #[] 5)) ([⟨w.heap.size,5,#[]⟩]++(X::Hr)):=by rw[hX];exact M0
 have y0:w.cell? ⟨wb,0,N_⟩=S_ (s_ va l.length vc):=(Mv.refl hs).cell 0 rfl 0;have y0':(w.alloc (.cells #[] 5)).cell? ⟨wb,0,N_⟩=S_ (s_ va l.length vc):=by have:=M0.cell 1 rfl 0;rw[hX]at this;exact this
 have R0:dR (s_ (S_ ⟨w.heap.size,0,N_⟩) 0 0) [] [⟨w.heap.size,5,#[]⟩]:=dR.lit _ [] 0 rfl (by decide);have B0:=hr.bv (w:=w.alloc (.cells #[] 5)) (Sat.right (A:=[_,_]) M0.sat);have K0:=nY R0 M0 B0;have HX:=dS hX hr;show Calls P_ _ _ w fun e w'=>∃v Hn,e=r_ v∧dR v (ab5 (l,c,f)) Hn∧Mv w (Vm wb (s_ va l.length vc) (c.toNat:Int) (f:Int)::Hr) w' (Hn++(Vm wb (s_ va l.length vc) (c.toNat:Int) (f:Int)::Hr));rw[←hX];clear R0 M0 B0 hX hr hs;generalize hn:l.length=n at*;have HL:Hid (([]:List UInt8).length+l.length≤100000000):=af (by rw[hn,List.length_nil];omega);obtain⟨wh,hwh⟩:∃wh:Nat,(if l.getLast?=S_ 255 then 7 else 8)=wh:=⟨_,rfl⟩;obtain⟨b2,hb2⟩:=X_ ((if f<wh then l++[c]else l));have hout:ab5 (l,c,f)=if b2.getLast?=S_ 255 then b2++[0]else b2:=by unfold ab5;simp only[hwh,hb2]
 rw[hout];obtain⟨out,ho⟩:=X_ ((if b2.getLast?=S_ 255 then b2++[0]else b2));rw[ho];have HWH:=af hwh;have HB2:=af hb2;have HO:=af ho;clear hwh hb2 ho hout;go_enter Tryz.func36,Tryz.ntmps36;go_upto_region 2 with(at_builtin;refine iY rfl (.tmp 5) (.tmp 9) rfl _ _ [] l _ rfl rfl K0.out.1 K0.out.2.1.sat.left K0.out.2.2 HL.out ?_;intro v1 w1 H1 hr1 m1;replace hr1:dR v1 l H1:=hr1;have K1:=dS hr1 (Mv.call K0.out.2.1 m1);clear hr1 m1);have M1:Mv w (X::Hr) w1 (H1++(X::Hr)):=K1.2;have K2:=dS K1.1 M1;clear K1 K0 y0 y0' HL M1;obtain⟨a1,k1,rfl⟩:=dR.slice K2.1;rw[hn]at K2⊢;have LC:=last_cases K2.1 K2.2.sat.left;have K3:=dS hn hll;go_upto_region 3 with fail;refine ik (akm _ l _ w1 (by omega) LC ?_);rintro t11 t12 t13 t14 t15 t16 t17 t18 t19 t20 t21;clear LC;go_upto_if 22 with fail;go_cut [4,22]from 23 (fun s4 _ wx=>s4=i_ l_ wh∧wx=w1)
 case first=>
  cases hf:full l with
  |true=>have HW8:Hid (wh=7):=af (by rw[←HWH.out,aK (of_decide_eq_true hf)]);clear hf;go_wp2_with fail;go_meet;exact⟨by rw[HW8.out];rfl,rfl⟩
  |false=>have HW8:Hid (wh=8):=af (by rw[←HWH.out,aJ (of_decide_eq_false hf)]);clear hf;go_wp2_with fail;go_meet;exact⟨by rw[HW8.out];rfl,rfl⟩
 case rest=>
  obtain⟨rfl,rfl⟩:=hcut;obtain⟨w1,rfl⟩:∃w1:World,w1=wc:=⟨_,rfl⟩;have M1:=K2.2;have c1:w1.cell? ⟨wb,1,N_⟩=S_ (i_ l_ c.toNat):=by have h:=M1.sat.right.at_ 0 (g:=wb) (t:=X.t) (cs:=X.cs) (by rw[HX.1];rfl);rw[HX.1]at h;exact h.cell 1
  have c2:w1.cell? ⟨wb,2,N_⟩=S_ (i_ l_ f):=by have h:=M1.sat.right.at_ 0 (g:=wb) (t:=X.t) (cs:=X.cs) (by rw[HX.1];rfl);rw[HX.1]at h;exact h.cell 2
  have hc256:=jM c;have XZ:IntKind.u8.wrap (c.toNat:Int)=c.toNat:=by rw[xQ];omega
  have P1:=M1.alloc 5 #[i_ .u8 (c.toNat:Int)];have P2:Mv w (X::Hr) (w1.alloc (.cells #[i_ .u8 (c.toNat:Int)] 5)) (H1++(⟨w1.heap.size,5,#[i_ .u8 (c.toNat:Int)]⟩::(X::Hr))):=P1.Z_;have KP:=af P2;have HL2:Hid (l.length+[c].length≤100000000):=af (by rw[hn,List.length_singleton];omega);have K2r:Hid (dR (s_ a1 n k1) l H1):=af K2.1;have BO:Hid (BV (w1.alloc (.cells #[i_ .u8 (c.toNat:Int)] 5)) (s_ (S_ ⟨w1.heap.size,0,N_⟩) 1 1) [c]):=af (BU w1 c _ rfl);clear M1 P1 P2 hc256 hn;go_upto_if 28 with fail;go_cut [3,28]from 29 (fun s3 _ wx=>∃H2,dR s3 b2 H2∧Mv w (X::Hr) wx (H2++(X::Hr)))
  case first=>
   by_cases hf:f<wh
   ·have d1:decide ((f:Int)<wh)=T_:=aQ (by omega);have HB3:Hid (b2=l++[c]):=af (by rw[←HB2.out,aK hf]);go_wp2_with (at_builtin;refine iY rfl (.tmp 29) (.tmp 35) rfl _ _ l [c] _ rfl rfl K2r KP.sat.left BO HL2.out ?_;intro v6 w6 H6 yN m6;have K6:=dS yN (Mv.call KP m6);clear yN m6);go_meet;exact⟨H6,by rw[HB3.out];exact K6.1,K6.2.Z_⟩
   ·have d1:decide ((f:Int)<wh)=F_:=aW (by omega);have HB3:Hid (b2=l):=af (by rw[←HB2.out,aJ hf]);go_wp2_with fail;go_meet;exact⟨H1,by rw[HB3.out];exact K2r.out,K2.2⟩
  case rest=>
   obtain⟨H2,hr2,m2⟩:=hcut;have ani:b2.length≤80000000:=by
    have hn:=K3.1;rw[←HB2.out];split
    ·simp only[au,List.length_singleton];omega
    ·omega
   have LC2:=last_cases hr2 m2.sat.left;have K4:=dS hr2 m2;clear hr2 m2 c1 c2 KP BO K2 K2r HL2 K3;go_upto_region 7 with fail;refine ik (akl _ b2 _ wc (by omega) LC2 ?_);rintro t37 t38 t39 t40 t41 t42 t43 t44 t45 t46 t47;clear LC2;have P2:Mv w (X::Hr) (wc.alloc (.cells #[i_ .u8 ((0:UInt8).toNat:Int)] 5)) (H2++(⟨wc.heap.size,5,#[i_ .u8 ((0:UInt8).toNat:Int)]⟩::(X::Hr))):=(K4.2.alloc 5 #[i_ .u8 ((0:UInt8).toNat:Int)]).Z_;have BO2:=BU wc 0 _ rfl;have hz:((0:UInt8).toNat:Int)=0:=rfl;rw[hz]at P2 BO2;have KP:=af P2;have BO:=af BO2;have HL2:Hid (b2.length+[(0:UInt8)].length≤100000000):=af (by rw[List.length_singleton];omega);clear P2 BO2 hz;go_upto_if 48 with fail;go_cut [3,48]from 49 (fun s3 _ wx=>∃H3,dR s3 out H3∧Mv w (X::Hr) wx (H3++(X::Hr)))
   case first=>
    cases hf:full b2 with
    |true=>have HO2:Hid (out=b2++[0]):=af (by rw[←HO.out,aK (of_decide_eq_true hf)]);clear hf;go_wp2_with (at_builtin;refine iY rfl (.tmp 49) (.tmp 50) rfl _ _ b2 [0] _ rfl rfl K4.1 KP.sat.left BO HL2.out ?_;intro v6 w6 H6 yN m6;have K6:=dS yN (Mv.call KP m6);clear yN m6);go_meet;exact⟨H6,by rw[HO2.out];exact K6.1,K6.2.Z_⟩
    |false=>have HO2:Hid (out=b2):=af (by rw[←HO.out,aJ (of_decide_eq_false hf)]);clear hf;go_wp2_with fail;go_meet;exact⟨H2,by rw[HO2.out];exact K4.1,K4.2⟩
   case rest=>
    obtain⟨H3,hr3,m3⟩:=hcut;have K5:=dS hr3 m3;clear hr3 m3 KP BO K4;go_wp2_with fail;go_ret
    first
     |exact⟨_,H3,rfl,K5.1,K5.2⟩
     |exact⟨_,rfl,H3,K5.1,K5.2⟩
theorem acg{b:Nat}{m:aT}{H:List HB}(h:qE b m H):Aw b m H:=.inl h
theorem aes(A:Option Addr)(c n ah count aB:Nat)(Bs:List Nat)(D:List bu)(M:Nat→aT)(HL HB0:List HB)(W:World)(hL:wZ (s_ A n c) Bs HL)(hB:gJ Aw Bs D M HB0)(hs:Sat W (HL++HB0))(hn:D.length=n)(hn3:n≤1000)(hnd:(D.map (·.bb)).Nodup)(hdn:∀d∈D,(M d.bb).ss.length=d.n)
 (hc:1≤count∧count≤100) (hl:aB≤99) (Em:ah≤63) (hsp:(aX D).length≤90) (hsd:jZ count aB D [] M) (hbo:∀d∈D,sG (M d.bb)):
 Calls P_ 11 #[s_ A n c,i_ l_ ah,i_ l_ count,i_ l_ aB] W fun e W'=>∃v1 v2 H1 H2 HB',e=r_ (t_ #[v1,v2])∧dR v1 (NY (qx (encS count ah aB D M).bits)) H1∧dR v2 (encS count ah aB D M).body H2∧gJ qE Bs D (encS count ah aB D M).M HB'∧(encS count ah aB D M).bits.length≤130000*(aX D).length+1∧Mv W (HL++HB0) W' (H1++(H2++(HL++HB'))):=by
 have M0:=Mv.refl hs;obtain⟨M1,hM1⟩:=X_ ((aX D).foldl (Ar count) M);have hpl:∀d∈D,M1 d.bb=zB count (M d.bb):=by rw[←hM1];exact(TP count D M hnd hdn).1
 have hsd1:jZ count aB D [] M1:=by intro d hd k s hs;rw[←hM1,uS]at hs;exact hsd d hd k s hs
 have ak3:∀d∈D,(M1 d.bb).ss.length=d.n:=fun d hd=>by rw[←hM1,uS];exact hdn d hd
 have ak4:∀d∈D,sG (M1 d.bb):=by rw[←hM1];exact Na count D _ M (fun x hx=>(qH hx).1) hbo
 obtain⟨mo,hmo⟩:=X_ (xM count aB M (aX D));have hS:encS count ah aB D M=if mo=T_ then(aX D).foldl (qK count ah aB) ⟨M1,[T_],[]⟩else⟨M1,[F_],[]⟩:=by unfold encS;rw[hmo,hM1]
 obtain⟨H0,hH0⟩:=X_ (HL++HB0);rw[hH0]at M0⊢;have KI:=H9_ hL hB hn hnd hdn hsd hpl hS hmo;have KE:Hid (XU count aB ah D ⟨M1,[T_],[]⟩ [] ⟨M1,[T_],[]⟩):=af ⟨rfl,hsd1,ak3,ak4,by simp,by simp⟩;have KM:Hid (Mv W H0 W (HL++(HB0++[]))):=af (by rw[dD,hH0];exact M0);have NW:=af (VY W);clear hL hB hs hn hnd hdn hsd hbo hM1 hpl hsd1 ak3 ak4 hmo hS hH0 M0;go_enter Tryz.func11,Tryz.ntmps11;go_upto_block 0 with(go_at_call 32;refine NW.out.mono ?_;rintro e w1 ⟨wb,HW,rfl,q1,q2⟩;have q3:Mv W H0 w1 (HW++(HL++(HB0++[]))):=Mv.call (H:=[]) KM.out q2;have K1:=dS q1 q3;clear q1 q2 q3);have M2:Mv W H0 w1 (HL++(HB0++HW)):=K1.2.Z_;refine ik (ag6 _ A c n count aB Bs D M M1 HL HB0 HW H0 W w1 KI.1 KI.2.1 M2 KI.2.2.1 hn3 KI.2.2.2.2.2.2.1 KI.2.2.2.2.1 hc hl KI.2.2.2.2.2.1 ?_);rintro _ _ _ _ _ _ _ _ _ _ _ _ _ _ _ _ _ _ _ _ _ _ _ _ _ _ _ _ _ _ _ _ _ _ _ _ _ _ _ _ _ _ _ _ _ _ _ _ _ _ HB1 w2 r1 r2;rw[KI.2.2.2.2.2.2.2.2];have M3:Mv W H0 w2 (HW++(HL++HB1)):=r2.Z_;have K2:=dS r1 M3;have B0:=af (CZ wb [] 0 w2 HW K1.1 M3.sat.left (by simp));have B1:=af (CZ wb [] 1 w2 HW K1.1 M3.sat.left (by simp));clear r1 r2 M2 M3;cases mo with
 |false=>
  have ES:=KI.2.2.2.2.2.2.2.1;rw[aJ (by simp)]at ES;replace ES:=af ES;go_upto_region 14 with(go_at_call 35;refine B0.out.mono ?_;rintro e w3 ⟨rfl,HW3,q1,q2⟩;have K3:=dS q1 (Mv.call K2.out.2 q2);clear q1 q2);have BY:=af (Pv wb _ w3 HW3 K3.1 K3.2.sat.left (by simp));go_wp2_with (go_at_call 36;refine BY.out.mono ?_;rintro e w4 ⟨v4,H4,rfl,q1,q2⟩;have K4:=dS q1 (Mv.call K3.out.2 q2);clear q1 q2);go_ret2;have M5:Mv W H0 w4 (H4++([]++(HL++HB1))):=K4.2.Z_;rw[ES.out]
  first
   |exact⟨v4,s_ N_ 0 0,H4,[],HB1,rfl,K4.1,dh.nil _ _,K2.1,Nat.le_add_left 1 _,M5⟩
   |exact⟨v4,s_ N_ 0 0,rfl,H4,K4.1,[],dh.nil _ _,HB1,K2.1,Nat.le_add_left 1 _,M5⟩
   |exact⟨v4,s_ N_ 0 0,H4,rfl,K4.1,[],dh.nil _ _,HB1,K2.1,Nat.le_add_left 1 _,M5⟩
 |true=>
  have ES:=KI.2.2.2.2.2.2.2.1;rw[aK rfl]at ES;replace ES:=af ES;go_upto_block 4 with(go_at_call 35;refine B1.out.mono ?_;rintro e w3 ⟨rfl,HW3,q1,q2⟩;have K3:=dS q1 (Mv.call K2.out.2 q2);clear q1 q2);have M4:Mv W H0 w3 (HW3++([]++(HL++(HB1++[])))):=by simpa using K3.2
  refine ik (ag5 _ A c n wb ah count aB Bs D ⟨M1,[T_],[]⟩ (s_ N_ 0 0) HL HW3 [] HB1 [] H0 W w3 KI.1 K2.1 K3.1 (dh.nil _ _) M4 KI.2.2.1 hn3 KI.2.2.2.1 KE hc hl Em hsp ?_);rintro t16 _ _ _ _ _ _ _ _ _ _ _ _ _ _ _ _ _ _ _ _ _ _ _ _ _ _ _ _ _ _ _ _ _ _ _ _ _ _ _ _ _ _ _ _ _ _ _ _ _ _ _ _ _ _ _ _ _ _ _ _ _ _ _ _ _ _ _ _ _ _ _ _ _ _ _ _ _ _ _ _ _ _ _ _ _ _ _ _ _ _ _ _ _ _ _ _ _ _ _ _ HW5 HY5 HB5 w5 r1 r2 r3 r4 r5;have M6:Mv W H0 w5 (HW5++(HY5++(HL++HB5))):=by simpa using r5
  have hb6:=r1.bits;have HB6:=af hb6;have BY:=af (Pv wb _ w5 HW5 r2 M6.sat.left (by omega));have K5:=nY r3 r4 M6;clear r1 r2 r3 r4 r5 M6 hb6 M4;go_wp2_with (go_at_call 36;refine BY.out.mono ?_;rintro e w6 ⟨v6,H6,rfl,q1,q2⟩;have K6:=dS q1 (Mv.call K5.out.2.2 q2);clear q1 q2);go_ret2;have M7:Mv W H0 w6 (H6++(HY5++(HL++HB5))):=K6.2.Z_;rw[ES.out]
  first
   |exact⟨v6,t16,H6,HY5,HB5,rfl,K6.1,K5.1,K5.2.1,HB6.out,M7⟩
   |exact⟨v6,t16,rfl,H6,K6.1,HY5,K5.1,HB5,K5.2.1,HB6.out,M7⟩
theorem afy(A:Option Addr)(n c:Nat)(W:World)(hn:n≤9223372036854775807):Calls P_ 7 #[s_ A n c] W fun e w'=>e=r_ (b_ (decide (n≤3)))∧w'=W:=by
 by_cases h:n≤3
 ·have d:decide ((n:Int)≤3)=T_:=aQ (by omega);have d2:=af (aQ h);clear h;go_enter Tryz.func7,Tryz.ntmps7;go_wp2_with fail;go_ret;exact⟨by rw[d2.out];rfl,rfl⟩
 ·have d:decide ((n:Int)≤3)=F_:=aW (by omega);have d2:=af (aW h);clear h;go_enter Tryz.func7,Tryz.ntmps7;go_wp2_with fail;go_ret;exact⟨by rw[d2.out];rfl,rfl⟩
theorem ai0(v:Value)(Bs:List Nat)(D:List bu)(M:Nat→aT)(st c k:Nat)(HL HB0 X:List HB)(w0 V:World)(hL:wZ v Bs HL)(hB:gJ Aw Bs D M HB0)(m:Mv w0 [] V ((HL++HB0)++X))(hk:k<c)(hc:c≤6)(hst:st≤63)(hD:D.length≤3)(hn:∀d∈D,d.n≤9)(hg:∀d∈D,sG (M d.bb))(hnd:(D.map (·.bb)).Nodup)(hdn:∀d∈D,(M d.bb).ss.length=d.n)(hsd:jZ c k D [] M)(hU:agd D M):Calls P_ 11 #[v,i_ l_ st,i_ l_ c,i_ l_ k] V fun e W'=>∃a1 c1 a2 c2 l1 l2 H1 H2 HB',e=r_ (t_ #[s_ a1 l1.length c1,s_ a2 l2.length c2])∧dR (s_ a1 l1.length c1) l1 H1∧dR (s_ a2 l2.length c2) l2 H2∧0<l1.length∧l1.length≤501500∧l2.length+sumE c k M (aX D)≤sumE c (k+1) M (aX D)∧sumE c (k+1) M (aX D)≤2970000∧gJ Aw Bs D (encS c st k D M).M HB'∧Mv w0 [] W' ((H1++H2)++((HL++HB')++X)):=by
 obtain⟨A,cA,rfl⟩:=dh.slice hL;have e0:Bs.length=D.length:=hB.len;have hsp:=Iq D hn;have E:=aes A cA Bs.length st c k Bs D M HL HB0 V hL hB m.sat.left e0.symm (by omega) hnd hdn ⟨by omega,by omega⟩ (by omega) hst (by omega) hsd hg;refine Calls.mono E ?_;rintro e W' ⟨v1,v2,H1,H2,HB',rfl,r1,r2,r3,r4,m1⟩;obtain⟨a1,c1,rfl⟩:=dR.slice r1;obtain⟨a2,c2,rfl⟩:=dR.slice r2;have h7:=X7 (encS c st k D M).bits;have hb:=ac9 (ah:=st) hnd M hsd (fun d hd s hs=>(hU d hd s hs).1);have hs:=agI (count:=c) (aB:=k+1) (B:=110000) (M:=M) hU (L:=aX D) (fun x hx=>(qH hx).1);have hpos:0<(encS c st k D M).bits.length:=by
  unfold encS;split
  ·have:∀(L:List dF) (S:zg),0<S.bits.length→0<(L.foldl (qK c st k) S).bits.length:=by
    intro L
    induction L with
    |nil=>intro S h;exact h
    |cons x L ih=>
     intro S h;rw[List.foldl_cons];refine ih _ ?_;unfold qK;split
     ·exact h
     ·simp only[au];omega
   exact this _ _ (by simp)
  ·simp
 refine⟨a1,c1,a2,c2,_,_,H1,H2,HB',rfl,r1,r2,(adG _ hpos).1,by omega,hb,by omega,r3.mono fun b m H=>acg,?_⟩;have h:=Mv.call m m1;simpa only[az]using h
theorem alg(v:Value)(D:List bu)(M:Nat→aT)(st k X:Nat)(wQ:Bool)(l:List UInt8)(va:Option Addr)(vn vc:Nat)(HV HL HB0 R:List HB)(w0 V:World)(hL:zn v D HL)(hB:iK D M HB0)(hv:dR (s_ va vn vc) l HV)(m:Mv w0 [] V (HV++((HL++HB0)++R)))(hI:Ji D X M)(hnd:(D.map (·.bb)).Nodup)(hk:k≤4)(hst:st≤63)(hD:D.length≤3)(hn:∀d∈D,d.n≤9)(hX:X+2*l.length≤10000000):Calls P_ 12 #[v,i_ l_ st,i_ l_ k,s_ va vn vc,b_ wQ] V fun e W'=>e=r_ (t_ #[i_ l_ ((pR l st k wQ D M).1:Int),i_ l_ ((pR l st k wQ D M).2.1:Int)])∧∃Z,((pR l st k wQ D M).2.1=0→∃HB',Z=HL++HB'∧iK D (pR l st k wQ D M).2.2 HB')∧Mv w0 [] W' (Z++R):=by
 obtain⟨A,cA,rfl⟩:=dh.slice hL;have hsp:=Iq D hn;obtain⟨p1,p2,p3⟩:=afJ hI hnd l st k wQ (by omega) (by omega);have m1:Mv w0 [] V (((HL++HB0)++HV)++R):=m.Z_;have E:=afI A va cA vn vc wQ D M st k l HV HL HB0 V (by omega) hL hB (by have s:=m.sat;exact(m.sub (H1:=HV++(HL++HB0)) (fun g=>by simp only[aP];omega) (fun x hx=>by simp only[ay]at hx⊢;grind)).sat) hv (by omega) (by omega) hst (by omega) (fun d hd=>(hI d hd).1.r) (ajV hI hnd (by omega) hX);refine Calls.mono E ?_;rintro e W' ⟨rfl,h2⟩;refine⟨by rw[p1,p2],?_⟩;rw[p2]at h2;by_cases h0:(pR l st k wQ D M).2.1=0
 ·rw[aK h0]at h2;obtain⟨HB',q1,q2⟩:=h2;rw[(p3 h0).1]at q1;exact⟨HL++HB',fun _=>⟨HB',rfl,q1⟩,(Mv.call m1 q2).Z_⟩
 ·rw[aJ h0]at h2;exact⟨[],fun h=>absurd h h0,(Mv.call m1 h2).Z_⟩
theorem alf(v:Value)(Bs:List Nat)(D:List bu)(M:Nat→aT)(st k X:Nat)(wQ:Bool)(l:List UInt8)(va:Option Addr)(vn vc:Nat)(HV HL HB0 R:List HB)(w0 V:World)(hL:wZ v Bs HL)(hB:gJ vN Bs D M HB0)(hv:dR (s_ va vn vc) l HV)(m:Mv w0 [] V (HV++((HL++HB0)++R)))(hI:Ji D X M)(hnd:(D.map (·.bb)).Nodup)(hk:k≤4)(hst:st≤63)(hD:D.length≤3)(hn:∀d∈D,d.n≤9)(hX:X+2*l.length≤10000000):Calls P_ 13 #[v,i_ l_ st,i_ l_ k,s_ va vn vc,b_ wQ] V fun e W'=>e=r_ (t_ #[i_ l_ ((pR l st k wQ D M).1:Int),i_ l_ ((pR l st k wQ D M).2.1:Int)])∧∃Z,((pR l st k wQ D M).2.1=0→∃HB',Z=(HL++HB')++R∧gJ vN Bs D (pR l st k wQ D M).2.2 HB')∧Mv w0 [] W' Z:=by
 obtain⟨A,cA,rfl⟩:=dh.slice hL;have hsp:=Iq D hn;have e0:Bs.length=D.length:=hB.len;have E:=We A va cA Bs.length st k X vn vc wQ Bs D M l HL HV HB0 R [] w0 V hL hB hv (by simpa only[az]using m) e0.symm (by omega) hnd hst (by omega) hX (by omega) hI;refine Calls.mono E ?_;rintro e W' ⟨rfl,h2⟩;refine⟨rfl,?_⟩;by_cases h0:(pR l st k wQ D M).2.1=0
 ·rw[aK h0]at h2;obtain⟨HB',q1,q2⟩:=h2;exact⟨(HL++HB')++R,fun _=>⟨HB',rfl,q1⟩,by simpa only[az]using q2⟩
 ·rw[aJ h0]at h2;exact⟨[],fun h=>absurd h h0,h2⟩
theorem aiY(v1 v2:Value)(Bs:List Nat)(D:List bu)(M:Nat→aT)(X:Nat)(HL1 HB1 HL2 HB2 R:List HB)(w0 V:World)(hL1:zn v1 D HL1)(hB1:iK D M HB1)(hL2:wZ v2 Bs HL2)(hB2:gJ vN Bs D M HB2)(m:Mv w0 [] V ((HL2++HB2)++((HL1++HB1)++R)))(hI:Ji D X M)(hnd:(D.map (·.bb)).Nodup)(hD:D.length≤3)(hn:∀d∈D,d.n≤9):Calls P_ 14 #[v1,v2] V fun e W'=>e=r_ (b_ T_)∧Mv w0 [] W' ((HL1++HB1)++(R++(HL2++HB2))):=by obtain⟨A1,c1,rfl⟩:=dh.slice hL1;obtain⟨A2,c2,rfl⟩:=dh.slice hL2;have e0:Bs.length=D.length:=hB2.len;have E:=aaJ A1 A2 c1 c2 Bs.length Bs D M HL1 HB1 HL2 HB2 R [] w0 V hL1 hB1 hL2 hB2 (m.Z_) e0.symm (by omega) hnd (fun d hd=>⟨(hI d hd).2.1,by have:=hn d hd;omega⟩);refine Calls.mono E ?_;rintro e W' ⟨rfl,h2⟩;exact⟨rfl,h2.Z_⟩
end
section
open Go.ChangeShapes Go.WideShapes Go.ChangeAt Go.RowKit
theorem aip{cs:List Value}{i:Nat}{v:Value}(h:(cs.drop i).take 1=[v]):cs[i]?=S_ v:=by
 have h2:((cs.drop i).take 1)[0]?=S_ v:=by rw[h];rfl
 rw[iC]at h2;simpa[nZ]using h2
theorem LX{w:World}{a:Addr}{v:Value}(h:w.cell? a=S_ v):a.spot=N_:=by
 unfold World.cell? at h;split at h
 ·split at h
  ·cases h
  ·rename_i h2;simpa using h2
 ·cases h
theorem Nk{a:Addr}(h:a.spot=N_):S_ a=S_ ⟨a.block,a.off,N_⟩:=by obtain⟨b,o,s⟩:=a;simp at h;rw[h]
theorem Lr{a:Addr}(h:a.spot=N_)(k:Nat):a.add k=⟨a.block,a.off+k,N_⟩:=by
 obtain⟨b,o,s⟩:=a;simp at h;subst h;unfold Addr.add;split
 ·subst_vars;simp
 ·rfl
theorem aeI{H:Type}{enc:TypeId×Value→H}{W:World}{base fuel:Nat}{spare:Nat→Bool}{held:Bool}{v:Value}{x:DataW H×List MemPlace}(h:DataW.trod enc P_ W base spare held fuel 38 [v]=S_ x):∃nl,w! W v nl:=by
 rcases open_ints Tryz.underlying38 Tryz.underlying3 (by kernel_rfl) h with⟨hz,-⟩|⟨a,l,c,zs,hz,-,hl,hm,hzl,-,hcell,-⟩
 ·obtain rfl:v=s_ N_ 0 0:=by simpa using hz
  exact⟨[],N_,0,rfl,aN _,by decide,fun k x hx=>by simp at hx⟩
 ·obtain rfl:v=s_ (S_ a) l c:=by simpa using hz
  have hzc:l≤zs.length:=by rw[hzl];split<;>omega
  have hl2:(zs.take l).length=l:=by rw[bT];omega
  refine⟨zs.take l,S_ a,c,by rw[hl2],by omega,hm,fun k x hx=>?_⟩;have hk:k<l:=by have:=(aj.1 hx).1;omega
  have hx2:zs.getD k 0=x:=by rw[iC]at hx;simp only[hk,ji]at hx;rw[ax,hx];rfl
  have c0:=hcell 0 (by omega);rw[show a.add 0=a from rfl]at c0;have hsp:=LX c0;have ck:=hcell k (by omega);rw[hx2,Lr hsp]at ck;exact⟨a.block,a.off,Nk hsp,ck⟩
theorem aal{α:Type}(Q:Nat→α→Prop):∀n,(∀i,i<n→∃s,Q i s)→∃l:List α,l.length=n∧∀i s,l[i]?=S_ s→Q i s
 |0,_=>⟨[],rfl,fun i s h=>by simp at h⟩
 |n+1,h=>by
  obtain⟨l,h1,h2⟩:=aal Q n fun i hi=>h i (by omega);obtain⟨s,hs⟩:=h n (by omega);refine⟨l++[s],by simp[h1],fun i x hx=>?_⟩;by_cases hi:i<n
  ·rw[df (by omega)]at hx;exact h2 i x hx
  ·have hi2:=(aj.1 hx).1;rw[au,h1,List.length_singleton]at hi2;obtain rfl:i=n:=by omega
   rw[aZ (by omega),h1]at hx;simp at hx;subst hx;exact hs
theorem aiD{H:Type}{enc:TypeId×Value→H}{W:World}{base b0:Nat}{r:Reach}{held:Bool}{v:Value}{d:DataW H}{ps:List MemPlace}(hval:Value.okWide P_ W r b0 22 v)(h:DataW.Trod enc P_ W base (fun _=>T_) held 22 v d ps):∃l,RdS W v l:=by
 obtain⟨sa,sl,sc,rfl⟩:=okWide_slice Tryz.underlying22 hval;obtain⟨fuel,hf⟩:=h;have hC:Tryz.prog.cellsOf 46=5:=by kernel_rfl
 have hI:Tryz.prog.cellsOf 3=1:=by kernel_rfl
 have hS:Tryz.prog.cellsOf 38=1:=by kernel_rfl
 rcases Go.Deep.open_slice Tryz.underlying22 hf with⟨hz,-⟩|⟨a,len,cap,m,n,D,Pl,hz,hb,hl,hm,hmm,-,hx⟩
 ·simp[Value.cells]at hz;obtain⟨rfl,rfl,rfl⟩:=hz;exact⟨[],N_,0,rfl,aN _,by decide,fun k x hx=>by simp at hx⟩
 ·simp[Value.cells]at hz;obtain⟨rfl,rfl,rfl⟩:=hz;have hml:sl≤m:=by rw[hmm];simp;omega
  rw[hC]at hx;obtain⟨l,h1,h2⟩:=aal (fun i (s:ShapeM)=>∃b o vp vn,S_ a=S_ (⟨b,o,N_⟩:Addr)∧W.cell? ⟨b,o+i*5,N_⟩=S_ (i_ l_ s.w)∧W.cell? ⟨b,o+i*5+1,N_⟩=S_ (i_ l_ s.h)∧W.cell? ⟨b,o+i*5+2,N_⟩=S_ (i_ l_ s.spare)∧
   W.cell? ⟨b,o+i*5+3,N_⟩=S_ vp∧W.cell? ⟨b,o+i*5+4,N_⟩=S_ vn∧w! W vp s.aH∧w! W vn s.ns) sl (by
    intro i hi;obtain⟨cs,hc,ht⟩:=hx i (by omega);obtain⟨hcb,hcl,hcc⟩:=World.cells?_some hc;obtain⟨xs,k,rfl,-,-,hxl,hall⟩:=DataW.trod_struct Tryz.underlying46 ht;have amP:xs.length=5:=hxl;have gi:∀(j:Nat) (fl:Field),(_:Array Field)[j]?=S_ fl→fl.type=3→fl.offset=j→j<5→∃z,cs[j]?=S_ (i_ l_ z):=fun j fl hfl ht ho hj=>by have h1:=hall j fl hfl;rw[ht,ho,hI,ai (by omega)]at h1;obtain⟨z,hz,-⟩:=DataW.trod_int Tryz.underlying3 h1;exact⟨z,aip hz⟩
    have gs:∀(j:Nat) (fl:Field),(_:Array Field)[j]?=S_ fl→fl.type=38→fl.offset=j→j<5→∃v nl,cs[j]?=S_ v∧w! W v nl:=fun j fl hfl ht ho hj=>by
     have h1:=hall j fl hfl;rw[ht,ho,hS,ai (by omega)]at h1;obtain⟨v,hv⟩:∃v,cs[j]?=S_ v:=⟨_,ai (by omega)⟩;have e:(cs.drop j).take 1=[v]:=by rw[fG (by omega)];have:=(aj.1 hv).2;simp[this]
     rw[e]at h1;obtain⟨nl,hn⟩:=aeI h1;exact⟨v,nl,hv,hn⟩
    obtain⟨z0,e0⟩:=gi 0 _ rfl rfl rfl (by decide);obtain⟨z1,e1⟩:=gi 1 _ rfl rfl rfl (by decide);obtain⟨z2,e2⟩:=gi 2 _ rfl rfl rfl (by decide);obtain⟨v3,n3,e3,q3⟩:=gs 3 _ rfl rfl rfl (by decide);obtain⟨v4,n4,e4,q4⟩:=gs 4 _ rfl rfl rfl (by decide);have hsp:a.spot=N_:=by obtain⟨cs0,hc0,ht0⟩:=hx 0 (by omega);obtain⟨-,hcl0,ame⟩:=World.cells?_some hc0;obtain⟨u0,hu0⟩:∃u,cs0[0]?=S_ u:=⟨_,ai (by omega)⟩;have c:=ame 0 (by decide);rw[hu0]at c;exact LX (a:=a) c
    have g:∀j u,j<5→cs[j]?=S_ u→W.cell? ⟨a.block,a.off+i*5+j,N_⟩=S_ u:=fun j u hj hu=>by have c:=hcc j hj;rw[hu,Lr hsp]at c;have hsp2:(⟨a.block,a.off+i*5,N_⟩:Addr).spot=N_:=rfl;rw[Lr hsp2]at c;exact c
    exact⟨⟨z0,z1,z2,n3,n4⟩,a.block,a.off,v3,v4,Nk hsp,g 0 _ (by decide) e0,g 1 _ (by decide) e1,g 2 _ (by decide) e2,g 3 _ (by decide) e3,g 4 _ (by decide) e4,q3,q4⟩)
  exact⟨l,S_ a,sc,by rw[h1],by omega,hm,h2⟩
end
section
open Go.RowKit
theorem ail{w:World}{A:Option Addr}{n c:Nat}{l:List UInt8}(h:BV w (s_ A n c) l){k:Nat}{x:UInt8}(hx:l[k]?=S_ x):∃b o,A=S_ ⟨b,o,N_⟩∧w.cell? ⟨b,o+k,N_⟩=S_ (i_ .u8 (x.toNat:Int)):=by obtain⟨A',c',e,-,-,h3⟩:=h;cases e;obtain⟨ad,e,-,hc⟩:=h3.cell hx;have hk:=(aj.1 hx).1;obtain⟨ad',e',-,hc0⟩:=h3.cell (ai (l:=l) (i:=0) (by omega));rw[e]at e';cases e';have hs2:ad.spot=N_:=LX (show _=_ from hc0);rw[Lr hs2]at hc;exact⟨ad.block,ad.off,by rw[e];exact Nk hs2,hc⟩
theorem aew{w:World}{A:Option Addr}{n c:Nat}{l:List Int}(h:w! w (s_ A n c) l){k:Nat}{x:Int}(hx:l[k]?=S_ x):∃b o,A=S_ ⟨b,o,N_⟩∧w.cell? ⟨b,o+k,N_⟩=S_ (i_ l_ x):=by obtain⟨A',c',e,-,-,h3⟩:=h;cases e;exact h3 k x hx
theorem afT{w:World}{A:Option Addr}{n c:Nat}{l:List UInt8}(h:BV w (s_ A n c) l):n=l.length:=by obtain⟨A',c',e,-⟩:=h;cases e;rfl
theorem aep{V:World}{g n c:Nat}{l:List UInt8}{H:List HB}(h:dR (s_ (S_ ⟨g,0,N_⟩) n c) l H)(hs:Sat V H){i:Nat}(hi:i<l.length)(x:UInt8):∃H',dR (s_ (S_ ⟨g,0,N_⟩) n c) (l.set i x) H'∧Mv V H (V.setCell ⟨g,i,N_⟩ (i_ .u8 (x.toNat:Int))) H':=by have hn:=h.len;subst hn;obtain⟨H',r,m⟩:=dh.set h hs rfl i (i_ .u8 (x.toNat:Int)) (by omega);refine⟨H',?_,m⟩;unfold dR;rw[fC,show cellsB (l.set i x)=(cellsB l).set i (i_ .u8 (x.toNat:Int)) by simp[cellsB,jb]];exact r
theorem aha(K:Act→World→Prop)(pg np pc nA cA nB cB:Nat)(aA bA:Option Addr)(xs:List Int)(by_ lp:List UInt8)(HX R:List HB)(w0 w:World)
 (hA:w! w0 (s_ aA nA cA) xs) (hB:BV w0 (s_ bA nB cB) by_) (hr:dR (s_ (S_ ⟨pg,0,N_⟩) np pc) lp HX) (hM:Mv w0 [] w (HX++R)) (hn0:0<np) (hn:np≤9000000)
 (hK:∀(t25 t81 t82 t83 t84 t85 t86 t87 t88 t89 t90 t91 t92 t93 t94 t95 t96 t97 t98 t99 t100 t101 t102 t103 t104 t105 t106 t107 t108 t109 t110 t111 t112:Value) (lp':List UInt8) (HX':List HB) (wx:World),lp'.length=lp.length→dR (s_ (S_ ⟨pg,0,N_⟩) np pc) lp' HX'→Mv w0 [] wx (HX'++R)→K ⟨List.toArray (s0::s1::s2::(s_ aA nA cA)::(s_ bA nB cB)::s5::s6::s7::s8::s9::s10::s11::s12::s13::s14::s15::s16::l9::kH::kS::s20::lF::lC::s23::(s_ (S_ ⟨pg,0,N_⟩) np pc)::t25::s26::kW::kR::kY::lu::lJ::lK::lI::lL::lD::s36::lY::lX::mG::ni::mZ::mY::s43::s44::nI::mF::nH::nK::s49::mD::mg::lW::s53::mX::mQ::mP::mO::nX::nJ::oU::oQ::pO::qW::qN::qV::rD::rC::s68::rM::rJ::sN::s72::sK::sJ::ry::ru::rf::s78::qZ::rH::t81::t82::t83::t84::t85::t86::t87::t88::t89::t90::t91::t92::t93::t94::t95::t96::t97::t98::t99::t100::t101::t102::t103::t104::t105::t106::t107::t108::t109::t110::t111::t112::oG::nP::nO::nN::nM::oZ::oW::oV::wK::wJ::wI::wH::wG::wF::wC::wB::wu::vY::vX::vW::uO::yL::yK::yJ::yI::yH::yG::x9::Fa::E9::E8::E5::EY::EX::EW::EU::EL::EJ::EG::ED::Ez::Ey::Gm::IY::IX::IW::IU::IQ::IP::IL::IK::GK::GI::GH::[]),[]⟩ wx):
 (jB 2 Tryz.f5).wp P_ (Exit.then K qX) ⟨List.toArray (s0::s1::s2::(s_ aA nA cA)::(s_ bA nB cB)::s5::s6::s7::s8::s9::s10::s11::s12::s13::s14::s15::s16::l9::kH::kS::s20::lF::lC::s23::(s_ (S_ ⟨pg,0,N_⟩) np pc)::(i_ l_ 0)::s26::kW::kR::kY::lu::lJ::lK::lI::lL::lD::s36::lY::lX::mG::ni::mZ::mY::s43::s44::nI::mF::nH::nK::s49::mD::mg::lW::s53::mX::mQ::mP::mO::nX::nJ::oU::oQ::pO::qW::qN::qV::rD::rC::s68::rM::rJ::sN::s72::sK::sJ::ry::ru::rf::s78::qZ::rH::rG::s82::s83::uk::uj::xI::s87::xH::xG::xF::xE::xn::xk::xC::xA::xy::xw::xR::zl::oK::oJ::nT::nS::qj::qh::pY::pX::pG::pF::oI::oH::o9::oG::nP::nO::nN::nM::oZ::oW::oV::wK::wJ::wI::wH::wG::wF::wC::wB::wu::vY::vX::vW::uO::yL::yK::yJ::yI::yH::yG::x9::Fa::E9::E8::E5::EY::EX::EW::EU::EL::EJ::EG::ED::Ez::Ey::Gm::IY::IX::IW::IU::IQ::IP::IL::IK::GK::GI::GH::[]),[]⟩ w:=by
 conv in(jB _ _)=>whnf
 unfold qX;have HK:=af hK;have hlen:=afT hB;obtain⟨A',c',eA,eA2,eA3,-⟩:=id hA;have hnA:nA=xs.length:=by cases eA;rfl
 have KA:=zO hA hB hlen hnA;have K0:=dS hr hM;clear hK hA hB hr hM hlen eA eA2 eA3 hnA;go_wp2_with fail;go_loopg [25] 3 (fun mm kZ wx=>∃(i:Nat) (l:List UInt8) (H:List HB),i≤3∧mm=3-i∧kZ=i_ l_ i∧l.length=lp.length∧dR (s_ (S_ ⟨pg,0,N_⟩) np pc) l H∧Mv w0 [] wx (H++R))
 case atStart=>exact⟨0,lp,HX,aY _,rfl,rfl,rfl,K0.1,K0.2⟩
 case round=>
  have hlp:=K0.1.len;clear K0;obtain⟨i,l,H,hi,rfl,rfl,hl,hr,m⟩:=hrel;by_cases h1:i<nA
  ·have d1:decide ((i:Int)<nA)=T_:=aQ (by omega);by_cases h2:i<nB
   ·have d2:decide ((i:Int)<nB)=T_:=aQ (by omega);by_cases h3:i<3
    ·have d3:decide ((i:Int)<3)=T_:=aQ (by omega);obtain⟨x,hx⟩:∃x,xs[i]?=S_ x:=⟨_,ai (by rw[←KA.2.2.2];exact h1)⟩;obtain⟨b,hb⟩:∃b,by_[i]?=S_ b:=⟨_,ai (by rw[←KA.2.2.1];exact h2)⟩;obtain⟨ga,oa,rfl,y1⟩:=aew (KA.1.keep m.tC) hx;obtain⟨gb,ob,rfl,y2⟩:=ail (KA.2.1.keep m.tC) hb;have hj:=zq x (n:=np) hn0;have WB:=Oz x np;obtain⟨j,hj2⟩:=X_ (JG x np);rw[hj2]at hj WB;have hlj:j<l.length:=by omega
     have y3:wr.cell? ⟨pg,j,N_⟩=S_ (i_ .u8 ((l[j].toNat:Nat):Int)):=by have:=(dh.cell hr m.sat.left (show(Value.slice (S_ ⟨pg,0,N_⟩) np pc)=s_ (S_ ⟨pg,0,N_⟩) l.length pc by rw[←hr.len]) j (by omega)).1;rw[this];unfold cellsB;rw[aV,ai hlj];rfl
     have f3:=(dh.cell hr m.sat.left (show(Value.slice (S_ ⟨pg,0,N_⟩) np pc)=s_ (S_ ⟨pg,0,N_⟩) l.length pc by rw[←hr.len]) j (by omega)).2;obtain⟨y,hy⟩:=X_ (l[j]);rw[hy]at y3;have hsum:IntKind.u8.wrap ((y.toNat:Int)+b.toNat)=((y+b).toNat:Int):=by rw[UInt8.toNat_add];show(((y.toNat:Int)+b.toNat)%256)=_;push_cast;rfl
     obtain⟨H',r',m'⟩:=aep hr m.sat.left hlj (y+b);have hmx:Tryz.prog.follows .mixedOrders=T_:=by kernel_rfl
     obtain⟨C,hC⟩:∃C:World→Prop,C=fun w'=>w'=wr.drew:=⟨_,rfl⟩;have CF:Hid (∀w',C w'→w'.cell? ⟨ga,oa+i,N_⟩=S_ (i_ l_ x)∧w'.cell? ⟨gb,ob+i,N_⟩=S_ (i_ .u8 (b.toNat:Int))∧w'.cell? ⟨pg,j,N_⟩=S_ (i_ .u8 (y.toNat:Int))∧w'.frozen? ⟨pg,j,N_⟩=F_):=af (by intro w' h;rw[hC]at h;subst h;exact⟨y1,y2,y3,f3⟩);have CK:Hid (∀w',C w'→Calls P_ 8 #[i_ l_ x,i_ l_ np] w' fun e w4=>e=r_ (i_ l_ j)∧C w4):=af (by intro w' h;refine(WB w' (by omega) hn).mono ?_;rintro e w4 ⟨rfl,rfl⟩;exact⟨rfl,h⟩);have CD:C wr.drew:=by rw[hC]
     have HC:=af hC;have KR:=dS r' (Mv.call m m');have HS:=af hsum;have HL:=af hl;have hjI:(j:Int)<np:=by omega
     have h1I:(i:Int)<nA:=by omega
     have h2I:(i:Int)<nB:=by omega
     clear hC WB hx hb hj2 hr m r' m' hsum y1 y2 y3 f3 hy hl hlj hlp;go_upto_region 19 with fail;refine uf 15 C hmx CD (by kernel_rfl) ?_;simp only[List.take_succ_cons,List.take_zero,iE,iW];iterate 15 (first|((with_reducible refine Iz ?_ ?_);(next=>(go_simp;done));(try simp only[Act.put,bf,List.set_cons_zero,List.set_cons_succ]))|((with_reducible refine Md ?_ ?_ (fun w' hw'=>?_) ?_);rotate_left;(next=>(go_simp;done));(next=>(first|(refine Ak ?_;(obtain⟨a0,a1,a2,a3⟩:=CF w' hw');clear hw';go_simp;done)|(refine Ak ?_;(obtain⟨a0,a1,a2,a3⟩:=CF w' hw');clear hw';go_simp;rfl)|(refine IA (f:=?_) (args:=?_) ?_ ?_;rotate_left 2;(next=>((obtain⟨a0,a1,a2,a3⟩:=CF w' hw');go_simp;constructor<;>rfl));(next=>(exact CK w' hw')))|(refine Iy ?_;(obtain⟨a0,a1,a2,a3⟩:=CF w' hw');clear hw';go_simp;done)));(try simp only[Act.put,bf,List.set_cons_zero,List.set_cons_succ])))
     refine wpQuiet_nil ?_;intro w' hw';obtain rfl:w'=wr.drew:=by rw[HC.out]at hw';exact hw'
     obtain⟨-,-,a2,a3⟩:=CF _ hw';clear hw' CF CD CK HC C;go_wp2_with fail;rw[HS.out];go_roundg (3-(i+1))
     case measure=>omega
     case rel=>exact⟨i+1,l.set j (y+b),H',by omega,rfl,by push_cast;rfl,by rw[fC];exact HL.out,KR.1,KR.2.drew⟩
    ·obtain rfl:i=3:=by omega
     have KR:=nY hl hr m;clear hl hr m hlp;go_wp2_with fail;exact HK _ _ _ _ _ _ _ _ _ _ _ _ _ _ _ _ _ _ _ _ _ _ _ _ _ _ _ _ _ _ _ _ _ l H _ KR.1 KR.2.1 KR.2.2
   ·have d2:decide ((i:Int)<nB)=F_:=aW (by omega);have KR:=nY hl hr m;clear hl hr m hlp;go_wp2_with fail;exact HK _ _ _ _ _ _ _ _ _ _ _ _ _ _ _ _ _ _ _ _ _ _ _ _ _ _ _ _ _ _ _ _ _ l H _ KR.1 KR.2.1 KR.2.2
  ·have d1:decide ((i:Int)<nA)=F_:=aW (by omega);have KR:=nY hl hr m;clear hl hr m hlp;go_wp2_with fail;exact HK _ _ _ _ _ _ _ _ _ _ _ _ _ _ _ _ _ _ _ _ _ _ _ _ _ _ _ _ _ _ _ _ _ l H _ KR.1 KR.2.1 KR.2.2
section
variable{w0 w:World}{A B C D E F:List HB}
theorem ai2{G:Vj}(m:Mv w0 [] w (G.heap++[])):Mv w0 [] w ((G.H3++G.B3)++((G.H2++G.B2)++(G.H4++G.B4))):=m.sub (fun g=>by simp only[Vj.heap,aP,gI];omega) (fun c hc=>by simp only[Vj.heap,ay,bP,gQ,or_assoc]at hc⊢;rcases hc with h|h|h|h|h|h<;>simp only[h,true_or,or_true])
theorem ahd{G:Vj}(m:Mv w0 [] w (G.heap++[])):(keys G.B1).Nodup∧(keys G.B2).Nodup:=by have s:=m.sat.left;have h1:Sat w (G.B1++G.B2):=(m.sub (H1:=G.B1++G.B2) (fun g=>by simp only[Vj.heap,aP,gI];omega) (fun c hc=>by simp only[Vj.heap,ay,bP,gQ,or_assoc]at hc⊢;rcases hc with h|h<;>simp only[h,true_or,or_true])).sat;exact⟨h1.left.1,h1.right.1⟩
end
theorem aj9(l0:List ShapeM)(v0:Value)(x y:Int)(xs:List Int)(v3 v4:Value)(by_:List UInt8)(ct:Int)(v6:Value)(raw:List UInt8)(wQ:Bool)(w:World)(hv:RdS w v0 l0)(ha:w! w v3 xs)(hb:BV w v4 by_)(hr:BV w v6 raw):Calls P_ 5 #[v0,i_ l_ x,i_ l_ y,v3,v4,i_ l_ ct,v6,b_ wQ] w fun e w'=>e=r_ (b_ T_)∧Below w.heap.size w w':=by
 have KN:=af (acF w);obtain⟨A0,c0,hve,hv1,hv2,-⟩:=id hv;have lA:l0.length≤9223372036854775807:=by unfold maxLen at hv2;omega
 have F1:=af fun V=>afy A0 l0.length c0 V lA;obtain⟨aA,nA,cA,rfl⟩:∃a n c,v3=s_ a n c:=by obtain⟨a,c,e,-⟩:=id ha;exact⟨_,_,_,e⟩
 obtain⟨bA,nB,cB,rfl⟩:∃a n c,v4=s_ a n c:=by obtain⟨a,c,e,-⟩:=id hb;exact⟨_,_,_,e⟩
 obtain⟨rA,nR,cR,rfl⟩:∃a n c,v6=s_ a n c:=by obtain⟨a,c,e,-⟩:=id hr;exact⟨_,_,_,e⟩
 have hnR:=afT hr;have KA:=zO ha hb hr hnR;clear ha hb hr hnR;by_cases h1:l0.length≤3
 ·rw[aQ h1]at F1;by_cases hr2:200<nR
  ·have dr:(200:Int)<nR:=by omega
   clear hv lA hv1 hv2 h1;subst hve;generalize l0.length=ln at*;go_enter Tryz.func5,Tryz.ntmps5;go_wp2_with (first
    |(go_at_call 6;refine KN.out.mono ?_;rintro e w1 ⟨rfl,m1⟩;have K1:=af m1;clear m1)
    |(go_at_call 7;(with_reducible refine(F1.out _).mono ?_);rintro e w' ⟨rfl,rfl⟩))
   go_ret;exact⟨rfl,K1.tC⟩
  ·have dr:¬(200:Int)<nR:=by omega
   have hst:=zq x (n:=64) (by decide);have W1:=af fun V=>zo x 64 V (by decide) (by decide);have hof:=zq y (n:=4) (by decide);have W2:=af fun V=>zo y 4 V (by decide) (by decide);simp only[Int.cast_ofNat_Int]at W1 W2;obtain⟨st,hst2⟩:=X_ (JG x 64);rw[hst2]at W1 hst;obtain⟨o4,ho4⟩:=X_ (JG y 4);rw[ho4]at W2 hof;obtain⟨cn,hcn⟩:=Y_ (1+o4);have ajJ:(1:Int)+o4=cn:=by omega
   have ang:1≤cn∧cn≤4:=by omega
   have hst3:st≤63:=by omega
   have HCN:=af ajJ;have MA:=af fun(V:World) (X:List YtjngfhgakokejaaGreat.HB) (mV:Mv w [] V X)=>ae1 l0 st v0 V (hv.keep mV.tC) h1 (by omega);obtain⟨ln,hln⟩:=X_ (l0.length);rw[hln]at hve F1 h1;have HLT:=dS hln h1;clear hv lA hv1 hv2 h1 hst2 hln ho4 hcn;subst hve;go_enter Tryz.func5,Tryz.ntmps5;go_upto_region 6 with(first
    |(go_at_call 6;refine KN.out.mono ?_;rintro e w1 ⟨rfl,m1⟩;have K1:=af m1;clear m1)
    |(go_at_call 7;(with_reducible refine(F1.out _).mono ?_);rintro e w' ⟨rfl,rfl⟩)
    |(go_at_call 8;(with_reducible refine(W1.out _).mono ?_);rintro e w' ⟨rfl,rfl⟩)
    |(go_at_call 8;(with_reducible refine(W2.out _).mono ?_);rintro e w' ⟨rfl,rfl⟩))
   try simp only[HCN.out]
   clear F1 W1 W2 KN ajJ;go_upto_region 7 with(go_at_call 9;(with_reducible refine(MA.out _ _ K1.out).mono ?_);rintro e w2 ⟨va,vb,vc,vd,GA,rfl,q1,q2⟩;have K2:=dS q1 (Mv.call (H:=[]) K1.out q2);clear q1 q2 MA);have M4:=ai2 K2.2;obtain⟨kk1,kk2⟩:=ahd K2.2;obtain⟨-,lA,nA',gA,ndA,bC,sA⟩:=akk K2.1 (by rw[HLT.1];exact HLT.2) (by omega) kk1 cn;have uA:=acT K2.1 hst3 kk1;have hdA:=ahc K2.1 kk1;obtain⟨bB,lB,nB',ndB,bD,iB⟩:=ag9 K2.1 (by rw[HLT.1];exact HLT.2) kk2;have LB:=K2.1.rb;have LC:=K2.1.rc;have LD:=K2.1.rd;clear K2 K1 HLT kk1 kk2;generalize GA.La.map (·.1)=DC at*;generalize GA.Lc.map (·.1)=BsC at*;generalize GA.Lb.map (·.1)=DB at*;generalize GA.Ld.map (·.1)=BsD at*;generalize modelL GA.La=N1 at*;generalize modelL GA.Lb=N2 at*;generalize GA.H2=PB at*;generalize GA.H3=PC at*;generalize GA.H4=PD at*;generalize GA.B2=BB0 at*;generalize GA.B3=BC0 at*;generalize GA.B4=BD0 at*;have K0:=H9_ bC sA gA uA hdA bB bD iB M4;have KL:=H9_ LB LC LD lA nA' ndA lB nB' ndB;clear bC sA gA uA hdA bB bD iB M4 LB LC LD lA nA' ndA lB nB' ndB;go_wp2_with fail;go_loopg [21] cn (fun mm lF wx=>∃(k X:Nat) (M1 M2:Nat→aT) (BB BC BD:List YtjngfhgakokejaaGreat.HB),k≤cn∧mm=cn-k∧lF=i_ l_ k∧gJ Aw BsC DC M1 BC∧jZ cn k DC [] M1∧(∀d∈DC,sG (M1 d.bb))∧agd DC M1∧(∀d∈DC,(M1 d.bb).ss.length=d.n)∧iK DB M2 BB∧gJ vN BsD DB M2 BD∧Ji DB X M2∧X≤600000*k+sumE cn k M1 (aX DC)∧Mv w [] wx ((PC++BC)++((PB++BB)++(PD++BD))))
   case atStart=>exact⟨0,0,N1,N2,BB0,BC0,BD0,aY _,rfl,rfl,K0.1,K0.2.1,K0.2.2.1,K0.2.2.2.1,K0.2.2.2.2.1,K0.2.2.2.2.2.1,K0.2.2.2.2.2.2.1,K0.2.2.2.2.2.2.2.1,aY _,K0.2.2.2.2.2.2.2.2⟩
   case round=>
    clear K0;obtain⟨k,X,M1,M2,BB,BC,BD,hk,rfl,rfl,bC,sA,gA,uA,hdn,bB,bD,iB,hX,m⟩:=hrel;by_cases hlt:k<cn
    ·have d1:decide ((k:Int)<cn)=T_:=aQ (by omega);have EC:=af (ai0 vc BsC DC M1 st cn k PC BC ((PB++BB)++(PD++BD)) w wr KL.2.1 bC m hlt (by omega) hst3 KL.2.2.2.1 KL.2.2.2.2.1 gA KL.2.2.2.2.2.1 hdn sA uA);have KE:=LH (ac7 cn st k DC M1 sA hdn) (ac8 cn st k DC M1 gA) (ajS (count:=cn) (ah:=st) (aB:=k) uA) (ahe (count:=cn) (ah:=st) (aB:=k) hdn) (adR cn st k (k+1) DC M1 (aX DC));have KB:=nY bB bD iB;generalize(encS cn st k DC M1).M=P1 at*;obtain⟨s0,hs0⟩:=X_ (sumE cn k M1 (aX DC));obtain⟨s1,hs1⟩:=X_ (sumE cn (k+1) M1 (aX DC));rw[hs0,hs1]at EC;rw[hs0]at hX;rw[hs1]at KE;clear bC sA gA uA hdn bB bD iB m hs0 hs1;go_upto_region 11 with(go_at_call 11;(with_reducible refine EC.out.mono ?_);rintro e w5 ⟨a1,c1,a2,c2,l1,l2,H1,H2,BC',rfl,r1,r2,hp1,hb1,hb2,hb3,r3,m5⟩;have K5:=zO r1 r2 r3 m5;clear r1 r2 r3 m5);obtain⟨n1,hn1⟩:=X_ (l1.length);obtain⟨n2,hn2⟩:=X_ (l2.length);rw[hn1]at K5 hp1 hb1;rw[hn2]at K5 hb2;simp only[hn1,hn2];obtain⟨Z,hZ⟩:=X_ ((PC++BC')++((PB++BB)++(PD++BD)));obtain⟨RR,hRR⟩:=X_ ((H1++H2)++Z);have M6:=K5.2.2.2.alloc 5 #[];rw[hZ,hRR]at M6;obtain⟨gx,hgx⟩:=X_ (w5.heap.size);obtain⟨w6,hw6⟩:=Y_ (w5.alloc (.cells #[] 5));rw[←hw6,hgx]at M6;have R6:dR (s_ (S_ ⟨gx,0,N_⟩) 0 0) [] [⟨gx,5,#[]⟩]:=dR.lit _ [] 0 rfl (by decide);have K6:=dS R6 M6;have KW:=dS hw6 hgx;have aj8:Hid (∀V Y,Mv w [] V (Y++RR)→BV V (s_ a1 n1 c1) l1∧BV V (s_ a2 n2 c2) l2):=af (by intro V Y m;have s:=m.sat.right;rw[←hRR]at s;exact⟨K5.1.bv s.left.left,K5.2.1.bv s.left.right⟩);have HN:=zO hn1 hn2 hZ hRR;have HB3:=dS K5.2.2.1 KE.out;clear M6 R6 hw6 hgx hn1 hn2 hZ hRR K5 EC KE;go_upto_region 12 with(at_builtin;(try rw[KW.out.2]);rw[←KW.out.1];refine iY rfl (.tmp 66) (.tmp 67) rfl _ _ [] l1 _ rfl rfl K6.out.1 K6.out.2.sat.left (aj8.out _ [_] K6.out.2).1 (by rw[HN.out.1,List.length_nil];omega) ?_;intro v7 w7 H7 hr7 m7;replace hr7:dR v7 l1 H7:=hr7;obtain⟨a7,c7,rfl⟩:=dR.slice hr7;have K7:=dS hr7 (Mv.call (H:=[_]) (R:=RR) K6.out.2 m7);clear hr7 m7);clear K6 KW;go_upto_if 69 with fail;go_cut [24,69]from 70 to 72 (fun s24 _ wx=>∃(lm:List UInt8) (Hm:List YtjngfhgakokejaaGreat.HB),dR s24 lm Hm∧n1≤lm.length∧lm.length≤n1+2∧Mv w [] wx (Hm++RR))
     case first=>
      cases wQ with
      |false=>go_wp2_with fail;go_meet;exact⟨l1,H7,K7.1,by rw[HN.1];exact aN _,by rw[HN.1];omega,K7.2⟩
      |true=>obtain⟨g8,hg8⟩:=X_ (w7.heap.size);obtain⟨w8,hw8⟩:=Y_ (w7.alloc (.cells #[i_ .u8 255,i_ .u8 146] 5));have M8:=K7.2.alloc 5 #[i_ .u8 255,i_ .u8 146];rw[←hw8,hg8]at M8;have R8:dR (s_ (S_ ⟨g8,0,N_⟩) 2 2) [255,146] [⟨g8,5,#[i_ .u8 255,i_ .u8 146]⟩]:=dR.lit _ [255,146] 2 rfl (by decide);have M9:Mv w [] w8 (H7++([⟨g8,5,#[i_ .u8 255,i_ .u8 146]⟩]++RR)):=M8.Z_;have B8:=R8.bv M9.sat.right.left;have K8:=dS M9 B8;have KW:=dS hw8 hg8;clear M8 R8 M9 B8 hw8 hg8;go_wp2_with (at_builtin;(try rw[KW.2]);rw[←KW.1];refine iY rfl (.tmp 70) (.tmp 71) rfl _ _ l1 [255,146] _ rfl rfl K7.1 K8.1.sat.left K8.2 (by rw[HN.1];simp only[List.length_cons,List.length_nil];omega) ?_;intro v9 w9 H9 Xf m9;have K9:=dS Xf (Mv.call K8.1 m9);clear Xf m9);go_meet;exact⟨l1++[255,146],H9,K9.1,by rw[au,HN.1];omega,by rw[au,HN.1];exact aN _,K9.2.Z_⟩
     case rest=>
      obtain⟨lm,Hm,hrm,hm1,hm2,mm⟩:=hcut;have K8:=dS hrm mm;obtain⟨nm,hnm⟩:=X_ (lm.length);have HNM:=af hnm;rw[hnm]at hm1 hm2;clear hrm mm K7 hnm;go_upto_region 15 with(at_builtin;refine iY rfl (.tmp 73) (.tmp 74) rfl _ _ lm l2 _ rfl rfl K8.out.1 K8.out.2.sat.left (aj8.out _ _ K8.out.2).2 (by rw[HN.out.2.1,HNM.out];omega) ?_;intro v9 w9 H9 Xf m9;have K9:=dS Xf (Mv.call K8.out.2 m9);clear Xf m9);obtain⟨pg,pc,rfl,hpc⟩:∃pg pc,v9=s_ (S_ ⟨pg,0,N_⟩) (nm+n2) pc∧nm+n2≤pc∧pc≤9223372036854775807:=by obtain⟨g,cap,cur,e,u1,u2,-⟩:=dh.form K9.1 (by rw[au,HNM.out];omega);rw[au,HNM.out,HN.2.1]at e u1;unfold maxLen at u2;exact⟨g,cap,e,u1,u2⟩
      obtain⟨np,xu⟩:=X_ (nm+n2);rw[xu]at K9 hpc;simp only[xu];obtain⟨lp,hlp⟩:=X_ (lm++l2);rw[hlp]at K9;have ahQ:0<np:=by omega
      have am2:np≤n1+2+n2:=by omega
      have hLP:=K9.1.len;have HLP:=af hLP;clear hlp xu K8 hLP;have WC:=af fun V=>zo ct cn V (by omega) (by omega);obtain⟨j,hj⟩:=X_ (JG ct cn);rw[hj]at WC;clear hj;go_upto_if 80 with(go_at_call 8;(with_reducible refine(WC.out _).mono ?_);rintro e w' ⟨rfl,rfl⟩);go_cut [24,25,80]from 81 to 127 (fun s24 _ _ wx=>∃(pa:Option Addr) (pn pc':Nat) (pl:List UInt8) (Hp:List YtjngfhgakokejaaGreat.HB),s24=s_ pa pn pc'∧pl.length=pn∧pn≤np+200∧(∀V Y,Mv w [] V (Hp++Y)→BV V (s_ pa pn pc') pl)∧Mv w [] wx (Hp++RR))
      case first=>
       by_cases hjk:k=j
       ·subst hjk;have d:((k:Int)==(k:Int))=T_:=by simp
        simp only[d];have WD:Hid (∀z V,Calls P_ 8 #[i_ l_ z,i_ l_ ((np:Int)+1)] V fun e w'=>∃j2:Nat,j2≤np∧e=r_ (i_ l_ j2)∧w'=V):=af (fun z V=>by have h:=Oz z (np+1) V (by omega) (by omega);have h2:=zq z (n:=np+1) (by omega);rw[show((np+1:Nat):Int)=np+1 by push_cast;rfl]at h;refine h.mono ?_;rintro e w' ⟨rfl,rfl⟩;exact⟨_,by omega,rfl,rfl⟩);go_upto_block 2 with fail;refine ik (aha _ pg np pc nA cA nB cB aA bA xs by_ lp H9 RR w _ KA.1 KA.2.1 K9.1 K9.2 ahQ (by omega) ?_);rintro _ _ _ _ _ _ _ _ _ _ _ _ _ _ _ _ _ _ _ _ _ _ _ _ _ _ _ _ _ _ _ _ _ lp2 H10 w10 e1 r1 m1;have K10:=nY e1 r1 m1;clear e1 r1 m1;go_upto_if 115 with fail;go_cut [24,115]from 116 to 123 (fun s24 _ wx=>∃(pn:Nat) (pl:List UInt8) (Hp:List YtjngfhgakokejaaGreat.HB),s24=s_ (S_ ⟨pg,0,N_⟩) pn pc∧pl.length=pn∧pn≤np∧dR (s_ (S_ ⟨pg,0,N_⟩) pn pc) pl Hp∧Mv w [] wx (Hp++RR))
        case first=>
         go_wp2_with (go_at_call 8;(with_reducible refine(WD.out _ _).mono ?_);rintro e w' ⟨j2,hj2,rfl,rfl⟩)
         all_goals go_meet
         ·exact⟨_,lp2.take _,H10,rfl,by rw[bT,K10.1,←HLP.out];omega,by assumption,dR.cut K10.2.1 (by assumption),K10.2.2⟩
         ·exact⟨np,lp2,H10,rfl,by rw[K10.1,←HLP.out],aN _,K10.2.1,K10.2.2⟩
        case rest=>
         obtain⟨pn,pl,Hp,rfl,hpl,hpn,hrp,mp⟩:=hcut;have XP:=nY hpl hrp mp;clear hpl hrp mp;go_wp2_with fail
         all_goals go_meet
         all_goals
          first
           |exact⟨rA,nR,cR,raw,Hp,rfl,KA.2.2.2.symm,by omega,fun V Y mv=>KA.2.2.1.keep mv.tC,XP.2.2⟩
           |exact⟨some ⟨pg,0,none⟩,pn,pc,pl,Hp,rfl,XP.1,by omega,fun V Y mv=>XP.2.1.bv mv.sat.left,XP.2.2⟩
       ·have d:((k:Int)==(j:Int))=F_:=by simp;omega
        go_wp2_with fail;go_meet;exact⟨S_ ⟨pg,0,N_⟩,np,pc,lp,H9,rfl,HLP.symm,by omega,fun V Y mv=>K9.1.bv mv.sat.left,K9.2⟩
      case rest=>
       obtain⟨pa,pn,pc',pl,Hp,rfl,hpl,hpn,hbv,mp⟩:=hcut;clear K9 HLP WC hpc aj8 HNM;have M12:=mp.alloc 5 #[];obtain⟨gy,hgy⟩:=X_ (wc.heap.size);obtain⟨w12,aju⟩:=Y_ (wc.alloc (.cells #[] 5));rw[←aju,hgy]at M12;have R12:dR (s_ (S_ ⟨gy,0,N_⟩) 0 0) [] [⟨gy,5,#[]⟩]:=dR.lit _ [] 0 rfl (by decide);have B12:=hbv w12 ([⟨gy,5,#[]⟩]++RR) (M12.Z_);have y!:=nY R12 M12 B12;have KW:=dS aju hgy;have HPL:=af hpl;have RW:Hid (∀V Y,Mv w [] V Y→BV V (s_ rA nR cR) raw):=af (fun V Y mv=>KA.2.2.1.keep mv.tC);clear mp M12 R12 B12 aju hgy hpl hbv;go_upto_region 25 with(first
        |(at_builtin;(try rw[KW.2]);rw[←KW.1];refine iY rfl (.tmp 128) (.tmp 129) rfl _ _ [] pl _ rfl rfl y!.1 y!.2.1.sat.left y!.2.2 (by rw[HPL.out,List.length_nil];omega) ?_;intro v13 w13 H13 ahO m13;replace ahO:dR v13 pl H13:=ahO;have K13:=dS ahO (Mv.call (H:=[_]) (R:=Hp++RR) y!.2.1 m13);clear ahO m13)
        |(at_builtin;refine iY rfl (.tmp 130) (.tmp 131) rfl _ _ pl raw H13 rfl rfl K13.1 K13.2.sat.left (RW _ _ K13.2) (by rw[HPL.out,←KA.2.2.2];omega) ?_;intro v14 w14 H14 akK m14;have K14:=dS akK (Mv.call (H:=H13) (R:=Hp++RR) K13.2 m14);clear akK m14))
       clear y! KW K13;obtain⟨lq,hlq⟩:=X_ (pl++raw);rw[hlq]at K14;have alT:lq.length≤np+400:=by rw[←hlq,au,HPL.out,←KA.2.2.2];omega
       obtain⟨pa2,pc2,rfl⟩:=dR.slice K14.1;obtain⟨nq,hnq⟩:=X_ (lq.length);rw[hnq]at K14 alT⊢;clear hlq;have hk3:k≤3:=by omega
       have ak7:X+2*nq≤10000000:=by omega
       have amo:X+nq≤600000*(k+1)+s1:=by omega
       have afj:X+2*lq.length≤10000000:=by rw[hnq];exact ak7
       obtain⟨Q,hQ⟩:=X_ (pR lq st k wQ DB M2);have DP:=afJ KB.2.2 KL.2.2.2.2.2.2.2.2 lq st k wQ (by omega) (by rw[hnq];omega);rw[hQ,hnq]at DP;have DBK:Hid (∀V H va vc',dR (s_ va nq vc') lq H→Mv w [] V (H++(H14++(Hp++RR)))→Calls P_ 12 #[vb,i_ l_ st,i_ l_ k,s_ va nq vc',b_ wQ] V fun e W'=>e=r_ (t_ #[i_ l_ Q.1,i_ l_ Q.2.1])∧∃Zb,(Q.2.1=0→∃BB',Zb=PB++BB'∧iK DB Q.2.2 BB')∧Mv w [] W' (H14++((PD++BD)++((PC++BC')++Zb)))):=af (by
        intro V H va vc' h1 mv;have mv2:Mv w [] V (H++((PB++BB)++(H14++((PC++BC')++(PD++BD))))):=by rw[←HN.2.2.2,←HN.2.2.1]at mv;exact mv.Z_
        have h:=alg vb DB M2 st k X wQ lq va nq vc' H PB BB (H14++((PC++BC')++(PD++BD))) w V KL.1 KB.1 h1 mv2 KB.2.2 KL.2.2.2.2.2.2.2.2 (by omega) hst3 KL.2.2.2.2.2.2.1 KL.2.2.2.2.2.2.2.1 afj;rw[hQ]at h;refine h.mono ?_;rintro e W' ⟨rfl,Zb,z1,z2⟩;exact⟨rfl,Zb,z1,z2.Z_⟩)
       have DDK:Hid (∀V Zb,Mv w [] V (H14++((PD++BD)++((PC++BC')++Zb)))→Calls P_ 13 #[vd,i_ l_ st,i_ l_ k,s_ pa2 nq pc2,b_ wQ] V fun e W'=>e=r_ (t_ #[i_ l_ Q.1,i_ l_ Q.2.1])∧∃Zd,(Q.2.1=0→∃BD',Zd=(PD++BD')++((PC++BC')++Zb)∧gJ vN BsD DB Q.2.2 BD')∧Mv w [] W' Zd):=af (by intro V Zb mv;have h:=alf vd BsD DB M2 st k X wQ lq pa2 nq pc2 H14 PD BD ((PC++BC')++Zb) w V KL.2.2.1 KB.2.1 K14.1 mv KB.2.2 KL.2.2.2.2.2.2.2.2 (by omega) hst3 KL.2.2.2.2.2.2.1 KL.2.2.2.2.2.2.2.1 afj;rw[hQ]at h;exact h);obtain⟨dn,hdn⟩:=X_ (Q.1);obtain⟨de,hde⟩:=X_ (Q.2.1);obtain⟨Q2,hQ2⟩:=X_ (Q.2.2);rw[hdn,hde,hQ2]at DBK DDK;have RI:Hid (de=0→Ji DB (X+nq) Q2):=af (fun h=>by have:=(DP.2.2 (by rw[hde];exact h)).2;rw[hQ2]at this;exact this);have M15:=K14.2.alloc 5 #[];obtain⟨gz,hgz⟩:=X_ (w14.heap.size);obtain⟨w15,ajt⟩:=Y_ (w14.alloc (.cells #[] 5));rw[←ajt,hgz]at M15;have R15:dR (s_ (S_ ⟨gz,0,N_⟩) 0 0) [] [⟨gz,5,#[]⟩]:=dR.lit _ [] 0 rfl (by decide);have B15:=K14.1.bv M15.sat.yA.left;have x!:=nY R15 M15 B15;have KW:=dS ajt hgz;have HNQ:=af hnq;have dnn:((dn:Int) !=(dn:Int))=F_:=by simp
       have dee:((de:Int) !=(de:Int))=F_:=by simp
       clear M15 R15 B15 ajt hgz hnq hQ hdn hde hQ2 DP ak7 afj;go_upto_region 26 with(first
        |(at_builtin;(try rw[KW.2]);rw[←KW.1];refine iY rfl (.tmp 137) (.tmp 138) rfl _ _ [] lq _ rfl rfl x!.1 x!.2.1.sat.left x!.2.2 (by rw[HNQ.out,List.length_nil];omega) ?_;intro v16 w16 H16 acJ m16;replace acJ:dR v16 lq H16:=acJ;obtain⟨a16,c16,rfl⟩:=dR.slice acJ;rw[HNQ.out]at acJ⊢;have K16:=dS acJ (Mv.call (H:=[_]) (R:=H14++(Hp++RR)) x!.2.1 m16);clear acJ m16)
        |(go_at_call 12;(with_reducible refine(DBK.out _ _ _ _ K16.out.1 K16.out.2).mono ?_);rintro e w17 ⟨rfl,Zb,z1,z2⟩;have K17:=dS z1 z2;clear z1 z2))
       go_upto_region 27 with(go_at_call 13;(with_reducible refine(DDK.out _ _ K17.out.2).mono ?_);rintro e w18 ⟨rfl,Zd,z1,z2⟩;have K18:=dS z1 z2;clear z1 z2);clear x! KW DBK DDK K14;by_cases h0:de=0
       ·subst h0;have RI0:=af (RI rfl);obtain⟨BB',rfl,b1⟩:=K17.1 rfl;obtain⟨BD',rfl,b2⟩:=K18.1 rfl;have SW:=af (aiY vb vd BsD DB Q2 (X+nq) PB BB' PD BD' (PC++BC') w w18 KL.1 b1 KL.2.2.1 b2 (K18.2.Z_) RI0 KL.2.2.2.2.2.2.2.2 KL.2.2.2.2.2.2.1 KL.2.2.2.2.2.2.2.1);have KQ:=dS b1 b2;clear b1 b2 K17 K18 RI;go_wp2_with (go_at_call 14;(with_reducible refine SW.out.mono ?_);rintro e w19 ⟨rfl,m19⟩;have K19:=af m19;clear m19);go_roundg (cn-(k+1))
        case measure=>omega
        case rel=>obtain⟨e1,e2,e3,e4,e5,e6⟩:=HB3.out;exact⟨k+1,X+nq,P1,Q2,BB',BC',BD',hlt,rfl,by push_cast;rfl,e1,e2,e3,e4,e5,KQ.1,KQ.2,RI0.out,by rw[e6];exact amo,K19.Z_⟩
       ·have h0I:¬(de:Int)=0:=by omega
        have KX:=af K18.2.tC;clear K17 K18;go_wp2_with fail;go_ret;exact⟨rfl,KX.out⟩
    ·obtain rfl:k=cn:=by omega
     have d1:decide ((k:Int)<k)=F_:=by simp
     have KX:=af m.tC;clear bC sA gA uA hdn bB bD iB hX m;go_wp2_with fail;go_ret;exact⟨rfl,KX.out⟩
 ·rw[aW h1]at F1;clear hv lA hv1 hv2 h1;subst hve;generalize l0.length=ln at*;go_enter Tryz.func5,Tryz.ntmps5;go_wp2_with (first
   |(go_at_call 6;refine KN.out.mono ?_;rintro e w1 ⟨rfl,m1⟩;have K1:=af m1;clear m1)
   |(go_at_call 7;(with_reducible refine(F1.out _).mono ?_);rintro e w' ⟨rfl,rfl⟩))
  go_ret;exact⟨rfl,K1.tC⟩
theorem ake{n:Int}(h:(Lit.int .u8 n).wf=T_):0≤n∧n<256:=by simp[Lit.wf,IntKind.min,IntKind.max,IntKind.signed,IntKind.bits]at h;omega
theorem BV.alC{w:World}{a:Option Addr}{len cap:Nat}{zs:List Int}(h:(a=N_∧len=0∧cap=0∧zs=[])∨
 ∃x,a=S_ x∧len≤cap∧cap≤maxLen∧zs.length=cap∧(∀i,i<zs.length→w.cell? (x.add i)=S_ (i_ .u8 (zs.getD i 0)))∧∀n∈zs,(Lit.int .u8 n).wf=T_):
 ∃d:List UInt8,d.length=len∧BV w (s_ a len cap) d:=by
 rcases h with⟨rfl,rfl,rfl,rfl⟩|⟨x,rfl,hl,hm,hz,hc,hw⟩
 ·exact⟨[],rfl,BV.nil _⟩
 ·refine⟨(zs.take len).map fun n=>UInt8.ofNat n.toNat,by rw[aO,bT];omega,S_ x,cap,by rw[aO,bT,Nat.min_eq_left (by omega)],by rw[aO,bT];omega,hm,?_⟩;have hlen:((zs.take len).map fun n=>UInt8.ofNat n.toNat).length=len:=by rw[aO,bT];omega
  refine⟨by rw[xP,um],fun hn=>⟨x,rfl,?_,fun j u hu=>?_⟩⟩
  ·have h0:=gZ w _ (hc 0 (by omega));rwa[Lh]at h0
  ·have hj:j<len:=by have:=(aj.1 hu).1;rw[xP,hlen]at this;exact this
   rw[hc j (by omega)];have hzj:zs[j]?=S_ (zs[j]'(by omega)):=ai _;have hb:=ake (hw _ (kX (l:=zs) (n:=j) (by omega)));rw[←hu];have e:(zs.take len)[j]?=S_ (zs[j]'(by omega)):=by rw[iC,aK hj,hzj]
   have e2:((zs.take len).map fun n=>UInt8.ofNat n.toNat)[j]?=S_ (UInt8.ofNat (zs[j]'(by omega)).toNat):=by rw[aV,e];rfl
   rw[FD _ _ _ e2,uq];simp[List.getD,hzj];omega
end
end Go.Proofs.YtjngfhgakokejaaGreat
