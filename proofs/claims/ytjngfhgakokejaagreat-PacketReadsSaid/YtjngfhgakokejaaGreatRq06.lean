/- PacketReads: part 6. -/
import Derived.Test.YtjngfhgakokejaaGreatRq05
import Derived.Deep.CutBlock
set_option maxRecDepth 100000
set_option maxHeartbeats 8000000
set_option linter.all false
namespace Go.Proofs.YtjngfhgakokejaaGreat
open Value renaming int→i_,slice→s_,pointer→p_,bool→b_,agg→g_,tuple→t_
open IntKind renaming i64→l_
open Ending renaming returned→r_
open Tryz renaming prog→P_
open Option renaming some→S_,none→N_
open Bool renaming true→T_,false→F_
variable{s0 s1 s2 s3 s5 s6 s7 s8 s9 s10 s11 s15 s16 l9 kH kS s20 lF lC s23 s24 kZ s26 kW kR kY lu lJ lK lI lL lD s36 lY lX mG ni mZ mY s43 s44 nI mF nH nK s49 mD mg lW s53 mX mQ mP mO nX nJ oU oQ pO qW qN qV rD rC s68 rM rJ sN s72 sK sJ ry ru rf s78 qZ rH rG s82 s83 uk uj xI s87 xH xG xF xE xn xk xC xA xy xw xR zl oK oJ nT nS qj qh pY pX pG pF oI oH o9 oG nP nO nN nM oZ oW oV wK wJ wI wH wG wF wC wB wu vY vX vW uO yL yK yJ yI yH yG x9 Fa E9 E8 E5 EY EX EW EU EL EJ EG ED Ez Ey Gm IY IX IW IU IQ IP IL IK GK GI GH Jn Jm Gl Gj Gi Ze Zc Za Y9 Y8 Y7 Y6 Y5 Y4 Y2 Y1 Y0 YZ YY YX YW YV YU YT YS YR YQ YP YO YM abT abS abR abQ abP abO abN abM abL abK abJ abI abH abG abE abD abC abB abA abz aby abx abw abv abu abt abr abq abp abo abn abm abl abk YL YK YJ YI YG YF YE YA Yz Yy VR s4 s12 s14 s13:Value}
section
open Go.RowKit
theorem Z7:(Tryz.prog.info? 90).map (fun i=>(i.zero,i.size,i.bytes))=S_ (S_ (g_ #[i_ l_ 0,b_ F_]),2,16):=by kernel_rfl
def lH(v:Value)(l:List (Int×Bool))(H:List HB):Prop:=dh 90 2 v l.length (jd l) H
def QV(w:World)(v:Value)(l:List (Int×Bool)):Prop:=∃A c,v=s_ A l.length c∧l.length≤c∧c≤maxLen∧Reads w w.heap.size 2 A l.length (jd l)
theorem lH.slice{v:Value}{l:List (Int×Bool)}{H:List HB}(h:lH v l H):∃a c,v=s_ a l.length c:=dh.slice h
theorem lH.qv{w:World}{v:Value}{l:List (Int×Bool)}{H:List HB}(h:lH v l H)(hs:Sat w H):QV w v l:=by
 have ho:=dh.owns h hs (B:=0) (fun _ _=>aY _);rcases h.2 with⟨rfl,h2,h3⟩|⟨g,cap,cur,rfl,h1,h2,-⟩
 ·exact⟨N_,0,by rw[h2],by omega,by unfold maxLen;omega,Reads.zD (by rw[h2]at ho⊢;exact ho)⟩
 ·exact⟨_,cap,rfl,h1,h2,Reads.zD ho⟩
theorem aee{w:World}{v u:Value}{l r:List (Int×Bool)}{H:List HB}(h:lH v l H)(hs:Sat w H)(hu:QV w u r)(hl:l.length+r.length≤100000000)(ty:TypeId): ∃v' w' H',(Builtin.append_ #[49,49] ty #[v,u]).run P_ w=.ok v' w'∧lH v' (l++r) H'∧Mv w H w' H':=by obtain⟨A,c,rfl,h1,h2,h3⟩:=hu;obtain⟨i0,hti,hz0,hz1,hz2⟩:=qJ Z7;obtain⟨v',w',hrun,k1,k2,k3⟩:=tZ (P:=P_) w 0 49 ty 90 i0 _ 2 16 Tryz.underlying49 hti hz0 hz1 hz2 rfl (by decide) v l.length (jd l) (dh.owns h hs (fun _ _=>aY _)) w.heap.size A r.length c (jd r) h3 (Aa r) (by unfold maxLen;omega) (by omega) (aY _);obtain⟨H',k4,k5⟩:=uM h k1 k2 k3;refine⟨v',w',H',hrun,?_,k5⟩;unfold lH;rw[au,vG];exact k4
section
variable{ops:Array Oper}{rest:List Oper}{o:Oper}{a:Act}{w:World}{K:Act→World→Prop}{Q:Exit→Act→World→Prop}{E:Prop}
theorem G!(s x:Operand)(ho:o.op=.call {callee:=.builtin .append,args:=#[s,x],argTypes:=#[49,49]})(v u:Value)(l r:List (Int×Bool))(H:List HB)
 (hsv:a.eval s=v) (hxu:a.eval x=u) (h:lH v l H) (hs:Sat w H) (hu:QV w u r) (hl:l.length+r.length≤100000000)
 (hK:∀v' w' H',lH v' (l++r) H'→Mv w H w' H'→K (a.put o.dst v') w'):o.wp P_ a w K Q:=by
 obtain⟨v',w',H',hrun,h1,h2⟩:=aee h hs hu hl o.type;unfold Oper.wp execOp;simp only[ho,resolve,invoke,builtin,rQ,Sem.run_pure,Result.andThen_ok,tN,bJ,gW,hsv,hxu,hrun];exact hK v' w' H' h1 h2
theorem Vs(hgd:o.guard=N_)(s x:Operand)(ho:o.op=.call {callee:=.builtin .append,args:=#[s,x],argTypes:=#[49,49]})(v u:Value)(l r:List (Int×Bool))(H:List HB)
 (hsv:a.eval s=v) (hxu:a.eval x=u) (h:lH v l H) (hs:Sat w H) (hu:QV w u r) (hl:l.length+r.length≤100000000)
 (hK:∀v' w' H',lH v' (l++r) H'→Mv w H w' H'→wpList P_ ops Q rest (a.put o.dst v') w'):wpList P_ ops Q (o::rest) a w:=
 wpList_plain hgd fun _ hk=>G! s x ho v u l r H hsv hxu h hs hu hl fun v' w' H' h1 h2=>hk _ _ (hK v' w' H' h1 h2)
end
theorem C9{l:List (Int×Bool)}{k:Nat}{p:Int×Bool}(h:l[k]?=S_ p):(jd l)[k*2]?=S_ (i_ l_ p.1)∧(jd l)[k*2+1]?=S_ (b_ p.2):=by have g:=fun j (hj:j<2)=>flat_get Nz 2 J6 l k p h j hj;exact⟨g 0 (by omega),g 1 (by omega)⟩
theorem Wy{l:List (Int×Bool)}{k:Nat}{p:Int×Bool}(h:l[k]?=S_ p)(e:Int):(jd l).set (k*2) (i_ l_ e)=jd (l.set k (e,p.2)):=jh Nz 2 J6 l k p (e,p.2) h 0 (by omega) (i_ l_ e) rfl
theorem lH.form{a:Option Addr}{n c:Nat}{l:List (Int×Bool)}{H:List HB}(h:lH (s_ a n c) l H)(hn:0<n):n=l.length∧∃g,a=S_ ⟨g,0,N_⟩:=by obtain⟨a',c',e⟩:=h.slice;cases e;obtain⟨g,cp,cur,hv,-⟩:=dh.form h hn;injection hv with ha;exact⟨rfl,g,ha⟩
theorem lH.at_{w:World}{g n c:Nat}{l:List (Int×Bool)}{H:List HB}(h:lH (s_ (S_ ⟨g,0,N_⟩) n c) l H)(hs:Sat w H){k:Nat}{p:Int×Bool}(hk:l[k]?=S_ p):w.cell? ⟨g,k*2,N_⟩=S_ (i_ l_ p.1)∧w.frozen? ⟨g,k*2,N_⟩=F_:=by obtain⟨a',c',e⟩:=h.slice;cases e;have hi:=(aj.1 hk).1;obtain⟨h1,h2⟩:=dh.cell h hs rfl (k*2) (by omega);exact⟨h1.trans (C9 hk).1,h2⟩
theorem lH.qY{w:World}{g n c:Nat}{l:List (Int×Bool)}{H:List HB}(h:lH (s_ (S_ ⟨g,0,N_⟩) n c) l H)(hs:Sat w H){k:Nat}{p:Int×Bool}(hk:l[k]?=S_ p)(e:Int): ∃H',lH (s_ (S_ ⟨g,0,N_⟩) n c) (l.set k (e,p.2)) H'∧Mv w H (w.setCell ⟨g,k*2,N_⟩ (i_ l_ e)) H':=by obtain⟨a',c',e'⟩:=h.slice;cases e';have hi:=(aj.1 hk).1;obtain⟨H',h1,h2⟩:=dh.set h hs rfl (k*2) (i_ l_ e) (by omega);refine⟨H',?_,h2⟩;rw[Wy hk]at h1;unfold lH;rw[fC];exact h1
theorem ai5(w:World)(p:Int×Bool)(g:Nat)(hg:g=w.heap.size):QV (w.alloc (.cells #[i_ l_ p.1,b_ p.2] 90)) (s_ (S_ ⟨g,0,N_⟩) 1 1) [p]:=by subst hg;have h:lH (s_ (S_ ⟨w.heap.size,0,N_⟩) 1 1) [p] [⟨w.heap.size,90,#[i_ l_ p.1,b_ p.2]⟩]:=dh.new 90 w.heap.size 1 #[i_ l_ p.1,b_ p.2] rfl (by decide);exact h.qv (iF w 90 _).sat
theorem Mv.old{w0 w:World}{H:List HB}(h:Mv w0 [] w H){a:Addr}{u:Value}(hc:w0.cell? a=S_ u)(hl:a.block<w0.heap.size):w.cell? a=S_ u:=(h.tC.cell (p:=a) hl).trans hc
def Nj(A:oP)(G:GeoM)(cx:List CG)(t:List Value):List Value:= [i_ l_ G.w,i_ l_ G.h,i_ l_ G.band,i_ l_ G.ah,Ci A.gm (G.w*G.h),Ci A.gn (G.w*G.h),Ci A.gs (G.w*G.h),Ci A.ge (G.w*G.h),Ci A.ga (G.w*G.h)]++(Di cx++t)
def tX(wr raw:Bool)(pe pr:Value):List Value:=[b_ wr,b_ raw,pe,pr,.pointer N_,.pointer N_]
def sD(g:Nat):Value:=p_ (S_ ⟨g,0,N_⟩)
def Φ(A:oP)(G:GeoM)(cx:List CG)(t:List Value):HB:=⟨A.cb,133,(Nj A G cx t).toArray⟩
theorem aik(A:oP)(G:GeoM):XF G A.gm A.gn A.gs A.ge A.ga=Nj A G jL (tX F_ F_ (.pointer N_) (.pointer N_)):=rfl
theorem KU{A:oP}{G:GeoM}{cx:List CG}(hl:cx.length=19)(t:List Value)(i:Nat)(v:Value):(Nj A G cx t).toArray.setIfInBounds (47+i) v=(Nj A G cx (t.set i v)).toArray:=by have hc:=vJ cx;unfold Nj;rw[bf,dZ _ _ (by simp only[List.length_cons,List.length_nil];omega),dZ _ _ (by simp only[List.length_cons,List.length_nil];omega)];congr 4;simp only[List.length_cons,List.length_nil];omega
theorem afR{A:oP}{G:GeoM}{cx:List CG}(hl:cx.length=19)(t:List Value)(i:Nat):(Nj A G cx t).toArray[47+i]?=t[i]?:=by have hc:=vJ cx;unfold Nj;rw[iy,aZ (by simp only[List.length_cons,List.length_nil];omega),aZ (by simp only[List.length_cons,List.length_nil];omega)];congr 1;simp only[List.length_cons,List.length_nil];omega
theorem aiw(g n:Nat):zN g n=vk g (List.replicate n 0):=by simp[zN,vk]
theorem adB(g n:Nat):zL g n=yT g (List.replicate n F_):=by simp[zL,yT]
theorem VW(g:Nat)(l:List Nat)(i m:Nat):(vk g l).cs.setIfInBounds i (i_ l_ m)=(vk g (l.set i m)).cs:=by simp[vk]
def bB(bb:Nat)(pl:Nat)(pv bv:Value):HB:=⟨bb,51,#[i_ l_ pl,pv,bv]⟩
def nil0:Value:=s_ N_ 0 0
def adx(A:oP)(bb:Nat)(G:GeoM)(i:Nat)(pl:Nat)(R:List HB):List HB:=Φ A G jL (tX T_ F_ (.pointer N_) (.pointer N_))::vk A.gm (zG G.yl i)::vk A.gn (zG G.neg i)::bB bb pl nil0 nil0::R
theorem ahG{A:oP}{w0 w:World}{b0:HB}{rest:List HB}{l:List Nat}{i m:Nat}(M:Mv w0 [] w (b0::vk A.gm (zG l i)::rest))(h:l[i]?=S_ m):Mv w0 [] (w.setCell ⟨A.gm,i,N_⟩ (i_ l_ m)) (b0::vk A.gm (zG l (i+1))::rest):=by have:=Mv.setAt (A:=[b0]) (g:=A.gm) (t:=3) (cs:=(vk A.gm (zG l i)).cs) M i (i_ l_ m);rw[VW,WS l i h]at this;exact this
theorem ahF{A:oP}{w0 w:World}{b0 b1:HB}{rest:List HB}{l:List Nat}{i m:Nat}(M:Mv w0 [] w (b0::b1::vk A.gn (zG l i)::rest))(h:l[i]?=S_ m):Mv w0 [] (w.setCell ⟨A.gn,i,N_⟩ (i_ l_ m)) (b0::b1::vk A.gn (zG l (i+1))::rest):=by have:=Mv.setAt (A:=[b0,b1]) (g:=A.gn) (t:=3) (cs:=(vk A.gn (zG l i)).cs) M i (i_ l_ m);rw[VW,WS l i h]at this;exact this
theorem ajo{w0 w:World}{b0 b1 b2:HB}{rest:List HB}{bb pl:Nat}{pv bv:Value}(M:Mv w0 [] w (b0::b1::b2::bB bb pl pv bv::rest))(q:Nat):Mv w0 [] (w.setCell ⟨bb,0,N_⟩ (i_ l_ q)) (b0::b1::b2::bB bb q pv bv::rest):=Mv.setAt (A:=[b0,b1,b2]) (g:=bb) (t:=51) (cs:=#[i_ l_ pl,pv,bv]) M 0 (i_ l_ q)
theorem JD{w:World}{A:oP}{G:GeoM}{cx:List CG}{t:List Value}(b:zh w A.cb 133 (Nj A G cx t).toArray):w.cell? ⟨A.cb,4,N_⟩=S_ (Ci A.gm (G.w*G.h))∧w.cell? ⟨A.cb,5,N_⟩=S_ (Ci A.gn (G.w*G.h)):=by have c:=fun i=>b.cell i;simp only[Nj,List.cons_append,List.nil_append]at c;exact⟨c 4,c 5⟩
theorem agL{m q:Nat}(h:0<m/2^q):decide ((0:Int)<m/2^q)=T_:=by
 have e:(m:Int)/2^q=((m/2^q:Nat):Int):=by push_cast;rfl
 rw[e];exact aQ (Int.natCast_pos.2 h)
theorem agM{m q:Nat}(h:¬0<m/2^q):decide ((0:Int)<m/2^q)=F_:=by
 have e:(m:Int)/2^q=((m/2^q:Nat):Int):=by push_cast;rfl
 rw[e];exact aW (fun hh=>h (Int.natCast_pos.1 hh))
theorem adV{p m B:Nat}(h:m<2^B)(hp:p≤B):D9 p m≤B:=by
 unfold D9;split
 ·exact hp
 ·next h0=>
  have:=(uV h0 (k:=B)).2 h;omega
theorem adW(p m:Nat):p≤D9 p m:=by unfold D9;split<;>omega
theorem ahX{l:List Nat}{i m:Nat}(h:l[i]?=S_ m):l.getD i 0=m:=by rw[ax,h];rfl
theorem ajR(K:Act→World→Prop)(A:oP)(bb vg vc N i pl ma ng:Nat)(G:GeoM)(m:Int)(R:List HB)(w0 w:World)
 (hN:G.w*G.h=N) (ant:N≤4096) (hi:i<N) (h1:G.yl[i]?=S_ ma) (h2:G.neg[i]?=S_ ng) (hma:ma=m.natAbs) (hng:ng=yh (decide (m<0))) (hml:ma≤1073741823)
 (hl1:G.yl.length=N) (hl2:G.neg.length=N) (hv:w0.cell? ⟨vg,i,N_⟩=S_ (i_ l_ m)) (hvg:vg<w0.heap.size) (hpl:pl≤30) (M:Mv w0 [] w (adx A bb G i pl R))
 (hk:∀(t53 t54 t55 t56 t57 t58 t59 t60 t61 t62 t63 t64 t66 t67 t68 t69 t70 t71 t72 t73 t74 t75 t76 t77 t78 t79 t80 t81 t82 t83 t84 t85 t86 t87 t88 t89 t90 t91 t92 t93 t94 t95 t96 t97 t98 t99 t100 t101 t102 t103 t104 t105 t106 t107 t108 t109:Value) (wx:World),Mv w0 [] wx (adx A bb G (i+1) (D9 pl ma) R)→K ⟨List.toArray (s0::s1::s2::s3::(s_ (S_ ⟨vg,0,N_⟩) N vc)::s5::s6::s7::s8::s9::s10::s11::(sD A.cb)::(sD bb)::(i_ l_ i)::s15::s16::l9::kH::kS::s20::lF::lC::s23::s24::kZ::s26::kW::kR::kY::lu::lJ::lK::lI::lL::lD::s36::lY::lX::mG::ni::mZ::mY::s43::s44::nI::mF::nH::nK::s49::mD::mg::lW::t53::t54::t55::t56::t57::t58::t59::t60::t61::t62::t63::t64::qV::t66::t67::t68::t69::t70::t71::t72::t73::t74::t75::t76::t77::t78::t79::t80::t81::t82::t83::t84::t85::t86::t87::t88::t89::t90::t91::t92::t93::t94::t95::t96::t97::t98::t99::t100::t101::t102::t103::t104::t105::t106::t107::t108::t109::oI::oH::o9::oG::nP::nO::nN::nM::oZ::oW::oV::wK::wJ::wI::wH::wG::wF::wC::wB::wu::vY::vX::vW::uO::yL::yK::yJ::yI::yH::yG::x9::Fa::E9::E8::E5::EY::EX::EW::EU::EL::EJ::EG::ED::Ez::Ey::Gm::IY::IX::IW::IU::IQ::IP::IL::IK::GK::GI::GH::Jn::Jm::Gl::Gj::Gi::Ze::Zc::Za::Y9::Y8::Y7::Y6::Y5::Y4::Y2::Y1::Y0::YZ::YY::YX::YW::YV::YU::YT::YS::YR::YQ::YP::YO::YM::abT::abS::abR::abQ::abP::abO::abN::abM::abL::abK::abJ::abI::abH::abG::abE::abD::abC::abB::abA::abz::aby::abx::abw::abv::abu::abt::abr::abq::abp::abo::abn::abm::abl::abk::YL::YK::YJ::YI::YG::YF::YE::YA::Yz::Yy::VR::[]),[]⟩ wx):
 (jB 1 Tryz.f17).wp P_ (Exit.then K qX) ⟨List.toArray (s0::s1::s2::s3::(s_ (S_ ⟨vg,0,N_⟩) N vc)::s5::s6::s7::s8::s9::s10::s11::(sD A.cb)::(sD bb)::(i_ l_ i)::s15::s16::l9::kH::kS::s20::lF::lC::s23::s24::kZ::s26::kW::kR::kY::lu::lJ::lK::lI::lL::lD::s36::lY::lX::mG::ni::mZ::mY::s43::s44::nI::mF::nH::nK::s49::mD::mg::lW::s53::mX::mQ::mP::mO::nX::nJ::oU::oQ::pO::qW::qN::qV::rD::rC::s68::rM::rJ::sN::s72::sK::sJ::ry::ru::rf::s78::qZ::rH::rG::s82::s83::uk::uj::xI::s87::xH::xG::xF::xE::xn::xk::xC::xA::xy::xw::xR::zl::oK::oJ::nT::nS::qj::qh::pY::pX::pG::pF::oI::oH::o9::oG::nP::nO::nN::nM::oZ::oW::oV::wK::wJ::wI::wH::wG::wF::wC::wB::wu::vY::vX::vW::uO::yL::yK::yJ::yI::yH::yG::x9::Fa::E9::E8::E5::EY::EX::EW::EU::EL::EJ::EG::ED::Ez::Ey::Gm::IY::IX::IW::IU::IQ::IP::IL::IK::GK::GI::GH::Jn::Jm::Gl::Gj::Gi::Ze::Zc::Za::Y9::Y8::Y7::Y6::Y5::Y4::Y2::Y1::Y0::YZ::YY::YX::YW::YV::YU::YT::YS::YR::YQ::YP::YO::YM::abT::abS::abR::abQ::abP::abO::abN::abM::abL::abK::abJ::abI::abH::abG::abE::abD::abC::abB::abA::abz::aby::abx::abw::abv::abu::abt::abr::abq::abp::abo::abn::abm::abl::abk::YL::YK::YJ::YI::YG::YF::YE::YA::Yz::Yy::VR::[]),[]⟩ w:=by
 conv in(jB _ _)=>whnf
 unfold qX;have HK:=af hk;clear hk;unfold sD;have c0:=M.old hv hvg;have hin:(i:Int)<N:=by omega
 have d1:decide ((1073741823:Int)<m)=F_:=by simp;omega
 have d2:decide (m< -1073741823)=F_:=by simp;omega
 have HM:=zO h1 h2 hma hng;have M1:=M.drew;have V1:=JD (M1.blk 0 rfl);rw[hN]at V1;unfold Ci at V1;obtain⟨c4,c5⟩:=V1;have KM:=af M;clear M h1 h2 hma hng M1;go_upto_region 13 with fail;have c0:=KM.drew.old hv hvg;have fm:=(KM.drew.frozen 1 (t:=3) (cs:=(vk A.gm (zG G.yl i)).cs) rfl i);have lm:=(P6 G.yl i (by omega)).trans hl1;have ln:=(P6 G.neg i (by omega)).trans hl2;have cm:w.drew.cell? ⟨A.gm,i,N_⟩=S_ (i_ l_ (((zG G.yl i).getD i 0:Nat):Int)):=GN (KM.drew.blk 1 rfl) lm i hi;go_still_tail 15,(by kernel_rfl);change wpList _ _ _ _ _ w.drew;have EM:(if m<IntKind.i64.wrap (-m)then IntKind.i64.wrap (-m)else m)=(ma:Int):=by have hq:=HM.2.2.1;rw[fF _ (by omega)];split<;>omega
 rw[EM];have M5:=(ahG KM HM.1).drew;obtain⟨w3,hw3⟩:=Y_ ((w.setCell ⟨A.gm,i,N_⟩ (i_ l_ ma)).drew);rw[←hw3]at M5;have HW:=af hw3;have K5:=af M5;clear hw3 M5 EM c4 c5;go_upto_region 14 with fail;rw[←HW.out];clear HW c0 fm d1 d2 cm lm;have hmx:Tryz.prog.follows .mixedOrders=T_:=by kernel_rfl
 obtain⟨C,hC⟩:∃C:World→Prop,C=fun w'=>w'=w3.drew:=⟨_,rfl⟩;have CF:Hid (∀w',C w'→w'.cell? ⟨A.cb,5,N_⟩=S_ (s_ (S_ ⟨A.gn,0,N_⟩) N N)∧w'.cell? ⟨vg,i,N_⟩=S_ (i_ l_ m)∧w'.frozen? ⟨A.gn,i,N_⟩=F_∧w'.cell? ⟨A.gn,i,N_⟩=S_ (i_ l_ (((zG G.neg i).getD i 0:Nat):Int))):=af (by intro w' h;rw[hC]at h;rw[h];have V1:=(JD (K5.drew.blk 0 rfl)).2;rw[hN]at V1;exact⟨V1,K5.drew.old hv hvg,K5.drew.frozen 2 (t:=3) (cs:=(vk A.gn (zG G.neg i)).cs) rfl i,GN (K5.drew.blk 2 rfl) ln i hi⟩);have CK:Hid (∀w',C w'→Calls P_ 54 #[b_ (decide (m<0))] w' fun e w4=>e=r_ (i_ l_ ng)∧C w4):=af (by intro w' h;refine(one_any (decide (m<0)) w').mono ?_;rintro e w4 ⟨rfl,rfl⟩;exact⟨by rw[HM.2.2.2],h⟩);have CD:C w3.drew:=by rw[hC]
 have HC:=af hC;clear hC;refine uf 11 C hmx CD (by kernel_rfl) ?_;simp only[List.take_succ_cons,List.take_zero,iE,iW];iterate 11 (first|((with_reducible refine Iz ?_ ?_);(next=>(go_simp;done));(try simp only[Act.put,bf,List.set_cons_zero,List.set_cons_succ]))|((with_reducible refine Md ?_ ?_ (fun w' hw'=>?_) ?_);rotate_left;(next=>(go_simp;done));(next=>(first|(refine Ak ?_;(obtain⟨a0,a1,a2,a3⟩:=CF w' hw');clear hw';go_simp;done)|(refine Ak ?_;(obtain⟨a0,a1,a2,a3⟩:=CF w' hw');clear hw';go_simp;rfl)|(refine IA (f:=?_) (args:=?_) ?_ ?_;rotate_left 2;(next=>((obtain⟨a0,a1,a2,a3⟩:=CF w' hw');go_simp;constructor<;>rfl));(next=>(exact CK w' hw')))|(refine Iy ?_;(obtain⟨a0,a1,a2,a3⟩:=CF w' hw');clear hw';go_simp;done)));(try simp only[Act.put,bf,List.set_cons_zero,List.set_cons_succ])))
 refine wpQuiet_nil ?_;intro w' hw';obtain rfl:w'=w3.drew:=by rw[HC.out]at hw';exact hw'
 obtain⟨-,-,a2,a3⟩:=CF _ hw';have M6:=(ahF K5 HM.2.1).drew;clear hw' CD CK CF HC C ln;obtain⟨w5,hw5⟩:=Y_ ((w3.setCell ⟨A.gn,i,N_⟩ (i_ l_ ng)).drew);rw[←hw5]at M6;have HW:=af hw5;have K6:=af M6;clear hw5 M6;go_wp2_with fail;rw[←HW.out];clear HW a2 a3;go_loopg [] (31-pl) (fun mm wx=>∃q:Nat,pl≤q∧q≤D9 pl ma∧mm=31-q∧Mv w0 [] wx (Φ A G jL (tX T_ F_ (.pointer N_) (.pointer N_))::vk A.gm (zG G.yl (i+1))::vk A.gn (zG G.neg (i+1))::bB bb q nil0 nil0::R))
 case atStart=>exact⟨pl,aN _,adW _ _,rfl,K6.out⟩
 case round=>
  obtain⟨q,q1,q2,rfl,mq⟩:=hrel;have q3:D9 pl ma≤30:=adV (by have:(2:Nat)^30=1073741824:=rfl;omega) hpl;have q4:q≤40:=by omega
  have V:=(JD (mq.drew.blk 0 rfl)).1;rw[hN]at V;unfold Ci at V;have cg:wr.drew.cell? ⟨A.gm,i,N_⟩=S_ (i_ l_ ma):=by have:=GN (mq.drew.blk 1 rfl) ((P6 G.yl (i+1) (by omega)).trans hl1) i hi;rw[ahX (aeV _ _ HM.1)]at this;exact this
  have cb:wr.drew.cell? ⟨bb,0,N_⟩=S_ (i_ l_ q):=mq.drew.cell 3 rfl 0;have fb:wr.drew.frozen? ⟨bb,0,N_⟩=F_:=mq.drew.frozen 3 rfl 0;have KQ:=af mq.drew;clear mq;by_cases h:0<ma/2^q
  ·have dq:=agL h;have q5:=Yj h (p:=pl);have KS:=af (ajo KQ (q+1));clear h;go_upto_region 15 with fail;go_region
   all_goals
    go_wp2_with fail;go_roundg (31-(q+1))
    case measure=>omega
    case rel=>exact⟨q+1,by omega,q5,rfl,KS.out⟩
  ·have dq:=agM h;have q5:=af (Yk h q1 q2);clear h;go_upto_region 15 with fail;go_region
   all_goals go_wp2_with fail;exact HK _ _ _ _ _ _ _ _ _ _ _ _ _ _ _ _ _ _ _ _ _ _ _ _ _ _ _ _ _ _ _ _ _ _ _ _ _ _ _ _ _ _ _ _ _ _ _ _ _ _ _ _ _ _ _ _ _ (by rw[←q5.out];exact KQ.out)
theorem aeH(c:Nat):c|||65535=c/65536*65536+65535:=by
 have h1:c/65536*65536+65535=2^16*(c/2^16)|||65535:=by rw[←qA (by decide)];omega
 rw[h1];apply Nat.eq_of_testBit_eq;intro i;rw[Nat.testBit_or,Nat.testBit_or,show(65535:Nat)=2^16-1 from rfl,Nat.testBit_two_pow_sub_one,Nat.testBit_two_pow_mul];by_cases h:i<16
 ·simp[h]
 ·rw[aW h,aQ (show 16≤i by omega),sO,Nat.testBit_div_two_pow,show i-16+16=i by omega]
theorem ahv(c:Nat)(h:c≤200000000):bits .or l_ (c:Int) 65535=((c/65536*65536+65535:Nat):Int):=by have h1:=Fq c 65535 (by omega) (by omega);rw[aeH]at h1;exact h1
theorem ac0(e:kV)(h:e.c≤150994944):sW e≤200000000:=by unfold sW;split<;>omega
def Qp:Nat→kV→kV
 |0,e=>e
 |n+1,e=>Qp n (lG e)
theorem BV.mid{w:World}{g o n c:Nat}{l:List UInt8}(h:BV w (s_ (S_ ⟨g,o,N_⟩) n c) l)(a b:Nat)(hab:a≤b)(hb:b≤n):BV w (s_ (S_ ⟨g,o+a,N_⟩) (b-a) (c-a)) ((l.drop a).take (b-a)):=by
 obtain⟨A,c',he,h1,h2,h3⟩:=h;cases he;have e:((l.drop a).take (b-a)).length=b-a:=by rw[bT,fH];omega
 refine⟨S_ ⟨g,o+a,N_⟩,c-a,by rw[e],by omega,by omega,?_⟩;rw[e];refine⟨by rw[xP,e,um],fun hn=>?_⟩;obtain⟨ad,e1,hb1,hc⟩:=h3.2 (by omega);cases e1;refine⟨_,rfl,hb1,fun j u hu=>?_⟩;have hj:j<b-a:=by have:=(aj.1 hu).1;rwa[xP,e]at this
 have hu2:(cellsB l)[a+j]?=S_ u:=by rw[←hu];simp only[cellsB,List.map_take,List.map_drop];rw[iC,aK hj,nZ]
 have:=hc (a+j) u hu2;rw[Addr.add_mid]at this⊢;rw[kK];exact this
theorem BV.akv{w:World}{g c n:Nat}{l:List UInt8}(h:BV w (s_ (S_ ⟨g,0,N_⟩) n c) l)(a:Nat)(ha:a≤n):BV w (s_ (S_ ⟨g,a,N_⟩) (n-a) (c-a)) (l.drop a):=by
 have hl:n=l.length:=by obtain⟨A,c',he,-⟩:=h;cases he;rfl
 have:=BV.mid h a n ha (aN _);rw[dC (by rw[fH];omega),dH]at this;exact this
theorem ac6(eg:Nat)(e:kV)(w:World)(H:List HB)(h:Ou eg e H)(hs:Sat w H)(he:e.Ok)(hl:e.b.length≤80000000):Calls P_ 63 #[p_ (S_ ⟨eg,0,N_⟩)] w fun e0 w'=>∃v Hn H',e0=r_ v∧dR v (MW e) Hn∧Ou eg (wX e) H'∧Mv w H w' (Hn++H'):=by
 have hcb:e.c≤150994944:=by have:e.c+e.a≤(e.c+e.a)*2^e.ct:=Nat.le_mul_of_pos_right _ (rF _);have:=he.1.2.2.2.2.1;omega
 have hab:=he.1.2.1;have hct:e.ct≤12:=he.1.2.2.2.1;have hfc:=ac0 e hcb;have HE:=dS he hl;have OF:=ahv e.c (by omega);obtain⟨a,c,ct,b⟩:=e;simp only at hcb hab hct hl OF;obtain⟨vb,Hb,rfl,hr⟩:=h;simp only at hr;have c0:w.cell? ⟨eg,0,N_⟩=S_ (i_ l_ a):=(Mv.refl hs).cell 0 rfl 0;have c1:w.cell? ⟨eg,1,N_⟩=S_ (i_ l_ c):=(Mv.refl hs).cell 0 rfl 1;have f1:w.frozen? ⟨eg,1,N_⟩=F_:=(Mv.refl hs).frozen 0 rfl 1;have K0:=dS hr (Mv.refl hs);clear hr hs he;obtain⟨o,ho⟩:=X_ (c/65536*65536+65535);rw[ho]at OF;have HO:=af ho;have hob:o≤200000000:=by omega
 obtain⟨t,ht⟩:=X_ (c+a);have hti:(c:Int)+a=t:=by omega
 have htb:t≤200000000:=by omega
 have HT:=af ht;clear ht ho;go_enter Tryz.func63,Tryz.ntmps63;go_upto_region 1 with fail;go_region
 all_goals
  have M1:=K0.2.drew;have g1:=M1.cell 0 rfl 1;have h1:=M1.frozen 0 rfl 1;clear c0 c1 f1;generalize w.drew=w1 at*;have K1:=dS K0.1 M1;clear M1;have M2:=K1.2;obtain⟨w3,hw3⟩:=Y_ (w1.setCell ⟨eg,1,N_⟩ (i_ l_ o));have M3:=M2.set 1 (i_ l_ o);rw[←hw3]at M3;replace M3:Mv w (y8 eg a c ct vb::Hb) w3 (y8 eg a o ct vb::Hb):=M3;have K3:=dS K1.1 M3;have HW:=af hw3;clear hw3 M2 M3;go_upto_region 3 with fail;rw[←HW.out];have g3:=K3.2.cell 0 rfl 1;have h3:=K3.2.frozen 0 rfl 1;clear g1 h1 HW OF hti;obtain⟨fc,ajH⟩:=X_ (sW ⟨a,c,ct,b⟩);rw[ajH]at hfc;have HF:=af ajH;clear ajH;go_upto_if 28 with fail;go_cut [28]from 29 (fun _ wx=>Mv w (y8 eg a c ct vb::Hb) wx (y8 eg a fc ct vb::Hb))
  case first=>
   have FE:Hid (fc=if t≤o then o-32768 else o):=af (by rw[←HF.out,←HT.out,←HO.out];rfl);by_cases hto:t≤o
   ·have d1:decide ((t:Int)≤o)=T_:=by simp;omega
    have FG:=af (FE.trans (aK hto));have d2:(o:Int)-32768=((o-32768:Nat):Int):=by have:=HO.out;omega
    have M4:=K3.2.set 1 (i_ l_ (o-32768:Nat));go_wp2_with fail;go_meet;rw[FG.out];exact M4
   ·have d1:decide ((t:Int)≤o)=F_:=by simp;omega
    have FG:=af (FE.trans (aJ hto));go_wp2_with fail;go_meet;rw[FG.out];exact K3.2
  case rest=>
   clear g3 h3;have KC:=af hcut;have FL:Hid (wX ⟨a,c,ct,b⟩=Qp 2 ⟨a,fc,ct,b⟩):=af (by rw[←HF.out];rfl);clear hcut;obtain⟨R,hR⟩:=X_ (Qp 2 ⟨a,fc,ct,b⟩);rw[hR]at FL;have HR:=af hR;clear hR;go_wp2_with fail;go_loopg [4] 2 (fun m s4 wx=>∃(k:Nat) (e1:kV) (H1:List HB),k≤2∧m=2-k∧s4=i_ l_ k∧Ou eg e1 H1∧Mv w (y8 eg a c ct vb::Hb) wx H1∧e1.c≤200000000∧e1.ct≤12∧e1.b≠[]∧1≤e1.a∧e1.a<65536∧e1.b.length≤80000000+k∧Qp (2-k) e1=R)
   case atStart=>exact⟨0,⟨a,fc,ct,b⟩,_,by omega,rfl,rfl,⟨vb,Hb,rfl,K3.1⟩,KC.out,hfc,hct,HE.1.1.2.2.2.2.2,HE.1.1.1,hab,hl,HR.out⟩
   case round=>
    obtain⟨k,e1,H1,hk,rfl,rfl,q1,m1,b1,b2,b3,b4,b5,b6,hres⟩:=hrel;by_cases hlt:k<2
    ·have d1:decide ((k:Int)<2)=T_:=by simp;omega
     obtain⟨a1,NT,ct1,Gq⟩:=e1;simp only at b1 b2 b3 b4 b5 b6;have FO:=af (En (e:=⟨a1,NT,ct1,Gq⟩) b4 b5);have LO:=af (Eg ⟨a1,NT*2^ct1,ct1,Gq⟩ b3);have SC:Hid (wrap64 ((NT:Int)*2^min ct1 64)=((NT*2^ct1:Nat):Int)):=af (by
      have h1:2^ct1≤2^12:=fB (by omega) b2;have h2:NT*2^ct1≤200000000*2^12:=bZ b1 h1;have e:(NT:Int)*2^ct1=((NT*2^ct1:Nat):Int):=by push_cast;rfl
      rw[show min ct1 64=ct1 by omega,e,pK _ (by omega)])
     obtain⟨v1,Hb1,rfl,hr1⟩:=q1;simp only at hr1 m1;have KR:=zO hr1 m1 hres b6;have x1:=m1.cell 0 rfl 1;have x2:=m1.cell 0 rfl 2;have x3:=m1.frozen 0 rfl 1;clear hr1 m1 hres;go_upto_region 8 with fail;clear x1 x2 x3;have x1:=KR.2.1.drew.cell 0 rfl 1;have x2:=KR.2.1.drew.cell 0 rfl 2;have x3:=KR.2.1.drew.frozen 0 rfl 1;go_still_tail 11,(by kernel_rfl);change wpList _ _ _ _ _ wr.drew;have M5:=KR.2.1.drew.set 1 (i_ l_ (NT*2^ct1:Nat));generalize wr.drew=w5 at*;obtain⟨w6,hw6⟩:=Y_ (w5.setCell ⟨eg,1,N_⟩ (i_ l_ (NT*2^ct1:Nat)));rw[←hw6]at M5;replace M5:Mv w (y8 eg a c ct vb::Hb) w6 (y8 eg a1 (NT*2^ct1) ct1 v1::Hb1):=M5;have HW6:=af hw6;have K6:=af M5;clear hw6 M5;go_upto_region 9 with fail;rw[SC.out,←HW6.out];clear x1 x2 x3;have OA:=af (aaf eg ⟨a1,NT*2^ct1,ct1,Gq⟩ w6 _ ⟨v1,Hb1,rfl,KR.1⟩ K6.sat b3 (by simp only;omega) (by simp only;have:=bZ b1 (fB (n:=2) (by omega) b2);omega));go_wp2_with (go_at_call 104;refine OA.out.mono ?_;rintro e w7 ⟨rfl,H7,h7,m7⟩;have K7:=dS h7 (Mv.call (R:=[]) (by simpa using K6.out) m7);clear h7 m7);go_roundg (2-(k+1))
     case measure=>omega
     case rel=>
      have hF:yc ⟨a1,NT*2^ct1,ct1,Gq⟩=lG ⟨a1,NT,ct1,Gq⟩:=rfl;have hcl:(lG ⟨a1,NT,ct1,Gq⟩).c≤200000000:=by have h1:=FO.2.2.2.1;have h2:(lG ⟨a1,NT,ct1,Gq⟩).c+(lG ⟨a1,NT,ct1,Gq⟩).a≤((lG ⟨a1,NT,ct1,Gq⟩).c+(lG ⟨a1,NT,ct1,Gq⟩).a)*2^(lG ⟨a1,NT,ct1,Gq⟩).ct:=Nat.le_mul_of_pos_right _ (rF _);omega
      have hll:(lG ⟨a1,NT,ct1,Gq⟩).b.length≤80000000+(k+1):=by have h1:(lG ⟨a1,NT,ct1,Gq⟩).b.length=Gq.length+1:=LO.out;omega
      have hfl:Qp (2-(k+1)) (lG ⟨a1,NT,ct1,Gq⟩)=R:=by have h1:=KR.2.2.1;rw[show 2-k=(2-(k+1))+1 by omega]at h1;exact h1
      exact⟨k+1,lG ⟨a1,NT,ct1,Gq⟩,H7,by omega,rfl,by push_cast;rfl,K7.1,by simpa using K7.2,hcl,FO.2.2.1,FO.2.2.2.2,by rw[FO.1];exact b4,by rw[FO.1];exact b5,hll,hfl⟩
    ·have d1:decide ((k:Int)<2)=F_:=by simp;omega
     have ek:k=2:=by omega
     subst ek;have ER:Hid (wX ⟨a,c,ct,b⟩=e1):=af (FL.trans hres.symm);clear hres;have LE:Hid ((wX ⟨a,c,ct,b⟩).b.length=b.length+2):=af (Qq HE.1);obtain⟨a1,NT,ct1,Gq⟩:=e1;simp only at b3 b6;have LB:Hid (Gq.length=b.length+2):=af (by have:=LE.out;rw[ER.out]at this;exact this);have FB:Hid (MW ⟨a,c,ct,b⟩=rO (Gq.drop 1)):=af (by unfold MW;rw[ER.out]);obtain⟨vb1,Hb1,rfl,hr1⟩:=q1;simp only at hr1 m1;have hl1:=LB.out;obtain⟨g1,cp1,ann,rfl,k1,k2,-,-,-⟩:=dh.form hr1 (by omega);have x1:=m1.cell 0 rfl 3;have BD:=af (BV.akv (hr1.bv (m1.sat.right (A:=[_]))) 1 (by omega));have M1:=m1.alloc 5 #[];have c0:=M1.cell 1 rfl 3;have B1:=af (BV.akv (hr1.bv (M1.sat.right (A:=[_,_]))) 1 (by omega));have R1:=af (dR.lit wr.heap.size [] 0 rfl (by decide));have K1:=af M1;obtain⟨n1,hn1⟩:=X_ (Gq.length);have KB:=af hr1;rw[hn1]at hl1 k1 c0 x1;have am7:(1:Int)≤n1:=by omega
     have hcp:(n1:Int)≤cp1:=by omega
     clear M1 hr1 m1;rw[hn1]at B1;have HLD:=af (show(Gq.drop 1).length=n1-1 by rw[fH,hn1]);have alD:2≤n1:=by omega
     have alE:n1≤80000002:=by omega
     have hlb:(Gq.drop 1).length≤80000002:=by rw[fH];omega
     clear hn1 hl1 LE LB b1 b2 b4 b5 BD;obtain⟨l4,hl4⟩:=X_ (Gq.drop 1);rw[hl4]at B1 HLD FB hlb;clear hl4;go_upto_region 11 with(at_builtin;go_must (refine iY rfl (.tmp 56) (.tmp 61) rfl _ _ [] l4 [_] rfl rfl R1.out K1.out.sat.left B1.out (by simp only[List.length_nil];omega) ?_;intro v3 w3 H3 hr3 m3;obtain⟨a3,c3,rfl⟩:=hr3.slice;have K5:=dS hr3 (Mv.call (H:=[_]) K1.out m3);clear hr3 m3));rw[List.nil_append]at K5;have RF4:=FB;obtain⟨n4,UO⟩:=X_ (n1-1);rw[UO]at HLD;rw[HLD.out]at K5⊢;have hnl:n4≤90000000:=by omega
     have hn0:0<n4:=by omega
     have K4:Hid (dR (s_ a3 n4 c3) l4 H3∧Mv w (y8 eg a c ct vb::Hb) w3 (H3++(y8 eg a1 NT ct1 (s_ (S_ ⟨g1,0,N_⟩) Gq.length cp1)::Hb1))):=K5;clear K5 UO alD alE hlb;have T4:=K4.2.sat.left;have QE:Hid (Ou eg (wX ⟨a,c,ct,b⟩) (y8 eg a1 NT ct1 (s_ (S_ ⟨g1,0,N_⟩) Gq.length cp1)::Hb1)):=af (by rw[ER.out];exact⟨_,_,rfl,KB.out⟩);obtain⟨g,ha⟩:∃g,a3=S_ ⟨g,0,N_⟩:=by obtain⟨g,cp,ajW,hv,-⟩:=dh.form K4.1 (by rw[HLD.out];exact hn0);injection hv with ha;exact⟨g,ha⟩
     subst ha;obtain⟨s1,s2,s3⟩:=dR.short K4.1 hn0;obtain⟨k1',-⟩:=dR.xX K4.1 T4 HLD hn0;obtain⟨q,hq⟩:=X_ (l4.getLastD 0);rw[hq]at k1';have HQ:=af hq;have S3:=af s3;have y1:(n4:Int)-1=((n4-1:Nat):Int):=by omega
     have y2:((n4-1:Nat):Int)<n4:=by omega
     have y3:((n4-1:Nat):Int)≤c3:=by omega
     clear hq s3 T4;by_cases ig:q=255
     ·have d0:((q.toNat:Int)==255)=T_:=by rw[ig];rfl
      have RG:=af (RF4.trans (DF (HQ.trans ig)));clear ig;go_wp2_with fail;go_ret;exact⟨_,H3,_,rfl,by rw[RG.out];exact S3.out,QE.out,K4.2⟩
     ·have d0:((q.toNat:Int)==255)=F_:=by have:q.toNat≠255:=fun e=>ig (gU.1 (by rw[e];rfl));exact bF.2 (by omega)
      have RG:=af (RF4.trans (yV (fun e=>ig (HQ.symm.trans e))));clear ig;go_wp2_with fail;go_ret;exact⟨_,H3,_,rfl,by rw[RG.out];exact K4.1,QE.out,K4.2⟩
theorem adu{x:List UInt8}{e:Nat}(h:min e x.length=0):FQ x e=0:=by unfold FQ;rw[aJ (by omega),h]
theorem af6{x:List UInt8}{e n:Nat}(h:min e x.length=n)(h0:0<n)(h1:x[n-1]?=S_ 255):FQ x e=n-1:=by unfold FQ;rw[h,aK ⟨h0,h1⟩]
theorem aiq{x:List UInt8}{e n:Nat}(h:min e x.length=n)(h1:¬x[n-1]?=S_ 255):FQ x e=n:=by unfold FQ;rw[h,aJ (fun hh=>h1 hh.2)]
theorem dR.at_{w:World}{g n c:Nat}{l:List UInt8}{H:List HB}(h:dR (s_ (S_ ⟨g,0,N_⟩) n c) l H)(hs:Sat w H){i:Nat}{b:UInt8}(hi:l[i]?=S_ b):w.cell? ⟨g,i,N_⟩=S_ (i_ .u8 (b.toNat:Int)):=by have hn:=h.len;subst hn;have h1:=(aj.1 hi).1;rw[(dh.cell h hs rfl i (by omega)).1];simp[cellsB,hi]
theorem U!{w0 w:World}{H0 Hc R:List HB}{b0:HB}{g n c j:Nat}{cur:List (Int×Bool)}{p:Int×Bool}(hm:Mv w0 H0 w (b0::(Hc++R)))(hr:lH (s_ (S_ ⟨g,0,N_⟩) n c) cur Hc)(hcj:cur[j]?=S_ p)(e:Int): ∃z!,lH (s_ (S_ ⟨g,0,N_⟩) n c) (cur.set j (e,p.2)) z!∧Mv w0 H0 (w.setCell ⟨g,j*2,N_⟩ (i_ l_ e)) (b0::(z!++R)):=by have h1:Mv w0 H0 w (Hc++([b0]++R)):=Mv.Lu (A:=[b0]) hm;obtain⟨z!,k1,k2⟩:=hr.qY h1.sat.left hcj e;exact⟨z!,k1,Mv.Lu (B:=[b0]) (Mv.call h1 k2)⟩
theorem ajP(K:Act→World→Prop)(bb pl pg pn pc k first:Nat)(at_:Nat)(x:List UInt8)(ps:List (Int×Bool))(bv xv:Value)(Hp Hx R H0:List HB)(w0 w:World)
 (hl:ps.length=k+1) (hf:first≤k) (hkl:k≤1000) (hxl:x.length≤80000000) (hat:at_≤80000000) (hpos:∀p∈ps,0≤p.1∧p.1≤90000000)
 (hp:lH (s_ (S_ ⟨pg,0,N_⟩) pn pc) ps Hp) (hx:dR xv x Hx) (M:Mv w0 H0 w (bB bb pl (s_ (S_ ⟨pg,0,N_⟩) pn pc) bv::(Hp++(Hx++R))))
 (hk:∀(t22 t23 t197 t198 t199 t200 t201 t202 t203 t204 t205 t206 t207 t208 t209 t210 t211 t212 t213 t214 t215 t216 t217 t218 t219 t220 t221 t222 t223 t224 t225 t226 t227 t228 t229 t230:Value) (cur:List (Int×Bool)) (Hc:List HB) (wx:World),C! at_ x ps first (k+1) cur→lH (s_ (S_ ⟨pg,0,N_⟩) pn pc) cur Hc→Mv w0 H0 wx (bB bb pl (s_ (S_ ⟨pg,0,N_⟩) pn pc) bv::(Hc++(Hx++R)))→K ⟨List.toArray (s0::s1::s2::s3::s4::s5::s6::s7::s8::s9::s10::s11::s12::(sD bb)::s14::s15::s16::(i_ l_ k)::kH::kS::xv::(i_ l_ at_)::t22::t23::s24::kZ::s26::kW::kR::kY::lu::lJ::lK::lI::lL::lD::s36::lY::lX::mG::ni::mZ::mY::s43::s44::nI::mF::nH::nK::s49::mD::mg::lW::s53::mX::mQ::mP::mO::nX::nJ::oU::oQ::pO::qW::qN::qV::rD::rC::s68::rM::rJ::sN::s72::sK::sJ::ry::ru::rf::s78::qZ::rH::rG::s82::s83::uk::uj::xI::s87::xH::xG::xF::xE::xn::xk::xC::xA::xy::xw::xR::zl::oK::oJ::nT::nS::qj::qh::pY::pX::pG::pF::oI::oH::o9::oG::nP::nO::nN::nM::oZ::oW::oV::wK::wJ::wI::wH::wG::wF::wC::wB::wu::vY::vX::vW::uO::yL::yK::yJ::yI::yH::yG::x9::Fa::E9::E8::E5::EY::EX::EW::EU::EL::EJ::EG::ED::Ez::Ey::Gm::IY::IX::IW::IU::IQ::IP::IL::IK::GK::GI::GH::Jn::Jm::Gl::Gj::Gi::Ze::Zc::Za::Y9::Y8::Y7::Y6::Y5::Y4::Y2::Y1::Y0::YZ::YY::YX::YW::YV::YU::YT::YS::YR::YQ::YP::YO::YM::t197::t198::t199::t200::t201::t202::t203::t204::t205::t206::t207::t208::t209::t210::t211::t212::t213::t214::t215::t216::t217::t218::t219::t220::t221::t222::t223::t224::t225::t226::t227::t228::t229::t230::YL::YK::YJ::YI::YG::YF::YE::YA::Yz::Yy::VR::[]),[]⟩ wx):
 (jB 6 Tryz.f17).wp P_ (Exit.then K qX) ⟨List.toArray (s0::s1::s2::s3::s4::s5::s6::s7::s8::s9::s10::s11::s12::(sD bb)::s14::s15::s16::(i_ l_ k)::kH::kS::xv::(i_ l_ at_)::(i_ l_ first)::s23::s24::kZ::s26::kW::kR::kY::lu::lJ::lK::lI::lL::lD::s36::lY::lX::mG::ni::mZ::mY::s43::s44::nI::mF::nH::nK::s49::mD::mg::lW::s53::mX::mQ::mP::mO::nX::nJ::oU::oQ::pO::qW::qN::qV::rD::rC::s68::rM::rJ::sN::s72::sK::sJ::ry::ru::rf::s78::qZ::rH::rG::s82::s83::uk::uj::xI::s87::xH::xG::xF::xE::xn::xk::xC::xA::xy::xw::xR::zl::oK::oJ::nT::nS::qj::qh::pY::pX::pG::pF::oI::oH::o9::oG::nP::nO::nN::nM::oZ::oW::oV::wK::wJ::wI::wH::wG::wF::wC::wB::wu::vY::vX::vW::uO::yL::yK::yJ::yI::yH::yG::x9::Fa::E9::E8::E5::EY::EX::EW::EU::EL::EJ::EG::ED::Ez::Ey::Gm::IY::IX::IW::IU::IQ::IP::IL::IK::GK::GI::GH::Jn::Jm::Gl::Gj::Gi::Ze::Zc::Za::Y9::Y8::Y7::Y6::Y5::Y4::Y2::Y1::Y0::YZ::YY::YX::YW::YV::YU::YT::YS::YR::YQ::YP::YO::YM::abT::abS::abR::abQ::abP::abO::abN::abM::abL::abK::abJ::abI::abH::abG::abE::abD::abC::abB::abA::abz::aby::abx::abw::abv::abu::abt::abr::abq::abp::abo::abn::abm::abl::abk::YL::YK::YJ::YI::YG::YF::YE::YA::Yz::Yy::VR::[]),[]⟩ w:=by
 conv in(jB _ _)=>whnf
 unfold qX;have HK:=af hk;clear hk;unfold sD;obtain⟨xa,xc,rfl⟩:=hx.slice;obtain⟨L,hL⟩:=X_ (x.length);rw[hL]at hx hxl HK⊢;have hpn:pn=k+1:=by obtain⟨a,c,e⟩:=hp.slice;cases e;exact hl
 have KL:=zO hL hl hpos hpn;have KX:=af hx;have K0:=dS hp M;have hpk:(k:Int)<pn:=by omega
 clear hL hl hpos hx hp M hpn;go_wp2_with fail;go_loopg [22] (k+1-first) (fun mm lC wx=>∃(j:Nat) (cur:List (Int×Bool)) (Hc:List HB),first≤j∧j≤k+1∧mm=k+1-j∧lC=i_ l_ j∧C! at_ x ps first j cur∧lH (s_ (S_ ⟨pg,0,N_⟩) pn pc) cur Hc∧Mv w0 H0 wx (bB bb pl (s_ (S_ ⟨pg,0,N_⟩) pn pc) bv::(Hc++(Hx++R))))
 case atStart=>exact⟨first,ps,Hp,aN _,by omega,rfl,rfl,C!.start _ _ _ _,K0.1,K0.2⟩
 case round=>
  obtain⟨j,cur,Hc,j1,j2,rfl,rfl,hc,hr,hm⟩:=hrel;by_cases hlt:j≤k
  ·have d1:decide ((j:Int)≤k)=T_:=by simp;omega
   obtain⟨p,hp⟩:∃p,ps[j]?=S_ p:=⟨_,ai (by have:=KL.2.1;omega)⟩;have hcj:=hc.get hp;obtain⟨e,he⟩:∃e:Nat,p.1=(e:Int):=⟨p.1.toNat,by have:=KL.2.2.1 p (aF hp);omega⟩;have hel:e≤90000000:=by have:=KL.2.2.1 p (aF hp);omega
   have S1:=hm.drop1.sat.left;obtain⟨c0,f0⟩:=hr.at_ S1 hcj;rw[he]at c0;have cp:wr.cell? ⟨bb,1,N_⟩=S_ (s_ (S_ ⟨pg,0,N_⟩) pn pc):=hm.cell 0 rfl 1;have hjp:(j:Int)<pn:=by omega
   obtain⟨n,hn⟩:=X_ (min e L);have hnl:n≤90000000:=by omega
   have EM:Hid ((if L<e then(L:Int)else(e:Int))=(n:Int)):=af (by split<;>omega);have KM:=H7_ hm hr hc hp hcj he hn;clear hm hr hc hp hcj he hn S1;go_upto_region 41 with fail;rw[EM.out];have KEY:Hid (∀nn:Nat,FQ x e=nn→∃z!,C! at_ x ps first (j+1) (cur.set j (((at_+nn:Nat):Int),p.2))∧lH (s_ (S_ ⟨pg,0,N_⟩) pn pc) (cur.set j (((at_+nn:Nat):Int),p.2)) z!∧Mv w0 H0 (wr.setCell ⟨pg,j*2,N_⟩ (i_ l_ (at_+nn:Nat))) (bB bb pl (s_ (S_ ⟨pg,0,N_⟩) pn pc) bv::(z!++(Hx++R)))):=af (by intro nn hnn;obtain⟨m1,m2,m3,m4,m5,m6,m7⟩:=KM.out;obtain⟨z!,r1,r2⟩:=U! m1 m2 m5 ((at_+nn:Nat):Int);refine⟨z!,?_,r1,r2⟩;have:=m3.step j1 m4;rw[m6,Int.toNat_natCast,hnn]at this;exact this);by_cases h0:n=0
   ·obtain⟨z!,q1,q2,q3⟩:=KEY 0 (adu (by rw[KL.1,KM.2.2.2.2.2.2,h0]));have Q:=nY q1 q2 q3;subst h0;clear q1 q2 q3 KEY EM;go_wp2_with fail;go_roundg (k+1-(j+1))
    case measure=>omega
    case rel=>exact⟨j+1,_,z!,by omega,by omega,rfl,by push_cast;rfl,Q.1,Q.2.1,Q.2.2⟩
   ·have hn0:0<n:=by omega
    have hLn:n≤L:=by have:=KM.2.2.2.2.2.2;omega
    obtain⟨xg,hxa⟩:∃g,xa=S_ ⟨g,0,N_⟩:=by obtain⟨g,cp,ajW,hv,-⟩:=dh.form KX (by have:=KL.1;omega);injection hv with ha;exact⟨g,ha⟩
    subst hxa;obtain⟨b,hb⟩:∃b,x[n-1]?=S_ b:=⟨_,ai (by have:=KL.1;omega)⟩;have S2:Sat wr (Hx++R):=Sat.right (A:=Hc) KM.1.drop1.sat;have cb:=dR.at_ KX S2.left hb;have e1:(n:Int)-1=((n-1:Nat):Int):=by omega
    have e2:((n-1:Nat):Int)<L:=by omega
    have e3:decide ((0:Int)<n)=T_:=by simp;omega
    have HB:=af hb;clear hb S2;by_cases ig:b=255
    ·obtain⟨z!,q1,q2,q3⟩:=KEY (n-1) (af6 (by rw[KL.1];exact KM.2.2.2.2.2.2) hn0 (by rw[HB.out,ig]));have Q:=nY q1 q2 q3;have d0:((b.toNat:Int)==255)=T_:=by rw[ig];rfl
     clear q1 q2 q3 KEY EM ig;go_wp2_with fail;go_roundg (k+1-(j+1))
     case measure=>omega
     case rel=>exact⟨j+1,_,z!,by omega,by omega,rfl,by push_cast;rfl,Q.1,Q.2.1,by simpa using Q.2.2⟩
    ·obtain⟨z!,q1,q2,q3⟩:=KEY n (aiq (by rw[KL.1];exact KM.2.2.2.2.2.2) (by rw[HB.out];intro hh;exact ig (iL hh)));have Q:=nY q1 q2 q3;have d0:((b.toNat:Int)==255)=F_:=by have:b.toNat≠255:=fun e=>ig (gU.1 (by rw[e];rfl));exact bF.2 (by omega)
     clear q1 q2 q3 KEY EM ig;go_wp2_with fail;go_roundg (k+1-(j+1))
     case measure=>omega
     case rel=>exact⟨j+1,_,z!,by omega,by omega,rfl,by push_cast;rfl,Q.1,Q.2.1,by simpa using Q.2.2⟩
  ·have d1:decide ((j:Int)≤k)=F_:=by simp;omega
   obtain rfl:j=k+1:=by omega
   have Q:=nY hc hr hm;clear hc hr hm;go_wp2_with fail;exact HK _ _ _ _ _ _ _ _ _ _ _ _ _ _ _ _ _ _ _ _ _ _ _ _ _ _ _ _ _ _ _ _ _ _ _ _ _ _ _ Q.1 Q.2.1 Q.2.2
def zQ(A:oP)(G:GeoM)(c:vO)(cx:List CG)(t:List Value):List HB:= [Φ A G cx t,vk A.gm G.yl,vk A.gn G.neg,yT A.gs c.sig,yT A.ge c.seen,yT A.ga c.again]
theorem je.eq{A:oP}{G:GeoM}{q:CS}{raw:Bool}{eg rg:Nat}{H:List HB}(h:je A G q raw eg rg H):∃He Hr,Ou eg q.s.e He∧Vg rg q.s.r Hr∧H=zQ A G q.c q.s.cx (tX T_ raw (sD eg) (sD rg))++(He++Hr):=by obtain⟨He,Hr,h1,h2,rfl⟩:=h;exact⟨He,Hr,h1,h2,rfl⟩
theorem je.of{A:oP}{G:GeoM}{q:CS}{raw:Bool}{eg rg:Nat}{He Hr:List HB}(h1:Ou eg q.s.e He)(h2:Vg rg q.s.r Hr):je A G q raw eg rg (zQ A G q.c q.s.cx (tX T_ raw (sD eg) (sD rg))++(He++Hr)):=⟨He,Hr,h1,h2,rfl⟩
def amF(A:oP)(G:GeoM)(t:A7)(k:Nat)(H:List HB):Prop:=(k=t.first∧∃raw pe pr,H=zQ A G t.q.c t.q.s.cx (tX T_ raw pe pr))∨(k≠t.first∧∃eg rg,je A G t.q t.raw eg rg H)
def BkR(A:oP)(bb:Nat)(G:GeoM)(pl:Nat)(t:A7)(k:Nat)(H:List HB):Prop:= ∃Hc pv Hp bv Hb,amF A G t k Hc∧lH pv t.fZ Hp∧dR bv t.bytes Hb∧H=Hc++(bB bb pl pv bv::(Hp++Hb))
theorem ah0(K:Act→World→Prop)(G:GeoM)(n k:Nat)(w:World)(hs:G.ah≤63)(hk:k<n)(hn:n≤1000)
 (hK:∀(t155 t156 t157 t158 t159 t160 t161 t162 t163:Value),K ⟨List.toArray (s0::s1::s2::(i_ l_ G.ah)::s4::s5::s6::s7::s8::s9::s10::s11::s12::s13::s14::(i_ l_ n)::s16::(i_ l_ k)::kH::(b_ (F7 G n k))::s20::lF::lC::s23::s24::kZ::s26::kW::kR::kY::lu::lJ::lK::lI::lL::lD::s36::lY::lX::mG::ni::mZ::mY::s43::s44::nI::mF::nH::nK::s49::mD::mg::lW::s53::mX::mQ::mP::mO::nX::nJ::oU::oQ::pO::qW::qN::qV::rD::rC::s68::rM::rJ::sN::s72::sK::sJ::ry::ru::rf::s78::qZ::rH::rG::s82::s83::uk::uj::xI::s87::xH::xG::xF::xE::xn::xk::xC::xA::xy::xw::xR::zl::oK::oJ::nT::nS::qj::qh::pY::pX::pG::pF::oI::oH::o9::oG::nP::nO::nN::nM::oZ::oW::oV::wK::wJ::wI::wH::wG::wF::wC::wB::wu::vY::vX::vW::uO::yL::yK::yJ::yI::yH::yG::x9::Fa::E9::E8::E5::EY::EX::EW::EU::EL::EJ::EG::ED::Ez::Ey::t155::t156::t157::t158::t159::t160::t161::t162::t163::GK::GI::GH::Jn::Jm::Gl::Gj::Gi::Ze::Zc::Za::Y9::Y8::Y7::Y6::Y5::Y4::Y2::Y1::Y0::YZ::YY::YX::YW::YV::YU::YT::YS::YR::YQ::YP::YO::YM::abT::abS::abR::abQ::abP::abO::abN::abM::abL::abK::abJ::abI::abH::abG::abE::abD::abC::abB::abA::abz::aby::abx::abw::abv::abu::abt::abr::abq::abp::abo::abn::abm::abl::abk::YL::YK::YJ::YI::YG::YF::YE::YA::Yz::Yy::VR::[]),[]⟩ w):
 (dQ 29 Tryz.f17).wp P_ (Exit.then K qX) ⟨List.toArray (s0::s1::s2::(i_ l_ G.ah)::s4::s5::s6::s7::s8::s9::s10::s11::s12::s13::s14::(i_ l_ n)::s16::(i_ l_ k)::kH::kS::s20::lF::lC::s23::s24::kZ::s26::kW::kR::kY::lu::lJ::lK::lI::lL::lD::s36::lY::lX::mG::ni::mZ::mY::s43::s44::nI::mF::nH::nK::s49::mD::mg::lW::s53::mX::mQ::mP::mO::nX::nJ::oU::oQ::pO::qW::qN::qV::rD::rC::s68::rM::rJ::sN::s72::sK::sJ::ry::ru::rf::s78::qZ::rH::rG::s82::s83::uk::uj::xI::s87::xH::xG::xF::xE::xn::xk::xC::xA::xy::xw::xR::zl::oK::oJ::nT::nS::qj::qh::pY::pX::pG::pF::oI::oH::o9::oG::nP::nO::nN::nM::oZ::oW::oV::wK::wJ::wI::wH::wG::wF::wC::wB::wu::vY::vX::vW::uO::yL::yK::yJ::yI::yH::yG::x9::Fa::E9::E8::E5::EY::EX::EW::EU::EL::EJ::EG::ED::Ez::Ey::Gm::IY::IX::IW::IU::IQ::IP::IL::IK::GK::GI::GH::Jn::Jm::Gl::Gj::Gi::Ze::Zc::Za::Y9::Y8::Y7::Y6::Y5::Y4::Y2::Y1::Y0::YZ::YY::YX::YW::YV::YU::YT::YS::YR::YQ::YP::YO::YM::abT::abS::abR::abQ::abP::abO::abN::abM::abL::abK::abJ::abI::abH::abG::abE::abD::abC::abB::abA::abz::aby::abx::abw::abv::abu::abt::abr::abq::abp::abo::abn::abm::abl::abk::YL::YK::YJ::YI::YG::YF::YE::YA::Yz::Yy::VR::[]),[]⟩ w:=by
 conv in(dQ _ _)=>whnf
 unfold qX;have HK:=af hK;clear hK;have EA:=af (fun W=>Xn G.ah k W hs (by omega));have e1:(n:Int)-1=((n-1:Nat):Int):=by omega
 obtain⟨S,hS⟩:=X_ (G.ah);rw[hS]at EA HK hs⊢;by_cases he:uH S k=T_
 ·have r:F7 G n k=T_:=by unfold F7;rw[hS,he];rfl
  rw[r]at HK;go_wp2_with (go_at_call 62;refine(EA.out _).mono ?_;rintro e w7 ⟨rfl,rfl⟩;rw[he]);exact HK _ _ _ _ _ _ _ _ _
 ·have he':uH S k=F_:=by simpa using he
  by_cases hkn:k+1=n
  ·have r:F7 G n k=T_:=by unfold F7;rw[hS,he',aQ hkn];rfl
   rw[r]at HK;have d:((k:Int)==((n-1:Nat):Int))=T_:=beq_iff_eq.2 (by omega);clear hkn;go_wp2_with (go_at_call 62;refine(EA.out _).mono ?_;rintro e w7 ⟨rfl,rfl⟩;rw[he']);exact HK _ _ _ _ _ _ _ _ _
  ·have r:F7 G n k=F_:=by unfold F7;rw[hS,he',aW hkn];rfl
   rw[r]at HK;have d:((k:Int)==((n-1:Nat):Int))=F_:=bF.2 (by omega);clear hkn;go_wp2_with (go_at_call 62;refine(EA.out _).mono ?_;rintro e w7 ⟨rfl,rfl⟩;rw[he']);exact HK _ _ _ _ _ _ _ _ _
theorem aii{A:oP}{G:GeoM}{c:vO}{cx:List CG}{raw:Bool}{pe pr:Value}{w0 w:World}{H0 X He Hr:List HB}{eg rg:Nat}(hl:cx.length=19)(he:Ou eg Aq He)(hr:Vg rg Aj Hr)
 (M:Mv w0 H0 w (Hr++(He++(zQ A G c cx (tX T_ raw pe pr)++X)))):
 ∃Hc,je A G ⟨c,⟨cx,Aq,Aj⟩⟩ raw eg rg Hc∧Mv w0 H0 ((w.setCell ⟨A.cb,49,N_⟩ (sD eg)).setCell ⟨A.cb,50,N_⟩ (sD rg)) (Hc++X):=by
 have M1:Mv w0 H0 w (⟨A.cb,133,(Nj A G cx (tX T_ raw pe pr)).toArray⟩::([vk A.gm G.yl,vk A.gn G.neg,yT A.gs c.sig,yT A.ge c.seen,yT A.ga c.again]++((He++Hr)++X))):=M.sub (fun g=>by simp only[zQ,Φ,aP,bK,gI];omega) (fun b hb=>by simp only[zQ,Φ,ay,aC,bP,gQ]at hb⊢;grind);have M2:=(M1.set 49 (sD eg)).set 50 (sD rg);rw[show(49:Nat)=47+2 from rfl,show(50:Nat)=47+3 from rfl,KU hl,KU hl]at M2;refine⟨_,je.of (q:=⟨c,⟨cx,Aq,Aj⟩⟩) he hr,?_⟩;simpa[zQ,Φ,tX,az]using M2
theorem aih{A:oP}{G:GeoM}{c:vO}{cx:List CG}{raw:Bool}{pe pr:Value}{w0 w:World}{H0 X:List HB}(hl:cx.length=19)(M:Mv w0 H0 w (zQ A G c cx (tX T_ raw pe pr)++X))(raw':Bool):Mv w0 H0 (w.setCell ⟨A.cb,48,N_⟩ (b_ raw')) (zQ A G c cx (tX T_ raw' pe pr)++X):=by have M1:Mv w0 H0 w (⟨A.cb,133,(Nj A G cx (tX T_ raw pe pr)).toArray⟩::([vk A.gm G.yl,vk A.gn G.neg,yT A.gs c.sig,yT A.ge c.seen,yT A.ga c.again]++X)):=M;have M2:=M1.set 48 (b_ raw');rw[show(48:Nat)=47+1 from rfl,KU hl]at M2;exact M2
theorem xW{A:oP}{G:GeoM}{c:vO}{cx:List CG}{t:List Value}{w0 w:World}{H0 X:List HB}(hl:cx.length=19)(M:Mv w0 H0 w (zQ A G c cx t++X))(i:Nat):w.cell? ⟨A.cb,47+i,N_⟩=t[i]?∧w.frozen? ⟨A.cb,47+i,N_⟩=F_:=by have b:=M.blk 0 (g:=A.cb) (t:=133) (cs:=(Nj A G cx t).toArray) rfl;exact⟨(b.cell _).trans (afR hl t i),b.frozen _⟩
theorem Oq{A:oP}{G:GeoM}{c:vO}{cx:List CG}{t:List Value}{w0 w:World}{H0 X He Hr:List HB}(hl:cx.length=19)(M:Mv w0 H0 w (Hr++(He++(zQ A G c cx t++X))))(i:Nat):w.cell? ⟨A.cb,47+i,N_⟩=t[i]?∧w.frozen? ⟨A.cb,47+i,N_⟩=F_:=xW hl (Mv.drop (Mv.drop M)) i
theorem ali{w0 w:World}{H0 A R:List HB}{bb pl:Nat}{pv bv:Value}(M:Mv w0 H0 w (A++(bB bb pl pv bv::R)))(v:Value):Mv w0 H0 (w.setCell ⟨bb,1,N_⟩ v) (A++(bB bb pl v bv::R)):=Mv.setAt (A:=A) (g:=bb) (t:=51) (cs:=#[i_ l_ pl,pv,bv]) M 1 v
theorem alj{w0 w:World}{H0 A R:List HB}{bb pl:Nat}{pv bv:Value}(M:Mv w0 H0 w (A++(bB bb pl pv bv::R)))(v:Value):Mv w0 H0 (w.setCell ⟨bb,2,N_⟩ v) (A++(bB bb pl pv v::R)):=Mv.setAt (A:=A) (g:=bb) (t:=51) (cs:=#[i_ l_ pl,pv,bv]) M 2 v
theorem Jg{w0 w:World}{H0 A R:List HB}{bb pl:Nat}{pv bv:Value}(M:Mv w0 H0 w (A++(bB bb pl pv bv::R))):w.cell? ⟨bb,1,N_⟩=S_ pv∧w.cell? ⟨bb,2,N_⟩=S_ bv∧w.frozen? ⟨bb,1,N_⟩=F_∧w.frozen? ⟨bb,2,N_⟩=F_:=⟨M.drop.cell 0 rfl 1,M.drop.cell 0 rfl 2,M.drop.frozen 0 rfl 1,M.drop.frozen 0 rfl 2⟩
theorem ahu(raw:Bool)(s:Eo):G6 raw s≤s.size+4:=by
 unfold G6 Dz Eo.size;split
 ·split<;>omega
 ·omega
theorem adY{G:GeoM}{aH n:Nat}{t:A7}{k:Nat}(hg:1≤G.h)(h:t.Ok G k){B:Nat}(hb:t.bytes.length≤B)(ho:G6 (yB G t k) (Oh G aH t k).s≤B):∀p∈Dq G aH n t k,0≤p.1∧p.1≤(B:Int):=by
 intro p hp;refine⟨VD h p hp,?_⟩;rw[←iP t.first (Dq G aH n t k)]at hp;rcases ay.1 hp with h1|h1
 ·rw[zu h]at h1;have:=h.top p h1;omega
 ·have:=(O! (aH:=aH) (n:=n) hg h).2 p h1;omega
theorem ajQ(K:Act→World→Prop)(A:oP)(bb:Nat)(G:GeoM)(pl n k:Nat)(t:A7)(R H H0:List HB)(w0 w:World)
 (hg:G.Ok) (hpl:pl≤30) (hk:k<n) (hn:n=oM pl) (hok:t.Ok G k) (hfew:t.Few (16*(12*(G.w*G.h)+4)+4) k) (hr:BkR A bb G pl t k H) (M:Mv w0 H0 w (H++R))
 (hK:∀(t18 t19 t20 t21 t22 t23 t118 t119 t120 t121 t122 t123 t124 t125 t126 t127 t128 t129 t130 t131 t132 t133 t134 t135 t136 t137 t138 t139 t140 t141 t142 t143 t144 t145 t146 t147 t148 t149 t150 t151 t152 t153 t154 t155 t156 t157 t158 t159 t160 t161 t162 t163 t164 t165 t166 t167 t168 t169 t170 t171 t172 t173 t174 t175 t176 t177 t178 t179 t180 t181 t182 t183 t184 t185 t186 t187 t188 t189 t190 t191 t192 t193 t194 t195 t196 t197 t198 t199 t200 t201 t202 t203 t204 t205 t206 t207 t208 t209 t210 t211 t212 t213 t214 t215 t216 t217 t218 t219 t220 t221 t222 t223 t224 t225 t226 t227 t228 t229 t230 t231 t232 t233 t234 t235 t236 t237 t238 t239 t240:Value) (wx:World) (H':List HB),BkR A bb G pl (qP G pl n t k) (k+1) H'→Mv w0 H0 wx (H'++R)→K ⟨List.toArray (s0::s1::s2::(i_ l_ G.ah)::s4::s5::s6::s7::s8::s9::s10::s11::(sD A.cb)::(sD bb)::s14::(i_ l_ n)::(i_ l_ ((qP G pl n t k).first:Int))::(i_ l_ k)::t18::t19::t20::t21::t22::t23::s24::kZ::s26::kW::kR::kY::lu::lJ::lK::lI::lL::lD::s36::lY::lX::mG::ni::mZ::mY::s43::s44::nI::mF::nH::nK::s49::mD::mg::lW::s53::mX::mQ::mP::mO::nX::nJ::oU::oQ::pO::qW::qN::qV::rD::rC::s68::rM::rJ::sN::s72::sK::sJ::ry::ru::rf::s78::qZ::rH::rG::s82::s83::uk::uj::xI::s87::xH::xG::xF::xE::xn::xk::xC::xA::xy::xw::xR::zl::oK::oJ::nT::nS::qj::qh::pY::pX::pG::pF::oI::oH::o9::oG::nP::nO::nN::nM::t118::t119::t120::t121::t122::t123::t124::t125::t126::t127::t128::t129::t130::t131::t132::t133::t134::t135::t136::t137::t138::t139::t140::t141::t142::t143::t144::t145::t146::t147::t148::t149::t150::t151::t152::t153::t154::t155::t156::t157::t158::t159::t160::t161::t162::t163::t164::t165::t166::t167::t168::t169::t170::t171::t172::t173::t174::t175::t176::t177::t178::t179::t180::t181::t182::t183::t184::t185::t186::t187::t188::t189::t190::t191::t192::t193::t194::t195::t196::t197::t198::t199::t200::t201::t202::t203::t204::t205::t206::t207::t208::t209::t210::t211::t212::t213::t214::t215::t216::t217::t218::t219::t220::t221::t222::t223::t224::t225::t226::t227::t228::t229::t230::t231::t232::t233::t234::t235::t236::t237::t238::t239::t240::VR::[]),[]⟩ wx):
 (jB 5 Tryz.f17).wp P_ (Exit.then K qX) ⟨List.toArray (s0::s1::s2::(i_ l_ G.ah)::s4::s5::s6::s7::s8::s9::s10::s11::(sD A.cb)::(sD bb)::s14::(i_ l_ n)::(i_ l_ t.first)::(i_ l_ k)::kH::kS::s20::lF::lC::s23::s24::kZ::s26::kW::kR::kY::lu::lJ::lK::lI::lL::lD::s36::lY::lX::mG::ni::mZ::mY::s43::s44::nI::mF::nH::nK::s49::mD::mg::lW::s53::mX::mQ::mP::mO::nX::nJ::oU::oQ::pO::qW::qN::qV::rD::rC::s68::rM::rJ::sN::s72::sK::sJ::ry::ru::rf::s78::qZ::rH::rG::s82::s83::uk::uj::xI::s87::xH::xG::xF::xE::xn::xk::xC::xA::xy::xw::xR::zl::oK::oJ::nT::nS::qj::qh::pY::pX::pG::pF::oI::oH::o9::oG::nP::nO::nN::nM::oZ::oW::oV::wK::wJ::wI::wH::wG::wF::wC::wB::wu::vY::vX::vW::uO::yL::yK::yJ::yI::yH::yG::x9::Fa::E9::E8::E5::EY::EX::EW::EU::EL::EJ::EG::ED::Ez::Ey::Gm::IY::IX::IW::IU::IQ::IP::IL::IK::GK::GI::GH::Jn::Jm::Gl::Gj::Gi::Ze::Zc::Za::Y9::Y8::Y7::Y6::Y5::Y4::Y2::Y1::Y0::YZ::YY::YX::YW::YV::YU::YT::YS::YR::YQ::YP::YO::YM::abT::abS::abR::abQ::abP::abO::abN::abM::abL::abK::abJ::abI::abH::abG::abE::abD::abC::abB::abA::abz::aby::abx::abw::abv::abu::abt::abr::abq::abp::abo::abn::abm::abl::abk::YL::YK::YJ::YI::YG::YF::YE::YA::Yz::Yy::VR::[]),[]⟩ w:=by
 conv in(jB _ _)=>whnf
 unfold qX;have HK:=af hK;clear hK;unfold sD;obtain⟨Hc,pv,Hp,bv,Hb,hc,hp,hb,rfl⟩:=hr;obtain⟨B,hB⟩:=X_ (16*(12*(G.w*G.h)+4)+4);have hn4:G.w*G.h≤4096:=bZ hg.w2 hg.h2;have hBl:B≤786500:=by omega
 have am6:n≤88:=by rw[hn];unfold oM;omega
 have hkB:(k+1)*B≤88*786500:=bZ (by omega) hBl;rw[hB]at hfew;have ZZ:=VC (aH:=pl) hg.h1 hok B (by omega) hfew;have z1:t.bytes.length+(Oh G pl t k).s.size≤69999999:=by omega
 have z2:t.bytes.length+(Gw t k).s.size≤69999999:=by have:k*B≤(k+1)*B:=bZ (by omega) (aN _);omega
 have SQ0:=af (Og hok);have SQ:=af (Ym (aH:=pl) hg.h1 hok);have HG:=af hg;have hst:=hg.ah;have HO:=af hok;have hcx:t.q.s.cx.length=19:=hok.s.len;obtain⟨q0,hq0⟩:=X_ (Gw t k);obtain⟨raw,hraw⟩:=X_ (yB G t k);have hQ:Oh G pl t k=J7 G raw pl k q0:=by unfold Oh;rw[hraw,hq0]
 have HN:=af hn;obtain⟨X,hX⟩:=X_ (bB bb pl pv bv::(Hp++(Hb++R)));have M0:Mv w0 H0 w (Hc++X):=by rw[←hX];simpa[az]using M
 rw[hq0]at SQ0 z2;have HX:=af hX;have KM:=af M0;have KP:=dS hp hb;have HQ:=af hQ;have Z:=dS z1 z2;clear hX M M0 hp hb ZZ hkB hfew hB hBl hn hg hok hQ z1 z2;go_upto_if 120 with fail;go_cut [120]from 121 to 240 (fun _ wx=>∃eg rg Hc1,je A G q0 raw eg rg Hc1∧Mv w0 H0 wx (Hc1++X))
 case first=>
  rcases hc with⟨hkf,r0,pe,pr,rfl⟩|⟨hkf,eg,rg,hcr⟩
  ·have d:((k:Int)==(t.first:Int))=T_:=beq_iff_eq.2 (by omega);have e1:q0=⟨t.q.c,⟨t.q.s.cx,Aq,Aj⟩⟩:=by rw[←hq0];unfold Gw;rw[aK hkf]
   have e2:UM G.ah k=raw:=by rw[←hraw];unfold yB;rw[aK hkf]
   have RA:Hid (∀W,Calls P_ 56 #[i_ l_ G.ah,i_ l_ k] W fun e w'=>e=r_ (b_ raw)∧w'=W):=af (fun W=>by rw[←e2];exact acG G.ah k W hst (by omega));have E1:=af e1;have c48:w.cell? ⟨A.cb,48,N_⟩=S_ (b_ r0):=(xW hcx KM 1).1;have f48:w.frozen? ⟨A.cb,48,N_⟩=F_:=(xW hcx KM 1).2;have M1:=aih hcx KM raw;obtain⟨w1,hw1⟩:=Y_ (w.setCell ⟨A.cb,48,N_⟩ (b_ raw));rw[←hw1]at M1;have HW:=af hw1;have K1:=af M1;clear hkf e1 e2 hq0 hraw hw1 M1;go_upto_region 24 with(go_at_call 56;refine(RA.out _).mono ?_;rintro e w7 ⟨rfl,rfl⟩);rw[←HW.out];clear HW c48 f48;go_wp2_with (first
    |(go_at_call 57;refine(ahA _).mono ?_;rintro e w2 ⟨eg,He,rfl,he,me⟩;have K2:=dS he (Mv.call (H:=[]) K1.out me);clear he me)
    |(go_at_call 58;refine(ahz _).mono ?_;rintro e w3 ⟨rg,Hr,rfl,hr,mr⟩;have K3:=dS hr (Mv.call (H:=[]) K2.out.2 mr);(have c49:w3.cell? ⟨A.cb,49,N_⟩=S_ pe:=by(first|exact(Oq hcx K3.out.2 2).1));(have f49:w3.frozen? ⟨A.cb,49,N_⟩=F_:=by(first|exact(Oq hcx K3.out.2 2).2));(have c50:w3.cell? ⟨A.cb,50,N_⟩=S_ pr:=by(first|exact(Oq hcx K3.out.2 3).1));(have f50:w3.frozen? ⟨A.cb,50,N_⟩=F_:=by(first|exact(Oq hcx K3.out.2 3).2));clear hr mr))
   go_meet;obtain⟨Hc1,q1,q2⟩:=aii hcx K2.1 K3.1 K3.2;rw[←E1.out]at q1;exact⟨eg,rg,Hc1,q1,q2⟩
  ·have d:((k:Int)==(t.first:Int))=F_:=bF.2 (by omega);have e1:q0=t.q:=by rw[←hq0];unfold Gw;rw[aJ hkf]
   have e2:raw=t.raw:=by rw[←hraw];unfold yB;rw[aJ hkf]
   rw[←e1,←e2]at hcr;have HR:=af hcr;clear e1 e2 hcr hkf hq0 hraw;go_wp2_with fail;go_meet;exact⟨eg,rg,_,HR.out,KM.out⟩
 case rest=>
  obtain⟨eg,rg,Hc1,hr1,m1⟩:=hcut;clear hc KM hq0 hcx;obtain⟨q,hq⟩:=X_ (Oh G pl t k);rw[hq]at SQ HQ Z;have MX:∀(Hy:List HB) (wy:World),Mv w0 H0 wy (Hy++X)→zh wy bb 51 #[i_ l_ pl,pv,bv]:=by intro Hy wy m;have m2:=m.drop;rw[←HX.out]at m2;exact m2.blk 0 rfl
  have HMX:=af MX;have c0:wc.cell? ⟨bb,0,N_⟩=S_ (i_ l_ pl):=(MX _ _ m1).cell 0;have CP:=af (afO A G q0 raw eg rg pl k Hc1 wc HG SQ0.1 hr1 m1.sat.left SQ0.2 (by have:=Z.2;omega) (by omega) (by rw[←HN.out];exact hk));have K1:=af m1;clear MX m1 hr1;go_upto_region 26 with(go_at_call 59;refine CP.out.mono ?_;rintro e w2 ⟨rfl,H2,h2,m2⟩;rw[←HQ.out]at h2;have K2:=dS h2 (Mv.call K1.out m2);clear h2 m2);clear c0 CP K1;obtain⟨He,Hr,k1,k2,rfl⟩:=K2.1.eq;have m2:=K2.2;rw[az]at m2;have hcx:q.s.cx.length=19:=SQ.2.len;have c48:w2.cell? ⟨A.cb,48,N_⟩=S_ (b_ raw):=(xW hcx m2 1).1;have c49:w2.cell? ⟨A.cb,49,N_⟩=S_ (p_ (S_ ⟨eg,0,N_⟩)):=(xW hcx m2 2).1;have c50:w2.cell? ⟨A.cb,50,N_⟩=S_ (p_ (S_ ⟨rg,0,N_⟩)):=(xW hcx m2 3).1;have szq:q.s.e.b.length≤70000000∧q.s.r.b.length≤70000000:=by have:=Z.1;unfold Eo.size at this;omega
  have hbn:q.s.e.b≠[]:=SQ.2.e.1.2.2.2.2.2;have SE:Sat w2 (He++(Hr++X)):=by have:=m2.drop.sat;simpa[az]using this
  have EO:=af (ah1 eg q.s.e w2 He k1 SE.left hbn (by omega));have RO:=af (ahf rg q.s.r w2 Hr k2 SE.right.left (by omega));have KE:=dS k1 k2;have KM:=af m2;obtain⟨lb,hlb⟩:=X_ (q.s.e.b.length-1);have al3:lb≤70000000:=by omega
  have OM:G6 raw q.s=if raw then Dz q.s.r else lb+5:=by
   unfold G6;have:=fP.2 hbn;split
   ·rfl
   ·omega
  rw[hlb]at EO;have HOM:=af OM;clear k1 k2 m2 SE OM hlb;go_upto_if 149 with(go_at_call 60;refine EO.out.mono ?_;rintro e w2 ⟨rfl,rfl⟩);go_cut [18,149]from 150 to 240 (fun kH _ wx=>kH=i_ l_ (G6 raw q.s:Nat)∧∃nn,wx=w2.drewN nn)
  case first=>
   have ady:=HOM.out;cases raw
   ·simp only[aI,iJ]at ady;have HO2:=af ady;clear ady;go_wp2_with fail;go_meet;exact⟨by rw[HO2.out];push_cast;rfl,0,rfl⟩
   ·simp only[ji]at ady;have HO2:=af ady;clear ady;go_wp2_with (go_at_call 61;refine RO.out.mono ?_;rintro e w8 ⟨rfl,nn,rfl⟩);go_meet;exact⟨by rw[HO2.out],_,rfl⟩
  case rest=>
   obtain⟨rfl,nn,rfl⟩:=hcut;have m3:=KM.drewN nn;clear RO EO K2 KM HOM c48 c49 c50 al3;generalize w2.drewN nn=w3 at*;clear w2;have K3:=af m3;clear m3;obtain⟨om,hom⟩:=X_ (G6 raw q.s);rw[hom];go_upto_region 29 with fail;refine ik (ah0 _ G n k _ hst hk (by omega) ?_);rintro _ _ _ _ _ _ _ _ _;obtain⟨en,hen⟩:=X_ (F7 G n k);rw[hen];have PS:Hid (Dq G pl n t k=t.fZ++[((om:Int),en)]):=af (by unfold Dq;rw[hraw,hq,hom,hen]);obtain⟨pva,pvc,rfl⟩:=KP.1.slice;have hpl2:t.fZ.length=k:=HO.len;rw[hpl2]at KP HX;obtain⟨Y,hY⟩:=X_ (zQ A G q.c q.s.cx (tX T_ raw (sD eg) (sD rg))++(He++Hr));have HY:=af hY;have m4:Mv w0 H0 w3 (Y++(bB bb pl (s_ pva k pvc) bv::(Hp++(Hb++R)))):=by have:=K3.out;rw[←HX.out,←az,hY]at this;exact this
   have c1:w3.cell? ⟨bb,1,N_⟩=S_ (s_ pva k pvc):=(Jg m4).1;have f1:w3.frozen? ⟨bb,1,N_⟩=F_:=(Jg m4).2.2.1;have QA:=af (ai5 w3 ((om:Int),en) w3.heap.size rfl);have KA:Hid (Mv w0 H0 (w3.alloc (.cells #[i_ l_ om,b_ en] 90)) (Hp++(bB bb pl (s_ pva k pvc) bv::(Hb++(Y++R))))):=af (((m4.alloc 90 #[i_ l_ om,b_ en]).drop1).Z_);obtain⟨ps,hps⟩:=X_ (t.fZ++[((om:Int),en)]);have ajA:ps.length=k+1:=by rw[←hps,au,hpl2];rfl
   rw[hps]at PS;have HPS:=af hps;have HPL:=af hpl2;have hbd:t.fZ.length+[((om:Int),en)].length≤100000000:=by rw[hpl2];simp only[List.length_cons,List.length_nil];omega
   clear m4 hps hpl2 HMX;go_upto_region 31 with(at_builtin;go_must (refine Vs rfl (.tmp 165) (.tmp 169) rfl _ _ t.fZ [((om:Int),en)] Hp rfl rfl KP.out.1 KA.out.sat.left QA.out hbd ?_;intro v4 w4 H4 hr4 m4;rw[HPS.out]at hr4;obtain⟨a4,c4,rfl⟩:=hr4.slice;have K4:=dS hr4 (Mv.call KA.out m4);(have x1:w4.cell? ⟨bb,1,N_⟩=S_ (s_ pva k pvc):=by(first|exact(Jg K4.out.2).1));(have y1:w4.frozen? ⟨bb,1,N_⟩=F_:=by(first|exact(Jg K4.out.2).2.2.1));clear hr4 m4));have KR:Hid (lH (s_ a4 (k+1) c4) ps H4∧Mv w0 H0 (w4.setCell ⟨bb,1,N_⟩ (s_ a4 (k+1) c4)) (H4++(bB bb pl (s_ a4 (k+1) c4) bv::(Hb++(Y++R))))):=af ⟨by have:=K4.1;rw[ajA]at this;exact this,ali K4.2 _⟩;clear K4 c1 f1 x1 y1 QA KA hbd K3;generalize w4.setCell ⟨bb,1,N_⟩ (s_ a4 (k+1) c4)=w5 at*;cases en
   ·have ES:qP G pl n t k=⟨q,raw,ps,t.bytes,t.first⟩:=by unfold qP;rw[hen,aJ (by simp),hq,hraw,PS.out]
    rw[ES]at HK;have hfk:t.first≤k:=HO.first;have FIN:Hid (BkR A bb G pl ⟨q,raw,ps,t.bytes,t.first⟩ (k+1) (Y++(bB bb pl (s_ a4 (k+1) c4) bv::(H4++Hb)))∧Mv w0 H0 w5 ((Y++(bB bb pl (s_ a4 (k+1) c4) bv::(H4++Hb)))++R)):=af ⟨⟨Y,_,H4,bv,Hb,.inr ⟨by simp only;omega,eg,rg,by rw[←HY.out];exact je.of KE.1 KE.2⟩,KR.1,KP.2,rfl⟩,KR.2.Z_⟩;clear ES hY;go_wp2_with fail;exact HK _ _ _ _ _ _ _ _ _ _ _ _ _ _ _ _ _ _ _ _ _ _ _ _ _ _ _ _ _ _ _ _ _ _ _ _ _ _ _ _ _ _ _ _ _ _ _ _ _ _ _ _ _ _ _ _ _ _ _ _ _ _ _ _ _ _ _ _ _ _ _ _ _ _ _ _ _ _ _ _ _ _ _ _ _ _ _ _ _ _ _ _ _ _ _ _ _ _ _ _ _ _ _ _ _ _ _ _ _ _ _ _ _ _ _ _ _ _ _ _ _ _ _ _ _ _ _ _ _ _ _ FIN.1 FIN.2
   ·obtain⟨x,hx⟩:=X_ (VN raw q.s);have ES:qP G pl n t k=⟨⟨q.c,⟨q.s.cx,wX q.s.e,q.s.r⟩⟩,raw,ps.take t.first++closeM t.bytes.length x (ps.drop t.first),t.bytes++x,k+1⟩:=by unfold qP;rw[hen,aK rfl,hq,hraw,PS.out,hx]
    rw[ES]at HK;have HXX:=af hx;have HES:=af ES;have hxl:x.length≤70000003:=by have h1:=O7 (raw:=raw) SQ.2;have h2:=Z.1;rw[hx]at h1;omega
    have hat:t.bytes.length≤70000000:=by have:=Z.1;omega
    have hsum:t.bytes.length+x.length≤100000000:=by have h1:=O7 (raw:=raw) SQ.2;have h2:=Z.1;rw[hx]at h1;omega
    obtain⟨-,pg,rfl⟩:=KR.1.form (Nat.succ_pos k);have PT:Hid (∀p∈ps,0≤p.1∧p.1≤90000000):=af (by have h1:=adY (aH:=pl) (n:=n) (B:=90000000) HG.h1 HO (by omega) (by rw[hq];have:=ahu (yB G t k) q.s;have:=Z.1;omega);rw[PS.out]at h1;exact h1);have hfk:t.first≤k:=HO.first;have m6:Mv w0 H0 w5 (He++(Hr++(zQ A G q.c q.s.cx (tX T_ raw (sD eg) (sD rg))++(H4++(bB bb pl (s_ (S_ ⟨pg,0,N_⟩) (k+1) c4) bv::(Hb++R)))))):=KR.2.sub (fun g=>by rw[←HY.out];simp only[aP,bK];omega) (fun b hb=>by rw[←HY.out];simp only[ay,aC]at hb⊢;grind);have c48:w5.cell? ⟨A.cb,48,N_⟩=S_ (b_ raw):=(xW hcx m6.drop.drop 1).1;have c49:w5.cell? ⟨A.cb,49,N_⟩=S_ (p_ (S_ ⟨eg,0,N_⟩)):=(xW hcx m6.drop.drop 2).1;have EF:=af (ac6 eg q.s.e w5 He KE.1 m6.sat.left SQ.2.e (by omega));have K6:=af m6;clear ES hY hx m6;go_upto_if 182 with(go_at_call 63;refine EF.out.mono ?_;rintro e w6 ⟨v6,Hn6,He6,rfl,b6,q6,m6⟩;have K7:=dS b6 (Mv.call K6.out m6);(have y48:w6.cell? ⟨A.cb,48,N_⟩=S_ (b_ raw):=by(first|exact(xW hcx K7.out.2.drop.drop 1).1));(have y50:w6.cell? ⟨A.cb,50,N_⟩=S_ (p_ (S_ ⟨rg,0,N_⟩)):=by(first|exact(xW hcx K7.out.2.drop.drop 3).1));clear b6 q6 m6);clear c48 c49 EF K6;have M7:Hid (Mv w0 H0 w6 (Hr++(zQ A G q.c q.s.cx (tX T_ raw (sD eg) (sD rg))++(Hn6++(H4++(bB bb pl (s_ (S_ ⟨pg,0,N_⟩) (k+1) c4) bv::(Hb++R))))))):=af (K7.2.Z_);have B6:=af K7.1;clear K7;go_cut [20,182]from 183 to 240 (fun s20 _ wx=>∃Hx,dR s20 x Hx∧Mv w0 H0 wx (Hx++(zQ A G q.c q.s.cx (tX T_ raw (sD eg) (sD rg))++(H4++(bB bb pl (s_ (S_ ⟨pg,0,N_⟩) (k+1) c4) bv::(Hb++R))))))
    case first=>
     cases raw
     ·have ex:Hid (MW q.s.e=x):=af HXX.out;clear y50;go_wp2_with fail;go_meet;exact⟨Hn6,by rw[←ex.out];exact B6.out,M7.Z_⟩
     ·have ex:Hid (zZ q.s.r=x):=af HXX.out;have RF:=af (ach rg q.s.r w6 Hr KE.2 M7.sat.left (by omega) SQ.2.r.cur);go_wp2_with (go_at_call 64;refine RF.out.mono ?_;rintro e w8 ⟨v8,Hn8,rfl,b8,m8⟩;have K8:=dS b8 (Mv.call M7.out m8);clear b8 m8);go_meet;exact⟨Hn8,by rw[←ex.out];exact K8.1,K8.2.Z_⟩
    case rest=>
     obtain⟨Hx,hx,m8⟩:=hcut;obtain⟨xa,xc,rfl⟩:=hx.slice;obtain⟨ba,bc,rfl⟩:=KP.2.slice;obtain⟨lx,hlx⟩:=X_ (x.length);obtain⟨at_,afs⟩:=X_ (t.bytes.length);clear y48 y50 M7 B6;have KB:Hid (dR (s_ ba at_ bc) t.bytes Hb):=af (by rw[←afs];exact KP.2);rw[afs]at m8;rw[hlx]at hx⊢;have m9:Mv w0 H0 wc (Hb++(bB bb pl (s_ (S_ ⟨pg,0,N_⟩) (k+1) c4) (s_ ba at_ bc)::(H4++(Hx++(zQ A G q.c q.s.cx (tX T_ raw (sD eg) (sD rg))++R))))):=m8.Z_;have c2:wc.cell? ⟨bb,2,N_⟩=S_ (s_ ba at_ bc):=(Jg m9).2.1;have f2:wc.frozen? ⟨bb,2,N_⟩=F_:=(Jg m9).2.2.2;have BX:=af (hx.bv m8.sat.left);have K9:=dS hx m9;obtain⟨by8,hby⟩:∃l,t.bytes++x=l:=⟨_,rfl⟩;rw[hby]at HK;have HBL:=af (show by8.length=at_+x.length by rw[←hby,au,afs]);have hb8:by8.length≤100000000:=by rw[←hby,au];exact hsum
     have HBY:=af hby;have amB:=af hsum;rw[afs]at hat HK;have amn:at_≤80000000:=by omega
     have akB:x.length≤80000000:=by omega
     have HXL:=af akB;clear hx m8 m9 hby hlx afs hxl akB hsum;go_upto_region 37 with(at_builtin;go_must (refine iY rfl (.tmp 192) (.tmp 193) rfl _ _ t.bytes x Hb rfl rfl KB.out K9.out.2.sat.left BX.out amB.out ?_;intro v8 w8 H8 Jb m8;rw[HBY.out]at Jb;obtain⟨a8,c8,rfl⟩:=Jb.slice;have K8:=dS Jb (Mv.call K9.out.2 m8);(have x2:w8.cell? ⟨bb,2,N_⟩=S_ (s_ ba at_ bc):=by(first|exact(Jg K8.out.2).2.1));(have y2:w8.frozen? ⟨bb,2,N_⟩=F_:=by(first|exact(Jg K8.out.2).2.2.2));clear Jb m8));have M10:Hid (Mv w0 H0 (w8.setCell ⟨bb,2,N_⟩ (s_ a8 by8.length c8)) (bB bb pl (s_ (S_ ⟨pg,0,N_⟩) (k+1) c4) (s_ a8 by8.length c8)::(H4++(Hx++(H8++(zQ A G q.c q.s.cx (tX T_ raw (sD eg) (sD rg))++R)))))):=af ((alj K8.2 _).Z_);have B8:=af K8.1;clear x2 y2 c2 f2 BX K8;generalize w8.setCell ⟨bb,2,N_⟩ (s_ a8 by8.length c8)=w9 at*;go_upto_block 6 with fail;refine ik (ajP _ bb pl pg (k+1) c4 k t.first at_ x ps (s_ a8 by8.length c8) (s_ xa lx xc) H4 Hx (H8++(zQ A G q.c q.s.cx (tX T_ raw (sD eg) (sD rg))++R)) H0 w0 w9 ajA hfk (by omega) HXL amn PT KR.1 K9.1 M10.out ?_);rintro t22 t23 _ _ _ _ _ _ _ _ _ _ _ _ _ _ _ _ _ _ _ _ _ _ _ _ _ _ _ _ _ _ _ _ _ _ cur Hc6 w10 ajK hrow m10;obtain⟨p6,hp6⟩:∃p6,cur[k]?=S_ p6:=⟨_,ai (by have:=ajK.len;omega)⟩;obtain⟨Hc9,r1,r2⟩:=U! m10 hrow hp6 (by8.length:Int);have EC:Hid (cur.set k ((by8.length:Int),p6.2)=ps.take t.first++closeM at_ x (ps.drop t.first)):=af (by rw[HBL.out];exact ajK.all ajA hfk hp6);have c1:w10.cell? ⟨bb,1,N_⟩=S_ (s_ (S_ ⟨pg,0,N_⟩) (k+1) c4):=(Jg (A:=[]) m10).1;have c2:w10.cell? ⟨bb,2,N_⟩=S_ (s_ a8 by8.length c8):=(Jg (A:=[]) m10).2.1;obtain⟨c3,f3⟩:=hrow.at_ m10.drop1.sat.left hp6;have hkk:(k:Int)<((k+1:Nat):Int):=by omega
     have FIN:Hid (BkR A bb G pl ⟨⟨q.c,⟨q.s.cx,wX q.s.e,q.s.r⟩⟩,raw,ps.take t.first++closeM at_ x (ps.drop t.first),by8,k+1⟩ (k+1) (zQ A G q.c q.s.cx (tX T_ raw (sD eg) (sD rg))++(bB bb pl (s_ (S_ ⟨pg,0,N_⟩) (k+1) c4) (s_ a8 by8.length c8)::(Hc9++H8)))∧Mv w0 H0 (w10.setCell ⟨pg,k*2,N_⟩ (i_ l_ by8.length)) ((zQ A G q.c q.s.cx (tX T_ raw (sD eg) (sD rg))++(bB bb pl (s_ (S_ ⟨pg,0,N_⟩) (k+1) c4) (s_ a8 by8.length c8)::(Hc9++H8)))++R)):=af ⟨⟨_,_,Hc9,_,H8,.inl ⟨rfl,raw,sD eg,sD rg,rfl⟩,by rw[←EC.out];exact r1,B8.out,rfl⟩,r2.Z_⟩;clear ajK hrow m10 hp6 r1 r2;unfold sD;go_wp2_with fail;exact HK _ _ _ _ _ _ _ _ _ _ _ _ _ _ _ _ _ _ _ _ _ _ _ _ _ _ _ _ _ _ _ _ _ _ _ _ _ _ _ _ _ _ _ _ _ _ _ _ _ _ _ _ _ _ _ _ _ _ _ _ _ _ _ _ _ _ _ _ _ _ _ _ _ _ _ _ _ _ _ _ _ _ _ _ _ _ _ _ _ _ _ _ _ _ _ _ _ _ _ _ _ _ _ _ _ _ _ _ _ _ _ _ _ _ _ _ _ _ _ _ _ _ _ _ _ _ _ _ _ _ _ FIN.1 FIN.2
theorem NZ{P:Program}{fn:Func}{p u:Tmp}{ty:TypeId}(h:fn.results=#[.cell p ty,.tmp u])(tmps:Array Value)(w:World)(g:Nat)(t:TypeId)(cs:Array Value)(fr:Nat×Nat)(d:TypeDesc)
 (hp:tmps.getD p undef=p_ (S_ ⟨g,0,N_⟩)) (hg:w.heap[g]?=S_ (.cells cs t fr))
 (hu:P.underlying ty=S_ d) (hd:(match d with| .struct _| .array _ _=>T_|_=>F_)=T_) (hi:(P.info? ty).map (·.size)=S_ cs.size):
 (results fn tmps).run P w=.ok (t_ #[g_ cs,tmps.getD u undef]) w:=by
 rw[results_cell_tmp h,hp];have e:(asAddr (p_ (S_ ⟨g,0,N_⟩))).run P w=.ok ⟨g,0,N_⟩ w:=rfl;rw[e,Result.andThen_ok,run_loadVar_row w g t ty cs fr d hg hu hd hi,Result.andThen_ok]
def rB(rb:Nat):HB:=⟨rb,51,#[i_ l_ 0,s_ N_ 0 0,s_ N_ 0 0]⟩
theorem ψ(G:GeoM)(v:List Int)(vg vc:Nat)(w0:World)(hg:G.Ok)(hm:G.yl=v.map Int.natAbs)(hng:G.neg=v.map fun n=>yh (decide (n<0)))
 (hv:∀i m,v[i]?=S_ m→w0.cell? ⟨vg,i,N_⟩=S_ (i_ l_ m)) (hvg:vg<w0.heap.size):
 Calls P_ 17 #[i_ l_ G.w,i_ l_ G.h,i_ l_ G.band,i_ l_ G.ah,s_ (S_ ⟨vg,0,N_⟩) v.length vc] w0 fun e w'=> ∃pv bv Hp Hb,e=r_ (t_ #[g_ #[i_ l_ ((jv G).aH:Int),pv,bv],i_ l_ 0])∧lH pv (jv G).fZ Hp∧dR bv (jv G).bytes Hb∧Mv w0 [] w' (Hp++Hb):=by
 have hN:G.w*G.h=v.length:=by rw[←hg.yl,hm,aO]
 have hn4:G.w*G.h≤4096:=bZ hg.w2 hg.h2;have hl1:G.yl.length=v.length:=by rw[hm,aO]
 have hl2:G.neg.length=v.length:=by rw[hng,aO]
 obtain⟨N,hNN⟩:=X_ (v.length);have MO:=af (ajl G.w G.h G.band G.ah (w0.alloc (.cells #[i_ l_ 0,s_ N_ 0 0,s_ N_ 0 0] 51)) ⟨hg.w1,hg.w2⟩ ⟨hg.h1,hg.h2⟩ hg.band hg.ah);have BG:=af (fun W=>adp G hg.w1 hg.w2 hg.h1 hg.h2 W);have hw2:=hg.w2;have hh2:=hg.h2;rw[hNN]at hN hl1 hl2⊢;have HN:=af hN;have HV:=zO hv hm hng hNN;have HG:=af hg;have M0:=af (iF w0 51 #[i_ l_ 0,s_ N_ 0 0,s_ N_ 0 0]);have hd:Hid (((N:Int) !=(G.w:Int)*G.h)=F_):=af (by rw[←hN];push_cast;simp);clear hv hm hng hNN hg hN;go_enter Tryz.func17,Tryz.ntmps17;go_upto_if 36 with(go_at_call 52;refine MO.out.mono ?_;rintro e w1 ⟨rfl,rfl⟩);rw[hd.out];obtain⟨w1,hw1⟩:=Y_ (w0.alloc (.cells #[i_ l_ 0,s_ N_ 0 0,s_ N_ 0 0] 51));rw[←hw1]at M0;have HW1:=af hw1;obtain⟨rb,hrb⟩:=X_ (w0.heap.size);rw[hrb]at M0;rw[←hw1,hrb];have M1:Hid (Mv w0 [] w1 [rB rb]):=M0;clear hw1 hd M0 MO HW1 hrb;go_upto_region 6 with(go_at_call 53;refine(BG.out _).mono ?_;rintro e w2 ⟨A,rfl,m2⟩;have K2:=af (Mv.call (H:=[]) M1.out m2);clear m2);have m2:Mv w0 [] w2 (zQ A ⟨G.w,G.h,G.band,G.ah,List.replicate N 0,List.replicate N 0⟩ (yt G) jL (tX F_ F_ (.pointer N_) (.pointer N_))++[rB rb]):=by have:=K2.out;rw[aiw,aiw,adB,adB,adB,aik,HN.out]at this;unfold zQ yt;simp only[HN.out];exact this
 have c47:w2.cell? ⟨A.cb,47,N_⟩=S_ (b_ F_):=(xW (by rfl) m2 0).1;have f47:w2.frozen? ⟨A.cb,47,N_⟩=F_:=(xW (by rfl) m2 0).2;have K3:=af m2;clear K2 m2;have M4:Mv w0 [] (w2.setCell ⟨A.cb,47,N_⟩ (b_ T_)) (Φ A G jL (tX T_ F_ (.pointer N_) (.pointer N_))::([vk A.gm (List.replicate N 0),vk A.gn (List.replicate N 0),yT A.gs (yt G).sig,yT A.ge (yt G).seen,yT A.ga (yt G).again]++[rB rb])):=by have:=Mv.set (g:=A.cb) (t:=133) (cs:=(Nj A G jL (tX F_ F_ (.pointer N_) (.pointer N_))).toArray) K3 47 (b_ T_);rw[show(47:Nat)=47+0 from rfl,KU (by rfl)]at this;exact this
 obtain⟨R0,hR0⟩:=X_ ([yT A.gs (yt G).sig,yT A.ge (yt G).seen,yT A.ga (yt G).again,rB rb]);go_upto_region 8 with fail;have M5:=M4.alloc 51 #[i_ l_ 0,s_ N_ 0 0,s_ N_ 0 0];rw[show(w2.setCell ⟨A.cb,47,N_⟩ (b_ T_)).heap.size=w2.heap.size by simp]at M5;obtain⟨bb,hbb⟩:=X_ (w2.heap.size);rw[hbb]at M5⊢;generalize w2.setCell ⟨A.cb,47,N_⟩ (b_ T_)=w3 at*;obtain⟨w4,hw4⟩:=Y_ (w3.alloc (.cells #[i_ l_ 0,s_ N_ 0 0,s_ N_ 0 0] 51));rw[←hw4]at M5⊢;have K5:Hid (Mv w0 [] w4 (adx A bb G 0 (iO (G.yl.take 0)) R0)):=af (by
  rw[←hR0];unfold adx;rw[Tf,Tf,hl1,hl2];exact M5.sub (fun g=>by simp only[bB,nil0,iO,List.take_zero,List.foldl_nil,aP,bK,gI];omega) (fun b hb=>by
   simp only[ay,aC,bP,gQ]at hb⊢;rcases hb with h|h|h|h|h|h|h|h
   ·exact .inr (.inl h)
   ·exact .inr (.inr (.inl (.inl h)))
   ·exact .inr (.inr (.inl (.inr (.inl h))))
   ·exact .inl h
   ·grind
   ·grind
   ·grind
   ·grind))
 clear hw4 hbb M5 M4 K3 c47 f47 BG;have HR0:=af hR0;clear hR0;go_wp2_with fail;have PL:Hid (∀l:List Nat,(∀m∈l,m∈G.yl)→iO l≤30):=af (fun l hl=>Nw l 30 (fun m hm=>HG.ajm m (hl m hm)));have hNl:N≤4096:=by have:=HN.out;omega
 go_loopg [14] N (fun mm s14 wx=>∃i:Nat,i≤N∧mm=N-i∧s14=i_ l_ i∧Mv w0 [] wx (adx A bb G i (iO (G.yl.take i)) R0))
 case atStart=>exact⟨0,aY _,rfl,rfl,K5.out⟩
 case round=>
  obtain⟨i,hi,rfl,rfl,m⟩:=hrel;by_cases hlt:i<N
  ·have d1:decide ((i:Int)<N)=T_:=by simp;omega
   have KM:=af m;clear m;obtain⟨x,hx⟩:∃x,v[i]?=S_ x:=⟨_,ai (by rw[HV.2.2.2];exact hlt)⟩;have g1:G.yl[i]?=S_ x.natAbs:=by rw[HV.2.1,aV,hx];rfl
   have g2:G.neg[i]?=S_ (yh (decide (x<0))):=by rw[HV.2.2.1,aV,hx];rfl
   have g3:x.natAbs≤1073741823:=by have:=HG.ajm _ (aF g1);omega
   have HX:=zO g1 g2 g3 (HV.1 i x hx);clear hx g1 g2 g3;go_upto_block 1 with fail;refine ik (ajR _ A bb vg vc N i (iO (G.yl.take i)) x.natAbs (yh (decide (x<0))) G x R0 w0 wr HN (by have:=HN.out;omega) hlt HX.1 HX.2.1 rfl rfl HX.2.2.1 hl1 hl2 HX.2.2.2 hvg (PL _ (fun m hm=>List.mem_of_mem_take hm)) KM.out ?_);rintro _ _ _ _ _ _ _ _ _ _ _ _ _ _ _ _ _ _ _ _ _ _ _ _ _ _ _ _ _ _ _ _ _ _ _ _ _ _ _ _ _ _ _ _ _ _ _ _ _ _ _ _ _ _ _ _ w5 m5;rw[←Rk _ _ HX.1]at m5;have K6:=af m5;clear m5;unfold sD;go_wp2_with fail;go_roundg (N-(i+1))
   case measure=>omega
   case rel=>exact⟨i+1,by omega,rfl,by push_cast;rfl,K6.out⟩
  ·obtain rfl:i=N:=by omega
   have d1:decide ((i:Int)<i)=F_:=by simp
   have ti:G.yl.take i=G.yl:=dC (by omega);rw[ti]at m;obtain⟨pl,hpl⟩:=X_ (iO G.yl);rw[hpl]at m;have aly:pl≤30:=by rw[←hpl];exact PL _ (fun m hm=>hm)
   obtain⟨n,hn⟩:=X_ (oM pl);have n88:n≤88:=by rw[←hn];unfold oM;omega
   have CA:Hid (∀W,Calls P_ 55 #[i_ l_ pl] W fun e w'=>e=r_ (i_ l_ n)∧w'=W):=af (fun W=>by rw[←hn];exact count_any pl W (by omega));have HPL:=dS hpl hn;unfold adx at m;rw[←HR0.out,show zG G.yl i=G.yl by rw[←hl1];exact WT _,show zG G.neg i=G.neg by rw[←hl2];exact WT _]at m;have c0:wr.cell? ⟨bb,0,N_⟩=S_ (i_ l_ pl):=m.cell 3 rfl 0;have m1:Mv w0 [] wr ((zQ A G (yt G) jL (tX T_ F_ (.pointer N_) (.pointer N_))++(bB bb pl nil0 nil0::([]++[])))++[rB rb]):=m.sub (fun g=>by simp only[zQ,aP,bK,gI];omega) (fun b hb=>by simp only[zQ,ay,aC,bP,gQ]at hb⊢;grind);have K0:Hid (BkR A bb G pl (lZ G) 0 (zQ A G (yt G) jL (tX T_ F_ (.pointer N_) (.pointer N_))++(bB bb pl nil0 nil0::([]++[])))∧Mv w0 [] wr ((zQ A G (yt G) jL (tX T_ F_ (.pointer N_) (.pointer N_))++(bB bb pl nil0 nil0::([]++[])))++[rB rb])):=af ⟨⟨_,nil0,[],nil0,[],.inl ⟨rfl,F_,.pointer N_,.pointer N_,rfl⟩,dh.nil _ _,dh.nil _ _,rfl⟩,m1⟩;obtain⟨R,hR⟩:=X_ (DR G pl n n 0 (lZ G));have HR:=af hR;clear m m1 hpl hn ti hR K5;go_wp2_with (go_at_call 55;refine(CA.out _).mono ?_;rintro e w6 ⟨rfl,rfl⟩);have hg1:=HG.h1;go_loopg [16,17] n (fun mm s16 l9 wx=>∃(k:Nat) (t:A7) (H:List HB),k≤n∧mm=n-k∧s16=i_ l_ t.first∧l9=i_ l_ k∧t.Ok G k∧t.Few (16*(12*(G.w*G.h)+4)+4) k∧DR G pl n (n-k) k t=R∧BkR A bb G pl t k H∧Mv w0 [] wx (H++[rB rb]))
   case atStart=>exact⟨0,lZ G,_,by omega,rfl,rfl,rfl,NK G,(by unfold A7.Few;simp[lZ]),HR.out,K0.1,K0.2⟩
   case round=>
    obtain⟨k,t,H,hk,rfl,rfl,rfl,ok,few,run,hb,hm⟩:=hrel;by_cases hlt:k<n
    ·have d1:decide ((k:Int)<n)=T_:=by simp;omega
     have KT:=LH ok few run hb hm;clear ok few run hb hm;go_upto_block 5 with fail;refine ik (ajQ _ A bb G pl n k t [rB rb] H [] w0 _ HG aly hlt HPL.2.symm KT.1 KT.2.1 KT.2.2.2.1 KT.2.2.2.2 ?_);rintro _ _ _ _ _ _ _ _ _ _ _ _ _ _ _ _ _ _ _ _ _ _ _ _ _ _ _ _ _ _ _ _ _ _ _ _ _ _ _ _ _ _ _ _ _ _ _ _ _ _ _ _ _ _ _ _ _ _ _ _ _ _ _ _ _ _ _ _ _ _ _ _ _ _ _ _ _ _ _ _ _ _ _ _ _ _ _ _ _ _ _ _ _ _ _ _ _ _ _ _ _ _ _ _ _ _ _ _ _ _ _ _ _ _ _ _ _ _ _ _ _ _ _ _ _ _ _ _ _ w5 H5 hb5 m5;have K5:=dS hb5 m5;clear hb5 m5;unfold sD;go_wp2_with fail;go_roundg (n-(k+1))
     case measure=>omega
     case rel=>exact⟨k+1,qP G pl n t k,H5,by omega,rfl,rfl,by push_cast;rfl,Qu hg1 KT.1,NJ hg1 KT.1 _ (aN _) KT.2.1,by(have:=KT.2.2.1;rw[show n-k=(n-(k+1))+1 by omega]at this;exact this),K5.1,K5.2⟩
    ·have d1:decide ((k:Int)<n)=F_:=by simp;omega
     obtain rfl:k=n:=by omega
     rw[iI]at run;have HT:=af (show t=R from run);obtain⟨Hc,pv,Hp,bv,Hb,-,hp,hb,rfl⟩:=hb;obtain⟨pa,pc,rfl⟩:=hp.slice;obtain⟨ba,bc,rfl⟩:=hb.slice;have m1:Mv w0 [] wr ([rB rb]++(bB bb pl (s_ pa t.fZ.length pc) (s_ ba t.bytes.length bc)::(Hp++Hb))):=hm.sub (fun g=>by simp only[aP,bK,gI];omega) (fun b hb=>by
      rcases ay.1 hb with h|h
      ·exact aS _ h
      ·exact cu _ (aS _ h))
     have KP:=dS hp hb;have K1:=af m1;clear ok few run hp hb hm m1;obtain⟨lp,hlp⟩:=X_ (t.fZ.length);obtain⟨lb,hlb⟩:=X_ (t.bytes.length);rw[hlp,hlb]at K1 KP;go_upto_region 46 with fail;refine wp_region_lit ?_;refine wpList_load_row rfl 51 (.tmp 13) rfl bb rfl 51 #[i_ l_ pl,s_ pa lp pc,s_ ba lb bc] (0,0) _ (K1.blk 1 (g:=bb) (t:=51) (cs:=#[i_ l_ pl,s_ pa lp pc,s_ ba lb bc]) rfl) Tryz.underlying51 rfl (by kernel_rfl) ?_;refine tK rfl 51 (.tmp 10) (.tmp 241) rfl rb #[i_ l_ pl,s_ pa lp pc,s_ ba lb bc] rfl rfl 51 _ (K1.blk 0 (g:=rb) (t:=51) (cs:=#[i_ l_ 0,s_ N_ 0 0,s_ N_ 0 0]) rfl) (by kernel_rfl) rfl (by simp[Value.oneCell']) ?_;have M9:=af (Mv.call K1 (zx (cs:=#[i_ l_ pl,s_ pa lp pc,s_ ba lb bc]) (K1.blk 0 (g:=rb) (t:=51) (cs:=#[i_ l_ 0,s_ N_ 0 0,s_ N_ 0 0]) rfl)));generalize wr.setRow rb #[i_ l_ pl,s_ pa lp pc,s_ ba lb bc]=w9 at*;go_wp2_with fail;have EM:jv G=⟨pl,t.fZ,t.bytes⟩:=by unfold jv;rw[HPL.1,HPL.2,HR.out,HT.out]
     refine dU (v:=t_ #[g_ #[i_ l_ pl,s_ pa lp pc,s_ ba lb bc],i_ l_ 0]) (NZ Tryz.results17 _ _ rb 51 _ (0,0) _ rfl (M9.blk 0 rfl) Tryz.underlying51 rfl (by kernel_rfl)) rfl ?_;rw[EM];exact⟨_,_,Hp,Hb,rfl,KP.1,KP.2,M9.drop1.drop1⟩
theorem vM.form{a:Option Addr}{n c:Nat}{l:List (Int×Bool)}{H:List HB}(h:vM (s_ a n c) l H)(hn:0<n):∃g,a=S_ ⟨g,0,N_⟩:=by obtain⟨a',c',e⟩:=h.slice;cases e;obtain⟨g,cp,cur,hv,-⟩:=dh.form h hn;injection hv with ha;exact⟨g,ha⟩
theorem vM.at_{w:World}{g n c:Nat}{l:List (Int×Bool)}{H:List HB}(h:vM (s_ (S_ ⟨g,0,N_⟩) n c) l H)(hs:Sat w H){k:Nat}{p:Int×Bool}(hk:l[k]?=S_ p):w.cell? ⟨g,k*2,N_⟩=S_ (i_ l_ p.1)∧w.cell? ⟨g,k*2+1,N_⟩=S_ (b_ p.2):=by obtain⟨a',c',e⟩:=h.slice;cases e;have hi:=(aj.1 hk).1;exact⟨(dh.cell h hs rfl (k*2) (by omega)).1.trans (C9 hk).1,(dh.cell h hs rfl (k*2+1) (by omega)).1.trans (C9 hk).2⟩
def DV(m:aT)(k:Int)(pl:Int)(ps:List (Int×Bool))(bs:List UInt8):aT:=if k<0∨(m.ss.length:Int)≤k then m else{m with ss:=m.ss.set k.toNat ⟨pl,ps,bs,(xZ m k).said,(xZ m k).lb⟩}
theorem uI{α:Type}(f:α→List HB)(x':α)(g:Nat):∀(l:List α) (k:Nat) (x:α),l[k]?=S_ x→cnt g ((l.set k x').flatMap f)+cnt g (f x)=cnt g (l.flatMap f)+cnt g (f x')
 | [],k,x,h=>by simp at h
 |y::l,0,x,h=>by simp at h;subst h;rw[List.set_cons_zero,dE,dE,aP,aP];omega
 |y::l,k+1,x,h=>by have ih:=uI f x' g l k x (by simpa using h);rw[List.set_cons_succ,dE,dE,aP,aP];omega
theorem Am{α:Type}(f:α→List HB){x':α}{l:List α}{k:Nat}{c:HB}(h:c∈(l.set k x').flatMap f):c∈l.flatMap f∨c∈f x':=by
 obtain⟨y,hy,hc⟩:=iw.1 h;rcases cZ hy with h1|rfl
 ·exact .inl (iw.2 ⟨y,h1,hc⟩)
 ·exact .inr hc
def gu.F6(s:gu)(pl:Int)(ps:List (Int×Bool))(bs:List UInt8)(vp vb:Value)(Hp Hb:List HB):gu:=⟨⟨pl,ps,bs,s.m.said,s.m.lb⟩,vp,vb,Hp,Hb⟩
theorem Yl{G:List gu}{j:Nat}{s:gu}(h:G[j]?=S_ s)(pl:Int)(ps:List (Int×Bool))(bs:List UInt8)(vp vb:Value)(Hp Hb:List HB):putA (G.flatMap gu.v).toArray (j*5) [i_ l_ pl,vp,vb]=((G.set j (s.F6 pl ps bs vp vb Hp Hb)).flatMap gu.v).toArray:=by have hj:=(aj.1 h).1;have e1:=jh gu.v 5 gu.jw G j s ⟨⟨pl,s.m.ps,s.m.bs,s.m.said,s.m.lb⟩,s.vp,s.vb,s.Hp,s.Hb⟩ h 0 (by omega) (i_ l_ pl) rfl;have e2:=jh gu.v 5 gu.jw (G.set j ⟨⟨pl,s.m.ps,s.m.bs,s.m.said,s.m.lb⟩,s.vp,s.vb,s.Hp,s.Hb⟩) j _ ⟨⟨pl,s.m.ps,s.m.bs,s.m.said,s.m.lb⟩,vp,s.vb,s.Hp,s.Hb⟩ (dJ hj) 1 (by omega) vp rfl;have e3:=jh gu.v 5 gu.jw ((G.set j ⟨⟨pl,s.m.ps,s.m.bs,s.m.said,s.m.lb⟩,s.vp,s.vb,s.Hp,s.Hb⟩).set j ⟨⟨pl,s.m.ps,s.m.bs,s.m.said,s.m.lb⟩,vp,s.vb,s.Hp,s.Hb⟩) j _ (s.F6 pl ps bs vp vb Hp Hb) (dJ (by simpa using hj)) 2 (by omega) vb rfl;rw[←e2,←e1]at e3;simp only[jo]at e3;show(((G.flatMap gu.v).toArray.setIfInBounds (j*5) (i_ l_ pl)).setIfInBounds (j*5+1) vp).setIfInBounds (j*5+1+1) vb=_;simp only[bf];rw[show j*5+1+1=j*5+2 from rfl,show j*5=j*5+0 from rfl];exact fM List.toArray e3
theorem adU{w:World}{b o:Nat}{V:Array Value}(ht:w.there b o V.size)(h1:∀v∈V.toList,v.oneCell'=T_):(storeCells ⟨b,o,N_⟩ V.toList).run P_ w=.ok () (w.setCells b o V.toList):=by have:=run_storeCells_cells (P:=P_) b o V.toList 0 w (fun j hj=>by have:=(ht j (by simpa using hj)).1;rw[Nat.add_zero];exact this) (fun j hj=>by rw[Nat.add_zero];exact(ht j (by simpa using hj)).2) h1;rw[Nat.add_zero]at this;exact this
theorem af1{b:di}{d:bu}(hk:b.ok d){j:Nat}{s:gu}(hg:b.G[j]?=S_ s){pl:Int}{ps:List (Int×Bool)}{bs:List UInt8}{vp vb:Value}{Hp Hb:List HB}(h1:vM vp ps Hp)(h2:dR vb bs Hb)(hpl: -1000≤pl∧pl≤1000)(hn:ps.length≤1000)(hm:bs.length≤10000000)(he:∀p∈ps,0≤p.1∧p.1≤100000000)(hsd:s.m.said≤ps.length):sH d (DV b.model (j:Int) pl ps bs) (({b with G:=b.G.set j (s.F6 pl ps bs vp vb Hp Hb)}:di).heap d):=by
 have hj:=(aj.1 hg).1;have hln:b.model.ss.length=d.n:=by simp only[di.model,aO];exact hk.len
 have hjn:j<d.n:=by rw[←hk.len];exact hj
 have e0:xZ b.model (j:Int)=s.m:=by unfold xZ;rw[hln,aJ (by omega),Int.toNat_natCast];simp only[di.model,ax,aV,hg,Option.map_some,Option.getD_some]
 have hso:=hk.st s (aF hg);refine⟨({b with G:=b.G.set j (s.F6 pl ps bs vp vb Hp Hb)}:di),?_,⟨hk.tf,hk.tz,hk.kf,hk.kz,?_,?_,hk.n,hk.pl,hk.hw,hk.hh⟩,rfl⟩
 ·unfold DV;rw[hln,aJ (by omega),Int.toNat_natCast,e0];simp only[di.model,jb];rfl
 ·intro x hx;rcases cZ hx with h|rfl
  ·exact hk.st x h
  ·exact⟨h1,h2,⟨hn,hm,hpl,⟨hso.2.2.said.1,hsd⟩,hso.2.2.lb,he⟩⟩
 ·simp only[fC];exact hk.len
theorem add_any(d:bu)(m:aT)(H:List HB)(W:World)(hB:sH d m H)(hs:Sat W H)(k:Int)(pl:Int)(vp vb:Value)(ps:List (Int×Bool))(bs:List UInt8)(hp:PV W vp ps)(hb:BV W vb bs)
 (hpl: -1000≤pl∧pl≤1000) (hn:ps.length≤1000) (hm:bs.length≤10000000) (he:∀p∈ps,0≤p.1∧p.1≤100000000) (hsd:(xZ m k).said≤ps.length):
 Calls P_ 19 #[p_ (S_ ⟨d.bb,0,N_⟩),i_ l_ k,g_ #[i_ l_ pl,vp,vb]] W fun e W'=>e=r_ (t_ #[])∧∃H',sH d (DV m k pl ps bs) H'∧Mv W H W' H':=by
 obtain⟨b,rfl,hk,rfl⟩:=hB;have hsm:=hk.small;obtain⟨w1,hw1⟩:=Y_ (W.alloc (.cells #[i_ l_ pl,vp,vb] 58));have M1:=(Mv.refl hs).alloc 58 #[i_ l_ pl,vp,vb];have MY:=iF W 58 #[i_ l_ pl,vp,vb];rw[←hw1]at M1 MY;have hbb:=Mv.kT M1 (aU _ (b.sF d));have hst:=Mv.kT M1 (aU _ (b.zH d));have c0:w1.cell? ⟨d.bb,0,N_⟩=S_ (s_ (S_ ⟨d.lb,0,N_⟩) d.n d.n):=hbb.cell 0;have hln:b.model.ss.length=d.n:=by simp only[di.model,aO];exact hk.len
 have GT:=af (Xj d.bb d.lb d.n d.n k w1 c0 (by omega));by_cases hr:k<0∨(d.n:Int)≤k
 ·rw[aK hr]at GT;have e0:DV b.model k pl ps bs=b.model:=by unfold DV;rw[hln,aK hr]
  rw[e0];obtain⟨A,c1,rfl,-⟩:=hp;obtain⟨B,c2,rfl,-⟩:=hb;have KY:=af M1;have HB:=af hk;clear hr e0 MY M1 hbb hst;go_enter Tryz.func19,Tryz.ntmps19;go_upto_region 1 with fail;rw[←hw1];clear hw1;go_wp2_with (go_at_call 66;refine GT.out.mono ?_;rintro e w' ⟨rfl,rfl⟩);exact dm (bH rfl _ _ _) rfl ⟨rfl,_,⟨b,rfl,HB.out,rfl⟩,KY.drop1⟩
 ·rw[aJ hr]at GT;obtain⟨j,rfl⟩:∃j:Nat,k=(j:Int):=⟨k.toNat,by omega⟩;rw[Int.toNat_natCast]at GT;obtain⟨s,hg⟩:∃s,b.G[j]?=S_ s:=⟨_,ai (by rw[hk.len];omega)⟩;have e0:xZ b.model (j:Int)=s.m:=by unfold xZ;rw[hln,aJ hr,Int.toNat_natCast];simp only[di.model,ax,aV,hg,Option.map_some,Option.getD_some]
  rw[e0]at hsd;have hjn:j<d.n:=by omega
  have hpv:=hp.keep MY.tC;have hbv:=hb.keep MY.tC;have OW:Hid (Calls P_ 67 #[g_ #[i_ l_ pl,vp,vb]] w1 fun e w'=>∃V Ij DZ Hp Hb,e=r_ (g_ V)∧V=#[i_ l_ pl,Ij,DZ]∧vM Ij ps Hp∧dR DZ bs Hb∧Mv w1 [] w' (Hp++Hb)):=af ((aae pl vp vb ps bs w1 hpv hbv (by omega) (by omega)).mono (fun e w' h=>by obtain⟨Ij,DZ,Hp,Hb,rfl,h1,h2,h3⟩:=h;exact⟨_,Ij,DZ,Hp,Hb,rfl,rfl,h1,h2,h3⟩));have FIN:Hid (∀(V:Array Value) (Ij DZ:Value) (Hp Hb:List HB) (w3:World),V=#[i_ l_ pl,Ij,DZ]→vM Ij ps Hp→dR DZ bs Hb→Mv W (b.heap d) w3 ((Hp++Hb)++(⟨W.heap.size,58,#[i_ l_ pl,vp,vb]⟩::b.heap d))→((storeCells ⟨d.lb,j*5,N_⟩ V.toList).run P_ w3=.ok () (w3.setCells d.lb (j*5) V.toList))∧∃H',sH d (DV b.model (j:Int) pl ps bs) H'∧Mv W (b.heap d) (w3.setCells d.lb (j*5) V.toList) H'):=af (by
   rintro V Ij DZ Hp Hb w3 rfl r1 r2 m3;have M4:Mv W (b.heap d) w3 (⟨d.lb,69,(b.G.flatMap gu.v).toArray⟩::(jU b d::(b.Hf++(b.Hz++b.G.flatMap gu.heap))++(Hp++Hb))):=m3.sub (fun g=>by simp only[di.heap,jY,aP,bK];omega) (fun c hc=>by simp only[di.heap,jY,ay,aC]at hc⊢;grind);have bl:=M4.blk 0 rfl;have hsz:(b.G.flatMap gu.v).toArray.size=d.n*5:=by rw[pJ,flat_length gu.v 5 gu.jw,hk.len]
   refine⟨adU (fun i hi=>⟨?_,bl.frozen _⟩) ?_,_,af1 hk hg r1 r2 hpl hn hm he hsd,?_⟩
   ·rw[bl.cell,gK (by rw[hsz];have:i<3:=hi;omega)];rfl
   ·obtain⟨a1,k1,rfl⟩:=r1.slice;obtain⟨a2,k2,rfl⟩:=dR.slice r2;intro v hv;simp only[aC,bP,gQ]at hv;rcases hv with rfl|rfl|rfl<;>rfl
   ·have M5:=Mv.setCells [i_ l_ pl,Ij,DZ] _ _ (j*5) M4;rw[Yl hg pl ps bs Ij DZ Hp Hb]at M5;refine M5.sub (fun g=>?_) (fun c hc=>?_)
    ·have:=uI gu.heap (s.F6 pl ps bs Ij DZ Hp Hb) g b.G j s hg;have e:cnt g (gu.heap (s.F6 pl ps bs Ij DZ Hp Hb))=cnt g (Hp++Hb):=rfl;simp only[di.heap,jY,jU,aP,bK]at this e⊢;omega
    ·simp only[di.heap,ay,aC]at hc⊢;rcases hc with h|h|h|h|h
     ·exact .inr (.inl (.inl h))
     ·exact .inl h
     ·exact .inr (.inl (.inr (.inl h)))
     ·exact .inr (.inl (.inr (.inr (.inl h))))
     ·rcases Am gu.heap h with h1|h1
      ·exact .inr (.inl (.inr (.inr (.inr h1))))
      ·exact .inr (.inr (ay.1 h1)))
  obtain⟨A,c1,rfl,-⟩:=hp;obtain⟨B,c2,rfl,-⟩:=hb;have y0:w1.cell? ⟨W.heap.size,0,N_⟩=S_ (i_ l_ pl):=MY.cell 0 rfl 0;have y1:w1.cell? ⟨W.heap.size,1,N_⟩=S_ (s_ A ps.length c1):=MY.cell 0 rfl 1;have y2:w1.cell? ⟨W.heap.size,2,N_⟩=S_ (s_ B bs.length c2):=MY.cell 0 rfl 2;have KY:=af M1;have hj:j*5<100000:=by omega
  clear hr e0 MY M1 hbb hst hg hpv hbv hln hk hs hsd;go_enter Tryz.func19,Tryz.ntmps19;go_upto_region 1 with fail;rw[←hw1];clear hw1;go_wp2_with (first|(go_at_call 66;refine GT.out.mono ?_;rintro e w' ⟨rfl,rfl⟩)|(go_at_call 67;refine OW.out.mono ?_;rintro e w3 ⟨V,Ij,DZ,Hp,Hb,rfl,hV,r1,r2,m3⟩;have hVs:V.size=3:=(by rw[hV];rfl);have F3:=FIN.out V Ij DZ Hp Hb w3 hV r1 r2 (Mv.call (H:=[]) KY.out m3);have hst3:=F3.1;have K3:=af F3.2;clear hV r1 r2 m3 F3));exact dm (bH rfl _ _ _) rfl ⟨rfl,K3.out⟩
def jy(v:Value)(l:List Int)(H:List HB):Prop:=dh 3 1 v l.length (l.map (Value.int l_)) H
theorem jy.slice{v:Value}{l:List Int}{H:List HB}(h:jy v l H):∃a c,v=s_ a l.length c:=dh.slice h
def Ei(l:List Int)(k:Nat):List Int:=l.take k++List.replicate (l.length-k) 0
theorem Ti(l:List Int):Ei l 0=List.replicate l.length 0:=by simp[Ei]
theorem aeW(l:List Int):Ei l l.length=l:=by simp[Ei]
theorem WU(l:List Int)(i:Nat){m:Int}(h:l[i]?=S_ m):(Ei l i).set i m=Ei l (i+1):=by have hi:=(aj.1 h).1;unfold Ei;rw[eU,h,dZ _ _ (by rw[bT];omega),bT,show i-min i l.length=0 by omega,show l.length-i=(l.length-(i+1))+1 by omega,List.replicate_succ];simp
def AU(g:Nat)(l:List Int):HB:=⟨g,3,(l.map (Value.int l_)).toArray⟩
theorem VX(g:Nat)(l:List Int)(n:Nat)(hn:l.length=n)(hl:n≤maxLen):jy (s_ (S_ ⟨g,0,N_⟩) n n) l [AU g l]:=by subst hn;have:=dh.new (size:=1) 3 g l.length (l.map (Value.int l_)).toArray (by simp) hl;exact this
theorem aeo(g:Nat)(l:List Int)(i:Nat)(m:Int):(AU g l).cs.setIfInBounds i (i_ l_ m)=(AU g (l.set i m)).cs:=by simp[AU]
theorem aan:(Tryz.prog.info? 3).map (fun i=>(i.zero,i.size,i.bytes))=S_ (S_ (i_ l_ 0),1,8):=by kernel_rfl
theorem Qr(n:Nat):(List.replicate n (Value.int l_ 0).cells.toList).flatten=List.replicate n (Value.int l_ 0):=by
 induction n with
 |zero=>rfl
 |succ n ih=>rw[List.replicate_succ,List.replicate_succ,List.flatten_cons,ih];rfl
def IV(w:World)(v:Value)(l:List Int):Prop:=∃A c,v=s_ A l.length c∧l.length≤c∧c≤maxLen∧Reads w w.heap.size 1 A l.length (l.map (Value.int l_))
theorem acH(l:List Int):∀u:Value,u∈l.map (Value.int l_)→u.oneCell'=T_:=by intro u hu;obtain⟨e,-,rfl⟩:=bW.1 hu;rfl
theorem jy.iv{w:World}{v:Value}{l:List Int}{H:List HB}(h:jy v l H)(hs:Sat w H):IV w v l:=by
 have ho:=dh.owns h hs (B:=0) (fun _ _=>aY _);rcases h.2 with⟨rfl,h2,h3⟩|⟨g,cap,cur,rfl,h1,h2,-⟩
 ·exact⟨N_,0,by rw[h2],by omega,by unfold maxLen;omega,Reads.zD (by rw[h2]at ho⊢;exact ho)⟩
 ·exact⟨_,cap,rfl,h1,h2,Reads.zD ho⟩
theorem aeg{w:World}{v u:Value}{l r:List Int}{H:List HB}(h:jy v l H)(hs:Sat w H)(hu:IV w u r)(hl:l.length+r.length≤100000000)(ty:TypeId): ∃v' w' H',(Builtin.append_ #[38,38] ty #[v,u]).run P_ w=.ok v' w'∧jy v' (l++r) H'∧Mv w H w' H':=by obtain⟨A,c,rfl,h1,h2,h3⟩:=hu;obtain⟨i0,hti,hz0,hz1,hz2⟩:=qJ aan;obtain⟨v',w',hrun,k1,k2,k3⟩:=tZ (P:=P_) w 0 38 ty 3 i0 _ 1 8 Tryz.underlying38 hti hz0 hz1 hz2 rfl (by decide) v l.length (l.map (Value.int l_)) (dh.owns h hs (fun _ _=>aY _)) w.heap.size A r.length c (r.map (Value.int l_)) h3 (acH r) (by unfold maxLen;omega) (by omega) (aY _);obtain⟨H',k4,k5⟩:=uM h k1 k2 k3;refine⟨v',w',H',hrun,?_,k5⟩;unfold jy;rw[au,bU];exact k4
section
variable{ops:Array Oper}{rest:List Oper}{o:Oper}{a:Act}{w:World}{K:Act→World→Prop}{Q:Exit→Act→World→Prop}{E:Prop}
theorem I!(s x:Operand)(ho:o.op=.call {callee:=.builtin .append,args:=#[s,x],argTypes:=#[38,38]})(v u:Value)(l r:List Int)(H:List HB)
 (hsv:a.eval s=v) (hxu:a.eval x=u) (h:jy v l H) (hs:Sat w H) (hu:IV w u r) (hl:l.length+r.length≤100000000)
 (hK:∀v' w' H',jy v' (l++r) H'→Mv w H w' H'→K (a.put o.dst v') w'):o.wp P_ a w K Q:=by
 obtain⟨v',w',H',hrun,h1,h2⟩:=aeg h hs hu hl o.type;unfold Oper.wp execOp;simp only[ho,resolve,invoke,builtin,rQ,Sem.run_pure,Result.andThen_ok,tN,bJ,gW,hsv,hxu,hrun];exact hK v' w' H' h1 h2
theorem Gt(hgd:o.guard=N_)(s x:Operand)(ho:o.op=.call {callee:=.builtin .append,args:=#[s,x],argTypes:=#[38,38]})(v u:Value)(l r:List Int)(H:List HB)
 (hsv:a.eval s=v) (hxu:a.eval x=u) (h:jy v l H) (hs:Sat w H) (hu:IV w u r) (hl:l.length+r.length≤100000000)
 (hK:∀v' w' H',jy v' (l++r) H'→Mv w H w' H'→wpList P_ ops Q rest (a.put o.dst v') w'):wpList P_ ops Q (o::rest) a w:=
 wpList_plain hgd fun _ hk=>I! s x ho v u l r H hsv hxu h hs hu hl fun v' w' H' h1 h2=>hk _ _ (hK v' w' H' h1 h2)
theorem A8(hgd:o.guard=N_)(s x:Operand)(ho:o.op=.call {callee:=.builtin .append,args:=#[s,x],argTypes:=#[38,38]})(v u:Value)(l r:List Int)(H:List HB)
 (hsv:a.eval s=v) (hxu:a.eval x=u) (h:jy v l H) (hs:Sat w H) (hu:IV w u r) (hl:l.length+r.length≤100000000)
 (hK:∀v' w' H',jy v' (l++r) H'→Mv w H w' H'→K (a.put o.dst v') w'):if Region.wanted o (yielded ops a.tmps)=T_ then Oper.wp P_ o a w K Q else E:=by
 have hw:Region.wanted o (yielded ops a.tmps)=T_:=by simp[Region.wanted,hgd]
 rw[aK hw];exact I! s x ho v u l r H hsv hxu h hs hu hl hK
end
theorem ae6(w:World)(e:Int)(g:Nat)(hg:g=w.heap.size):IV (w.alloc (.cells #[i_ l_ e] 3)) (s_ (S_ ⟨g,0,N_⟩) 1 1) [e]:=by subst hg;have h:jy (s_ (S_ ⟨w.heap.size,0,N_⟩) 1 1) [e] [⟨w.heap.size,3,#[i_ l_ e]⟩]:=dh.new 3 w.heap.size 1 #[i_ l_ e] rfl (by decide);exact h.iv (iF w 3 _).sat
theorem jy.at_{w:World}{g n c:Nat}{l:List Int}{H:List HB}(h:jy (s_ (S_ ⟨g,0,N_⟩) n c) l H)(hs:Sat w H){i:Nat}{e:Int}(hi:l[i]?=S_ e):w.cell? ⟨g,i,N_⟩=S_ (i_ l_ e):=by obtain⟨a',c',e'⟩:=h.slice;cases e';have h1:=(aj.1 hi).1;rw[(dh.cell h hs rfl i (by omega)).1,aV,hi];rfl
theorem jy.form{a:Option Addr}{n c:Nat}{l:List Int}{H:List HB}(h:jy (s_ a n c) l H)(hn:0<n):∃g,a=S_ ⟨g,0,N_⟩:=by obtain⟨a',c',e⟩:=h.slice;cases e;obtain⟨g,cp,cur,hv,-⟩:=dh.form h hn;injection hv with ha;exact⟨g,ha⟩
theorem list_round{P:Program}{ops:Array Oper}{Q:Exit→Act→World→Prop}(l n:Nat)(hl:¬LetsOut Q):∀(os:List Oper),(noDefer os.toArray=T_)→∀(a:Act) (w:World),wpList P ops Q os a w→wpListIn (Fence.wide.inRound l) n P ops Q os a w
 | [],_,_,_,h=>h
 |o::os,hd,a,w,h=>by
  have hd1:∀c,o.op≠.defer c:=PR hd (i:=0) rfl;have hd2:noDefer os.toArray=T_:=by unfold noDefer at hd⊢;simp only[List.all_toArray,List.all_cons,dO]at hd⊢;exact hd.2
  unfold wpList at h;unfold wpListIn;split
  ·rename_i hw;rw[aK hw]at h;rcases h with h|h
   ·exact PK hd1 (fun a w k=>list_round l n hl os hd2 a w k) h
   ·exact absurd h.2 hl
  ·rename_i hw;rw[aJ hw]at h;exact⟨fun f _=>trivial,list_round l n hl os hd2 _ _ h⟩
theorem L6{P:Program}{l k id:Nat}{os:List Oper}{Q:Exit→Act→World→Prop}{a:Act}{w:World}(hd:noDefer os.toArray=T_)(hl:¬LetsOut Q)(h:wpList P os.toArray Q os a w):(Code.region id os.toArray F_).wpIn (Fence.wide.inRound l) k P Q a w:=wpIn_region_lit (list_round l k hl os hd a w h)
theorem ab6{P:Program}{l k id:Nat}{ops:Array Oper}{Q:Exit→Act→World→Prop}{a:Act}{w:World}(hm:P.follows .mixedOrders=T_)(hd:noDefer ops=T_)(hl:¬LetsOut Q)(h:wpAny P .any ops Q ops.size (Array.replicate ops.size F_) a {w with drawn:=w.drawn+1}):(Code.region id ops T_).wpIn (Fence.wide.inRound l) k P Q a w:=wpIn_region_any hm (Bl l k hd hl _ _ _ _ h)
def sU(n:Nat):Code→Option Code
 | .region i os b=>if i==n then S_ (.region i os b)else N_
 | .block _ b=>sU n b
 | .seq a b=>(sU n a).or (sU n b)
 | .cond _ a b=>(sU n a).or (sU n b)
 | .loop b=>sU n b
 | .scope b=>sU n b
 | .rangeFunc _ _ a b=>(sU n a).or (sU n b)
 |_=>N_
def acd(n:Nat)(f:Func):Code:=((f.body.bind (sU n))).getD .skip
inductive VM(g0 r2 g3 eg n ec b:Nat)(eb was:Int)(a2:Option Addr)(c2:Nat)(l2:List Int)(H2 R H0:List YtjngfhgakokejaaGreat.HB)(w0:World)(w:World)(s0 s1 s2 s3 s4 s5 s6 s8 s11 s13 s14 s15 s16 l9 kH kS s20 lF lC s23 s24 kZ s26 kW kR kY lu lJ lK lI lL lD s36 lY lX mG ni mZ mY s43 s44 nI mF nH nK s49 mD mg lW s53 mX mQ mP mO nX nJ oU oQ pO:Value)(bQ:Array Bool)(a:Act)(W:World):Prop|mk (b0 b1 b2 b3 b4 b5 b6 b7 b8 b9 b10:Bool) (u44 u45 u46 Vy u48 u49 Vx u51 u52 u53:Value) (g8:Nat) (HB:List YtjngfhgakokejaaGreat.HB) (vv:Value) (hl:bQ=#[b0,b1,b2,b3,b4,b5,b6,b7,b8,b9,b10]) (ha:a=⟨List.toArray (s0::s1::s2::s3::s4::s5::s6::(p_ (S_ ⟨g0,0,N_⟩))::s8::(p_ (S_ ⟨r2,0,N_⟩))::(p_ (S_ ⟨g3,0,N_⟩))::s11::(i_ l_ ((b:Int)))::s13::s14::s15::s16::l9::kH::kS::s20::lF::lC::s23::s24::kZ::s26::kW::kR::kY::lu::lJ::lK::lI::lL::lD::s36::lY::lX::mG::ni::mZ::mY::s43::u44::u45::u46::Vy::u48::u49::Vx::u51::u52::u53::mX::mQ::mP::mO::nX::nJ::oU::oQ::pO::[]),[]⟩) (HW:(Mv w0 H0 W (oh b8 ⟨g8,3,#[i_ l_ (eb-was)]⟩++(HB++(⟨r2,38,#[vv]⟩::R)))∧(b9=F_→HB=H2)∧(b10=F_→vv=s_ a2 l2.length c2)∧(b9=T_→b8=T_))) (h0:Hid (b0=T_→u44=s_ a2 l2.length c2)) (h1:Hid (b1=T_→u45=s_ (S_ ⟨eg,0,N_⟩) n ec)) (h2:Hid (b2=T_→u46=i_ l_ ((b:Int)))) (h3:Hid (b3=T_→Vy=i_ l_ (((b-1:Nat):Int)))) (h4:Hid (b4=T_→u48=p_ (S_ ⟨eg,b-1,N_⟩))) (h5:Hid (b5=T_→u49=i_ l_ (eb))) (h6:Hid (b6=T_→Vx=i_ l_ (was))) (h7:Hid (b7=T_→u51=i_ l_ (eb-was))) (h8:Hid (b8=T_→u52=s_ (S_ ⟨g8,0,N_⟩) 1 1)) (h9:Hid (b9=T_→jy u53 (l2++[eb-was]) HB)) (h10:Hid (b10=T_→(b9=T_∧b0=T_)∧vv=u53)):VM g0 r2 g3 eg n ec b eb was a2 c2 l2 H2 R H0 w0 w s0 s1 s2 s3 s4 s5 s6 s8 s11 s13 s14 s15 s16 l9 kH kS s20 lF lC s23 s24 kZ s26 kW kR kY lu lJ lK lI lL lD s36 lY lX mG ni mZ mY s43 s44 nI mF nH nK s49 mD mg lW s53 mX mQ mP mO nX nJ oU oQ pO bQ a W
theorem aiW(Q:Exit→Act→World→Prop)(O:Array Oper)(hO:acd 9 Tryz.f75=.region 9 O T_)(g0 r2 g3 eg n ec b:Nat)(eb was:Int)(a2:Option Addr)(c2:Nat)(l2:List Int)(H2 R H0:List YtjngfhgakokejaaGreat.HB)(w0:World)(w:World)(hrow2:jy (s_ a2 l2.length c2) l2 H2)(hl2:l2.length≤1000)(hb1:1≤b)(hbn:b≤n)(hn:n≤1000)(heb:0≤eb∧eb≤100000000)(Qe:0≤was∧was≤100000000)(hR0:⟨g0,38,#[s_ (S_ ⟨eg,0,N_⟩) n ec]⟩∈R)(hR3:⟨g3,3,#[i_ l_ was]⟩∈R)(hRe:∀W,Sat W R→W.cell? ⟨eg,b-1,N_⟩=S_ (i_ l_ eb))(hM:Mv w0 H0 w (H2++(⟨r2,38,#[s_ a2 l2.length c2]⟩::R)))
 (hk:∀(u44 u45 u46 Vy u48 u49 Vx u51 u52 u53:Value) (g8:Nat) (HB:List YtjngfhgakokejaaGreat.HB) (vv:Value) (W:World),(Mv w0 H0 W (oh T_ ⟨g8,3,#[i_ l_ (eb-was)]⟩++(HB++(⟨r2,38,#[vv]⟩::R)))∧(T_=F_→HB=H2)∧(T_=F_→vv=s_ a2 l2.length c2)∧(T_=T_→T_=T_))→(jy u53 (l2++[eb-was]) HB)→((T_=T_∧T_=T_)∧vv=u53)→Q .normal ⟨List.toArray (s0::s1::s2::s3::s4::s5::s6::(p_ (S_ ⟨g0,0,N_⟩))::s8::(p_ (S_ ⟨r2,0,N_⟩))::(p_ (S_ ⟨g3,0,N_⟩))::s11::(i_ l_ ((b:Int)))::s13::s14::s15::s16::l9::kH::kS::s20::lF::lC::s23::s24::kZ::s26::kW::kR::kY::lu::lJ::lK::lI::lL::lD::s36::lY::lX::mG::ni::mZ::mY::s43::u44::u45::u46::Vy::u48::u49::Vx::u51::u52::u53::mX::mQ::mP::mO::nX::nJ::oU::oQ::pO::[]),[]⟩ W):
 wpAny P_ .any O Q O.size (Array.replicate O.size F_) ⟨List.toArray (s0::s1::s2::s3::s4::s5::s6::(p_ (S_ ⟨g0,0,N_⟩))::s8::(p_ (S_ ⟨r2,0,N_⟩))::(p_ (S_ ⟨g3,0,N_⟩))::s11::(i_ l_ ((b:Int)))::s13::s14::s15::s16::l9::kH::kS::s20::lF::lC::s23::s24::kZ::s26::kW::kR::kY::lu::lJ::lK::lI::lL::lD::s36::lY::lX::mG::ni::mZ::mY::s43::s44::nI::mF::nH::nK::s49::mD::mg::lW::s53::mX::mQ::mP::mO::nX::nJ::oU::oQ::pO::[]),[]⟩ w.drew:=by
 conv at hO=>lhs;whnf
 cases hO;have HK:=af hk;clear hk;refine Rq (VM g0 r2 g3 eg n ec b eb was a2 c2 l2 H2 R H0 w0 w s0 s1 s2 s3 s4 s5 s6 s8 s11 s13 s14 s15 s16 l9 kH kS s20 lF lC s23 s24 kZ s26 kW kR kY lu lJ lK lI lL lD s36 lY lX mG ni mZ mY s43 s44 nI mF nH nK s49 mD mg lW s53 mX mQ mP mO nX nJ oU oQ pO) ?_ ?_ _ _ _ _ (by decide) rfl ?_
 rotate_left 2
 ·exact⟨F_,F_,F_,F_,F_,F_,F_,F_,F_,F_,F_,s44,nI,mF,nH,nK,s49,mD,mg,lW,s53,0,H2,(s_ a2 l2.length c2),rfl,rfl,⟨by simpa[jl]using hM.drew,fun _=>rfl,fun _=>rfl,fun e=>nomatch e⟩,af nofun,af nofun,af nofun,af nofun,af nofun,af nofun,af nofun,af nofun,af nofun,af nofun,af nofun⟩
 ·rintro bQ a W ⟨b0,b1,b2,b3,b4,b5,b6,b7,b8,b9,b10,u44,u45,u46,Vy,u48,u49,Vx,u51,u52,u53,g8,HB,vv,rfl,rfl,HW,h0,h1,h2,h3,h4,h5,h6,h7,h8,h9,h10⟩ hr;obtain rfl:b0=T_:=by cases b0;exact(qm hr 0 _ rfl rfl (by simp[Region.binds])).elim;rfl
  obtain rfl:b1=T_:=by cases b1;exact(qm hr 1 _ rfl rfl (by simp[Region.binds])).elim;rfl
  obtain rfl:b2=T_:=by cases b2;exact(qm hr 2 _ rfl rfl (by simp[Region.binds])).elim;rfl
  obtain rfl:b3=T_:=by cases b3;exact(qm hr 3 _ rfl rfl (by simp[Region.binds])).elim;rfl
  obtain rfl:b4=T_:=by cases b4;exact(qm hr 4 _ rfl rfl (by simp[Region.binds])).elim;rfl
  obtain rfl:b5=T_:=by cases b5;exact(qm hr 5 _ rfl rfl (by simp[Region.binds])).elim;rfl
  obtain rfl:b6=T_:=by cases b6;exact(qm hr 6 _ rfl rfl (by simp[Region.binds])).elim;rfl
  obtain rfl:b7=T_:=by cases b7;exact(qm hr 7 _ rfl rfl (by simp[Region.binds])).elim;rfl
  obtain rfl:b8=T_:=by cases b8;exact(qm hr 8 _ rfl rfl (by simp[Region.binds])).elim;rfl
  obtain rfl:b9=T_:=by cases b9;exact(qm hr 9 _ rfl rfl (by simp[Region.binds])).elim;rfl
  obtain rfl:b10=T_:=by cases b10;exact(qm hr 10 _ rfl rfl (by simp[Region.binds])).elim;rfl
  exact HK u44 u45 u46 Vy u48 u49 Vx u51 u52 u53 g8 HB vv W HW (h9 rfl) (h10 rfl)
 ·rintro bQ a W i ⟨b0,b1,b2,b3,b4,b5,b6,b7,b8,b9,b10,u44,u45,u46,Vy,u48,u49,Vx,u51,u52,u53,g8,HB,vv,rfl,rfl,HW,h0,h1,h2,h3,h4,h5,h6,h7,h8,h9,h10⟩ hi;obtain⟨hi1,hi2,hi3⟩:=mem_ready hi;clear hi;have hi4:i=0∨i=1∨i=2∨i=3∨i=4∨i=5∨i=6∨i=7∨i=8∨i=9∨i=10:=by have:i<11:=hi1;omega
  clear hi1;rcases hi4 with rfl|rfl|rfl|rfl|rfl|rfl|rfl|rfl|rfl|rfl|rfl
  ·obtain rfl:b0=F_:=hi2;clear hi3;have ajO:b10=F_:=by cases b10;rfl;exact absurd (h10 rfl).1.2 (by simp)
   have hvv:vv=s_ a2 l2.length c2:=HW.2.2.1 ajO;subst hvv;have e:=(HW.1.kT (x:=⟨r2,38,#[s_ a2 l2.length c2]⟩) (aS _ (aS _ aG))).cell 0;refine jm rfl (fun K hK=>?_);go_simp;refine hK _ _ ⟨T_,_,_,_,_,_,_,_,_,_,_,(s_ a2 l2.length c2),_,_,_,_,_,_,_,_,_,_,_,_,rfl,rfl,HW,af (fun _=>rfl),h1,h2,h3,h4,h5,h6,h7,h8,h9,af (fun e=>nomatch (h10 e).1.2)⟩
  ·obtain rfl:b1=F_:=hi2;clear hi3;have e:=(HW.1.kT (x:=⟨g0,38,#[s_ (S_ ⟨eg,0,N_⟩) n ec]⟩) (aS _ (aS _ (aU _ hR0)))).cell 0;refine jm rfl (fun K hK=>?_);go_simp;refine hK _ _ ⟨_,T_,_,_,_,_,_,_,_,_,_,_,(s_ (S_ ⟨eg,0,N_⟩) n ec),_,_,_,_,_,_,_,_,_,_,_,rfl,rfl,HW,h0,af (fun _=>rfl),h2,h3,h4,h5,h6,h7,h8,h9,h10⟩
  ·obtain rfl:b2=F_:=hi2;clear hi3;refine jm rfl (fun K hK=>?_);go_simp;refine hK _ _ ⟨_,_,T_,_,_,_,_,_,_,_,_,_,_,(i_ l_ ((b:Int))),_,_,_,_,_,_,_,_,_,_,rfl,rfl,HW,h0,h1,af (fun _=>rfl),h3,h4,h5,h6,h7,h8,h9,h10⟩
  ·obtain rfl:b3=F_:=hi2;obtain rfl:b2=T_:=hi3 _ rfl ⟨2,.data⟩ (by simp) rfl;obtain rfl:=h2 rfl;clear hi3;have e:(b:Int)-1=((b-1:Nat):Int):=by omega
   have e2:IntKind.i64.wrap ((b-1:Nat):Int)=((b-1:Nat):Int):=fF _ (by omega);refine jm rfl (fun K hK=>?_);go_simp;refine hK _ _ ⟨_,_,_,T_,_,_,_,_,_,_,_,_,_,_,(i_ l_ (((b-1:Nat):Int))),_,_,_,_,_,_,_,_,_,rfl,rfl,HW,h0,h1,h2,af (fun _=>rfl),h4,h5,h6,h7,h8,h9,h10⟩
  ·obtain rfl:b4=F_:=hi2;obtain rfl:b1=T_:=hi3 _ rfl ⟨1,.data⟩ (by simp) rfl;obtain rfl:b3=T_:=hi3 _ rfl ⟨3,.data⟩ (by simp) rfl;obtain rfl:=h1 rfl;obtain rfl:=h3 rfl;clear hi3;have e:((b-1:Nat):Int)<n:=by omega
   refine jm rfl (fun K hK=>?_);go_simp;refine hK _ _ ⟨_,_,_,_,T_,_,_,_,_,_,_,_,_,_,_,(p_ (S_ ⟨eg,b-1,N_⟩)),_,_,_,_,_,_,_,_,rfl,rfl,HW,h0,h1,h2,h3,af (fun _=>rfl),h5,h6,h7,h8,h9,h10⟩
  ·obtain rfl:b5=F_:=hi2;obtain rfl:b4=T_:=hi3 _ rfl ⟨4,.data⟩ (by simp) rfl;obtain rfl:=h4 rfl;clear hi3;have e:=hRe W (HW.1.drop.drop.drop1).sat;refine jm rfl (fun K hK=>?_);go_simp;refine hK _ _ ⟨_,_,_,_,_,T_,_,_,_,_,_,_,_,_,_,_,(i_ l_ (eb)),_,_,_,_,_,_,_,rfl,rfl,HW,h0,h1,h2,h3,h4,af (fun _=>rfl),h6,h7,h8,h9,h10⟩
  ·obtain rfl:b6=F_:=hi2;clear hi3;have e:=(HW.1.kT (x:=⟨g3,3,#[i_ l_ was]⟩) (aS _ (aS _ (aU _ hR3)))).cell 0;refine jm rfl (fun K hK=>?_);go_simp;refine hK _ _ ⟨_,_,_,_,_,_,T_,_,_,_,_,_,_,_,_,_,_,(i_ l_ (was)),_,_,_,_,_,_,rfl,rfl,HW,h0,h1,h2,h3,h4,h5,af (fun _=>rfl),h7,h8,h9,h10⟩
  ·obtain rfl:b7=F_:=hi2;obtain rfl:b5=T_:=hi3 _ rfl ⟨5,.data⟩ (by simp) rfl;obtain rfl:b6=T_:=hi3 _ rfl ⟨6,.data⟩ (by simp) rfl;obtain rfl:=h5 rfl;obtain rfl:=h6 rfl;clear hi3;have e:IntKind.i64.wrap (eb-was)=eb-was:=fF _ (by omega);refine jm rfl (fun K hK=>?_);go_simp;refine hK _ _ ⟨_,_,_,_,_,_,_,T_,_,_,_,_,_,_,_,_,_,_,(i_ l_ (eb-was)),_,_,_,_,_,rfl,rfl,HW,h0,h1,h2,h3,h4,h5,h6,af (fun _=>rfl),h8,h9,h10⟩
  ·obtain rfl:b8=F_:=hi2;obtain rfl:b7=T_:=hi3 _ rfl ⟨7,.data⟩ (by simp) rfl;obtain rfl:=h7 rfl;clear hi3;have hb9:b9=F_:=by cases b9;rfl;exact absurd (HW.2.2.2 rfl) (by simp)
   have M9:=HW.1.alloc 3 #[i_ l_ (eb-was)];refine jm rfl (fun K hK=>?_);go_simp;refine hK _ _ ⟨_,_,_,_,_,_,_,_,T_,_,_,_,_,_,_,_,_,_,_,(s_ (S_ ⟨W.heap.size,0,N_⟩) 1 1),_,W.heap.size,HB,vv,rfl,rfl,⟨M9.O_,HW.2.1,HW.2.2.1,fun e=>rfl⟩,h0,h1,h2,h3,h4,h5,h6,h7,af (fun _=>rfl),af (fun e=>by rw[hb9]at e;cases e),af (fun e=>by have:=(h10 e).1.1;rw[hb9]at this;cases this)⟩
  ·obtain rfl:b9=F_:=hi2;obtain rfl:b0=T_:=hi3 _ rfl ⟨0,.data⟩ (by simp) rfl;obtain rfl:b8=T_:=hi3 _ rfl ⟨8,.data⟩ (by simp) rfl;obtain rfl:=h0 rfl;obtain rfl:=h8 rfl;clear hi3;obtain rfl:=HW.2.1 rfl;have ajO:b10=F_:=by cases b10;rfl;exact absurd (h10 rfl).1.1 (by simp)
   have hrow:=hrow2;have M9:Mv w0 H0 W (HB++(⟨g8,3,#[i_ l_ (eb-was)]⟩::(⟨r2,38,#[vv]⟩::R))):=HW.1.O_;have IV9:IV W (s_ (S_ ⟨g8,0,N_⟩) 1 1) [eb-was]:=jy.iv (H:=[⟨g8,3,#[i_ l_ (eb-was)]⟩]) (dh.new 3 g8 1 #[i_ l_ (eb-was)] rfl (by decide)) (M9.sat.sub (fun g=>by simp only[aP,bK,gI];omega) (fun c hc=>by simp only[ay,aC,bP,gQ]at hc⊢;exact .inr (.inl hc)));refine jm rfl (fun K hK=>?_);refine A8 rfl (.tmp 44) (.tmp 52) rfl (s_ a2 l2.length c2) (s_ (S_ ⟨g8,0,N_⟩) 1 1) l2 [eb-was] HB (by simp[Act.eval]) (by simp[Act.eval]) hrow M9.sat.left IV9 (by simp only[List.length_cons,List.length_nil];omega) ?_;intro v9 w9 H9 r9 m9;have N9:=Mv.call M9 m9;refine hK _ _ ⟨_,_,_,_,_,_,_,_,_,T_,_,_,_,_,_,_,_,_,_,_,v9,g8,H9,vv,rfl,rfl,⟨N9.O_,(fun e=>nomatch e),HW.2.2.1,fun e=>rfl⟩,h0,h1,h2,h3,h4,h5,h6,h7,h8,af (fun _=>r9),af (fun e=>by rw[ajO]at e;cases e)⟩
  ·obtain rfl:b10=F_:=hi2;obtain rfl:b9=T_:=hi3 _ rfl ⟨9,.data⟩ (by simp) rfl;obtain rfl:b0=T_:=hi3 _ rfl ⟨0,.phase⟩ (by simp) rfl;obtain rfl:b1=T_:=hi3 _ rfl ⟨1,.phase⟩ (by simp) rfl;obtain rfl:b2=T_:=hi3 _ rfl ⟨2,.phase⟩ (by simp) rfl;obtain rfl:b3=T_:=hi3 _ rfl ⟨3,.phase⟩ (by simp) rfl;obtain rfl:b4=T_:=hi3 _ rfl ⟨4,.phase⟩ (by simp) rfl;obtain rfl:b5=T_:=hi3 _ rfl ⟨5,.phase⟩ (by simp) rfl;obtain rfl:b6=T_:=hi3 _ rfl ⟨6,.phase⟩ (by simp) rfl;obtain rfl:b7=T_:=hi3 _ rfl ⟨7,.phase⟩ (by simp) rfl;obtain rfl:b8=T_:=hi3 _ rfl ⟨8,.phase⟩ (by simp) rfl;obtain rfl:=h0 rfl;obtain rfl:=h1 rfl;obtain rfl:=h2 rfl;obtain rfl:=h3 rfl;obtain rfl:=h4 rfl;obtain rfl:=h5 rfl;obtain rfl:=h6 rfl;obtain rfl:=h7 rfl;obtain rfl:=h8 rfl;clear hi3;obtain rfl:vv=s_ a2 l2.length c2:=HW.2.2.1 rfl;have Xf:=h9 rfl;obtain⟨a9,c9,rfl⟩:=Xf.slice;have hlen:(l2++[eb-was]).length=l2.length+1:=by simp
   rw[hlen]at Xf;have M9:Mv w0 H0 W (⟨r2,38,#[s_ a2 l2.length c2]⟩::(⟨g8,3,#[i_ l_ (eb-was)]⟩::(HB++R))):=HW.1.O_;have e:=(M9.blk 0 rfl).cell 0;have f:=(M9.blk 0 rfl).frozen 0;have N9:=M9.set 0 (s_ a9 (l2.length+1) c9);refine jm rfl (fun K hK=>?_);go_simp;refine hK _ _ ⟨_,_,_,_,_,_,_,_,_,_,T_,_,_,_,_,_,_,_,_,_,_,g8,HB,_,rfl,rfl,⟨N9.O_,(fun e=>nomatch e),(fun e=>nomatch e),fun e=>rfl⟩,h0,h1,h2,h3,h4,h5,h6,h7,h8,af (fun _=>Xf),af (fun _=>⟨⟨rfl,rfl⟩,rfl⟩)⟩
end
end Go.Proofs.YtjngfhgakokejaaGreat
