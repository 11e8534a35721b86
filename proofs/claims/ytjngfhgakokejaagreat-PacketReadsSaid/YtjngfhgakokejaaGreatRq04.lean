/- PacketReads: part 4. -/
import Derived.Test.YtjngfhgakokejaaGreatRq03
import Derived.Deep.RegionHeld3
set_option maxRecDepth 100000
set_option maxHeartbeats 8000000
set_option linter.all false
namespace Go.Proofs.YtjngfhgakokejaaGreat
open Value renaming int→i_,slice→s_,pointer→p_,bool→b_,agg→g_,tuple→t_
open IntKind renaming i64→l_
open Ending renaming returned→r_
open Tryz renaming prog→P_
open Option renaming some→S_,none→N_
open Bool renaming true→T_,false→F_
section
open Go.RowKit
theorem aeN{G:GeoM}(hg:G.Ok)(i:Nat):G.neg.getD i 0≤1:=by
 rw[ax];cases h:G.neg[i]? with
 |none=>simp
 |some n=>exact hg.aks n (aF h)
theorem JR{G:GeoM}(hg:G.Ok)(c:vO)(x y:Nat)(dx dy:Int): -1≤zY G c x y dx dy∧zY G c x y dx dy≤1:=by
 unfold zY;split
 ·have:=aeN hg (atM G x y dx dy);omega
 ·omega
theorem ab3(g:Nat)(l:List Nat)(i:Nat):(vk g l).cs.setIfInBounds i (i_ l_ (l.getD i 0:Nat))=(vk g l).cs:=by
 simp only[vk,bf];congr 1;apply fU;intro j;rw[fQ];split
 ·rename_i h;subst h;split
  ·rename_i hl;rw[aO]at hl;rw[aV,ai hl,ax,ai hl];rfl
  ·rename_i hl;rw[iQ (by omega)]
 ·rfl
theorem Ph(g:Nat)(l:List Bool)(i:Nat)(b:Bool):(yT g l).cs.setIfInBounds i (b_ b)=(yT g (l.set i b)).cs:=by simp only[yT,bf,jb]
theorem je.ad8{A:oP}{G:GeoM}{q:CS}{raw:Bool}{eg rg:Nat}{H H0:List HB}{w0 w:World}(h:je A G q raw eg rg H)(m:Mv w0 H0 w H)(i:Nat):Mv w0 H0 (w.setCell ⟨A.gn,i,N_⟩ (i_ l_ (G.neg.getD i 0:Nat))) H:=by obtain⟨He,Hr,-,-,rfl⟩:=h;have:=Mv.setAt (A:=[_,_]) m i (i_ l_ (G.neg.getD i 0:Nat));have e:(G.neg.map fun(n:Nat)=>Value.int l_ n).toArray.setIfInBounds i (i_ l_ (G.neg.getD i 0:Nat))=(G.neg.map fun(n:Nat)=>Value.int l_ n).toArray:=ab3 A.gn G.neg i;rw[e]at this;exact this
theorem je.ad6{A:oP}{G:GeoM}{q:CS}{raw:Bool}{eg rg:Nat}{H H0:List HB}{w0 w:World}(h:je A G q raw eg rg H)(m:Mv w0 H0 w H)(i:Nat)(b:Bool):∃H',je A G ⟨{q.c with sig:=q.c.sig.set i b},q.s⟩ raw eg rg H'∧Mv w0 H0 (w.setCell ⟨A.gs,i,N_⟩ (b_ b)) H':=by obtain⟨He,Hr,h1,h2,rfl⟩:=h;have:=Mv.setAt (A:=[_,_,_]) m i (b_ b);have e:(q.c.sig.map Value.bool).toArray.setIfInBounds i (b_ b)=((q.c.sig.set i b).map Value.bool).toArray:=Ph A.gs q.c.sig i b;rw[e]at this;exact⟨_,⟨He,Hr,h1,h2,rfl⟩,this⟩
theorem je.S!{A:oP}{G:GeoM}{q:CS}{raw:Bool}{eg rg:Nat}{H H0:List HB}{w0 w:World}(h:je A G q raw eg rg H)(m:Mv w0 H0 w H)(i:Nat)(b:Bool):∃H',je A G ⟨{q.c with seen:=q.c.seen.set i b},q.s⟩ raw eg rg H'∧Mv w0 H0 (w.setCell ⟨A.ge,i,N_⟩ (b_ b)) H':=by obtain⟨He,Hr,h1,h2,rfl⟩:=h;have:=Mv.setAt (A:=[_,_,_,_]) m i (b_ b);have e:(q.c.seen.map Value.bool).toArray.setIfInBounds i (b_ b)=((q.c.seen.set i b).map Value.bool).toArray:=Ph A.ge q.c.seen i b;rw[e]at this;exact⟨_,⟨He,Hr,h1,h2,rfl⟩,this⟩
theorem je.ad9{A:oP}{G:GeoM}{q:CS}{raw:Bool}{eg rg:Nat}{H H0:List HB}{w0 w:World}(h:je A G q raw eg rg H)(m:Mv w0 H0 w H)(i:Nat)(b:Bool):∃H',je A G ⟨{q.c with again:=q.c.again.set i b},q.s⟩ raw eg rg H'∧Mv w0 H0 (w.setCell ⟨A.ga,i,N_⟩ (b_ b)) H':=by obtain⟨He,Hr,h1,h2,rfl⟩:=h;have:=Mv.setAt (A:=[_,_,_,_,_]) m i (b_ b);have e:(q.c.again.map Value.bool).toArray.setIfInBounds i (b_ b)=((q.c.again.set i b).map Value.bool).toArray:=Ph A.ga q.c.again i b;rw[e]at this;exact⟨_,⟨He,Hr,h1,h2,rfl⟩,this⟩
theorem je.frozen{A:oP}{G:GeoM}{q:CS}{raw:Bool}{eg rg:Nat}{H:List HB}{w:World}(h:je A G q raw eg rg H)(hs:Sat w H)(i:Nat):w.frozen? ⟨A.gn,i,N_⟩=F_∧w.frozen? ⟨A.gs,i,N_⟩=F_∧w.frozen? ⟨A.ge,i,N_⟩=F_∧w.frozen? ⟨A.ga,i,N_⟩=F_∧w.frozen? ⟨A.cb,i,N_⟩=F_:=by obtain⟨He,Hr,-,-,rfl⟩:=h;exact⟨(hs.at_ 2 (by rfl)).frozen i,(hs.at_ 3 (by rfl)).frozen i,(hs.at_ 4 (by rfl)).frozen i,(hs.at_ 5 (by rfl)).frozen i,(hs.at_ 0 (by rfl)).frozen i⟩
theorem je.tail{A:oP}{G:GeoM}{q:CS}{raw:Bool}{eg rg:Nat}{H:List HB}{w:World}(h:je A G q raw eg rg H)(hs:Sat w H)(hq:q.s.Ok):w.cell? ⟨A.cb,47,N_⟩=S_ (b_ T_)∧w.cell? ⟨A.cb,48,N_⟩=S_ (b_ raw)∧w.cell? ⟨A.cb,49,N_⟩=S_ (p_ (S_ ⟨eg,0,N_⟩))∧w.cell? ⟨A.cb,50,N_⟩=S_ (p_ (S_ ⟨rg,0,N_⟩)):=by obtain⟨He,Hr,-,-,rfl⟩:=h;exact TY (hs.at_ 0 (by rfl)) hq.len
theorem place{G:GeoM}(hg:G.Ok){x y:Nat}(hx:x<G.w)(hy:y<G.h):y*G.w+x<G.w*G.h∧G.w*G.h≤4096∧(0:Int)≤y*G.w+x∧(y:Int)*G.w+x<((G.w*G.h:Nat):Int)∧(y:Int)*G.w≤4096∧(0:Int)≤y*G.w:=by
 have h0:y*G.w+x<G.w*G.h:=by have h1:(y+1)*G.w≤G.h*G.w:=dK _ hy;rw[jW,dX G.h G.w]at h1;omega
 have h2:G.w*G.h≤4096:=bZ hg.w2 hg.h2;have h3:(0:Int)≤y*G.w:=lT (by omega) (by omega);have h4:(y:Int)*G.w+x<((G.w*G.h:Nat):Int):=by
  have:((y*G.w+x:Nat):Int)<((G.w*G.h:Nat):Int):=by omega
  push_cast at this⊢;exact this
 exact⟨h0,h2,by omega,h4,by omega,h3⟩
theorem ajX(s:Int):(if(if 1<s then 1 else s)< -1 then-1 else if 1<s then 1 else s)=BR s:=by
 unfold BR
 repeat' split
 all_goals omega
theorem adC{a b:Nat}(h:a≤1)(k:b≤1):a^^^b≤1∧(a^^^b)^^^b=a:=by rcases(show a=0∨a=1 by omega)with rfl|rfl<;>rcases(show b=0∨b=1 by omega)with rfl|rfl<;>decide
theorem QH(A:oP)(G:GeoM)(q:CS)(raw:Bool)(eg rg x y:Nat)(H:List HB)(w:World)(hg:G.Ok)(hc:q.c.Ok G)(h:je A G q raw eg rg H)(hs:Sat w H)(hq:q.s.Ok)(hz:q.s.size≤80000000)(hx:x<G.w)(hy:y<G.h):Calls P_ 123 #[p_ (S_ ⟨A.cb,0,N_⟩),i_ l_ x,i_ l_ y] w fun e w'=>e=r_ (t_ #[])∧∃H',je A G (CY G raw q x y) raw eg rg H'∧Mv w H w' H':=by
 have SY:∀dx dy:Int,-1≤dx∧dx≤1→ -1≤dy∧dy≤1→∀W,oO w W→Calls P_ 131 #[p_ (S_ ⟨A.cb,0,N_⟩),i_ l_ x,i_ l_ y,i_ l_ dx,i_ l_ dy] W fun e w'=>e=r_ (i_ l_ (zY G q.c x y dx dy))∧oO w w':=fun dx dy h1 h2 W hW=>(aea A G q.c x y dx dy W hg (hW.see (h.see hg hc hs)) hx hy h1 h2).mono fun _e _w' q=>⟨q.1,hW.trans q.2⟩;have V:=h.see hg hc hs;have c0:=V.w_;obtain⟨p0,p1,p2,p3,p4,p5⟩:=place hg hx hy;obtain⟨d0,S0,b0,h0⟩:∃d,Hid (∀W,oO w W→Calls P_ 131 #[p_ (S_ ⟨A.cb,0,N_⟩),i_ l_ x,i_ l_ y,i_ l_ (-1),i_ l_ 0] W fun e w'=>e=r_ (i_ l_ d)∧oO w w')∧(-1≤d∧d≤1)∧zY G q.c x y (-1) 0=d:=⟨_,af (SY (-1) 0 (by decide) (by decide)),JR hg q.c x y (-1) 0,rfl⟩;obtain⟨d1,S1,b1,h1⟩:∃d,Hid (∀W,oO w W→Calls P_ 131 #[p_ (S_ ⟨A.cb,0,N_⟩),i_ l_ x,i_ l_ y,i_ l_ 1,i_ l_ 0] W fun e w'=>e=r_ (i_ l_ d)∧oO w w')∧(-1≤d∧d≤1)∧zY G q.c x y 1 0=d:=⟨_,af (SY 1 0 (by decide) (by decide)),JR hg q.c x y 1 0,rfl⟩;obtain⟨d2,S2,b2,h2⟩:∃d,Hid (∀W,oO w W→Calls P_ 131 #[p_ (S_ ⟨A.cb,0,N_⟩),i_ l_ x,i_ l_ y,i_ l_ 0,i_ l_ (-1)] W fun e w'=>e=r_ (i_ l_ d)∧oO w w')∧(-1≤d∧d≤1)∧zY G q.c x y 0 (-1)=d:=⟨_,af (SY 0 (-1) (by decide) (by decide)),JR hg q.c x y 0 (-1),rfl⟩;obtain⟨d3,S3,b3,h3⟩:∃d,Hid (∀W,oO w W→Calls P_ 131 #[p_ (S_ ⟨A.cb,0,N_⟩),i_ l_ x,i_ l_ y,i_ l_ 0,i_ l_ 1] W fun e w'=>e=r_ (i_ l_ d)∧oO w w')∧(-1≤d∧d≤1)∧zY G q.c x y 0 1=d:=⟨_,af (SY 0 1 (by decide) (by decide)),JR hg q.c x y 0 1,rfl⟩;have ES:Hid (aa8 G q.c x y=sctx (BR (d0+d1)) (BR (d2+d3))):=af (by unfold aa8;rw[h0,h1,h2,h3]);have V2:=af V;have KR:=NU h hs hq hz hg hc;have D:Hid (oO w w):=af (oO.refl w);clear SY V h0 h1 h2 h3 h hs hq hz hg hc;go_enter Tryz.func123,Tryz.ntmps123;go_upto_region 3 with(first
  |(go_at_call 131;(with_reducible refine(S0.out _ D.out).mono ?_);rintro e v0 ⟨rfl,D0⟩;replace D:=af D0;clear D0)
  |(go_at_call 131;(with_reducible refine(S1.out _ D.out).mono ?_);rintro e v0 ⟨rfl,D0⟩;replace D:=af D0;clear D0)
  |(go_at_call 131;(with_reducible refine(S2.out _ D.out).mono ?_);rintro e v0 ⟨rfl,D0⟩;replace D:=af D0;clear D0)
  |(go_at_call 131;(with_reducible refine(S3.out _ D.out).mono ?_);rintro e v0 ⟨rfl,D0⟩;replace D:=af D0;clear D0))
 simp only[ajX];obtain⟨hh,hhe,hhb⟩:∃hh,BR (d0+d1)=hh∧(-1≤hh∧hh≤1):=⟨_,rfl,II _⟩;obtain⟨vv,vve,vvb⟩:∃vv,BR (d2+d3)=vv∧(-1≤vv∧vv≤1):=⟨_,rfl,II _⟩;simp only[hhe,vve]at ES⊢;generalize(if(1:Int)<d0+d1 then(1:Int)else d0+d1)=u1;generalize(if(1:Int)<d2+d3 then(1:Int)else d2+d3)=u2;generalize d0+d1=u3 at*;generalize d2+d3=u4 at*;have SC:=af fun W=>ad4 hh vv W hhb vvb;obtain⟨s,hs⟩:=X_ (sctx hh vv);obtain⟨sk,st⟩:=V! hhb vvb;rw[hs]at ES SC sk st;clear hhe vve hs S0 S1 S2 S3 b0 b1 b2 b3;have M1:=D.mv (Mv.refl KR.2.1);have t1:=(KR.1.tail M1.sat KR.2.2.1).2.1;go_upto_region 4 with(go_at_call 132;refine(SC.out _).mono ?_;rintro e v1 ⟨rfl,rfl⟩);obtain⟨i,hi⟩:=X_ (y*G.w+x);have hii:(y:Int)*G.w+x=i:=by rw[←hi];push_cast;rfl
 simp only[hii];obtain⟨n,hn⟩:=X_ (G.w*G.h);rw[hi,hn]at p0;rw[hn]at p1;obtain⟨nb,hnb⟩:=X_ (G.neg.getD i 0);have nbl:nb≤1:=by rw[←hnb];exact aeN KR.2.2.2.2.1 i
 have i1:(i:Int)<n:=by omega
 clear hii p2 p3 p4 p5 c0 SC;cases raw with
 |true=>
  have SM:CY G T_ q x y=⟨{q.c with sig:=q.c.sig.set i T_},kL T_ q.s s.k (nb^^^0)⟩:=by unfold CY;rw[ES.out,hi,hnb];rfl
  obtain⟨xb1,xb2⟩:=adC nbl (show 0≤1 by omega);have X1:bits .xor l_ (nb:Int) 0=((nb^^^0:Nat):Int):=Dc nb 0 (by omega) (by omega);have X2:bits .xor l_ ((nb^^^0:Nat):Int) 0=(nb:Int):=(Dc (nb^^^0) 0 (by omega) (by omega)).trans (by rw[xb2]);obtain⟨b,hbe⟩:=X_ (nb^^^0);rw[hbe]at X1 X2 xb1 SM;have SMh:=af SM;clear hbe xb2 SM ES;have BT:Hid (∀W,Mv w H W H→Calls P_ 127 #[p_ (S_ ⟨A.cb,0,N_⟩),i_ l_ s.k,i_ l_ b] W fun e w'=>e=r_ (i_ l_ b)∧∃H',je A G ⟨q.c,kL T_ q.s s.k b⟩ T_ eg rg H'∧Mv W H w' H'):=af fun W m=>Dk A G q T_ eg rg s.k b H W KR.1 m.sat KR.2.2.1 KR.2.2.2.1 (by omega) xb1;have SF:Hid (∀W q2 H2,q2.c=q.c→je A G q2 T_ eg rg H2→Mv w H W H2→(W.cell? ⟨A.cb,5,N_⟩=S_ (s_ (S_ ⟨A.gn,0,N_⟩) n n)∧W.cell? ⟨A.gn,i,N_⟩=S_ (i_ l_ nb))):=af (by intro W q2 H2 hq2 h2 m;have V:=h2.see KR.2.2.2.2.1 (by rw[hq2];exact KR.2.2.2.2.2) m.sat;have c5:=V.n_;have ci:=V.neg i (by rw[hn];exact p0);rw[hnb]at ci;unfold Ci at c5;rw[hn]at c5;exact⟨c5,ci⟩);have HN:=dS hn hnb;clear hi hn hnb nbl V2 sk st;go_upto_region 6 with fail;have F0:=SF v1.drew q H rfl KR.1 M1.drew;clear t1;go_region_held3 (fun w'=>w'.cell? ⟨A.cb,5,N_⟩=S_ (s_ (S_ ⟨A.gn,0,N_⟩) n n)∧w'.cell? ⟨A.gn,i,N_⟩=S_ (i_ l_ nb))
   (first|(with_reducible exact F0)|(with_reducible exact F2)|(with_reducible exact F3))
   (first|(go_at_call 127;refine(BT.out _ M1.drew).mono ?_;rintro e v2 ⟨rfl,H2,h2,m2⟩;have M2:=M1.drew.trans m2;have F2:=SF.out v2 ⟨q.c,kL T_ q.s s.k b⟩ H2 rfl h2 M2;have g2:=(h2.frozen M2.sat i).1;have N2:=h2.ad8 M2 i;rw[HN.out.2]at N2;have F3:=SF.out _ ⟨q.c,kL T_ q.s s.k b⟩ H2 rfl h2 N2;have K2:=dS h2 N2;clear h2 m2 M2 N2))
  all_goals have N2:=K2.2;obtain⟨v3,hv3⟩:=Y_ (v2.setCell ⟨A.gn,i,N_⟩ (i_ l_ nb));rw[←hv3]at N2⊢;have V3:=K2.1.see KR.2.2.2.2.1 KR.2.2.2.2.2 N2.sat;have c6:=V3.s_;unfold Ci at c6;rw[HN.1]at c6;have ci:=V3.sig i (by rw[HN.1];exact p0);have gi:=(K2.1.frozen N2.sat i).2.1;obtain⟨H3,h3,m3⟩:=K2.1.ad6 N2 i T_;have K3:=dS h3 m3;clear hv3 V3 N2 h3 m3 F0 F2 F3 K2 g2;go_wp2_with fail;exact dm (bH rfl _ _ _) rfl ⟨rfl,H3,by rw[SMh.out];exact K3.1,K3.2⟩
 |false=>
  have SM:CY G F_ q x y=⟨{q.c with sig:=q.c.sig.set i T_},kL F_ q.s s.k (nb^^^s.turn)⟩:=by unfold CY;rw[ES.out,hi,hnb];rfl
  obtain⟨xb1,xb2⟩:=adC nbl (show s.turn≤1 by exact st);have X1:bits .xor l_ (nb:Int) (s.turn:Int)=((nb^^^s.turn:Nat):Int):=Dc nb s.turn (by omega) (by omega);have X2:bits .xor l_ ((nb^^^s.turn:Nat):Int) (s.turn:Int)=nb:=(Dc (nb^^^s.turn) s.turn (by omega) (by omega)).trans (by rw[xb2]);obtain⟨b,hbe⟩:=X_ (nb^^^s.turn);rw[hbe]at X1 X2 xb1 SM;have SMh:=af SM;clear hbe xb2 SM ES;have BT:Hid (∀W,Mv w H W H→Calls P_ 127 #[p_ (S_ ⟨A.cb,0,N_⟩),i_ l_ s.k,i_ l_ b] W fun e w'=>e=r_ (i_ l_ b)∧∃H',je A G ⟨q.c,kL F_ q.s s.k b⟩ F_ eg rg H'∧Mv W H w' H'):=af fun W m=>Dk A G q F_ eg rg s.k b H W KR.1 m.sat KR.2.2.1 KR.2.2.2.1 (by omega) xb1;have SF:Hid (∀W q2 H2,q2.c=q.c→je A G q2 F_ eg rg H2→Mv w H W H2→(W.cell? ⟨A.cb,5,N_⟩=S_ (s_ (S_ ⟨A.gn,0,N_⟩) n n)∧W.cell? ⟨A.gn,i,N_⟩=S_ (i_ l_ nb))):=af (by intro W q2 H2 hq2 h2 m;have V:=h2.see KR.2.2.2.2.1 (by rw[hq2];exact KR.2.2.2.2.2) m.sat;have c5:=V.n_;have ci:=V.neg i (by rw[hn];exact p0);rw[hnb]at ci;unfold Ci at c5;rw[hn]at c5;exact⟨c5,ci⟩);have HN:=dS hn hnb;clear hi hn hnb nbl V2 sk st;go_upto_region 6 with fail;have F0:=SF v1.drew q H rfl KR.1 M1.drew;clear t1;go_region_held3 (fun w'=>w'.cell? ⟨A.cb,5,N_⟩=S_ (s_ (S_ ⟨A.gn,0,N_⟩) n n)∧w'.cell? ⟨A.gn,i,N_⟩=S_ (i_ l_ nb))
   (first|(with_reducible exact F0)|(with_reducible exact F2)|(with_reducible exact F3))
   (first|(go_at_call 127;refine(BT.out _ M1.drew).mono ?_;rintro e v2 ⟨rfl,H2,h2,m2⟩;have M2:=M1.drew.trans m2;have F2:=SF.out v2 ⟨q.c,kL F_ q.s s.k b⟩ H2 rfl h2 M2;have g2:=(h2.frozen M2.sat i).1;have N2:=h2.ad8 M2 i;rw[HN.out.2]at N2;have F3:=SF.out _ ⟨q.c,kL F_ q.s s.k b⟩ H2 rfl h2 N2;have K2:=dS h2 N2;clear h2 m2 M2 N2))
  all_goals have N2:=K2.2;obtain⟨v3,hv3⟩:=Y_ (v2.setCell ⟨A.gn,i,N_⟩ (i_ l_ nb));rw[←hv3]at N2⊢;have V3:=K2.1.see KR.2.2.2.2.1 KR.2.2.2.2.2 N2.sat;have c6:=V3.s_;unfold Ci at c6;rw[HN.1]at c6;have ci:=V3.sig i (by rw[HN.1];exact p0);have gi:=(K2.1.frozen N2.sat i).2.1;obtain⟨H3,h3,m3⟩:=K2.1.ad6 N2 i T_;have K3:=dS h3 m3;clear hv3 V3 N2 h3 m3 F0 F2 F3 K2 g2;go_wp2_with fail;exact dm (bH rfl _ _ _) rfl ⟨rfl,H3,by rw[SMh.out];exact K3.1,K3.2⟩
theorem ae2{G:GeoM}(hg:G.Ok)(i:Nat):G.yl.getD i 0<1073741824:=by
 rw[ax];cases h:G.yl[i]? with
 |none=>simp
 |some n=>exact hg.ajm n (aF h)
theorem U5(A:oP)(G:GeoM)(q:CS)(raw:Bool)(eg rg i bY k:Nat)(H:List HB)(w:World)(hg:G.Ok)(hc:q.c.Ok G)(h:je A G q raw eg rg H)(hs:Sat w H)(hq:q.s.Ok)(hz:q.s.size≤80000000)(hi:i<G.w*G.h)(hp:bY≤40)(hk:k<19):Calls P_ 122 #[p_ (S_ ⟨A.cb,0,N_⟩),i_ l_ i,i_ l_ bY,i_ l_ k] w fun e w'=>e=r_ (i_ l_ (yF G i bY:Nat))∧∃H',je A G ⟨q.c,kL raw q.s k (yF G i bY)⟩ raw eg rg H'∧Mv w H w' H':=by
 have V:=h.see hg hc hs;have c4:=V.m_;unfold Ci at c4;have ci:=V.yl i hi;have mb:=ae2 hg i;have BO:yF G i bY=G.yl.getD i 0/2^bY%2:=rfl;obtain⟨m,hm⟩:=X_ (G.yl.getD i 0);rw[hm]at ci mb BO;obtain⟨b,hb⟩:=X_ (yF G i bY);have bl:b≤1:=by rw[←hb];exact afX G i bY
 rw[hb]at BO⊢;have BT:=af (Dk A G q raw eg rg k b H w h hs hq hz hk bl);have KQ:=af hq;have n4:G.w*G.h≤4096:=bZ hg.w2 hg.h2;obtain⟨n,hn⟩:=X_ (G.w*G.h);rw[hn]at c4 hi n4;have i1:(i:Int)<n:=by omega
 have EV:bits .and l_ ((m:Int)/2^bY) 1=(b:Int):=by rw[yY,BO];push_cast;rfl
 clear V hm hb h hs hq hz hg hc hn BO;go_enter Tryz.func122,Tryz.ntmps122;go_wp2_with (go_at_call 127;refine BT.out.mono ?_;rintro e w1 ⟨rfl,H1,h1,m1⟩;have t0:=(h1.tail m1.sat (AZ KQ.out hk b)).1;have K1:=dS h1 m1;clear h1 m1);go_ret;exact⟨rfl,H1,K1.1,K1.2⟩
theorem Bj{raw:Bool}{s:Eo}(h:s.Ok){k:Nat}(hk:k<19)(b:Nat):(kL raw s k b).size≤s.size+16:=by have:=((Says.one raw s (k:=k) b hk).grow h).2.2;omega
theorem VP{w h n:Nat}(hw:1≤w)(hn:n<w*h):uC w h n<w∧uB w h n<h:=by
 obtain⟨q,hq⟩:=X_ (n/w);obtain⟨s,hs⟩:=X_ (q/4);have hqh:q<h:=by rw[←hq];exact(Nat.div_lt_iff_lt_mul hw).2 (by rw[dX];exact hn)
 have h4:4*s≤q∧q<4*s+4:=by omega
 have hq1:q*w≤n:=by rw[←hq];exact Nat.div_mul_le_self n w
 have hq2:n<(q+1)*w:=by have:=Nat.lt_mul_div_succ n hw;rw[hq,dX]at this;exact this
 have e1:4*w*s=4*s*w:=by rw[qF,dX w s,←qF]
 have h5:4*s*w≤n:=fD (dK _ h4.1) hq1;unfold uC uB;rw[hq,hs,e1];obtain⟨r,hr⟩:=X_ (min 4 (h-4*s));rw[hr];have hr1:1≤r:=by omega
 have hrest:n-4*s*w<w*r:=by
  by_cases h4r:h-4*s<4
  ·have e2:r=h-4*s:=by omega
   rw[e2,Nat.mul_sub,dX w (4*s)];exact Nat.sub_lt_sub_right h5 hn
  ·have e2:r=4:=by omega
   rw[e2];have h6:(q+1)*w≤(4*s+4)*w:=dK _ (by omega);rw[Nat.add_mul (4*s)]at h6;rw[dX w 4];exact Nat.sub_lt_left_of_lt_add h5 (eH hq2 h6)
 refine⟨(Nat.div_lt_iff_lt_mul hr1).2 hrest,?_⟩;have:=kP (n-4*s*w) hr1;omega
theorem ag1(n P:Nat)(h:P≤n)(hn:n<4096):wrap64 ((n:Int)-wrap64 (P:Int))=((n-P:Nat):Int):=by rw[pK (P:Int) ⟨by omega,by omega⟩,pK _ ⟨by omega,by omega⟩];omega
theorem abe(r m s:Nat)(h1:1≤m)(h2:r≤4096)(h3:s≤16)(h4:m≤4):wrap64 ((r:Int)/(m:Int))=((r/m:Nat):Int)∧wrap64 (4*(s:Int)+r%m)=((4*s+r%m:Nat):Int):=by
 have e1:(r:Int)/(m:Int)=((r/m:Nat):Int):=rfl;have e2:4*(s:Int)+r%m=((4*s+r%m:Nat):Int):=by push_cast;rfl
 have b1:r/m≤r:=pV r m;have b2:r%m<m:=kP r h1;rw[e1,e2];generalize r/m=d at*;generalize r%m=d2 at*;clear e1 e2;constructor
 ·exact pK _ ⟨by omega,by omega⟩
 ·exact pK _ ⟨by omega,by omega⟩
theorem VQ(w h n:Nat)(W:World)(hw:1≤w)(hw2:w≤64)(hh:1≤h)(hh2:h≤64)(hn:n<w*h):Calls P_ 120 #[i_ l_ w,i_ l_ h,i_ l_ n] W fun e w'=>e=r_ (t_ #[i_ l_ (uC w h n:Nat),i_ l_ (uB w h n:Nat)])∧oO W w':=by
 have n4:n<4096:=eH hn (bZ hw2 hh2);obtain⟨q,hq⟩:=X_ (n/w);have hqh:q<h:=by rw[←hq];exact(Nat.div_lt_iff_lt_mul hw).2 (by rw[dX];exact hn)
 have qi:(n:Int)/(w:Int)=q:=by rw[←hq];rfl
 have HX:=dS hq hn;clear hq hn;have d1:decide ((w:Int)<1)=F_:=by simp;omega
 have d2:decide ((h:Int)<1)=F_:=by simp;omega
 have d3:decide ((n:Int)<0)=F_:=by simp
 have d4:decide ((h:Int)≤q)=F_:=by simp;omega
 go_enter Tryz.func120,Tryz.ntmps120;go_upto_region 5 with fail;obtain⟨s,hs⟩:=X_ (q/4);have si:(q:Int)/4=(s:Int):=by rw[←hs];rfl
 have hq1:q*w≤n:=by rw[←HX.1];exact Nat.div_mul_le_self n w
 have h4:4*s≤q:=by omega
 have h5:4*w*s≤n:=by
  have e1:4*w*s=4*s*w:=by rw[qF,dX w s,←qF]
  rw[e1];exact fD (dK _ h4) hq1
 obtain⟨r,hr⟩:=X_ (n-4*w*s);have hR:wrap64 ((n:Int)-wrap64 (4*(w:Int)*s))=(r:Int):=by
  have e1:4*(w:Int)*s=((4*w*s:Nat):Int):=by push_cast;rfl
  rw[e1,←hr];exact ag1 n _ h5 n4
 obtain⟨m,hm⟩:=X_ (min 4 (h-4*s));have hm1:1≤m:=by omega
 have hM:(if(h:Int)-4*(s:Int)<4 then(h:Int)-4*(s:Int)else 4)=(m:Int):=by split<;>omega
 have rn:r≤4096:=fD (by rw[←hr];exact Nat.sub_le _ _) (Nat.le_of_lt n4);have ER:Hid (uC w h n=r/m∧uB w h n=4*s+r%m):=af (by unfold uC uB;simp only[HX.1,hs,hr,hm,and_self]);have qN:s≤16:=by omega
 simp only[si,hR];have HM:=af hM;have m4:m≤4:=by omega
 have hs4:4*s<h:=by omega
 clear hs si hq1 h4 h5 hr hR hm hM HX qi hqh;go_upto_region 6 with fail;simp only[HM.out];generalize wrap64 (4*(w:Int)*s)=u1;clear HM hs4;go_quiet (fail);go_wp2_with fail;go_ret2;rw[ER.1,ER.2];refine⟨?_,_,rfl⟩;show Ending.returned (t_ #[i_ l_ (wrap64 ((r:Int)/(m:Int))),i_ l_ (wrap64 (4*(s:Int)+r%m))])=_;obtain⟨w1,w2⟩:=abe r m s hm1 rn qN m4;rw[w1,w2]
theorem XD(A:oP)(G:GeoM)(q:CS)(raw:Bool)(eg rg bY:Nat)(H:List HB)(w:World)(hg:G.Ok)(hc:q.c.Ok G)(h:je A G q raw eg rg H)(hs:Sat w H)(hq:q.s.Ok)(hz:q.s.size+32*(G.w*G.h)≤80000000)(hp:bY≤40):Calls P_ 101 #[p_ (S_ ⟨A.cb,0,N_⟩),i_ l_ bY] w fun e w'=>e=r_ (t_ #[])∧∃H',je A G (runM (qC G raw bY) (G.w*G.h) 0 q) raw eg rg H'∧Mv w H w' H':=by
 obtain⟨n,hn⟩:=X_ (G.w*G.h);have n4:n≤4096:=by rw[←hn];exact bZ hg.w2 hg.h2
 rw[hn]at hz⊢;obtain⟨R,hR⟩:=X_ (runM (qC G raw bY) n 0 q);rw[hR];have K0:=NU h (Mv.refl hs) hc hq hz hR;have HG:=dS hg hn;have u1:(G.w:Int)*G.h≤4096:=by
  have:((G.w*G.h:Nat):Int)≤4096:=by rw[hn];omega
  push_cast at this;exact this
 have u2:(0:Int)≤G.w*G.h:=lT (by omega) (by omega);clear h hs hc hq hz hR hg hn;go_enter Tryz.func101,Tryz.ntmps101;go_wp2_with fail;go_loopg [4] n (fun m s4 wx=>∃(j:Nat) (q1:CS) (H1:List HB),j≤n∧m=n-j∧s4=i_ l_ j∧je A G q1 raw eg rg H1∧Mv w H wx H1∧q1.c.Ok G∧q1.s.Ok∧q1.s.size+32*(n-j)≤80000000∧runM (qC G raw bY) (n-j) j q1=R)
 case atStart=>exact⟨0,q,H,by omega,rfl,rfl,K0.1,K0.2.1,K0.2.2.1,K0.2.2.2.1,K0.2.2.2.2.1,K0.2.2.2.2.2⟩
 case round=>
  obtain⟨j,q1,H1,hj,rfl,rfl,h1,m1,hc1,hq1,hz1,hR1⟩:=hrel;have V:=h1.see HG.1 hc1 m1.sat;have c0:=V.w_;have c1:=V.h_;have K1:=NU h1 m1 hc1 hq1 hz1 hR1;clear V h1 m1 hc1 hq1 hz1 hR1;by_cases hlt:j<n
  ·have d1:decide ((j:Int)<G.w*G.h)=T_:=by
    have:((G.w*G.h:Nat):Int)=n:=by rw[HG.2]
    push_cast at this;rw[this];simp;omega
   go_upto_region 1 with fail;go_quiet (fail);have K2:=af (K1.2.1.drewN nq);have c0:(wr.drewN nq).cell? ⟨A.cb,0,N_⟩=S_ (i_ l_ G.w):=c0;have c1:(wr.drewN nq).cell? ⟨A.cb,1,N_⟩=S_ (i_ l_ G.h):=c1;generalize wr.drewN nq=w2 at*;have SC:=af fun W=>VQ G.w G.h j W HG.1.w1 HG.1.w2 HG.1.h1 HG.1.h2 (by rw[HG.2];exact hlt);obtain⟨sx,sy⟩:=VP HG.1.w1 (show j<G.w*G.h by rw[HG.2];exact hlt);obtain⟨x,hx⟩:=X_ (uC G.w G.h j);obtain⟨y,hy⟩:=X_ (uB G.w G.h j);rw[hx,hy]at SC;rw[hx]at sx;rw[hy]at sy;have HXY:=dS hx hy;clear hx hy;go_upto_region 3 with fail;go_quiet (first|(go_at_call 120;exact uY (SC.out _)));have M3:=K2.drewN nq;generalize w2.drewN nq=w3 at*;have V3:=K1.1.see HG.1 K1.2.2.1 M3.sat;have c0:=V3.w_;obtain⟨p0,p1,p2,p3,p4,p5⟩:=place HG.1 sx sy;obtain⟨i,hi⟩:=X_ (y*G.w+x);obtain⟨kk,hkk⟩:=X_ (Bo G q1.c x y);have kb:kk≤8:=by rw[←hkk];exact JK G q1.c x y
   have ZA:=af (Ov A G q1.c x y w3 HG.1 V3 sx sy);rw[hkk]at ZA;have SE:Hid (qC G raw bY q1 j=if q1.c.sig.getD i F_=T_∨kk=0 then q1 else⟨{(Bq G raw q1 x y bY kk).c with seen:=(Bq G raw q1 x y bY kk).c.seen.set i T_},(Bq G raw q1 x y bY kk).s⟩):=af (by unfold qC;rw[HXY.1,HXY.2,hi,hkk]);have hii:(y:Int)*G.w+x=i:=by rw[←hi];push_cast;rfl
   have K3:=nY M3 hi hii;clear hii hi hkk V3 M3 K2 SC;go_upto_region 5 with fail;simp only[K3.2.2];generalize(y:Int)*G.w=u3 at*;clear p2 p3 p4 p5;rw[K3.2.1,HG.2]at p0;have i1:(i:Int)<n:=by omega
   go_upto_region 6 with(go_at_call 121;refine ZA.out.mono ?_;rintro e w4 ⟨rfl,dr⟩;have K4:=af (dr.mv K3.out.1);clear dr);have V4:=K1.1.see HG.1 K1.2.2.1 K4.sat;have c6:=V4.s_;unfold Ci at c6;rw[HG.2]at c6;have ci:=V4.sig i (by rw[HG.2];exact p0);clear V4;have RS:Hid (runM (qC G raw bY) (n-(j+1)) (j+1) (qC G raw bY q1 j)=R):=af (by have:=K1.2.2.2.2.2;rw[show n-j=(n-(j+1))+1 by omega]at this;exact this);by_cases hcon:q1.c.sig.getD i F_=T_∨kk=0
   ·have SE2:Hid (qC G raw bY q1 j=q1):=af (by rw[SE.out,aK hcon]);have FIN:Hid (je A G q1 raw eg rg H1∧Mv w H w4 H1∧q1.c.Ok G∧q1.s.Ok∧q1.s.size+32*(n-(j+1))≤80000000∧runM (qC G raw bY) (n-(j+1)) (j+1) q1=R):=af ⟨K1.1,K4.out,K1.2.2.1,K1.2.2.2.1,by have:=K1.2.2.2.2.1;omega,by have:=RS.out;rw[SE2.out]at this;exact this⟩;rcases(dB (q1.c.sig.getD i F_))with hsg|hsg
    ·rw[hsg]at ci;clear hcon hsg;go_wp2_with fail;go_roundg (n-(j+1))
     case measure=>omega
     case rel=>exact⟨j+1,q1,H1,by omega,rfl,by push_cast;rfl,FIN.out⟩
    ·have k0:kk=0:=by
      rcases hcon with h|h
      ·rw[hsg]at h;cases h
      ·exact h
     rw[hsg]at ci;have d5:((kk:Int)==0)=T_:=by rw[k0];rfl
     have HK:=af k0;clear hcon hsg k0;go_wp2_with fail;go_roundg (n-(j+1))
     case measure=>omega
     case rel=>exact⟨j+1,q1,H1,by omega,rfl,by push_cast;rfl,FIN.out⟩
   ·have hsg:q1.c.sig.getD i F_=F_:=by
     rcases(dB (q1.c.sig.getD i F_))with h|h
     ·exact absurd (.inl h) hcon
     ·exact h
    have k0:¬kk=0:=fun h=>hcon (.inr h);rw[hsg]at ci;have d5:((kk:Int)==0)=F_:=bF.2 (by omega);have SE2:Hid (qC G raw bY q1 j=⟨{(Bq G raw q1 x y bY kk).c with seen:=(Bq G raw q1 x y bY kk).c.seen.set i T_},(Bq G raw q1 x y bY kk).s⟩):=af (by rw[SE.out,aJ hcon]);clear hcon hsg;obtain⟨b,hb⟩:=X_ (yF G i bY);have MG:=af (U5 A G q1 raw eg rg i bY kk H1 w4 HG.1 K1.2.2.1 K1.1 K4.sat K1.2.2.2.1 (by have:=K1.2.2.2.2.1;omega) (by rw[HG.2];exact p0) hp (by omega));have TM:Hid (Bq G raw q1 x y bY kk=if b=1 then CY G raw ⟨q1.c,kL raw q1.s kk b⟩ x y else⟨q1.c,kL raw q1.s kk b⟩):=af (by unfold Bq;rw[K3.2.1,hb]);rw[hb]at MG;obtain⟨qa,hqa⟩:∃qa:CS,(⟨q1.c,kL raw q1.s kk b⟩:CS)=qa:=⟨_,rfl⟩;have QA:Hid (qa.c.Ok G∧qa.s.Ok∧qa.s.size≤80000000):=af (by rw[←hqa];exact⟨K1.2.2.1,AZ K1.2.2.2.1 (by omega) b,by have:=Bj (raw:=raw) K1.2.2.2.1 (k:=kk) (by omega) b;have:=K1.2.2.2.2.1;simp only;omega⟩);rw[hqa]at TM MG;have QS:Hid (∀q2,Bq G raw q1 x y bY kk=q2→q2.c.Ok G∧q2.s.Ok∧q2.s.size+32*(n-(j+1))≤80000000):=af (by intro q2 h2;have e1:=Oe (raw:=raw) K1.2.2.1 x y bY kk;have e2:=Il (raw:=raw) (G:=G) q1 x y bY (k:=kk) (by omega);have e3:=e2.ok K1.2.2.2.1;have e4:=(e2.grow K1.2.2.2.1).2.2;rw[h2]at e1 e3 e4;exact⟨e1,e3,by have:=K1.2.2.2.2.1;omega⟩);have FIN:Hid (∀q2 H2 w5,Bq G raw q1 x y bY kk=q2→je A G q2 raw eg rg H2→Mv w H w5 H2→w5.cell? ⟨A.cb,7,N_⟩=S_ (s_ (S_ ⟨A.ge,0,N_⟩) n n)∧(∃u,w5.cell? ⟨A.ge,i,N_⟩=S_ (b_ u))∧w5.frozen? ⟨A.ge,i,N_⟩=F_∧Hid (∃q3 H3,je A G q3 raw eg rg H3∧Mv w H (w5.setCell ⟨A.ge,i,N_⟩ (b_ T_)) H3∧q3.c.Ok G∧q3.s.Ok∧q3.s.size+32*(n-(j+1))≤80000000∧runM (qC G raw bY) (n-(j+1)) (j+1) q3=R)):=af (by intro q2 H2 w5 h2 r2 m2;obtain⟨o1,o2,o3⟩:=QS q2 h2;have V:=r2.see HG.1 o1 m2.sat;have c7:=V.e_;unfold Ci at c7;rw[HG.2]at c7;obtain⟨H3,r3,m3⟩:=r2.S! m2 i T_;refine⟨c7,⟨_,V.seen i (by rw[HG.2];exact p0)⟩,(r2.frozen m2.sat i).2.2.1,af ⟨_,H3,r3,m3,⟨o1.sig,by simpa using o1.seen,o1.again⟩,o2,o3,?_⟩⟩;have:=RS.out;rw[SE2.out,h2]at this;exact this);by_cases hb1:b=1
    ·have d6:((b:Int)==1)=T_:=by rw[hb1];rfl
     have TM2:=af (TM.trans (aK hb1));have HB:=af hb1;clear hb hb1 hqa;go_upto_region 9 with(first
      |(go_at_call 122;refine MG.out.mono ?_;rintro e w5 ⟨rfl,H2,h2,m2⟩;have K5:=dS h2 (K4.out.trans m2);clear h2 m2)
      |(go_at_call 123;refine(QH A G qa raw eg rg x y H2 _ HG.out.1 QA.out.1 K5.out.1 K5.out.2.sat QA.out.2.1 QA.out.2.2 sx sy).mono ?_;rintro e w6 ⟨rfl,H3,h3,m3⟩;have K6:=dS h3 (K5.out.2.trans m3);clear h3 m3))
     obtain⟨y7,⟨u,yu⟩,yf,Y⟩:=FIN _ H3 w6 TM2 K6.1 K6.2;go_wp2_with fail;go_roundg (n-(j+1))
     case measure=>omega
     case rel=>obtain⟨q3,H4,y3⟩:=Y.out;exact⟨j+1,q3,H4,by omega,rfl,by push_cast;rfl,y3⟩
    ·have d6:((b:Int)==1)=F_:=bF.2 (by omega);have TM2:=af (TM.trans (aJ hb1));have HB:=af hb1;clear hb hb1 hqa;go_upto_region 9 with(go_at_call 122;refine MG.out.mono ?_;rintro e w5 ⟨rfl,H2,h2,m2⟩;have K5:=dS h2 (K4.out.trans m2);clear h2 m2);obtain⟨y7,⟨u,yu⟩,yf,Y⟩:=FIN _ H2 w5 TM2 K5.1 K5.2;go_wp2_with fail;go_roundg (n-(j+1))
     case measure=>omega
     case rel=>obtain⟨q3,H4,y3⟩:=Y.out;exact⟨j+1,q3,H4,by omega,rfl,by push_cast;rfl,y3⟩
  ·have d1:decide ((j:Int)<G.w*G.h)=F_:=by
    have:((G.w*G.h:Nat):Int)=n:=by rw[HG.2]
    push_cast at this;rw[this];simp;omega
   go_upto_region 1 with fail;go_quiet (fail);have M2:=af (K1.2.1.drewN nq);go_wp2_with fail;have eR:R=q1:=by have:=K1.2.2.2.2.2;rw[show n-j=0 by omega]at this;exact this.symm
   exact dm (bH rfl _ _ _) rfl ⟨rfl,H1,by rw[eR];exact K1.1,M2.out⟩
theorem XE(A:oP)(G:GeoM)(q:CS)(raw:Bool)(eg rg bY:Nat)(H:List HB)(w:World)(hg:G.Ok)(hc:q.c.Ok G)(h:je A G q raw eg rg H)(hs:Sat w H)(hq:q.s.Ok)(hz:q.s.size+32*(G.w*G.h)≤80000000)(hp:bY≤40):Calls P_ 102 #[p_ (S_ ⟨A.cb,0,N_⟩),i_ l_ bY] w fun e w'=>e=r_ (t_ #[])∧∃H',je A G (runM (qO G raw bY) (G.w*G.h) 0 q) raw eg rg H'∧Mv w H w' H':=by
 obtain⟨n,hn⟩:=X_ (G.w*G.h);have n4:n≤4096:=by rw[←hn];exact bZ hg.w2 hg.h2
 rw[hn]at hz⊢;obtain⟨R,hR⟩:=X_ (runM (qO G raw bY) n 0 q);rw[hR];have K0:=NU h (Mv.refl hs) hc hq hz hR;have HG:=dS hg hn;have u1:(G.w:Int)*G.h≤4096:=by
  have:((G.w*G.h:Nat):Int)≤4096:=by rw[hn];omega
  push_cast at this;exact this
 have u2:(0:Int)≤G.w*G.h:=lT (by omega) (by omega);clear h hs hc hq hz hR hg hn;go_enter Tryz.func102,Tryz.ntmps102;go_wp2_with fail;go_loopg [4] n (fun m s4 wx=>∃(j:Nat) (q1:CS) (H1:List HB),j≤n∧m=n-j∧s4=i_ l_ j∧je A G q1 raw eg rg H1∧Mv w H wx H1∧q1.c.Ok G∧q1.s.Ok∧q1.s.size+32*(n-j)≤80000000∧runM (qO G raw bY) (n-j) j q1=R)
 case atStart=>exact⟨0,q,H,by omega,rfl,rfl,K0.1,K0.2.1,K0.2.2.1,K0.2.2.2.1,K0.2.2.2.2.1,K0.2.2.2.2.2⟩
 case round=>
  obtain⟨j,q1,H1,hj,rfl,rfl,h1,m1,hc1,hq1,hz1,hR1⟩:=hrel;have V:=h1.see HG.1 hc1 m1.sat;have c0:=V.w_;have c1:=V.h_;have K1:=NU h1 m1 hc1 hq1 hz1 hR1;clear V h1 m1 hc1 hq1 hz1 hR1;by_cases hlt:j<n
  ·have d1:decide ((j:Int)<G.w*G.h)=T_:=by
    have:((G.w*G.h:Nat):Int)=n:=by rw[HG.2]
    push_cast at this;rw[this];simp;omega
   go_upto_region 1 with fail;go_quiet (fail);have K2:=af (K1.2.1.drewN nq);have c0:(wr.drewN nq).cell? ⟨A.cb,0,N_⟩=S_ (i_ l_ G.w):=c0;have c1:(wr.drewN nq).cell? ⟨A.cb,1,N_⟩=S_ (i_ l_ G.h):=c1;generalize wr.drewN nq=w2 at*;have SC:=af fun W=>VQ G.w G.h j W HG.1.w1 HG.1.w2 HG.1.h1 HG.1.h2 (by rw[HG.2];exact hlt);obtain⟨sx,sy⟩:=VP HG.1.w1 (show j<G.w*G.h by rw[HG.2];exact hlt);obtain⟨x,hx⟩:=X_ (uC G.w G.h j);obtain⟨y,hy⟩:=X_ (uB G.w G.h j);rw[hx,hy]at SC;rw[hx]at sx;rw[hy]at sy;have HXY:=dS hx hy;clear hx hy;go_upto_region 3 with fail;go_quiet (first|(go_at_call 120;exact uY (SC.out _)));have M3:=K2.drewN nq;generalize w2.drewN nq=w3 at*;have V3:=K1.1.see HG.1 K1.2.2.1 M3.sat;have c0:=V3.w_;obtain⟨p0,p1,p2,p3,p4,p5⟩:=place HG.1 sx sy;obtain⟨i,hi⟩:=X_ (y*G.w+x);obtain⟨ar,har⟩:=X_ (FP G q1.c x y);obtain⟨l1,l2,l3⟩:=Ot G q1.c x y;have ZA:=af (QT A G q1.c x y w3 HG.1 V3 sx sy);rw[har]at ZA l1 l2 l3;obtain⟨kk,hkk⟩:=X_ (Uz (!q1.c.again.getD i F_) (ar.h+ar.v+ar.d));have kb:kk<19:=by rw[←hkk];exact Y! _ _
   have RC:Hid (∀W,Calls P_ 125 #[b_ (!q1.c.again.getD i F_),i_ l_ ((ar.h:Int)+ar.v+ar.d)] W fun e w'=>e=r_ (i_ l_ kk)∧w'=W):=af (by intro W;have:=Zn (!q1.c.again.getD i F_) (ar.h+ar.v+ar.d) W;rw[hkk]at this;push_cast at this;exact this);obtain⟨b,hb⟩:=X_ (yF G i bY);have SE:Hid (qO G raw bY q1 j=if q1.c.sig.getD i F_=F_∨q1.c.seen.getD i F_=T_ then q1 else⟨{q1.c with again:=q1.c.again.set i T_},kL raw q1.s kk b⟩):=af (by unfold qO aaB;rw[HXY.1,HXY.2,hi,har,hkk,hb]);have HB:=af hb;have hii:(y:Int)*G.w+x=i:=by rw[←hi];push_cast;rfl
   have K3:=nY M3 hi hii;clear hii hi hkk V3 M3 K2 SC har hb;go_upto_region 5 with fail;simp only[K3.2.2];generalize(y:Int)*G.w=u3 at*;clear p2 p3 p4 p5;rw[K3.2.1,HG.2]at p0;have i1:(i:Int)<n:=by omega
   have V4:=K1.1.see HG.1 K1.2.2.1 K3.1.sat;have c6:=V4.s_;have c7:=V4.e_;unfold Ci at c6 c7;rw[HG.2]at c6 c7;have ci:=V4.sig i (by rw[HG.2];exact p0);have cj:=V4.seen i (by rw[HG.2];exact p0);clear V4;have RS:Hid (runM (qO G raw bY) (n-(j+1)) (j+1) (qO G raw bY q1 j)=R):=af (by have:=K1.2.2.2.2.2;rw[show n-j=(n-(j+1))+1 by omega]at this;exact this);by_cases hcon:q1.c.sig.getD i F_=F_∨q1.c.seen.getD i F_=T_
   ·have SE2:Hid (qO G raw bY q1 j=q1):=af (by rw[SE.out,aK hcon]);have FIN:Hid (je A G q1 raw eg rg H1∧Mv w H w3 H1∧q1.c.Ok G∧q1.s.Ok∧q1.s.size+32*(n-(j+1))≤80000000∧runM (qO G raw bY) (n-(j+1)) (j+1) q1=R):=af ⟨K1.1,K3.1,K1.2.2.1,K1.2.2.2.1,by have:=K1.2.2.2.2.1;omega,by have:=RS.out;rw[SE2.out]at this;exact this⟩;rcases(dB (q1.c.sig.getD i F_)).symm with hsg|hsg
    ·rw[hsg]at ci;clear hcon hsg;go_wp2_with fail;go_roundg (n-(j+1))
     case measure=>omega
     case rel=>exact⟨j+1,q1,H1,by omega,rfl,by push_cast;rfl,FIN.out⟩
    ·have k0:q1.c.seen.getD i F_=T_:=by
      rcases hcon with h|h
      ·rw[hsg]at h;cases h
      ·exact h
     rw[hsg]at ci;rw[k0]at cj;clear hcon hsg k0;go_wp2_with fail;go_roundg (n-(j+1))
     case measure=>omega
     case rel=>exact⟨j+1,q1,H1,by omega,rfl,by push_cast;rfl,FIN.out⟩
   ·have hsg:q1.c.sig.getD i F_=T_:=by
     rcases(dB (q1.c.sig.getD i F_))with h|h
     ·exact h
     ·exact absurd (.inl h) hcon
    have k0:q1.c.seen.getD i F_=F_:=by
     rcases(dB (q1.c.seen.getD i F_))with h|h
     ·exact absurd (.inr h) hcon
     ·exact h
    rw[hsg]at ci;rw[k0]at cj;have SE2:Hid (qO G raw bY q1 j=⟨{q1.c with again:=q1.c.again.set i T_},kL raw q1.s kk b⟩):=af (by rw[SE.out,aJ hcon]);clear hcon hsg k0;have MG:Hid (∀W,Mv w H W H1→Calls P_ 122 #[p_ (S_ ⟨A.cb,0,N_⟩),i_ l_ i,i_ l_ bY,i_ l_ kk] W fun e w'=>e=r_ (i_ l_ b)∧∃H',je A G ⟨q1.c,kL raw q1.s kk b⟩ raw eg rg H'∧Mv W H1 w' H'):=af (by intro W m;have:=U5 A G q1 raw eg rg i bY kk H1 W HG.1 K1.2.2.1 K1.1 m.sat K1.2.2.2.1 (by have:=K1.2.2.2.2.1;omega) (by rw[HG.2];exact p0) hp kb;rw[HB.out]at this;exact this);go_upto_region 7 with(go_at_call 124;refine ZA.out.mono ?_;rintro e w4 ⟨rfl,dr⟩;have K4:=af (dr.mv K3.out.1);clear dr);have V5:=K1.1.see HG.1 K1.2.2.1 K4.sat;have c8:=V5.a_;unfold Ci at c8;rw[HG.2]at c8;have ck:=V5.again i (by rw[HG.2];exact p0);clear V5 c6 c7 ci cj c0;generalize q1.c.again.getD i F_=ag at*;go_upto_region 8 with(first
     |(go_at_call 125;refine(RC.out _).mono ?_;rintro e w' ⟨rfl,rfl⟩)
     |(go_at_call 122;refine(MG.out _ K4.out).mono ?_;rintro e w5 ⟨rfl,H2,h2,m2⟩;have K5:=dS h2 (K4.out.trans m2);clear h2 m2))
    have V6:=K5.1.see HG.1 K1.2.2.1 K5.2.sat;have c8:=V6.a_;unfold Ci at c8;rw[HG.2]at c8;have ck:=V6.again i (by rw[HG.2];exact p0);have fk:=(K5.1.frozen K5.2.sat i).2.2.2.1;obtain⟨H3,r3,m3⟩:=K5.1.ad9 K5.2 i T_;have K6:=dS r3 m3;clear V6 r3 m3;generalize(CS.c ⟨q1.c,kL raw q1.s kk b⟩).again.getD i F_=ag2 at*;go_wp2_with fail;go_roundg (n-(j+1))
    case measure=>omega
    case rel=>
     refine⟨j+1,_,H3,by omega,rfl,by push_cast;rfl,K6.1,K6.2,⟨K1.2.2.1.sig,K1.2.2.1.seen,by simpa using K1.2.2.1.again⟩,AZ K1.2.2.2.1 kb b,?_,?_⟩
     ·have:=Bj (raw:=raw) K1.2.2.2.1 (k:=kk) kb b;have:=K1.2.2.2.2.1;simp only;omega
     ·have:=RS.out;rw[SE2.out]at this;exact this
  ·have d1:decide ((j:Int)<G.w*G.h)=F_:=by
    have:((G.w*G.h:Nat):Int)=n:=by rw[HG.2]
    push_cast at this;rw[this];simp;omega
   go_upto_region 1 with fail;go_quiet (fail);have M2:=af (K1.2.1.drewN nq);go_wp2_with fail;have eR:R=q1:=by have:=K1.2.2.2.2.2;rw[show n-j=0 by omega]at this;exact this.symm
   exact dm (bH rfl _ _ _) rfl ⟨rfl,H1,by rw[eR];exact K1.1,M2.out⟩
theorem FH{G:GeoM}{c:vO}{x y:Nat}(j:Nat)(hj:j<4)(h:FK G c x (y+j)=F_):BZ G c x y=F_:=by unfold BZ;have e:((List.range 4).all fun j=>FK G c x (y+j))=F_:=List.all_eq_false.2 ⟨j,lS.2 hj,by rw[h];decide⟩;rw[e];simp
theorem XM{G:GeoM}{c:vO}{x y:Nat}(h4:y+4≤G.h)(h:∀j,j<4→FK G c x (y+j)=T_):BZ G c x y=T_:=by unfold BZ;have e:((List.range 4).all fun j=>FK G c x (y+j))=T_:=tV.2 fun j hj=>h j (lS.1 hj);rw[e,aQ h4];rfl
theorem ado(A:oP)(G:GeoM)(c:vO)(x y:Nat)(w:World)(hg:G.Ok)(hv:Cf w A G c)(hx:x<G.w)(hy:y<G.h):Calls P_ 134 #[p_ (S_ ⟨A.cb,0,N_⟩),i_ l_ x,i_ l_ y] w fun e w'=>e=r_ (b_ (BZ G c x y))∧oO w w':=by
 have c1:=hv.h_;have hh2:=hg.h2;by_cases h4:y+4≤G.h
 ·have d1:decide ((G.h:Int)-y<4)=F_:=by simp;omega
  obtain⟨R,hR⟩:=X_ (BZ G c x y);rw[hR];have K0:=zO hg hv hR h4;clear hv hg hR;go_enter Tryz.func134,Tryz.ntmps134;go_wp2_with fail;go_loopg [7] 4 (fun m s7 wx=>∃j:Nat,j≤4∧m=4-j∧s7=i_ l_ j∧oO w wx∧∀k,k<j→FK G c x (y+k)=T_)
  case atStart=>exact⟨0,by omega,rfl,rfl,oO.refl w,fun k hk=>by omega⟩
  case round=>
   obtain⟨j,hj,rfl,rfl,dr,hall⟩:=hrel;have KD:=dS dr hall;clear dr hall;by_cases hlt:j<4
   ·have d2:decide ((j:Int)<4)=T_:=by simp;omega
    obtain⟨yj,hyj⟩:=X_ (y+j);have ej:(y:Int)+j=yj:=by omega
    have sy:yj<G.h:=by omega
    have V:=KD.1.see K0.2.1;have c0:=V.w_;obtain⟨p0,p1,p2,p3,p4,p5⟩:=place K0.1 hx sy;obtain⟨i,hi⟩:=X_ (yj*G.w+x);have hii:(yj:Int)*G.w+x=i:=by rw[←hi];push_cast;rfl
    have B1:Hid (FK G c x (y+j)=(!c.sig.getD i F_ && (!c.seen.getD i F_ && decide (Bo G c x yj=0)))):=af (by unfold FK;rw[hyj,hi]);have c6:=V.s_;have c7:=V.e_;unfold Ci at c6 c7;have ci:=V.sig i (by rw[←hi];exact p0);have cj:=V.seen i (by rw[←hi];exact p0);obtain⟨kk,hkk⟩:=X_ (Bo G c x yj);have ZA:=af (Ov A G c x yj wr K0.1 V hx sy);rw[hkk]at ZA B1;have HI:=af hii;rw[hi]at p0;clear hi hii hkk V hyj;go_upto_region 7 with fail;simp only[HI.out];generalize(yj:Int)*G.w=u3 at*;clear p2 p3 p4 p5 c0 HI;obtain⟨n,hn⟩:=X_ (G.w*G.h);rw[hn]at c6 c7 p0 p1;have i1:(i:Int)<n:=by omega
    clear hn;rcases(dB (c.sig.getD i F_))with hsg|hsg
    ·have RF:Hid (R=F_):=af (by rw[←K0.2.2.1];exact FH j hlt (by rw[B1.out,hsg];rfl));rw[hsg]at ci;clear hsg;go_wp2_with fail;go_ret;exact⟨by rw[RF.out];rfl,KD.1⟩
    ·rcases(dB (c.seen.getD i F_))with hsn|hsn
     ·have RF:Hid (R=F_):=af (by rw[←K0.2.2.1];exact FH j hlt (by rw[B1.out,hsn];simp));rw[hsg]at ci;rw[hsn]at cj;clear hsg hsn;go_wp2_with fail;go_ret;exact⟨by rw[RF.out];rfl,KD.1⟩
     ·by_cases hk0:kk=0
      ·have d5:((kk:Int)==0)=T_:=by rw[hk0];rfl
       have d6:(kk:Int)=0:=by omega
       have BT:Hid (∀k,k<j+1→FK G c x (y+k)=T_):=af (by
        intro k hk;by_cases e:k=j
        ·rw[e,B1.out,hsg,hsn,aQ hk0];rfl
        ·exact KD.2 k (by omega))
       rw[hsg]at ci;rw[hsn]at cj;have HK:=af hk0;clear hsg hsn hk0;go_wp2_with (go_at_call 121;refine ZA.out.mono ?_;rintro e w4 ⟨rfl,dr⟩;have D4:=af (KD.out.1.trans dr);clear dr);go_roundg (4-(j+1))
       case measure=>omega
       case rel=>exact⟨j+1,by omega,rfl,by push_cast;rfl,D4.out,BT.out⟩
      ·have d5:((kk:Int)==0)=F_:=bF.2 (by omega);have d6:¬((kk:Int)=0):=by omega
       have RF:Hid (R=F_):=af (by rw[←K0.2.2.1];exact FH j hlt (by rw[B1.out,aW hk0];simp));rw[hsg]at ci;rw[hsn]at cj;clear hsg hsn hk0;go_wp2_with (go_at_call 121;refine ZA.out.mono ?_;rintro e w4 ⟨rfl,dr⟩;have D4:=af (KD.out.1.trans dr);clear dr);go_ret;exact⟨by rw[RF.out];rfl,D4.out⟩
   ·have d2:decide ((j:Int)<4)=F_:=by simp;omega
    have RT:Hid (R=T_):=af (by rw[←K0.2.2.1];exact XM K0.2.2.2 fun k hk=>KD.2 k (by omega));go_wp2_with fail;go_ret;exact⟨by rw[RT.out];rfl,KD.1⟩
 ·have d1:decide ((G.h:Int)-y<4)=T_:=by simp;omega
  have e:BZ G c x y=F_:=by unfold BZ;rw[aW h4];rfl
  rw[e];clear e hv hg h4;go_enter Tryz.func134,Tryz.ntmps134;go_wp2_with fail;go_ret;exact⟨rfl,oO.refl w⟩
def Qj(b:Nat→Nat)(k:Nat):Nat:=if k≤0∧b 0=1 then 0 else if k≤1∧b 1=1 then 1 else if k≤2∧b 2=1 then 2 else if k≤3∧b 3=1 then 3 else 4
theorem acY(b:Nat→Nat):Qj b 4=4:=by unfold Qj;simp
theorem acX(b:Nat→Nat)(k:Nat)(hk:k<4):Qj b k=if b k=1 then k else Qj b (k+1):=by unfold Qj;rcases(show k=0∨k=1∨k=2∨k=3 by omega)with rfl|rfl|rfl|rfl<;>simp
theorem acW(G:GeoM)(x y bY:Nat):Qj (fun j=>yF G ((y+j)*G.w+x) bY) 0=firstM G x y bY:=by unfold Qj firstM;simp
theorem ac2(G:GeoM)(x y bY:Nat):firstM G x y bY≤4:=by
 unfold firstM
 repeat' split
 all_goals omega
theorem ac1(f:Nat)(h:f<4):bits .and l_ ((f:Int)/2) 1=((f/2:Nat):Int)∧bits .and l_ (f:Int) 1=((f%2:Nat):Int):=by
 constructor
 ·rw[yY];omega
 ·rw[yY];omega
theorem aij(A:oP)(G:GeoM)(q:CS)(raw:Bool)(eg rg x y bY:Nat)(H:List HB)(w:World)(hg:G.Ok)(hc:q.c.Ok G)(h:je A G q raw eg rg H)(hs:Sat w H)(hq:q.s.Ok)(hz:q.s.size+192≤80000000)(hp:bY≤40)(hx:x<G.w)(hy:y<G.h):Calls P_ 126 #[p_ (S_ ⟨A.cb,0,N_⟩),i_ l_ x,i_ l_ y,i_ l_ bY] w fun e w'=>e=r_ (t_ #[])∧∃H',je A G (Oc G raw bY y q x) raw eg rg H'∧Mv w H w' H':=by
 have hw2:=hg.w2;have hh2:=hg.h2;obtain⟨R,hR⟩:=X_ (Oc G raw bY y q x);rw[hR];have BA:=af (ado A G q.c x y w hg (h.see hg hc hs) hx hy);have K0:=NU h (Mv.refl hs) hc hq hz hR;have HG:=af hg;clear h hs hc hq hz hR hg;obtain⟨bl,hbl⟩:=X_ (BZ G q.c x y);rw[hbl]at BA;have HBL:=af hbl;clear hbl;go_enter Tryz.func126,Tryz.ntmps126;go_upto_if 15 with(go_at_call 134;refine BA.out.mono ?_;rintro e w1 ⟨rfl,dr⟩;have D1:=af dr;clear dr);have M1:=D1.mv K0.2.1;have V1:=K0.1.see HG K0.2.2.1 M1.sat;have c0:=V1.w_;have c4:=V1.m_;unfold Ci at c4;have K1:=af M1;replace V1:=af V1;clear M1 D1 BA;go_cut [8]from 9 (fun s8 wx=>∃(j:Nat) (q1:CS) (H1:List HB),s8=i_ l_ j∧j≤4∧je A G q1 raw eg rg H1∧Mv w H wx H1∧q1.c.Ok G∧q1.s.Ok∧q1.s.size+128≤80000000∧uT G raw x y bY j q1=R)
 case first=>
  cases bl with
  |false=>have CR:Hid (uT G raw x y bY 0 q=R):=af (by rw[←K0.2.2.2.2.2];unfold Oc;rw[HBL.out];rfl);go_wp2_with fail;go_meet;exact⟨0,q,H,rfl,by omega,K0.1,K1.out,K0.2.2.1,K0.2.2.2.1,by have:=K0.2.2.2.2.1;omega,CR.out⟩
  |true=>
   have hy4:y+4≤G.h:=by have:=HBL.out;unfold BZ at this;simp only[dO,jF]at this;exact this.1
   obtain⟨bb,hbb⟩:∃bb:Nat→Nat,bb=fun j=>yF G ((y+j)*G.w+x) bY:=⟨_,rfl⟩;have HBB:=af hbb;clear hbb;go_wp2_with fail;go_loopg [9,10] 4 (fun m s9 s10 wx=>∃k:Nat,k≤4∧m=k∧s10=i_ l_ ((k:Int)-1)∧s9=i_ l_ (Qj bb k:Nat)∧oO w1 wx)
   case atStart=>exact⟨4,by omega,rfl,rfl,by rw[acY];rfl,oO.refl w1⟩
   case round=>
    obtain⟨k,hk,rfl,rfl,rfl,dr⟩:=hrel;have KD:=af dr;clear dr;by_cases hk0:gk=0
    ·subst hk0;obtain⟨f,hf⟩:=X_ (Qj bb 0);have hfe:f=firstM G x y bY:=by rw[←hf,HBB.out,acW]
     have f4:f≤4:=by rw[hfe];exact ac2 G x y bY
     simp only[hf];have HF:=af hfe;clear hf hfe;have K2:=af (KD.mv K1.out);have O0:Hid (∀W,Calls P_ 54 #[b_ F_] W fun e w'=>e=r_ (i_ l_ 0)∧w'=W):=af fun W=>one_any F_ W;have O1:Hid (∀W,Calls P_ 54 #[b_ T_] W fun e w'=>e=r_ (i_ l_ 1)∧w'=W):=af fun W=>one_any T_ W;go_upto_region 8 with fail;by_cases hf4:f=4
     ·have CR:Hid (R=⟨q.c,kL raw q.s 17 0⟩):=af (by rw[←K0.2.2.2.2.2];unfold Oc;rw[HBL.out,←HF.out,aK hf4];rfl);have d7:decide ((f:Int)<4)=F_:=by simp;omega
      have B1:Hid (Calls P_ 127 #[p_ (S_ ⟨A.cb,0,N_⟩),i_ l_ 17,i_ l_ 0] wr fun e w'=>e=r_ (i_ l_ 0)∧∃H',je A G ⟨q.c,kL raw q.s 17 0⟩ raw eg rg H'∧Mv wr H w' H'):=af (Dk A G q raw eg rg 17 0 H wr K0.1 K2.sat K0.2.2.2.1 (by have:=K0.2.2.2.2.1;omega) (by decide) (by decide));clear hf4;go_wp2_with (first
       |(go_at_call 54;(with_reducible refine(O0.out _).mono ?_);rintro e v ⟨rfl,rfl⟩)
       |(go_at_call 127;(with_reducible refine B1.out.mono ?_);rintro e w3 ⟨rfl,H3,h3,m3⟩;have K3:=dS h3 (K2.out.trans m3);clear h3 m3))
      exact dU (bH rfl _ _ _) rfl ⟨rfl,H3,by rw[CR.out];exact K3.1,K3.2⟩
     ·have fl4:f<4:=by omega
      have d7:decide ((f:Int)<4)=T_:=by simp;omega
      obtain⟨ea,eb⟩:=ac1 f fl4;obtain⟨fh,hfh⟩:=X_ (f/2);obtain⟨fl,hfl⟩:=X_ (f%2);rw[hfh]at ea;rw[hfl]at eb;have es:2*(fh:Int)+fl=f:=by omega
      obtain⟨yf,hyf⟩:=X_ (y+f);have ey:(y:Int)+f=yf:=by omega
      have sy:yf<G.h:=by omega
      have hb1:fh≤1:=by omega
      have hb2:fl≤1:=by omega
      obtain⟨q2,hq2⟩:∃q2:CS,(⟨q.c,kL raw (kL raw (kL raw q.s 17 1) 18 fh) 18 fl⟩:CS)=q2:=⟨_,rfl⟩;have CR:Hid (R=uT G raw x y bY (f+1) (CY G raw q2 x yf)):=af (by rw[←K0.2.2.2.2.2,←hq2];unfold Oc;rw[HBL.out,←HF.out,aJ hf4,hfh,hfl,hyf];rfl);have o1:=AZ (raw:=raw) K0.2.2.2.1 (k:=17) (by decide) 1;have o2:=AZ (raw:=raw) o1 (k:=18) (by decide) fh;have o3:=AZ (raw:=raw) o2 (k:=18) (by decide) fl;have z1:=Bj (raw:=raw) K0.2.2.2.1 (k:=17) (by decide) 1;have z2:=Bj (raw:=raw) o1 (k:=18) (by decide) fh;have z3:=Bj (raw:=raw) o2 (k:=18) (by decide) fl;have zz:=K0.2.2.2.2.1;have QO:Hid (q2.c.Ok G∧q2.s.Ok∧q2.s.size≤q.s.size+48):=af (by rw[←hq2];exact⟨K0.2.2.1,o3,by simp only;omega⟩);have B1:Hid (Calls P_ 127 #[p_ (S_ ⟨A.cb,0,N_⟩),i_ l_ 17,i_ l_ 1] wr fun e w'=>e=r_ (i_ l_ 1)∧∃H',je A G ⟨q.c,kL raw q.s 17 1⟩ raw eg rg H'∧Mv wr H w' H'):=af (Dk A G q raw eg rg 17 1 H wr K0.1 K2.sat K0.2.2.2.1 (by omega) (by decide) (by decide));have B2:Hid (∀W HH,je A G ⟨q.c,kL raw q.s 17 1⟩ raw eg rg HH→Sat W HH→Calls P_ 127 #[p_ (S_ ⟨A.cb,0,N_⟩),i_ l_ 18,i_ l_ fh] W fun e w'=>e=r_ (i_ l_ fh)∧∃H',je A G ⟨q.c,kL raw (kL raw q.s 17 1) 18 fh⟩ raw eg rg H'∧Mv W HH w' H'):=af fun W HH h1 h2=>Dk A G ⟨q.c,kL raw q.s 17 1⟩ raw eg rg 18 fh HH W h1 h2 o1 (by simp only;omega) (by decide) hb1;have B3:Hid (∀W HH,je A G ⟨q.c,kL raw (kL raw q.s 17 1) 18 fh⟩ raw eg rg HH→Sat W HH→Calls P_ 127 #[p_ (S_ ⟨A.cb,0,N_⟩),i_ l_ 18,i_ l_ fl] W fun e w'=>e=r_ (i_ l_ fl)∧∃H',je A G q2 raw eg rg H'∧Mv W HH w' H'):=af fun W HH h1 h2=>by have:=Dk A G ⟨q.c,kL raw (kL raw q.s 17 1) 18 fh⟩ raw eg rg 18 fl HH W h1 h2 o2 (by simp only;omega) (by decide) hb2;simp only[hq2]at this;exact this
      have SG:Hid (∀W HH,je A G q2 raw eg rg HH→Sat W HH→Calls P_ 123 #[p_ (S_ ⟨A.cb,0,N_⟩),i_ l_ x,i_ l_ yf] W fun e w'=>e=r_ (t_ #[])∧∃H',je A G (CY G raw q2 x yf) raw eg rg H'∧Mv W HH w' H'):=af fun W HH h1 h2=>QH A G q2 raw eg rg x yf HH W HG QO.1 h1 h2 QO.2.1 (by have:=QO.2.2;omega) hx sy;have ZQ:Hid (q.s.size+192≤80000000):=af zz;clear hf4 hfh hfl hyf hq2 o1 o2 o3 z1 z2 z3 zz;go_upto_region 10 with(first
       |(go_at_call 54;(with_reducible refine(O1.out _).mono ?_);rintro e v ⟨rfl,rfl⟩)
       |(go_at_call 127;(with_reducible refine B1.out.mono ?_);rintro e w3 ⟨rfl,H3,h3,m3⟩;have K3:=dS h3 (K2.out.trans m3);clear h3 m3)
       |(go_at_call 127;(with_reducible refine(B2.out _ _ K3.out.1 K3.out.2.sat).mono ?_);rintro e w4 ⟨rfl,H4,h4,m4⟩;have K4:=dS h4 (K3.out.2.trans m4);clear h4 m4)
       |(go_at_call 127;(with_reducible refine(B3.out _ _ K4.out.1 K4.out.2.sat).mono ?_);rintro e w5 ⟨rfl,H5,h5,m5⟩;have K5:=dS h5 (K4.out.2.trans m5);clear h5 m5))
      have t0:=(K5.1.tail K5.2.sat QO.2.1).1;go_wp2_with (go_at_call 123;refine(SG.out _ _ K5.out.1 K5.out.2.sat).mono ?_;rintro e w6 ⟨rfl,H6,h6,m6⟩;have K6:=dS h6 (K5.out.2.trans m6);clear h6 m6);go_meet;have e2:=Jk (raw:=raw) (G:=G) q2 x yf;have e3:=(e2.grow QO.2.1).2.2;exact⟨f+1,_,H6,by push_cast;rfl,by omega,K6.1,K6.2,O3 QO.1 x yf,e2.ok QO.2.1,by have:=QO.2.2;have:=ZQ.out;omega,CR.symm⟩
    ·obtain⟨k,rfl⟩:∃k,gk=k+1:=⟨gk-1,by omega⟩;have e:((k+1:Nat):Int)-1=(k:Int):=by omega
     simp only[e];clear e;obtain⟨yk,hyk⟩:=X_ (y+k);have ek:(y:Int)+k=yk:=by omega
     have sy:yk<G.h:=by omega
     have V:=KD.see V1.out;have c0:=V.w_;have c4:=V.m_;unfold Ci at c4;obtain⟨p0,p1,p2,p3,p4,p5⟩:=place HG hx sy;have cm:=V.yl (yk*G.w+x) p0;obtain⟨m,hm⟩:=X_ (G.yl.getD (yk*G.w+x) 0);have mb:m<1073741824:=by rw[←hm];exact ae2 HG _
     obtain⟨b,hb⟩:=X_ (bb k);have hb2:b=m/2^bY%2:=by rw[←hb,HBB.out,←hm,←hyk];rfl
     have EV:bits .and l_ ((m:Int)/2^bY) 1=(b:Int):=by rw[yY,hb2];push_cast;rfl
     rw[hm]at cm;have FSz:Hid (Qj bb k=if b=1 then k else Qj bb (k+1)):=af (by rw[acX bb k (by omega),hb]);clear V hyk hm hb hb2;go_upto_region 6 with fail;go_quiet (fail);have D2:=af (KD.trans ⟨nq,rfl⟩);clear p2 p3 p4 p5 EV cm c4 c0 ek;by_cases hb1:b=1
     ·have d6:((b:Int)==1)=T_:=by rw[hb1];rfl
      have FS2:=af (FSz.trans (aK hb1));clear hb1;go_wp2_with fail;go_roundg k
      case measure=>omega
      case rel=>exact⟨k,by omega,rfl,rfl,by rw[FS2.out],D2.out⟩
     ·have d6:((b:Int)==1)=F_:=bF.2 (by omega);have FS2:=af (FSz.trans (aJ hb1));clear hb1;go_wp2_with fail;go_roundg k
      case measure=>omega
      case rel=>exact⟨k,by omega,rfl,rfl,by rw[FS2.out],D2.out⟩
 obtain⟨j0,q0,H0,rfl,hj0,r0,m0,oc,os,zs,cr⟩:=hcut;have KC:=NU r0 m0 oc os zs cr;clear r0 m0 oc os zs cr c0 c4;go_wp2_with fail;go_loopg [8] (4-j0) (fun m s8 wx=>∃(j:Nat) (q1:CS) (H1:List HB),j≤4∧m=4-j∧s8=i_ l_ j∧je A G q1 raw eg rg H1∧Mv w H wx H1∧q1.c.Ok G∧q1.s.Ok∧q1.s.size+32*(4-j)≤80000000∧uT G raw x y bY j q1=R)
 case atStart=>exact⟨j0,q0,H0,hj0,rfl,rfl,KC.1,KC.2.1,KC.2.2.1,KC.2.2.2.1,by have:=KC.2.2.2.2.1;omega,KC.2.2.2.2.2⟩
 case round=>
  obtain⟨j,q1,H1,hj,rfl,rfl,h1,m1,hc1,hq1,hz1,hR1⟩:=hrel;have V:=h1.see HG hc1 m1.sat;have c1:=V.h_;have KV:=af V;have K2:=NU h1 m1 hc1 hq1 hz1 hR1;clear V h1 m1 hc1 hq1 hz1 hR1 KC;by_cases hlt:j<4
  ·have d1:decide ((j:Int)<4)=T_:=by simp;omega
   obtain⟨yj,hyj⟩:=X_ (y+j);have ej:(y:Int)+j=yj:=by omega
   by_cases hlt2:yj<G.h
   ·have d2:decide ((yj:Int)<G.h)=T_:=by simp;omega
    have V:=KV.out;have c0:=V.w_;obtain⟨p0,p1,p2,p3,p4,p5⟩:=place HG hx hlt2;obtain⟨i,hi⟩:=X_ (yj*G.w+x);have hii:(yj:Int)*G.w+x=i:=by rw[←hi];push_cast;rfl
    obtain⟨kk,hkk⟩:=X_ (Bo G q1.c x yj);have kb:kk≤8:=by rw[←hkk];exact JK G q1.c x yj
    have ZA:=af (Ov A G q1.c x yj wr HG V hx hlt2);rw[hkk]at ZA;have SE:Hid (zU G raw x y bY q1 j=if q1.c.sig.getD i F_=T_∨q1.c.seen.getD i F_=T_ then q1 else Bq G raw q1 x yj bY kk):=af (by unfold zU;rw[hyj,hi,hkk]);have RS:Hid (uT G raw x y bY (j+1) (zU G raw x y bY q1 j)=R):=af (by have:=K2.2.2.2.2.2;unfold uT at this⊢;rw[show min 4 (G.h-y)-j=(min 4 (G.h-y)-(j+1))+1 by omega]at this;exact this);obtain⟨n,hn⟩:=X_ (G.w*G.h);have HN:=nY hn hi hii;rw[hi,hn]at p0;rw[hn]at p1;have i1:(i:Int)<n:=by omega
    clear hii hi hkk V hn hyj;go_upto_region 17 with fail;simp only[HN.2.2];generalize(yj:Int)*G.w=u3 at*;clear p2 p3 p4 p5 c0;have V4:=KV.out;have c6:=V4.s_;have c7:=V4.e_;unfold Ci at c6 c7;rw[HN.1]at c6 c7;have ci:=V4.sig i (by rw[HN.1];exact p0);have cj:=V4.seen i (by rw[HN.1];exact p0);clear V4;by_cases hcon:q1.c.sig.getD i F_=T_∨q1.c.seen.getD i F_=T_
    ·have SE2:Hid (zU G raw x y bY q1 j=q1):=af (by rw[SE.out,aK hcon]);have FIN:Hid (je A G q1 raw eg rg H1∧Mv w H wr H1∧q1.c.Ok G∧q1.s.Ok∧q1.s.size+32*(4-(j+1))≤80000000∧uT G raw x y bY (j+1) q1=R):=af ⟨K2.1,K2.2.1,K2.2.2.1,K2.2.2.2.1,by have:=K2.2.2.2.2.1;omega,by have:=RS.out;rw[SE2.out]at this;exact this⟩;rcases(dB (q1.c.sig.getD i F_))with hsg|hsg
     ·rw[hsg]at ci;clear hcon hsg;go_wp2_with fail;go_roundg (4-(j+1))
      case measure=>omega
      case rel=>exact⟨j+1,q1,H1,by omega,rfl,by push_cast;rfl,FIN.out⟩
     ·have k0:q1.c.seen.getD i F_=T_:=by
       rcases hcon with h|h
       ·rw[hsg]at h;cases h
       ·exact h
      rw[hsg]at ci;rw[k0]at cj;clear hcon hsg k0;go_wp2_with fail;go_roundg (4-(j+1))
      case measure=>omega
      case rel=>exact⟨j+1,q1,H1,by omega,rfl,by push_cast;rfl,FIN.out⟩
    ·have hsg:q1.c.sig.getD i F_=F_:=by
      rcases(dB (q1.c.sig.getD i F_))with h|h
      ·exact absurd (.inl h) hcon
      ·exact h
     have k0:q1.c.seen.getD i F_=F_:=by
      rcases(dB (q1.c.seen.getD i F_))with h|h
      ·exact absurd (.inr h) hcon
      ·exact h
     rw[hsg]at ci;rw[k0]at cj;have SE2:Hid (zU G raw x y bY q1 j=Bq G raw q1 x yj bY kk):=af (by rw[SE.out,aJ hcon]);clear hcon hsg k0;obtain⟨b,hb⟩:=X_ (yF G i bY);have MG:Hid (∀W,Mv w H W H1→Calls P_ 122 #[p_ (S_ ⟨A.cb,0,N_⟩),i_ l_ i,i_ l_ bY,i_ l_ kk] W fun e w'=>e=r_ (i_ l_ b)∧∃H',je A G ⟨q1.c,kL raw q1.s kk b⟩ raw eg rg H'∧Mv W H1 w' H'):=af (by intro W m;have:=U5 A G q1 raw eg rg i bY kk H1 W HG K2.2.2.1 K2.1 m.sat K2.2.2.2.1 (by have:=K2.2.2.2.2.1;omega) (by rw[HN.1];exact p0) hp (by omega);rw[hb]at this;exact this);have TM:Hid (Bq G raw q1 x yj bY kk=if b=1 then CY G raw ⟨q1.c,kL raw q1.s kk b⟩ x yj else⟨q1.c,kL raw q1.s kk b⟩):=af (by unfold Bq;rw[HN.2.1,hb]);obtain⟨qa,hqa⟩:∃qa:CS,(⟨q1.c,kL raw q1.s kk b⟩:CS)=qa:=⟨_,rfl⟩;have QA:Hid (qa.c.Ok G∧qa.s.Ok∧qa.s.size≤80000000):=af (by rw[←hqa];exact⟨K2.2.2.1,AZ K2.2.2.2.1 (by omega) b,by have:=Bj (raw:=raw) K2.2.2.2.1 (k:=kk) (by omega) b;have:=K2.2.2.2.2.1;simp only;omega⟩);rw[hqa]at TM MG;have FIN:Hid (∀q2,Bq G raw q1 x yj bY kk=q2→q2.c.Ok G∧q2.s.Ok∧q2.s.size+32*(4-(j+1))≤80000000∧uT G raw x y bY (j+1) q2=R):=af (by intro q2 h2;have e1:=Oe (raw:=raw) K2.2.2.1 x yj bY kk;have e2:=Il (raw:=raw) (G:=G) q1 x yj bY (k:=kk) (by omega);have e3:=e2.ok K2.2.2.2.1;have e4:=(e2.grow K2.2.2.2.1).2.2;have e5:=RS.out;rw[SE2.out]at e5;rw[h2]at e1 e3 e4 e5;exact⟨e1,e3,by have:=K2.2.2.2.2.1;omega,e5⟩);by_cases hb1:b=1
     ·have d6:((b:Int)==1)=T_:=by rw[hb1];rfl
      have TM2:=af (TM.trans (aK hb1));have HB:=af hb1;clear hb hb1 hqa;go_wp2_with (first
       |(go_at_call 121;refine ZA.out.mono ?_;rintro e w4 ⟨rfl,dr⟩;have K4:=af (dr.mv K2.out.2.1);clear dr)
       |(go_at_call 122;refine(MG.out _ K4.out).mono ?_;rintro e w5 ⟨rfl,H2,h2,m2⟩;have K5:=dS h2 (K4.out.trans m2);clear h2 m2)
       |(go_at_call 123;refine(QH A G qa raw eg rg x yj H2 _ HG.out QA.out.1 K5.out.1 K5.out.2.sat QA.out.2.1 QA.out.2.2 hx hlt2).mono ?_;rintro e w6 ⟨rfl,H3,h3,m3⟩;have K6:=dS h3 (K5.out.2.trans m3);clear h3 m3))
      go_roundg (4-(j+1))
      case measure=>omega
      case rel=>obtain⟨f1,f2,f3,f4⟩:=FIN _ TM2.out;exact⟨j+1,_,H3,by omega,rfl,by push_cast;rfl,K6.1,K6.2,f1,f2,f3,f4⟩
     ·have d6:((b:Int)==1)=F_:=bF.2 (by omega);have TM2:=af (TM.trans (aJ hb1));have HB:=af hb1;clear hb hb1 hqa;go_wp2_with (first
       |(go_at_call 121;refine ZA.out.mono ?_;rintro e w4 ⟨rfl,dr⟩;have K4:=af (dr.mv K2.out.2.1);clear dr)
       |(go_at_call 122;refine(MG.out _ K4.out).mono ?_;rintro e w5 ⟨rfl,H2,h2,m2⟩;have K5:=dS h2 (K4.out.trans m2);clear h2 m2))
      go_roundg (4-(j+1))
      case measure=>omega
      case rel=>obtain⟨f1,f2,f3,f4⟩:=FIN _ TM2.out;exact⟨j+1,_,H2,by omega,rfl,by push_cast;rfl,K5.1,K5.2,f1,f2,f3,f4⟩
   ·have d2:decide ((yj:Int)<G.h)=F_:=by simp;omega
    have eR:Hid (R=q1):=af (by have:=K2.2.2.2.2.2;unfold uT at this;rw[show min 4 (G.h-y)-j=0 by omega]at this;exact this.symm);clear hyj;go_wp2_with fail;exact dm (bH rfl _ _ _) rfl ⟨rfl,H1,by rw[eR.out];exact K2.1,K2.2.1⟩
  ·have d1:decide ((j:Int)<4)=F_:=by simp;omega
   have eR:Hid (R=q1):=af (by have:=K2.2.2.2.2.2;unfold uT at this;rw[show min 4 (G.h-y)-j=0 by omega]at this;exact this.symm);go_wp2_with fail;exact dm (bH rfl _ _ _) rfl ⟨rfl,H1,by rw[eR.out];exact K2.1,K2.2.1⟩
theorem alk:∀s,s<64→(s &&& 32)=if s.testBit 5 then 32 else 0:=by decide
theorem agJ(s:Nat)(h:s≤63):bits .and l_ (s:Int) 32=if s.testBit 5 then 32 else 0:=by have h1:=Ac s 32 (by omega) (by omega);rw[alk s (by omega)]at h1;rw[show((32:Nat):Int)=32 from rfl]at h1;rw[h1];split<;>rfl
def aaR(raw:Bool):Nat→Eo→Eo
 |0,s=>s
 |k+1,s=>kL raw (aaR raw k s) 18 (1-k%2)
theorem aaQ(raw:Bool)(s:Eo):aaR raw 4 s=aiQ raw s:=rfl
theorem Ru(raw:Bool)(s:Eo):∀k,Says raw k s (aaR raw k s)
 |0=>.refl _ _
 |k+1=>.bit 18 _ (by decide) (Ru raw s k)
theorem abb(l:List Bool)(i:Nat)(h:i<l.length):(List.replicate i F_++l.drop i).set i F_=List.replicate (i+1) F_++l.drop (i+1):=by rw[dZ _ _ (by simp),ja,iI,fG h,List.set_cons_zero,rV,az];rfl
def seenAt(c:vO)(i:Nat):vO:={c with seen:=List.replicate i F_++c.seen.drop i}
theorem abd{G:GeoM}{c:vO}(h:c.Ok G){i:Nat}(hi:i≤G.w*G.h):(seenAt c i).Ok G:=⟨h.sig,by have:=h.seen;simp only[seenAt,au,ja,fH];omega,h.again⟩
theorem RV(f:CS→Nat→CS)(n k:Nat)(q:CS)(h:k<n):runM f (n-k) k q=runM f (n-(k+1)) (k+1) (f q k):=by rw[show n-k=(n-(k+1))+1 by omega];rfl
theorem TW(A:oP)(G:GeoM)(q:CS)(raw:Bool)(eg rg bY:Nat)(H:List HB)(w:World)(hg:G.Ok)(hc:q.c.Ok G)(h:je A G q raw eg rg H)(hs:Sat w H)(hq:q.s.Ok)(hz:q.s.size+(192*(G.w*((G.h+3)/4))+100)≤79000000)(hp:bY≤40):Calls P_ 103 #[p_ (S_ ⟨A.cb,0,N_⟩),i_ l_ bY] w fun e w'=>e=r_ (t_ #[])∧∃H',je A G (BP G raw bY q) raw eg rg H'∧Mv w H w' H':=by
 have hh2:=hg.h2;have hw2:=hg.w2;obtain⟨T,hT⟩:=X_ ((G.h+3)/4);rw[hT]at hz;have tb:∀t,t<T↔4*t<G.h:=by intro t;omega
 have HT:=af tb;have t16:T≤17:=by omega
 obtain⟨R1,hR1⟩:=X_ (runM (Uw G raw bY) T 0 q);have EC:Hid (BP G raw bY q=⟨{R1.c with seen:=List.replicate (G.w*G.h) F_},if G.ah.testBit 5 then aiQ raw R1.s else R1.s⟩):=af (by unfold BP;rw[hT,hR1]);have K0:=NU h (Mv.refl hs) hc hq hz hR1;have HG:=af hg;clear h hs hc hq hz hR1 hg tb hT;go_enter Tryz.func103,Tryz.ntmps103;go_wp2_with fail;go_loopg [4] T (fun m s4 wx=>∃(t:Nat) (q1:CS) (H1:List HB),t≤T∧m=T-t∧s4=i_ l_ (4*t:Nat)∧je A G q1 raw eg rg H1∧Mv w H wx H1∧q1.c.Ok G∧q1.s.Ok∧q1.s.size+(192*(G.w*(T-t))+100)≤79000000∧runM (Uw G raw bY) (T-t) t q1=R1)
 case atStart=>exact⟨0,q,H,by omega,rfl,rfl,K0.1,K0.2.1,K0.2.2.1,K0.2.2.2.1,K0.2.2.2.2.1,K0.2.2.2.2.2⟩
 case round=>
  obtain⟨t,q1,H1,ht,rfl,rfl,h1,m1,hc1,hq1,hz1,hR⟩:=hrel;have V:=h1.see HG hc1 m1.sat;have c1:=V.h_;have K1:=NU h1 m1 hc1 hq1 hz1 hR;clear V h1 m1 hc1 hq1 hz1 hR;obtain⟨y,hy⟩:=X_ (4*t);rw[hy];by_cases hlt:t<T
  ·have sy:y<G.h:=by rw[←hy];exact(HT t).1 hlt
   have d1:decide ((y:Int)<G.h)=T_:=by simp;omega
   have HY:=af hy;have yb:y≤70:=by omega
   clear hy;obtain⟨R2,hR2⟩:=X_ (Uw G raw bY q1 t);have R2e:Hid (runM (Oc G raw bY y) G.w 0 q1=R2):=af (by rw[←hR2,←HY.out];rfl);have R3e:Hid (runM (Uw G raw bY) (T-(t+1)) (t+1) R2=R1):=af (by have:=K1.2.2.2.2.2;rw[RV _ _ _ _ hlt,hR2]at this;exact this);have ZB:Hid (q1.s.size+(192*(G.w+G.w*(T-(t+1)))+100)≤79000000):=af (by have:=K1.2.2.2.2.1;rw[show T-t=(T-(t+1))+1 by omega,Nat.mul_succ]at this;omega);clear hR2;go_wp2_with fail;go_loopg [5] G.w (fun m s5 wx=>∃(x:Nat) (q2:CS) (H2:List HB),x≤G.w∧m=G.w-x∧s5=i_ l_ x∧je A G q2 raw eg rg H2∧Mv w H wx H2∧q2.c.Ok G∧q2.s.Ok∧q2.s.size+(192*((G.w-x)+G.w*(T-(t+1)))+100)≤79000000∧runM (Oc G raw bY y) (G.w-x) x q2=R2)
   case atStart=>exact⟨0,q1,H1,by omega,rfl,rfl,K1.1,K1.2.1,K1.2.2.1,K1.2.2.2.1,ZB.out,R2e.out⟩
   case round=>
    rename_i wo;obtain⟨x,q2,H2,hx,rfl,rfl,h2,m2,hc2,hq2,hz2,hR⟩:=hrel;have V:=h2.see HG hc2 m2.sat;have c0:=V.w_;have K2:=NU h2 m2 hc2 hq2 hz2 hR;clear V h2 m2 hc2 hq2 hz2 hR;by_cases hlx:x<G.w
    ·have d2:decide ((x:Int)<G.w)=T_:=by simp;omega
     have CC:=af (aij A G q2 raw eg rg x y bY H2 _ HG K2.2.2.1 K2.1 K2.2.1.sat K2.2.2.2.1 (by have:=K2.2.2.2.2.1;omega) hp hlx sy);go_wp2_with (go_at_call 126;refine CC.out.mono ?_;rintro e w3 ⟨rfl,H3,h3,m3⟩;have K3:=dS h3 (K2.out.2.1.trans m3);clear h3 m3);go_roundg (G.w-(x+1))
     case measure=>omega
     case rel=>have e2:=TV (raw:=raw) (G:=G) bY y q2 x;have e3:=(e2.grow K2.2.2.2.1).2.2;have e4:=K2.2.2.2.2.2;rw[RV _ _ _ _ hlx]at e4;exact⟨x+1,_,H3,by omega,rfl,by push_cast;rfl,K3.1,K3.2,aav K2.2.2.1 bY y x,e2.ok K2.2.2.2.1,by have:=K2.2.2.2.2.1;omega,e4⟩
    ·have d2:decide ((x:Int)<G.w)=F_:=by simp;omega
     go_wp2_with fail;go_roundg (T-(t+1))
     case measure=>omega
     case rel=>have e4:=K2.2.2.2.2.2;rw[show G.w-x=0 by omega]at e4;have e5:q2=R2:=e4;have z5:=K2.2.2.2.2.1;rw[show G.w-x=0 by omega,dH]at z5;exact⟨t+1,q2,H2,by omega,rfl,fM (Value.int l_) (by have:=HY.out;omega),K2.1,K2.2.1,K2.2.2.1,K2.2.2.2.1,z5,by rw[e5];exact R3e.out⟩
  ·have ny:¬y<G.h:=by rw[←hy];intro h;exact hlt ((HT t).2 h)
   have d1:decide ((y:Int)<G.h)=F_:=by simp;omega
   have eR:R1=q1:=by have:=K1.2.2.2.2.2;rw[show T-t=0 by omega]at this;exact this.symm
   have HE:=af eR;obtain⟨n,hn⟩:=X_ (G.w*G.h);have n4:n≤4096:=by rw[←hn];exact bZ hw2 hh2
   have HN:=af hn;clear hy eR hn;go_wp2_with fail;go_loopg [6] n (fun m s6 wx=>∃(i:Nat) (H2:List HB),i≤n∧m=n-i∧s6=i_ l_ i∧je A G ⟨seenAt q1.c i,q1.s⟩ raw eg rg H2∧Mv w H wx H2)
   case atStart=>exact⟨0,H1,by omega,rfl,rfl,K1.1,K1.2.1⟩
   case round=>
    rename_i wo;obtain⟨i,H2,hi,rfl,rfl,h2,m2⟩:=hrel;have oi:(seenAt q1.c i).Ok G:=abd K1.2.2.1 (by rw[HN.out];exact hi);have V:=h2.see HG oi m2.sat;have c7:=V.e_;unfold Ci at c7;rw[HN.out]at c7;have K2:=dS h2 m2;by_cases hli:i<n
    ·have d2:decide ((i:Int)<n)=T_:=by simp;omega
     have ci:=V.seen i (by rw[HN.out];exact hli);generalize(seenAt q1.c i).seen.getD i F_=u at ci;have fi:=(h2.frozen m2.sat i).2.2.1;obtain⟨H3,r3,m3⟩:=h2.S! m2 i F_;have K3:=dS r3 m3;clear V h2 m2 r3 m3 oi;have i1:(i:Int)<n:=by omega
     go_wp2_with fail;go_roundg (n-(i+1))
     case measure=>omega
     case rel=>have e1:=abb q1.c.seen i (by rw[K1.2.2.1.seen,HN.out];exact hli);refine⟨i+1,H3,by omega,rfl,by push_cast;rfl,?_,K3.2⟩;have:=K3.1;unfold seenAt at this⊢;simp only[e1]at this;exact this
    ·have d2:decide ((i:Int)<n)=F_:=by simp;omega
     have ei:i=n:=by omega
     have CQ:Hid (je A G ⟨{q1.c with seen:=List.replicate n F_},q1.s⟩ raw eg rg H2):=af (by
      have e1:seenAt q1.c i={q1.c with seen:=List.replicate n F_}:=by unfold seenAt;rw[ei,jq (by rw[K1.2.2.1.seen,HN.out];exact aN _),dD]
      rw[←e1];exact K2.1)
     have c3:=V.ah;have e32:=agJ G.ah HG.ah;have ZS:Hid (q1.s.size+100≤79000000):=af (by have:=K1.2.2.2.2.1;omega);clear V h2 m2 oi ei;rcases(dB (G.ah.testBit 5)).symm with ht|ht
     ·rw[ht]at e32;simp only[aI,iJ]at e32;have HTB:=af ht;clear ht;go_wp2_with fail;refine dm (bH rfl _ _ _) rfl ⟨rfl,H2,?_,K2.2⟩;rw[EC.out,HTB.out,HE.out,HN.out];exact CQ.out
     ·rw[ht]at e32;simp only[ji]at e32;have HTB:=af ht;clear ht;go_wp2_with fail;go_loopg [7] 4 (fun m s7 wx=>∃(k:Nat) (H3:List HB),k≤4∧m=4-k∧s7=i_ l_ k∧je A G ⟨{q1.c with seen:=List.replicate n F_},aaR raw k q1.s⟩ raw eg rg H3∧Mv w H wx H3)
      case atStart=>exact⟨0,H2,by omega,rfl,rfl,CQ.out,K2.2⟩
      case round=>
       rename_i wp;obtain⟨k,H3,hk,rfl,rfl,h3,m3⟩:=hrel;have K3:=dS h3 m3;clear h3 m3;by_cases hlk:k<4
       ·have d3:decide ((k:Int)<4)=T_:=by simp;omega
        obtain⟨b,hb⟩:=X_ (1-k%2);have eb:(1:Int)-k%2=(b:Int):=by omega
        have SS:=Ru raw q1.s k;have SO:=SS.ok K1.2.2.2.1;have SZ:=(SS.grow K1.2.2.2.1).2.2;have BT:Hid (Calls P_ 127 #[p_ (S_ ⟨A.cb,0,N_⟩),i_ l_ 18,i_ l_ b] _ fun e w'=>e=r_ (i_ l_ b)∧∃H',je A G ⟨{q1.c with seen:=List.replicate n F_},aaR raw (k+1) q1.s⟩ raw eg rg H'∧Mv _ H3 w' H'):=af (by have:=Dk A G ⟨{q1.c with seen:=List.replicate n F_},aaR raw k q1.s⟩ raw eg rg 18 b H3 _ K3.1 K3.2.sat SO (by have:=ZS.out;simp only;omega) (by decide) (by omega);rw[←hb]at this⊢;exact this);clear hb SS SO SZ;go_wp2_with (go_at_call 127;refine BT.out.mono ?_;rintro e w4 ⟨rfl,H4,h4,m4⟩;have K4:=dS h4 (K3.out.2.trans m4);clear h4 m4);go_roundg (4-(k+1))
        case measure=>omega
        case rel=>exact⟨k+1,H4,by omega,rfl,by push_cast;rfl,K4.1,K4.2⟩
       ·have d3:decide ((k:Int)<4)=F_:=by simp;omega
        have ek:k=4:=by omega
        have HK:=af ek;clear ek;go_wp2_with fail;refine dm (bH rfl _ _ _) rfl ⟨rfl,H3,?_,K3.2⟩;rw[EC.out,HTB.out,HE.out,HN.out];have:=K3.1;rw[HK.out,aaQ]at this;exact this
def Ie(k:Nat):Nat:=if k=0 then 4 else if k=17 then 3 else if k=18 then 46 else 0
theorem e!(k:Nat)(w:World):Calls P_ 119 #[i_ l_ k] w fun e w'=>e=r_ (i_ l_ (Ie k:Nat))∧w'=w:=by
 by_cases h0:k=0
 ·subst h0;go_enter Tryz.func119,Tryz.ntmps119;go_wp2_with fail;go_ret;exact⟨rfl,rfl⟩
 by_cases h1:k=17
 ·subst h1;go_enter Tryz.func119,Tryz.ntmps119;go_wp2_with fail;go_ret;exact⟨rfl,rfl⟩
 by_cases h2:k=18
 ·subst h2;go_enter Tryz.func119,Tryz.ntmps119;go_wp2_with fail;go_ret;exact⟨rfl,rfl⟩
 have e:Ie k=0:=by unfold Ie;rw[aJ h0,aJ h1,aJ h2]
 rw[e];have d0:((k:Int)==0)=F_:=bF.2 (by omega);have d1:((k:Int)==17)=F_:=bF.2 (by omega);have d2:((k:Int)==18)=F_:=bF.2 (by omega);have n0:¬((k:Int)=0):=by omega
 have n1:¬((k:Int)=17):=by omega
 have n2:¬((k:Int)=18):=by omega
 clear e h0 h1 h2;go_enter Tryz.func119,Tryz.ntmps119;go_wp2_with fail;go_ret;exact⟨rfl,rfl⟩
def qL(k:Nat):List CG:=(List.range 19).map fun j=>if j<k then⟨Ie j,0⟩else⟨0,0⟩
theorem TU(k:Nat)(h:k<19):(qL k)[k]?=S_ ⟨0,0⟩:=by unfold qL;rw[aV,List.getElem?_range h];simp
theorem adf(k:Nat):(qL k).set k ⟨Ie k,0⟩=qL (k+1):=by
 apply fU;intro i;unfold qL;rw[fQ];by_cases hi:i<19
 ·by_cases e:k=i
  ·subst e;rw[aK rfl,aK (by simpa using hi),aV,List.getElem?_range hi];simp
  ·rw[aJ e,aV,aV,List.getElem?_range hi];simp only[Option.map_some];congr 1;by_cases h1:i<k
   ·rw[aK h1,aK (by omega)]
   ·rw[aJ h1,aJ (by omega)]
 ·by_cases e:k=i
  ·subst e;rw[aK rfl,aJ (by simpa using hi),iQ (by simp;omega)]
  ·rw[aJ e,iQ (by simp;omega),iQ (by simp;omega)]
theorem adg:qL 19=jL:=rfl
theorem aic(k:Nat)(h:k<19):(Di (qL k)).set (k*2) (i_ l_ (Ie k:Nat))=Di (qL (k+1)):=by rw[←adf k];exact jh (fun c:CG=>[Value.int l_ c.i,i_ l_ c.Fj]) 2 (fun _=>rfl) (qL k) k ⟨0,0⟩ ⟨Ie k,0⟩ (TU k h) 0 (by omega) _ rfl
theorem Qk(w:World):Calls P_ 99 #[] w fun e w'=>e=r_ (g_ (Di jL).toArray)∧Mv w [] w' []:=by
 have hz:(#[i_ l_ 0,i_ l_ 0,i_ l_ 0,i_ l_ 0,i_ l_ 0,i_ l_ 0,i_ l_ 0,i_ l_ 0,i_ l_ 0,i_ l_ 0,i_ l_ 0,i_ l_ 0,i_ l_ 0,i_ l_ 0,i_ l_ 0,i_ l_ 0,i_ l_ 0,i_ l_ 0,i_ l_ 0,i_ l_ 0,i_ l_ 0,i_ l_ 0,i_ l_ 0,i_ l_ 0,i_ l_ 0,i_ l_ 0,i_ l_ 0,i_ l_ 0,i_ l_ 0,i_ l_ 0,i_ l_ 0,i_ l_ 0,i_ l_ 0,i_ l_ 0,i_ l_ 0,i_ l_ 0,i_ l_ 0,i_ l_ 0]:Array Value)=(Di (qL 0)).toArray:=by kernel_rfl
 have M0:=iF w 127 (Di (qL 0)).toArray;have M1:=M0.alloc 127 (Di (qL 0)).toArray;rw[jV]at M1;have B1:zh ((w.alloc (.cells (Di (qL 0)).toArray 127)).alloc (.cells (Di (qL 0)).toArray 127)) (w.heap.size+1) 127 (Di (qL 0)).toArray:=M1.blk 0 rfl;have M2:=Mv.call (H:=[_]) (R:=[⟨w.heap.size,127,(Di (qL 0)).toArray⟩]) M1 (zx (cs:=(Di (qL 0)).toArray) B1);have HB1:=af B1;have K2:=af M2;clear M0 M1 M2 B1;have HZ:=af hz;clear hz;go_enter Tryz.func99,Tryz.ntmps99;go_upto_region 1 with fail;refine wp_region_lit ?_;refine NV rfl 127 _ rfl (Di (qL 0)).toArray (by kernel_rfl) ?_;iterate 3 go_step
 rw[HZ.out];refine tK rfl 127 (.tmp 1) (.tmp 3) rfl (w.heap.size+1) (Di (qL 0)).toArray (by simp[Act.eval]) rfl 127 _ HB1 (by kernel_rfl) rfl (by kernel_rfl) ?_;generalize(((w.alloc (.cells (Di (qL 0)).toArray 127)).alloc (.cells (Di (qL 0)).toArray 127)).setRow (w.heap.size+1) (Di (qL 0)).toArray)=w1 at*;clear HZ HB1;have BG:=af fun k W=>e! k W;go_wp2_with fail;go_loopg [2] 19 (fun m s2 wx=>∃k:Nat,k≤19∧m=19-k∧s2=i_ l_ k∧Mv w [] wx ([⟨w.heap.size+1,127,(Di (qL k)).toArray⟩]++[⟨w.heap.size,127,(Di (qL 0)).toArray⟩]))
 case atStart=>exact⟨0,by omega,rfl,rfl,K2.out⟩
 case round=>
  obtain⟨k,hk,rfl,rfl,m⟩:=hrel;have KM:=af m;by_cases hlt:k<19
  ·have d1:decide ((k:Int)<19)=T_:=by simp;omega
   have d2:(k:Int)<19:=by omega
   have c1:=(((m.blk 0 rfl).cell (k*2)).trans (by simp only[iy];exact(aau (TU k hlt)).1));have f1:=(m.blk 0 rfl).frozen (k*2);have MS:=af (m.set (k*2) (i_ l_ (Ie k:Nat)));clear m;go_wp2_with (go_at_call 119;refine(BG.out _ _).mono ?_;rintro e w' ⟨rfl,rfl⟩);go_roundg (19-(k+1))
   case measure=>omega
   case rel=>refine⟨k+1,by omega,rfl,by push_cast;rfl,?_⟩;have:=MS.out;rw[bf,aic k hlt]at this;exact this
  ·have d1:decide ((k:Int)<19)=F_:=by simp;omega
   have ek:k=19:=by omega
   have HK:=af ek;clear m ek;go_upto_region 6 with fail;refine wp_region_lit ?_;refine wpList_load_row rfl 127 (.tmp 1) rfl (w.heap.size+1) rfl 127 (Di (qL k)).toArray (0,0) _ (KM.blk 0 rfl) Tryz.underlying127 rfl (by rw[HK.out];kernel_rfl) ?_;refine tK rfl 127 (.tmp 0) (.tmp 13) rfl w.heap.size (Di (qL k)).toArray rfl rfl 127 _ (KM.blk 1 rfl) (by rw[HK.out];kernel_rfl) (by rw[HK.out];kernel_rfl) (by rw[HK.out];kernel_rfl) ?_;have M9:=Mv.call (H:=[⟨w.heap.size,127,(Di (qL 0)).toArray⟩]) (R:=[⟨w.heap.size+1,127,(Di (qL k)).toArray⟩]) (KM.Z_) (zx (cs:=(Di (qL k)).toArray) (KM.blk 1 rfl));generalize wr.setRow w.heap.size (Di (qL k)).toArray=w9 at*;obtain⟨V9,hV9⟩:=X_ ((Di (qL k)).toArray);rw[hV9]at M9⊢;have HV:=af (hV9.symm.trans (by rw[HK.out,adg]));have KM9:=af M9;clear hV9 M9;go_wp2_with fail;rw[←HV.out];exact dU (v:=g_ V9) (iT Tryz.results99 _ _ w.heap.size 127 _ (0,0) _ rfl (KM9.blk 0 rfl) Tryz.underlying127 rfl (by rw[HV.out];kernel_rfl)) rfl ⟨rfl,Mv.drop (A:=[_,_]) (H:=[]) (by simpa using KM9.out)⟩
def putA(cs:Array Value):Nat→List Value→Array Value
 |_,[]=>cs
 |o,v::vs=>putA (cs.setIfInBounds o v) (o+1) vs
theorem Ws(C:List Value):∀(vs A B:List Value),B.length=vs.length→putA (A++(B++C)).toArray A.length vs=(A++(vs++C)).toArray
 | [],A,B,h=>by have:B=[]:=dN h;subst this;rfl
 |v::vs,A,[],h=>by simp at h
 |v::vs,A,b::B,h=>by have ih:=Ws C vs (A++[v]) B (by simpa using h);rw[au,List.length_singleton,az,az]at ih;simp only[putA,bf];rw[dZ _ _ (aN _),iI];exact ih
theorem Mv.setCells{w0:World}{H0 R:List HB}{g:Nat}{t:TypeId}:∀(vs:List Value) (w:World) (cs:Array Value) (o:Nat),Mv w0 H0 w (⟨g,t,cs⟩::R)→Mv w0 H0 (w.setCells g o vs) (⟨g,t,putA cs o vs⟩::R)
 | [],_w,_cs,_o,h=>h
 |v::vs,_w,_cs,o,h=>Mv.setCells vs _ _ (o+1) (h.set o v)
theorem je.reset{A:oP}{G:GeoM}{q:CS}{raw:Bool}{eg rg:Nat}{H H0:List HB}{w0 w:World}(h:je A G q raw eg rg H)(hq:q.s.Ok)(m:Mv w0 H0 w H):∃H',je A G ⟨q.c,{q.s with cx:=jL}⟩ raw eg rg H'∧Mv w0 H0 (w.setCells A.cb 9 (Di jL)) H':=by obtain⟨He,Hr,h1,h2,rfl⟩:=h;have:=Mv.setCells (Di jL) w _ 9 m;have e:putA (FC A G q.s.cx raw eg rg).toArray 9 (Di jL)=(FC A G jL raw eg rg).toArray:=Ws _ (Di jL) _ (Di q.s.cx) (by rw[vJ,vJ,hq.len];rfl);rw[e]at this;exact⟨_,⟨He,Hr,h1,h2,rfl⟩,this⟩
theorem je.there{A:oP}{G:GeoM}{q:CS}{raw:Bool}{eg rg:Nat}{H:List HB}{w:World}(h:je A G q raw eg rg H)(hq:q.s.Ok)(hs:Sat w H):w.there A.cb 9 38:=by
 obtain⟨He,Hr,-,-,rfl⟩:=h;have b:zh w A.cb 133 (FC A G q.s.cx raw eg rg).toArray:=hs.at_ 0 (by rfl);intro j hj;refine⟨?_,b.frozen _⟩;rw[b.cell];have hl:(FC A G q.s.cx raw eg rg).length=53:=by simp only[FC,au,List.length_cons,List.length_nil,vJ,hq.len]
 rw[iy,ai (by omega)]
 first|exact⟨_,rfl⟩|simp
theorem amv:∀s,s<64→(s &&& 2)=if s.testBit 1 then 2 else 0:=by decide
theorem aiS(s:Nat)(h:s≤63):bits .and l_ (s:Int) 2=if s.testBit 1 then 2 else 0:=by have h1:=Ac s 2 (by omega) (by omega);rw[amv s (by omega)]at h1;rw[show((2:Nat):Int)=2 from rfl]at h1;rw[h1];split<;>rfl
theorem adT{w:World}{b:Nat}{V:Array Value}(ht:w.there b 9 V.size)(h1:∀v∈V.toList,v.oneCell'=T_):(storeCells ⟨b,9,N_⟩ V.toList).run P_ w=.ok () (w.setCells b 9 V.toList):=by have:=run_storeCells_cells (P:=P_) b 9 V.toList 0 w (fun j hj=>by have:=(ht j (by simpa using hj)).1;rw[Nat.add_zero];exact this) (fun j hj=>by rw[Nat.add_zero];exact(ht j (by simpa using hj)).2) h1;rw[Nat.add_zero]at this;exact this
theorem aib(l:List CG):∀v∈Di l,v.oneCell'=T_:=by intro v hv;simp only[Di,iw,aC,bP,gQ]at hv;obtain⟨c,-,rfl|rfl⟩:=hv<;>rfl
theorem afO(A:oP)(G:GeoM)(q:CS)(raw:Bool)(eg rg aH k:Nat)(H:List HB)(w:World)(hg:G.Ok)(hc:q.c.Ok G)(h:je A G q raw eg rg H)(hs:Sat w H)(hq:q.s.Ok)(hz:q.s.size+(192*(G.w*G.h)+100)≤79000000)(hp:aH≤40)(hk:k<oM aH):Calls P_ 59 #[p_ (S_ ⟨A.cb,0,N_⟩),i_ l_ k,i_ l_ aH] w fun e w'=>e=r_ (t_ #[])∧∃H',je A G (J7 G raw aH k q) raw eg rg H'∧Mv w H w' H':=by
 have V:=h.see hg hc hs;have c3:=V.ah;have e2:=aiS G.ah hg.ah;have kb:k+2<3*aH:=by unfold oM at hk;omega
 obtain⟨p,hpl⟩:=X_ (aH-1-(k+2)/3);have pe:(aH:Int)-1-((k:Int)+2)/3=(p:Int):=by omega
 have p40:p≤40:=by omega
 obtain⟨R,hR⟩:=X_ (J7 G raw aH k q);rw[hR];obtain⟨kd,hkd⟩:=X_ (wS k);obtain⟨q1,hq1⟩:=X_ (Bz G q);have RE:Hid (R=if kd=0 then runM (qC G raw p) (G.w*G.h) 0 q1 else if kd=1 then runM (qO G raw p) (G.w*G.h) 0 q1 else BP G raw p q1):=af (by rw[←hR];unfold J7;rw[hpl,hkd,hq1]);have QO:Hid (q1.c.Ok G∧q1.s.Ok∧q1.s.size=q.s.size):=af (by
  rw[←hq1];unfold Bz;split
  ·exact⟨hc,⟨sZ.1,sZ.2,hq.e,hq.r⟩,rfl⟩
  ·exact⟨hc,hq,rfl⟩)
 have KI:Hid (∀W,Calls P_ 100 #[i_ l_ k] W fun e w'=>e=r_ (i_ l_ kd)∧w'=W):=af fun W=>by have:=Qd k W (by omega);rw[hkd]at this;exact this
 have FR:Hid (∀W,Calls P_ 99 #[] W fun e w'=>∃V,e=r_ (g_ V)∧V=(Di jL).toArray∧Mv W [] w' []):=af fun W=>(Qk W).mono fun _e _w' q=>⟨_,q.1,rfl,q.2⟩;have K0:=LH h (Mv.refl hs) hc hq hz;have HG:=af hg;have HQ:=af hq1;have kd3:kd≤2:=by rw[←hkd];unfold wS;split<;>omega
 clear V h hs hc hq hz hR hkd hq1 hg hpl hk;rcases(dB (G.ah.testBit 1)).symm with ht|ht
 case' inl=>rw[ht]at e2;simp only[aI,iJ]at e2;have Q1:Hid (q1=q):=af (by rw[←HQ.out];unfold Bz;rw[ht];rfl)
 case' inr=>rw[ht]at e2;simp only[ji]at e2;have Q1:Hid (q1=⟨q.c,{q.s with cx:=jL}⟩):=af (by rw[←HQ.out];unfold Bz;rw[ht];rfl)
 all_goals clear ht;go_enter Tryz.func59,Tryz.ntmps59
 case inl=>
  have KR:Hid (je A G q1 raw eg rg H∧Mv w H w H):=af ⟨by rw[Q1.out];exact K0.1,K0.2.1⟩;go_upto_region 2 with fail;obtain⟨hw1,hw2⟩:=And.intro HG.w2 HG.h2;have ZN:G.w*((G.h+3)/4)≤G.w*G.h:=l7 _ (by have:=HG.h1;omega);have ZQ:=K0.2.2.2.2;have ZS:=QO.2.2;have S0:Hid (Calls P_ 101 #[p_ (S_ ⟨A.cb,0,N_⟩),i_ l_ p] w fun e w'=>e=r_ (t_ #[])∧∃H',je A G (runM (qC G raw p) (G.w*G.h) 0 q1) raw eg rg H'∧Mv w H w' H'):=af (XD A G q1 raw eg rg p H w HG QO.1 KR.1 KR.2.sat QO.2.1 (by omega) p40);have S1:Hid (Calls P_ 102 #[p_ (S_ ⟨A.cb,0,N_⟩),i_ l_ p] w fun e w'=>e=r_ (t_ #[])∧∃H',je A G (runM (qO G raw p) (G.w*G.h) 0 q1) raw eg rg H'∧Mv w H w' H'):=af (XE A G q1 raw eg rg p H w HG QO.1 KR.1 KR.2.sat QO.2.1 (by omega) p40);have S2:Hid (Calls P_ 103 #[p_ (S_ ⟨A.cb,0,N_⟩),i_ l_ p] w fun e w'=>e=r_ (t_ #[])∧∃H',je A G (BP G raw p q1) raw eg rg H'∧Mv w H w' H'):=af (TW A G q1 raw eg rg p H w HG QO.1 KR.1 KR.2.sat QO.2.1 (by omega) p40);clear hw1 hw2 ZN ZQ ZS;rcases(show kd=0∨kd=1∨kd=2 by omega)with rfl|rfl|rfl
  ·have RE2:=af (RE.trans (aK rfl));go_wp2_with (first
    |(go_at_call 100;refine(KI.out _).mono ?_;rintro e w' ⟨rfl,rfl⟩)
    |(go_at_call 101;refine S0.out.mono ?_;rintro e w5 ⟨rfl,H5,h5,m5⟩;have K5:=dS h5 (KR.out.2.trans m5);clear h5 m5))
   exact dm (bH rfl _ _ _) rfl ⟨rfl,H5,by rw[RE2.out];exact K5.1,K5.2⟩
  ·have RE2:=af (RE.trans ((aJ (by decide)).trans (aK rfl)));go_wp2_with (first
    |(go_at_call 100;refine(KI.out _).mono ?_;rintro e w' ⟨rfl,rfl⟩)
    |(go_at_call 102;refine S1.out.mono ?_;rintro e w5 ⟨rfl,H5,h5,m5⟩;have K5:=dS h5 (KR.out.2.trans m5);clear h5 m5))
   exact dm (bH rfl _ _ _) rfl ⟨rfl,H5,by rw[RE2.out];exact K5.1,K5.2⟩
  ·have RE2:=af (RE.trans ((aJ (by decide)).trans (aJ (by decide))));go_wp2_with (first
    |(go_at_call 100;refine(KI.out _).mono ?_;rintro e w' ⟨rfl,rfl⟩)
    |(go_at_call 103;refine S2.out.mono ?_;rintro e w5 ⟨rfl,H5,h5,m5⟩;have K5:=dS h5 (KR.out.2.trans m5);clear h5 m5))
   exact dm (bH rfl _ _ _) rfl ⟨rfl,H5,by rw[RE2.out];exact K5.1,K5.2⟩
 case inr=>
  go_upto_region 2 with(go_at_call 99;refine(FR.out _).mono ?_;rintro e w1 ⟨V,rfl,hV,m1⟩;have M1:=Mv.call (H:=[]) (H':=[]) (R:=H) K0.out.2.1 m1;have hsz:V.size=38:=(by rw[hV];rfl);have hst:=adT (w:=w1) (b:=A.cb) (V:=V) (by rw[hsz];exact K0.out.1.there K0.out.2.2.2.1 M1.sat) (by rw[hV];exact aib _);have HVV:=af hV;have KM:=af M1;clear hV m1 M1);have hth:=K0.1.reset K0.2.2.2.1 KM.out;have evl:V.toList=Di jL:=by rw[HVV.out]
  rw[←evl]at hth;obtain⟨H2,r2,m2⟩:=hth;generalize w1.setCells A.cb 9 V.toList=w2 at*;have KR:Hid (je A G q1 raw eg rg H2∧Mv w H w2 H2):=af ⟨by rw[Q1.out];exact r2,m2⟩;clear hst evl r2 m2 KM hsz;obtain⟨hw1,hw2⟩:=And.intro HG.w2 HG.h2;have ZN:G.w*((G.h+3)/4)≤G.w*G.h:=l7 _ (by have:=HG.h1;omega);have ZQ:=K0.2.2.2.2;have ZS:=QO.2.2;have S0:Hid (Calls P_ 101 #[p_ (S_ ⟨A.cb,0,N_⟩),i_ l_ p] w2 fun e w'=>e=r_ (t_ #[])∧∃H',je A G (runM (qC G raw p) (G.w*G.h) 0 q1) raw eg rg H'∧Mv w2 H2 w' H'):=af (XD A G q1 raw eg rg p H2 w2 HG QO.1 KR.1 KR.2.sat QO.2.1 (by omega) p40);have S1:Hid (Calls P_ 102 #[p_ (S_ ⟨A.cb,0,N_⟩),i_ l_ p] w2 fun e w'=>e=r_ (t_ #[])∧∃H',je A G (runM (qO G raw p) (G.w*G.h) 0 q1) raw eg rg H'∧Mv w2 H2 w' H'):=af (XE A G q1 raw eg rg p H2 w2 HG QO.1 KR.1 KR.2.sat QO.2.1 (by omega) p40);have S2:Hid (Calls P_ 103 #[p_ (S_ ⟨A.cb,0,N_⟩),i_ l_ p] w2 fun e w'=>e=r_ (t_ #[])∧∃H',je A G (BP G raw p q1) raw eg rg H'∧Mv w2 H2 w' H'):=af (TW A G q1 raw eg rg p H2 w2 HG QO.1 KR.1 KR.2.sat QO.2.1 (by omega) p40);clear hw1 hw2 ZN ZQ ZS;rcases(show kd=0∨kd=1∨kd=2 by omega)with rfl|rfl|rfl
  ·have RE2:=af (RE.trans (aK rfl));go_wp2_with (first
    |(go_at_call 100;refine(KI.out _).mono ?_;rintro e w' ⟨rfl,rfl⟩)
    |(go_at_call 101;refine S0.out.mono ?_;rintro e w5 ⟨rfl,H5,h5,m5⟩;have K5:=dS h5 (KR.out.2.trans m5);clear h5 m5))
   exact dm (bH rfl _ _ _) rfl ⟨rfl,H5,by rw[RE2.out];exact K5.1,K5.2⟩
  ·have RE2:=af (RE.trans ((aJ (by decide)).trans (aK rfl)));go_wp2_with (first
    |(go_at_call 100;refine(KI.out _).mono ?_;rintro e w' ⟨rfl,rfl⟩)
    |(go_at_call 102;refine S1.out.mono ?_;rintro e w5 ⟨rfl,H5,h5,m5⟩;have K5:=dS h5 (KR.out.2.trans m5);clear h5 m5))
   exact dm (bH rfl _ _ _) rfl ⟨rfl,H5,by rw[RE2.out];exact K5.1,K5.2⟩
  ·have RE2:=af (RE.trans ((aJ (by decide)).trans (aJ (by decide))));go_wp2_with (first
    |(go_at_call 100;refine(KI.out _).mono ?_;rintro e w' ⟨rfl,rfl⟩)
    |(go_at_call 103;refine S2.out.mono ?_;rintro e w5 ⟨rfl,H5,h5,m5⟩;have K5:=dS h5 (KR.out.2.trans m5);clear h5 m5))
   exact dm (bH rfl _ _ _) rfl ⟨rfl,H5,by rw[RE2.out];exact K5.1,K5.2⟩
theorem ah1(eg:Nat)(e:kV)(w:World)(H:List HB)(h:Ou eg e H)(hs:Sat w H)(hb:e.b≠[])(hl:e.b.length≤90000000):Calls P_ 60 #[p_ (S_ ⟨eg,0,N_⟩)] w fun e0 w'=>e0=r_ (i_ l_ (e.b.length-1:Nat))∧w'=w:=by
 obtain⟨vb,Hb,rfl,hr⟩:=h;have h1:0<e.b.length:=fP.2 hb;obtain⟨a,c,rfl⟩:=hr.slice;have c3:w.cell? ⟨eg,3,N_⟩=S_ (s_ a e.b.length c):=(Mv.refl hs).cell 0 rfl 3;obtain⟨n,hn⟩:=X_ (e.b.length);rw[hn]at c3 hl h1⊢;have d1:(n:Int)-1=((n-1:Nat):Int):=by omega
 clear hr hs hn hb;go_enter Tryz.func60,Tryz.ntmps60;go_wp2_with fail;go_ret;exact⟨rfl,rfl⟩
theorem ahf(rg:Nat)(r:FU)(w:World)(H:List HB)(h:Vg rg r H)(hs:Sat w H)(hl:r.b.length≤90000000):Calls P_ 61 #[p_ (S_ ⟨rg,0,N_⟩)] w fun e0 w'=>e0=r_ (i_ l_ (Dz r:Nat))∧∃n,w'=w.drewN n:=by
 obtain⟨vb,Hb,rfl,hr⟩:=h;obtain⟨a,c,rfl⟩:=hr.slice;have c0:w.cell? ⟨rg,0,N_⟩=S_ (s_ a r.b.length c):=(Mv.refl hs).cell 0 rfl 0;have c2:w.cell? ⟨rg,2,N_⟩=S_ (i_ l_ r.free):=(Mv.refl hs).cell 0 rfl 2;have c3:w.cell? ⟨rg,3,N_⟩=S_ (i_ l_ r.top):=(Mv.refl hs).cell 0 rfl 3;unfold Dz;generalize r.b.length=n at*;generalize r.free=f at*;generalize r.top=t at*;clear hr hs;by_cases hlt:f<t
 ·rw[aK hlt];have d1:decide ((f:Int)<t)=T_:=by simp;omega
  go_enter Tryz.func61,Tryz.ntmps61;go_upto_region 1 with fail;go_region
  all_goals go_wp2_with fail;go_ret;refine⟨fM (fun z=>Ending.returned (i_ l_ z)) ?_,1,rfl⟩;omega
 ·rw[aJ hlt];have d1:decide ((f:Int)<t)=F_:=by simp;omega
  go_enter Tryz.func61,Tryz.ntmps61;go_upto_region 1 with fail;go_region
  all_goals go_wp2_with fail;go_ret;refine⟨fM (fun z=>Ending.returned (i_ l_ z)) ?_,1,rfl⟩;omega
theorem and1:∀s,s<64→(s &&& 1)=if s.testBit 0 then 1 else 0:=by decide
theorem Yf(s:Nat)(h:s≤63):bits .and l_ (s:Int) 1=if s.testBit 0 then 1 else 0:=by have h1:=Ac s 1 (by omega) (by omega);rw[and1 s (by omega)]at h1;rw[show((1:Nat):Int)=(1:Int)from rfl]at h1;rw[h1];split<;>rfl
theorem amu:∀s,s<64→(s &&& 4)=if s.testBit 2 then 4 else 0:=by decide
theorem adS(s:Nat)(h:s≤63):bits .and l_ (s:Int) 4=if s.testBit 2 then 4 else 0:=by have h1:=Ac s 4 (by omega) (by omega);rw[amu s (by omega)]at h1;rw[show((4:Nat):Int)=(4:Int)from rfl]at h1;rw[h1];split<;>rfl
theorem acG(s k:Nat)(w:World)(hs:s≤63)(hk:k≤1000):Calls P_ 56 #[i_ l_ s,i_ l_ k] w fun e w'=>e=r_ (b_ (UM s k))∧w'=w:=by
 have VS:=Yf s hs;have KA:=fun w=>Qd k w hk;unfold UM;rcases(dB (s.testBit 0)).symm with ht|ht
 ·rw[ht]at VS⊢;simp only[aI,iJ,Bool.false_and]at VS⊢;go_enter Tryz.func56,Tryz.ntmps56;go_wp2_with fail;go_ret;exact⟨rfl,rfl⟩
 ·rw[ht]at VS⊢;simp only[ji,sO]at VS⊢;by_cases h10:10≤k
  ·have d1:decide ((10:Int)≤k)=T_:=by simp;omega
   rw[aQ h10,sO];by_cases h2:wS k=2
   ·have d2:(((wS k:Nat):Int)==2)=T_:=by rw[h2];rfl
    rw[aQ h2];go_enter Tryz.func56,Tryz.ntmps56;go_wp2_with (first|(go_at_call 100;refine(KA _).mono ?_;rintro _ _ ⟨rfl,rfl⟩));go_ret;exact⟨rfl,rfl⟩
   ·have d2:(((wS k:Nat):Int)==2)=F_:=bF.2 (by omega);rw[aW h2];generalize wS k=kk at*;clear h2;go_enter Tryz.func56,Tryz.ntmps56;go_wp2_with (first|(go_at_call 100;refine(KA _).mono ?_;rintro _ _ ⟨rfl,rfl⟩));go_ret;exact⟨fM (fun b=>Ending.returned (b_ b)) (by rw[bne,d2]),rfl⟩
  ·have d1:decide ((10:Int)≤k)=F_:=by simp;omega
   rw[aW h10,Bool.false_and];go_enter Tryz.func56,Tryz.ntmps56;go_wp2_with fail;go_ret;exact⟨rfl,rfl⟩
theorem ae5(k:Nat):wS k=0∨wS k=1∨wS k=2:=by unfold wS;split<;>omega
theorem Xn(s k:Nat)(w:World)(hs:s≤63)(hk:k≤1000):Calls P_ 62 #[i_ l_ s,i_ l_ k] w fun e w'=>e=r_ (b_ (uH s k))∧w'=w:=by
 have VS:=Yf s hs;have V4:=adS s hs;have KA:=fun w=>Qd k w hk;have δ:=ae5 k;have d0:decide ((k:Int)<0)=F_:=by simp
 have e9:(9≤k)=((9:Int)≤k):=by simp only[eq_iff_iff];omega
 have e10:(10≤k)=((10:Int)≤k):=by simp only[eq_iff_iff];omega
 unfold uH;rcases(dB (s.testBit 2)).symm with h2|h2
 ·rw[h2]at V4⊢;rcases(dB (s.testBit 0)).symm with h0|h0
  ·rw[h0]at VS⊢;simp only[aI,iJ,Bool.false_and,Bool.false_or]at VS V4⊢;clear e9 e10 δ KA;go_enter Tryz.func62,Tryz.ntmps62;go_wp2_with fail;go_ret;exact⟨rfl,rfl⟩
  ·rw[h0]at VS⊢;simp only[aI,iJ,ji,sO,Bool.false_or]at VS V4⊢;by_cases h9:9≤k
   ·by_cases h10:10≤k
    ·have d1:decide ((9:Int)≤k)=T_:=by simp;omega
     have d2:decide ((10:Int)≤k)=T_:=by simp;omega
     rw[aQ h9,aQ h10];clear e9 e10 h9 h10;rcases δ with h|h|h<;>rw[h]at KA⊢ <;>clear h<;>(go_enter Tryz.func62,Tryz.ntmps62;go_wp2_with (first|(go_at_call 100;refine(KA _).mono ?_;rintro _ _ ⟨rfl,rfl⟩));go_ret;exact⟨rfl,rfl⟩)
    ·have d1:decide ((9:Int)≤k)=T_:=by simp;omega
     have d2:decide ((10:Int)≤k)=F_:=by simp;omega
     rw[aQ h9,aW h10];clear e9 e10 h9 h10;rcases δ with h|h|h<;>rw[h]at KA⊢ <;>clear h<;>(go_enter Tryz.func62,Tryz.ntmps62;go_wp2_with (first|(go_at_call 100;refine(KA _).mono ?_;rintro _ _ ⟨rfl,rfl⟩));go_ret;exact⟨rfl,rfl⟩)
   ·have h10:¬10≤k:=by omega
    have d1:decide ((9:Int)≤k)=F_:=by simp;omega
    have d2:decide ((10:Int)≤k)=F_:=by simp;omega
    rw[aW h9,aW h10];clear e9 e10 h9 h10;rcases δ with h|h|h<;>rw[h]at KA⊢ <;>clear h<;>(go_enter Tryz.func62,Tryz.ntmps62;go_wp2_with (first|(go_at_call 100;refine(KA _).mono ?_;rintro _ _ ⟨rfl,rfl⟩));go_ret;exact⟨rfl,rfl⟩)
 ·rw[h2]at V4⊢;simp only[ji,Bool.true_or]at V4⊢;clear e9 e10 δ KA VS;go_enter Tryz.func62,Tryz.ntmps62;go_wp2_with fail;go_ret;exact⟨rfl,rfl⟩
theorem ajl(W Hh B S:Nat)(w:World)(h1:1≤W∧W≤64)(h2:1≤Hh∧Hh≤64)(h3:B≤3)(h4:S≤63):Calls P_ 52 #[i_ l_ W,i_ l_ Hh,i_ l_ B,i_ l_ S] w fun e w'=>e=r_ (b_ T_)∧w'=w:=by
 have d1:decide ((1:Int)≤W)=T_:=by simp;omega
 have d2:decide ((W:Int)≤64)=T_:=by simp;omega
 have d3:decide ((1:Int)≤Hh)=T_:=by simp;omega
 have d4:decide ((Hh:Int)≤64)=T_:=by simp;omega
 have d5:decide ((0:Int)≤B)=T_:=by simp
 have d6:decide ((B:Int)≤3)=T_:=by simp;omega
 have d7:decide ((0:Int)≤S)=T_:=by simp
 have d8:decide ((S:Int)≤63)=T_:=by simp;omega
 go_enter Tryz.func52,Tryz.ntmps52;go_wp2_with fail;go_ret;refine⟨fM (fun b=>Ending.returned (b_ b)) ?_,rfl⟩
 first|rfl|exact d8
theorem dR.short{g c n:Nat}{l:List UInt8}{H:List HB}(h:dR (s_ (S_ ⟨g,0,N_⟩) n c) l H)(hn:0<n):n≤c∧c≤maxLen∧dR (s_ (S_ ⟨g,0,N_⟩) (n-1) c) l.dropLast H:=by
 have hl:=h.len;subst hl;obtain⟨h1,h2⟩:=h;rcases h2 with⟨e,-⟩|⟨g',cap,cur,e,k1,k2,k3,k4,rfl⟩
 ·cases e
 ·cases e;have e1:l.dropLast.length=l.length-1:=iV;refine⟨k1,k2,?_⟩;unfold dR;rw[e1];refine⟨by simp[cellsB],.inr ⟨g,c,cur,rfl,by omega,k2,k3,?_,rfl⟩⟩;have e2:(l.length-1)*1=min (l.length-1) (l.length*1):=by omega
  rw[e2,←List.take_take,k4];simp only[cellsB,List.dropLast_eq_take,List.map_take]
theorem DF{l:List UInt8}(h:l.getLastD 0=255):rO l=l.dropLast:=by unfold rO;rw[aK (of_eq_true (Df h))]
theorem yV{l:List UInt8}(h:¬l.getLastD 0=255):rO l=l:=by unfold rO;rw[aJ (of_eq_false (DJ h))]
theorem ach(rg:Nat)(r:FU)(w:World)(H:List HB)(h:Vg rg r H)(hs:Sat w H)(hl:r.b.length≤80000000)(hc:r.cur<256):Calls P_ 64 #[p_ (S_ ⟨rg,0,N_⟩)] w fun e0 w'=>∃v Hn,e0=r_ v∧dR v (zZ r) Hn∧Mv w H w' (Hn++H):=by
 obtain⟨bs,cur,free,top⟩:=r;simp only at hl hc;obtain⟨vb,Hb,rfl,hr⟩:=h;simp only at hr;obtain⟨va,vc,rfl⟩:=hr.slice;obtain⟨x,hx⟩:=X_ (UInt8.ofNat cur);have RF:Hid (zZ ⟨bs,cur,free,top⟩=rO (if free<top then bs++[x]else bs)):=af (by unfold zZ;simp only[hx]);have XZ:IntKind.u8.wrap (cur:Int)=x.toNat:=by rw[xQ,←hx,←LU]
 obtain⟨F,hF⟩:=X_ (zZ ⟨bs,cur,free,top⟩);rw[hF]at RF⊢;clear hF hx;have M1:=(Mv.refl hs).alloc 5 #[];have c0:=M1.cell 1 rfl 0;have B1:=af (hr.bv (M1.sat.right (A:=[_,_])));have R1:=af (dR.lit w.heap.size [] 0 rfl (by decide));have K1:=af M1;clear hr M1 hs;go_enter Tryz.func64,Tryz.ntmps64;go_upto_region 2 with(at_builtin;go_must (refine iY rfl (.tmp 4) (.tmp 8) rfl _ _ [] bs [_] rfl rfl R1.out K1.out.sat.left B1.out (by simp;omega) ?_;intro v3 w3 H3 hr3 m3;obtain⟨a3,c3,rfl⟩:=hr3.slice;have K3:=dS hr3 (Mv.call (H:=[_]) K1.out m3);clear hr3 m3));rw[List.nil_append]at K3;have S3:=K3.2.sat.right (A:=H3);have e2:w3.cell? ⟨rg,2,N_⟩=S_ (i_ l_ free):=(S3.at_ 0 rfl).cell 2;have e3:w3.cell? ⟨rg,3,N_⟩=S_ (i_ l_ top):=(S3.at_ 0 rfl).cell 3;clear S3;by_cases hlt:free<top
 ·rw[aK hlt]at RF;have d1:decide ((free:Int)<top)=T_:=by simp;omega
  have M4:=K3.2.drew.alloc 5 #[i_ .u8 (x.toNat:Int)];have e1:w3.drew.cell? ⟨rg,1,N_⟩=S_ (i_ l_ cur):=((K3.2.drew.sat.right (A:=H3)).at_ 0 rfl).cell 1;have A4:=af (BU w3.drew x w3.heap.size rfl);have S4:=af ((M4.sat.right (A:=[_])).left);have K5:=af M4;clear M4;go_region
  all_goals
  clear hlt d1 e2 e3;go_upto_region 4 with(at_builtin;go_must (refine iY rfl (.tmp 19) (.tmp 25) rfl _ _ bs [x] H3 rfl rfl K3.out.1 S4.out A4.out (by simp;omega) ?_;intro v4 w4 H4 hr4 m4;obtain⟨a4,c4,rfl⟩:=hr4.slice;have K6:=dS hr4 (Mv.call (Mv.Lu (A:=[_]) (B:=H3) (R:=_) K5.out) m4);clear hr4 m4));have K4:Hid (dR (s_ a4 (bs++[x]).length c4) (bs++[x]) H4∧Mv w (Mc rg cur free top (s_ va bs.length vc)::Hb) w4 (H4++Mc rg cur free top (s_ va bs.length vc)::Hb)):=af ⟨K6.1,Mv.drop2 (B:=[_]) K6.2⟩;have RF4:=RF;clear RF K6 K5 K3 S4 A4 e1 XZ;have hlen:(bs++[x]).length=bs.length+1:=by simp
  rw[hlen]at K4;generalize bs++[x]=l4 at*;obtain⟨n4,UO⟩:=X_ (bs.length+1);rw[UO]at K4 hlen⊢;have hn4:=af hlen.symm;have hnl:n4≤90000000:=by omega
  clear UO hlen;have T4:=K4.2.sat.left;by_cases h0:n4=0
  case pos=>
   have hl0:l4=[]:=dN (hn4.symm.trans h0);have RG:=af (RF4.trans (yV (by rw[hl0];decide)));have m4:decide ((0:Int)<n4)=F_:=by simp;omega
   have m5:¬0<n4:=by omega
   clear h0 hl0 T4;go_wp2_with fail;go_ret
   first
    |exact⟨_,H4,rfl,by rw[RG.out];exact K4.1,K4.2⟩
    |exact⟨_,rfl,H4,by rw[RG.out];exact K4.1,K4.2⟩
  case neg=>
   have hn0:0<n4:=by omega
   obtain⟨g,ha⟩:∃g,a4=S_ ⟨g,0,N_⟩:=by obtain⟨g,cp,ajW,hv,-⟩:=dh.form K4.1 (by rw[←hn4.out];exact hn0);injection hv with ha;exact⟨g,ha⟩
   subst ha;obtain⟨s1,s2,s3⟩:=dR.short K4.1 hn0;obtain⟨k1,-⟩:=dR.xX K4.1 T4 hn4.symm hn0;obtain⟨q,hq⟩:=X_ (l4.getLastD 0);rw[hq]at k1;have HQ:=af hq;have S3:=af s3;have m1:(n4:Int)-1=((n4-1:Nat):Int):=by omega
   have m2:((n4-1:Nat):Int)<n4:=by omega
   have m3:((n4-1:Nat):Int)≤c4:=by omega
   have m4:decide ((0:Int)<n4)=T_:=by simp;omega
   clear hq s3 T4;by_cases ig:q=255
   ·have d0:((q.toNat:Int)==255)=T_:=by rw[ig];rfl
    have RG:=af (RF4.trans (DF (HQ.trans ig)));clear ig;go_wp2_with fail;go_ret
    first
     |exact⟨_,H4,rfl,by rw[RG.out];exact S3.out,K4.2⟩
     |exact⟨_,rfl,H4,by rw[RG.out];exact S3.out,K4.2⟩
   ·have d0:((q.toNat:Int)==255)=F_:=by have:q.toNat≠255:=fun e=>ig (gU.1 (by rw[e];rfl));exact bF.2 (by omega)
    have RG:=af (RF4.trans (yV (fun e=>ig (HQ.symm.trans e))));clear ig;go_wp2_with fail;go_ret
    first
     |exact⟨_,H4,rfl,by rw[RG.out];exact K4.1,K4.2⟩
     |exact⟨_,rfl,H4,by rw[RG.out];exact K4.1,K4.2⟩
 ·rw[aJ hlt]at RF;have d1:decide ((free:Int)<top)=F_:=by simp;omega
  go_region
  all_goals
  clear hlt d1 e2 e3;go_upto_region 4 with fail;have K4:Hid (dR (s_ a3 bs.length c3) bs H3∧Mv w (Mc rg cur free top (s_ va bs.length vc)::Hb) w3.drew (H3++Mc rg cur free top (s_ va bs.length vc)::Hb)):=af ⟨K3.1,K3.2.drew⟩;have K4M:=af K4.2;have RF4:=RF;clear RF K3 XZ;generalize w3.drew=w4 at*;obtain⟨n4,UO⟩:=X_ (bs.length);rw[UO]at K4⊢;have hn4:=af UO.symm;have hnl:n4≤90000000:=by omega
  clear UO;have T4:=K4.2.sat.left;by_cases h0:n4=0
  case pos=>
   have hl0:bs=[]:=dN (hn4.symm.trans h0);have RG:=af (RF4.trans (yV (by rw[hl0];decide)));have m4:decide ((0:Int)<n4)=F_:=by simp;omega
   have m5:¬0<n4:=by omega
   clear h0 hl0 T4;go_wp2_with fail;go_ret
   first
    |exact⟨_,H3,rfl,by rw[RG.out];exact K4.1,K4M.out⟩
    |exact⟨_,rfl,H3,by rw[RG.out];exact K4.1,K4M.out⟩
  case neg=>
   have hn0:0<n4:=by omega
   obtain⟨g,ha⟩:∃g,a3=S_ ⟨g,0,N_⟩:=by obtain⟨g,cp,ajW,hv,-⟩:=dh.form K4.1 (by rw[←hn4.out];exact hn0);injection hv with ha;exact⟨g,ha⟩
   subst ha;obtain⟨s1,s2,s3⟩:=dR.short K4.1 hn0;obtain⟨k1,-⟩:=dR.xX K4.1 T4 hn4.symm hn0;obtain⟨q,hq⟩:=X_ (bs.getLastD 0);rw[hq]at k1;have HQ:=af hq;have S3:=af s3;have m1:(n4:Int)-1=((n4-1:Nat):Int):=by omega
   have m2:((n4-1:Nat):Int)<n4:=by omega
   have m3:((n4-1:Nat):Int)≤c3:=by omega
   have m4:decide ((0:Int)<n4)=T_:=by simp;omega
   clear hq s3 T4;by_cases ig:q=255
   ·have d0:((q.toNat:Int)==255)=T_:=by rw[ig];rfl
    have RG:=af (RF4.trans (DF (HQ.trans ig)));clear ig;go_wp2_with fail;go_ret
    first
     |exact⟨_,H3,rfl,by rw[RG.out];exact S3.out,K4M.out⟩
     |exact⟨_,rfl,H3,by rw[RG.out];exact S3.out,K4M.out⟩
   ·have d0:((q.toNat:Int)==255)=F_:=by have:q.toNat≠255:=fun e=>ig (gU.1 (by rw[e];rfl));exact bF.2 (by omega)
    have RG:=af (RF4.trans (yV (fun e=>ig (HQ.symm.trans e))));clear ig;go_wp2_with fail;go_ret
    first
     |exact⟨_,H3,rfl,by rw[RG.out];exact K4.1,K4M.out⟩
     |exact⟨_,rfl,H3,by rw[RG.out];exact K4.1,K4M.out⟩
def Ae(n:Nat):Code→Option Code
 | .block i b=>if i==n then S_ (.block i b)else Ae n b
 | .seq a b=>(Ae n a).or (Ae n b)
 | .cond _ a b=>(Ae n a).or (Ae n b)
 | .loop b=>Ae n b
 | .scope b=>Ae n b
 |_=>N_
def jB(n:Nat)(f:Func):Code:=((f.body.bind (Ae n))).getD .skip
def qX:Exit→Act→World→Prop:=fun _ _ _=>False
theorem ik{P:Program}{c:Code}{K:Act→World→Prop}{Q:Exit→Act→World→Prop}{a:Act}{w:World}(h:c.wp P (Exit.then K qX) a w):c.wp P (Exit.then K Q) a w:=by
 refine wp_mono h ?_;intro e a' w' hq;cases e with
 |normal=>exact hq
 |_=>exact hq.elim
def yE(n:Nat):Code→Option Code
 | .region i os b=>if i==n then S_ (.region i os b)else N_
 | .block _ b=>yE n b
 | .seq a b=>(yE n a).or (yE n b)
 | .cond _ a b=>(yE n a).or (yE n b)
 | .loop b=>yE n b
 | .scope b=>yE n b
 |_=>N_
def dQ(n:Nat)(f:Func):Code:=((f.body.bind (yE n))).getD .skip
/- a region that draws its order:what each operation keeps,the region keeps-/
section
variable{P:Program}{ops:Array Oper}{Q:Exit→Act→World→Prop}{md:Region.Mode}
theorem mem_ready{bQ:Array Bool}{i:Nat}(h:i∈Region.ready md ops bQ):i<ops.size∧bQ.getD i T_=F_∧∀o,ops[i]?=S_ o→∀e∈o.after.toList,Region.binds md e=T_→bQ.getD e.on F_=T_:=by unfold Region.ready at h;obtain⟨h1,h2⟩:=List.mem_filter.1 h;have hl:=lS.1 h1;simp only[dO,Bool.not_eq_true']at h2;refine⟨hl,h2.1,fun o ho e he hb=>?_⟩;have h3:=h2.2;rw[ho]at h3;simp only[Option.map_some,Option.getD_some,Array.all_eq_true_iff_forall_mem]at h3;have h4:=h3 e (Array.mem_toList_iff.1 he);simpa[hb]using h4
theorem count_set:∀(l:List Bool) (i:Nat),l[i]?=S_ F_→(l.set i T_).countP (fun b=>!b)+1=l.countP (fun b=>!b)
 | [],i,h=>by simp at h
 |b::l,0,h=>by simp at h;subst h;simp
 |b::l,i+1,h=>by have ih:=count_set l i (by simpa using h);rw[List.set_cons_succ,List.countP_cons,List.countP_cons];omega
theorem Rq(I:Array Bool→Act→World→Prop)(hd:∀bQ a w,I bQ a w→Region.ready md ops bQ=[]→Q .normal a w)
 (hs:∀bQ a w i,I bQ a w→i∈Region.ready md ops bQ→wpOp P ops Q i (I (bQ.setIfInBounds i T_)) a w):
 ∀(fuel:Nat) (bQ:Array Bool) (a:Act) (w:World),bQ.toList.countP (fun b=>!b)≤fuel→bQ.size=ops.size→I bQ a w→wpAny P md ops Q fuel bQ a w:=by
 intro fuel
 induction fuel with
 |zero=>
  intro bQ a w hc hz hI;have hr:Region.ready md ops bQ=[]:=by
   refine List.eq_nil_iff_forall_not_mem.2 fun i hi=>?_;obtain⟨h1,h2,-⟩:=mem_ready hi;have hl:i<bQ.size:=by omega
   have h3:bQ.toList[i]?=S_ F_:=by rw[kG,gK hl];rw[lh,gK hl]at h2;simpa using h2
   have:=count_set _ _ h3;omega
  exact⟨hr,hd _ _ _ hI hr⟩
 |succ n ih=>
  intro bQ a w hc hz hI;refine⟨hd _ _ _ hI,fun i hi=>wpOp_mono (fun a w hI=>ih _ _ _ ?_ (by simpa using hz) hI) (hs _ _ _ i hI hi)⟩;obtain⟨h1,h2,-⟩:=mem_ready hi;have hl:i<bQ.size:=by omega
  have h3:bQ.toList[i]?=S_ F_:=by rw[kG,gK hl];rw[lh,gK hl]at h2;simpa using h2
  have:=count_set _ _ h3;rw[Array.toList_setIfInBounds];omega
theorem Q4{id:Nat}{a:Act}{w:World}(hm:P.follows .mixedOrders=T_)(I:Array Bool→Act→World→Prop)(h0:I (Array.replicate ops.size F_) a w.drew)
 (hd:∀bQ a w,I bQ a w→Region.ready .any ops bQ=[]→Q .normal a w)
 (hs:∀bQ a w i,I bQ a w→i∈Region.ready .any ops bQ→wpOp P ops Q i (I (bQ.setIfInBounds i T_)) a w):(Code.region id ops T_).wp P Q a w:=
 wp_region_any hm (Rq I hd hs _ _ _ _ (by have:=List.countP_le_length (p:=fun b:Bool=>!b) (l:=(Array.replicate ops.size F_).toList);simpa using this) (by simp) h0)
end
theorem qm{ops:Array Oper}{md:Region.Mode}{bQ:Array Bool}(h:Region.ready md ops bQ=[])(i:Nat)(o:Oper)(ho:ops[i]?=S_ o)(hi:bQ.getD i T_=F_)(ha:∀e∈o.after.toList,Region.binds md e=T_→bQ.getD e.on F_=T_):False:=by
 have hl:i<ops.size:=(jf.1 ho).1;have:i∈Region.ready md ops bQ:=by
  unfold Region.ready;refine List.mem_filter.2 ⟨lS.2 hl,?_⟩;rw[hi,ho];simp only[Bool.not_false,sO,Option.map_some,Option.getD_some,Array.all_eq_true_iff_forall_mem];intro e he;have hb:=ha e (Array.mem_toList_iff.2 he);cases hbe:Region.binds md e
  ·simp
  ·rw[hb hbe];simp
 rw[h]at this;cases this
section
variable{P:Program}{w:World}{ops:Array Oper}{o:Oper}{a:Act}{K:Act→World→Prop}{Q:Exit→Act→World→Prop}{E:Prop}
theorem yQ(hg:o.guard=N_)(l c:Operand)(t:TypeId)(hop:o.op=Op.makeSlice t l c)(e:TypeId)(z:Value)(n by_:Nat)(h1:P.underlying t=S_ (.slice e))(hi:(P.info? e).map (fun i=>(i.zero,i.size,i.bytes))=S_ (S_ z,1,by_))(hby:by_≤16)(hn:n≤4096)
 (hl:a.eval l=i_ l_ n) (hc:a.eval c=i_ l_ n) (hz:z.cells=#[z])
 (hK:K (a.put o.dst (s_ (S_ ⟨w.heap.size,0,N_⟩) n n)) (w.alloc (.cells (List.replicate n z).toArray e))):
 if Region.wanted o (yielded ops a.tmps)=T_ then Oper.wp P o a w K Q else E:=by
 have hw:Region.wanted o (yielded ops a.tmps)=T_:=by simp[Region.wanted,hg]
 rw[aK hw];cases hie:P.info? e with
 |none=>rw[hie]at hi;cases hi
 |some i=>
  rw[hie]at hi;simp only[Option.map_some,dG,fK]at hi;obtain⟨h3,h4,h5⟩:=hi;subst h5;have hb:(i.bytes:Int)*n≤281474976710656:=by
   have h:i.bytes*n≤16*4096:=bZ hby hn;have h':((i.bytes*n:Nat):Int)≤281474976710656:=by omega
   rwa[Int.natCast_mul]at h'
  have hrun:=run_make (P:=P) w t e i z h1 hie h3 l_ l_ (n:Int) (n:Int) (by omega) (gG _) hb (by omega);simp only[Int.toNat_natCast]at hrun;have hm:madeCells z.cells (n*i.size)=(List.replicate n z).toArray:=by
   rw[h4,hz,um];unfold madeCells;apply Array.ext';apply fU;intro k;by_cases hk:k<n
   ·simp[hk,Nat.mod_one]
   ·simp[hk]
  rw[hm]at hrun;unfold Oper.wp;simp[execOp,hop,hl,hc,hrun,Result.andThen];exact hK
theorem Q7(hg:o.guard=N_)(t:TypeId)(parts:Array (Nat×Operand))(ho:o.op=.build t parts)(cells:Array Value)
 (hf:P.built t (parts.map fun(i,x)=>(i,a.eval x)).toList=S_ cells) (hK:K (a.put o.dst (g_ cells)) w):
 if Region.wanted o (yielded ops a.tmps)=T_ then Oper.wp P o a w K Q else E:=by
 have hw:Region.wanted o (yielded ops a.tmps)=T_:=by simp[Region.wanted,hg]
 rw[aK hw];exact wp_build t parts ho (by rw[hf];rfl) (by rw[hf];exact hK)
end
def oh(b:Bool)(x:HB):List HB:=if b then [x]else []
theorem kN(x:HB):oh T_ x=[x]:=rfl
theorem jl(x:HB):oh F_ x=[]:=rfl
theorem Mv.O_{w0 w:World}{H0 H H1:List HB}(h:Mv w0 H0 w H)(hc:∀g,cnt g H1≤cnt g H:=by intro g;simp only[kN,jl,aP,bK,gI];omega)(hm:∀b∈H1,b∈H:=by intro b hb;simp only[kN,jl,ay,aC,bP,gQ,false_or]at hb⊢;grind):Mv w0 H0 w H1:=h.sub hc hm
def IE(ops:Array Oper):List (List Nat):=ops.toList.map fun o=>(o.after.toList.filter fun e=>Region.binds .any e).map (·.on)
def ordOk(T:List (List Nat)):List Nat→List Nat→Bool
 | [],_=>T_
 |i::o,d=>((T[i]?).getD [i]).all (d.contains ·) && ordOk T o (i::d)
theorem Xv{ops:Array Oper}{i:Nat}{o:Oper}(ho:ops[i]?=S_ o):(IE ops)[i]?=S_ ((o.after.toList.filter fun e=>Region.binds .any e).map (·.on)):=by unfold IE;rw[aV,kG,ho];rfl
theorem QU{ops:Array Oper}{bQ:Array Bool}(hr:Region.ready .any ops bQ=[]):∀(o d:List Nat),ordOk (IE ops) o d=T_→(∀i∈d,bQ.getD i T_=T_∧i<ops.size)→(∀i∈o,i<ops.size)→bQ.size=ops.size→∀i∈o,bQ.getD i T_=T_
 | [],_,_,_,_,_,i,hi=>nomatch hi
 |j::o,d,h,hd,hs,hz,i,hi=>by
  unfold ordOk at h;rw[dO]at h;have hj:j<ops.size:=hs j (aG ..);have hget:∀k,k<ops.size→bQ.getD k T_=T_→bQ.getD k F_=T_:=by intro k hk h1;rw[lh,gK (by omega)]at h1⊢;exact h1
  have hjt:bQ.getD j T_=T_:=by
   cases hb:bQ.getD j T_
   ·refine(qm hr j _ (gK hj) hb (fun e he hbe=>?_)).elim;have h1:=h.1;rw[Xv (gK hj)]at h1;have h2:=tV.1 h1 e.on (bW.2 ⟨e,List.mem_filter.2 ⟨he,hbe⟩,rfl⟩);have h3:=hd e.on (by simpa using h2);exact hget _ h3.2 h3.1
   ·rfl
  rcases aC.1 hi with rfl|hi
  ·exact hjt
  ·refine QU hr o (j::d) h.2 (fun k hk=>?_) (fun k hk=>hs k (aU _ hk)) hz i hi;rcases aC.1 hk with rfl|hk
   ·exact⟨hjt,hj⟩
   ·exact hd k hk
section
variable{P:Program}{ops:Array Oper}{Q:Exit→Act→World→Prop}
theorem jS{rid:Nat}{a:Act}{w:World}(hm:P.follows .mixedOrders=T_)(T:List (List Nat))(o:List Nat)(hT:IE ops=T)(ho:(ordOk T o [] && o.all (fun i=>decide (i<T.length)) && (List.range T.length).all (fun i=>o.contains i))=T_)(I:Array Bool→Act→World→Prop)
 (h0:I (Array.replicate T.length F_) a w.drew)
 (hd:∀bQ a w,I bQ a w→bQ.toList.all (fun b=>b)=T_→Q .normal a w)
 (hs:∀bQ a w i,I bQ a w→i<T.length→bQ.toList.getD i T_=F_→(((T[i]?).getD []).all fun j=>bQ.toList.getD j F_)=T_→wpOp P ops Q i (I (bQ.setIfInBounds i T_)) a w):(Code.region rid ops T_).wp P Q a w:=by
 subst hT;have hl:(IE ops).length=ops.size:=by simp[IE]
 rw[hl]at h0 ho hs;simp only[dO]at ho;have hle:∀(bQ:Array Bool) k d,bQ.toList.getD k d=bQ.getD k d:=by intro bQ k d;rw[lh,ax,kG]
 refine Q4 hm (fun bQ a w=>I bQ a w∧bQ.size=ops.size) ⟨h0,by simp⟩ ?_ ?_
 ·rintro bQ a w ⟨hI,hz⟩ hr;refine hd bQ a w hI (tV.2 fun b hb=>?_);obtain⟨k,hk,rfl⟩:=wV hb;have hko:k<ops.size:=by simpa[hz]using hk
  have hmem:k∈o:=by have:=tV.1 ho.2 k (lS.2 hko);simpa using this
  have h1:=QU hr o [] ho.1.1 (fun i hi=>nomatch hi) (fun i hi=>by simpa using tV.1 ho.1.2 i hi) hz k hmem;rw[lh,gK (by omega)]at h1;simpa using h1
 ·rintro bQ a w i ⟨hI,hz⟩ hi;obtain⟨h1,h2,h3⟩:=mem_ready hi;refine wpOp_mono (fun a w h=>⟨h,by simpa using hz⟩) (hs bQ a w i hI h1 (by rw[hle];exact h2) ?_);rw[Xv (gK h1)];refine tV.2 fun j hj=>?_;obtain⟨e,he,rfl⟩:=bW.1 hj;obtain⟨he1,he2⟩:=List.mem_filter.1 he;rw[hle];exact h3 _ (gK h1) e he1 he2
end
def decL(l:List UInt8):Nat→dY→Int→jG→dY×jG
 |0,x,_,r=>(x,r)
 |f+1,x,b,r=>if x.low<b∧x.said=F_ then(if(eY l r).1=1 then({x with said:=T_,n:=x.low},(eY l r).2)else decL l f {x with low:=x.low+1,said:=F_} b (eY l r).2)else(x,r)
def pU(l:List UInt8)(x:dY)(low b:Int)(r:jG):dY×jG:=decL l (b-max x.low low).toNat {x with low:=max x.low low} b r
structure amE where
 t:List oq
 low:Int
 rd:jG
def decP(l:List UInt8):List oq→Nat→Nat→Int→jG→amE
 | [],_,_,_,r=>⟨[],0,r⟩
 |p::R,x,y,b,r=>
  let q:=decP l R (x/2) (y/2) b r;let e:=pU l (p.2.at_ x y) q.low b q.rd
  ⟨(p.1,p.2.qY x y e.1)::q.t,e.1.low,e.2⟩
theorem Fv(l:List UInt8)(P:List oq)(x y:Nat)(b:Int)(r:jG):(decP l P x y b r).t.map (fun p=>dM p.2)=P.map (fun p=>dM p.2)∧(decP l P x y b r).t.map (·.1)=P.map (·.1):=by
 induction P generalizing x y with
 |nil=>exact⟨rfl,rfl⟩
 |cons q R ih=>obtain⟨h1,h2⟩:=ih (x/2) (y/2);simp only[decP,bJ,h1,h2,iM,kJ];exact bV.vV _ _ _ _
theorem Qz(l:List UInt8):∀(f:Nat) (x:dY) (b:Int) (r:jG),r.left≤8→(decL l f x b r).2.left≤8∧(decL l f x b r).2.begun≤r.begun+f∧x.low≤(decL l f x b r).1.low
 |0,x,b,r,h=>⟨h,aN _,gG _⟩
 |f+1,x,b,r,h=>by
  obtain⟨-,k2,k3⟩:=jD l r h;unfold decL;split
  ·split
   ·exact⟨k2,by simp only;omega,gG _⟩
   ·obtain⟨h1,h2,h3⟩:=Qz l f {x with low:=x.low+1,said:=F_} b (eY l r).2 k2;refine⟨h1,by omega,?_⟩;simp only at h3;omega
  ·exact⟨h,by simp only;omega,gG _⟩
theorem afL(l:List UInt8)(P:List oq)(x y:Nat)(b:Int)(r:jG)(h:r.left≤8):0≤(decP l P x y b r).low∧(decP l P x y b r).rd.left≤8∧(decP l P x y b r).rd.begun≤r.begun+P.length*b.toNat:=by
 induction P generalizing x y with
 |nil=>exact⟨gG _,h,by simp[decP]⟩
 |cons q R ih=>
  obtain⟨h1,h2,h3⟩:=ih (x/2) (y/2);obtain⟨k1,k2,k3⟩:=Qz l (b-max (q.2.at_ x y).low (decP l R (x/2) (y/2) b r).low).toNat {q.2.at_ x y with low:=max (q.2.at_ x y).low (decP l R (x/2) (y/2) b r).low} b (decP l R (x/2) (y/2) b r).rd h2;simp only[decP,pU];refine⟨?_,k1,?_⟩
  ·simp only at k3;omega
  ·rw[List.length_cons,jW,←kK];exact fD k2 (Nat.add_le_add h3 (by omega))
theorem zM(l:List UInt8)(f:Nat)(x:dY)(b:Int)(r:jG)(h:¬(x.low<b∧x.said=F_)):decL l f x b r=(x,r):=by
 cases f with
 |zero=>rfl
 |succ f=>unfold decL;rw[aJ h]
theorem Qy(l:List UInt8)(f:Nat)(x:dY)(b:Int)(r:jG)(h:x.low<b∧x.said=F_)(hn:(eY l r).1=1)(hf:f=(b-x.low).toNat):decL l f x b r=({x with said:=T_,n:=x.low},(eY l r).2):=by
 cases f with
 |zero=>omega
 |succ f=>unfold decL;rw[aK h,aK hn]
theorem Nh(l:List UInt8)(f:Nat)(x:dY)(b:Int)(r:jG)(h:x.low<b∧x.said=F_)(hn:¬(eY l r).1=1)(hf:f=(b-x.low).toNat):f=(b-(x.low+1)).toNat+1∧decL l f x b r=decL l (b-(x.low+1)).toNat {x with low:=x.low+1,said:=F_} b (eY l r).2:=by
 obtain⟨f',rfl⟩:∃f',f=f'+1:=⟨f-1,by omega⟩;have e:f'=(b-(x.low+1)).toNat:=by omega
 refine⟨by omega,?_⟩;rw[←e]
 conv=>lhs;unfold decL
 rw[aK h,aJ hn]
theorem aaN{tb:Nat}{P:List oq}{H:List HB}{w:World}(h:tH tb P H)(hs:Sat w H)(hd:uJ P){i:Nat}{p:oq}(hp:P[i]?=S_ p){x y:Nat}(hx:x<p.2.w)(hy:y<p.2.h)(z:dY)(f:Nat)(v:Value)
 (hv:(f=0∧z={p.2.at_ x y with n:=z.n}∧v=i_ l_ z.n)∨(f=1∧z={p.2.at_ x y with low:=z.low}∧v=i_ l_ z.low)∨(f=2∧z={p.2.at_ x y with said:=z.said}∧v=b_ z.said)):
 ∃H',tH tb (P.set i (p.1,p.2.qY x y z)) H'∧Mv w H (w.setCell ⟨p.1,3*(y*p.2.w+x)+f,N_⟩ v) H':=by
 rcases hv with⟨rfl,hz,rfl⟩|hv
 ·refine JM h hs hp _ (bV.vV _ _ _ _) _ _ ?_;have:=Jq p.2 x y z.n (by rw[(hd.get hp).1];exact nU hx hy);unfold bV.Eb at this;rw[←hz]at this;exact this
 ·exact aaM h hs hd hp hx hy z f v hv
def X4(w0:World)(H0:List HB)(w:World)(tb rb:Nat)(l:List UInt8)(T:List oq)(m:Nat)(p:oq)(X Y:Nat)(z:dY)(r:jG)(Hn:List HB):Prop:= ∃HT HR,tH tb (T.set m (p.1,p.2.qY X Y z)) HT∧jA rb l r HR∧Mv w0 H0 w (HR++(HT++Hn))
section
variable{w0 w:World}{H0:List HB}{tb rb:Nat}{l:List UInt8}{T:List oq}{m:Nat}{p:oq}{X Y:Nat}{z:dY}{r:jG}{Hn:List HB}
theorem X4.cells(h:X4 w0 H0 w tb rb l T m p X Y z r Hn)(hd:uJ T)(hp:T[m]?=S_ p)(hx:X<p.2.w)(hy:Y<p.2.h):w.cell? ⟨p.1,3*(Y*p.2.w+X),N_⟩=S_ (i_ l_ z.n)∧w.cell? ⟨p.1,3*(Y*p.2.w+X)+1,N_⟩=S_ (i_ l_ z.low)∧w.cell? ⟨p.1,3*(Y*p.2.w+X)+2,N_⟩=S_ (b_ z.said)∧∀k,w.frozen? ⟨p.1,k,N_⟩=F_:=by obtain⟨HT,HR,h1,h2,h3⟩:=h;have hm:=(aj.1 hp).1;have:=ZO h1 h3.sat.right.left (hd.congr (O5 hp z)) (i:=m) (p:=(p.1,p.2.qY X Y z)) (by rw[fQ,aK rfl,aK hm]) (x:=X) (y:=Y) hx hy;rw[bV.at_set _ _ _ _ (by rw[(hd.get hp).1];exact nU hx hy)]at this;exact this
theorem X4.set(h:X4 w0 H0 w tb rb l T m p X Y z r Hn)(hd:uJ T)(hp:T[m]?=S_ p)(hx:X<p.2.w)(hy:Y<p.2.h)(z':dY)(f:Nat)(v:Value)
 (hv:(f=0∧z'={z with n:=z'.n}∧v=i_ l_ z'.n)∨(f=1∧z'={z with low:=z'.low}∧v=i_ l_ z'.low)∨(f=2∧z'={z with said:=z'.said}∧v=b_ z'.said)):
 X4 w0 H0 (w.setCell ⟨p.1,3*(Y*p.2.w+X)+f,N_⟩ v) tb rb l T m p X Y z' r Hn:=by
 obtain⟨HT,HR,h1,h2,h3⟩:=h;have hm:=(aj.1 hp).1;have ha:=bV.at_set p.2 X Y z (by rw[(hd.get hp).1];exact nU hx hy);obtain⟨HT',k1,k2⟩:=aaN h1 h3.sat.right.left (hd.congr (O5 hp z)) (i:=m) (p:=(p.1,p.2.qY X Y z)) (by rw[fQ,aK rfl,aK hm]) (x:=X) (y:=Y) hx hy z' f v (by rw[ha];exact hv);rw[jo,bV.set_set]at k1;exact⟨HT',HR,k1,h2,Mv.Lu (A:=HT') (B:=HR) (R:=Hn) (Mv.call (Mv.Lu (A:=HR) (B:=HT) (R:=Hn) h3) k2)⟩
theorem X4.bit(h:X4 w0 H0 w tb rb l T m p X Y z r Hn)(hl:l.length≤90000000)(hb:r.begun≤90000000)(h8:r.left≤8)(q:Nat)(hq:(eY l r).1=q):Calls P_ 88 #[p_ (S_ ⟨rb,0,N_⟩)] w fun e w'=>e=r_ (i_ l_ q)∧X4 w0 H0 w' tb rb l T m p X Y z (eY l r).2 Hn:=by obtain⟨HT,HR,h1,h2,h3⟩:=h;refine(JF rb l r w HR h2 h3.sat.left hl hb h8).mono ?_;rintro e w' ⟨rfl,HR',k1,k2⟩;exact⟨by rw[hq],HT,HR',h1,k1,Mv.call h3 k2⟩
end
def midD(l:List UInt8)(P:List oq)(x y:Nat)(b:Int)(r:jG)(m:Nat):List oq:=P.take m++(decP l (P.drop m) (x/2^m) (y/2^m) b r).t
theorem P7(l:List UInt8)(P:List oq)(x y:Nat)(b:Int)(r:jG)(m:Nat):(midD l P x y b r m).map (fun p=>dM p.2)=P.map (fun p=>dM p.2):=by unfold midD;rw[bU,(Fv _ _ _ _ _ _).1,List.map_take,List.map_drop,iP]
theorem aeX(l:List UInt8)(P:List oq)(x y:Nat)(b:Int)(r:jG)(m:Nat)(p:oq)(hp:P[m]?=S_ p):(midD l P x y b r (m+1))[m]?=S_ p:=by have hm:=(aj.1 hp).1;unfold midD;rw[df (by simp;omega),iC,aK (by omega),hp]
theorem acy(l:List UInt8)(P:List oq)(x y:Nat)(b:Int)(r:jG)(m:Nat)(p:oq)(hp:P[m]?=S_ p):
 let q:=decP l (P.drop (m+1)) (x/2^(m+1)) (y/2^(m+1)) b r;let e:=pU l (p.2.at_ (x/2^m) (y/2^m)) q.low b q.rd
 (midD l P x y b r (m+1)).set m (p.1,p.2.qY (x/2^m) (y/2^m) e.1)=midD l P x y b r m∧(decP l (P.drop m) (x/2^m) (y/2^m) b r).low=e.1.low∧(decP l (P.drop m) (x/2^m) (y/2^m) b r).rd=e.2:=by
 obtain⟨hm,hpe⟩:=aj.1 hp;have e1:P.drop m=p::P.drop (m+1):=by rw[fG hm,hpe]
 have e2:∀z:Nat,z/2^m/2=z/2^(m+1):=fun z=>by rw[fE,Nat.pow_succ]
 intro q e;rw[e1];simp only[decP,e2];refine⟨?_,rfl,rfl⟩;unfold midD;rw[e1];simp only[decP,e2];rw[eU,hp];rw[az,dZ _ _ (by simp;omega)];have e3:m-(P.take m).length=0:=by simp;omega
 rw[e3];rfl
theorem aeY(l:List UInt8)(P:List oq)(x y:Nat)(b:Int)(r:jG):midD l P x y b r P.length=P:=by simp[midD,decP]
theorem Tm(l:List UInt8)(P:List oq)(x y:Nat)(b:Int)(r:jG):midD l P x y b r 0=(decP l P x y b r).t:=by simp[midD]
def aam(P:List oq)(x y:Nat):dY:=match P with
 | []=>⟨0,0,F_⟩
 |p::_=>p.2.at_ x y
def qM(z:dY)(b:Int):Bool:=z.said && decide (z.n<b)
end
end Go.Proofs.YtjngfhgakokejaaGreat
