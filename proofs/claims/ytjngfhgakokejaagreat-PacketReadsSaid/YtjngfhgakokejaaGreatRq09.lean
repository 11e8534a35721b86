/- PacketReads: part 9. -/
import Derived.Test.YtjngfhgakokejaaGreatRq08
set_option maxRecDepth 100000
set_option maxHeartbeats 8000000
set_option linter.all false
namespace Go.Proofs.YtjngfhgakokejaaGreat
open Value renaming int→i_,slice→s_,pointer→p_,bool→b_,agg→g_,tuple→t_
open IntKind renaming i64→l_
open Ending renaming returned→r_
open Tryz renaming prog→P_
open Option renaming some→S_,none→N_
open Bool renaming true→T_,false→F_
variable{s0 s2 s3 s4 s5 s6 s7 s8 s9 s10 s11 s13 s14 l9 kS s20 lF lC s23 s24 kZ s26 kW kR kY lu lJ lK lI lL lD s36 lY lX mG ni mZ mY s43 s44 nI mF nH nK s49 mD mg lW s53 mX mQ mP mO nX nJ oU oQ pO qW qN qV rD rC s68 rM rJ sN s72 sK sJ ry ru rf s78 qZ rH rG s82 s83 uk uj xI s87 xH xG xF xE xn xk xC xA xy xw xR zl oK oJ nT nS qj qh pY pX pG pF oI oH o9 oG nP nO nN nM oZ oW oV kH s12 s15 s16 s1:Value}
section
open Go.RowKit
theorem Qs(s k:Nat)(w:World)(hs:s≤63)(hk:k≤1000):Calls P_ 97 #[i_ l_ s,i_ l_ k] w fun e w'=>e=r_ (b_ (uH s k))∧w'=w:=by have E:=af (Xn s k w hs hk);go_enter Tryz.func97,Tryz.ntmps97;go_wp2_with (go_at_call 62;(with_reducible refine E.out.mono ?_);rintro e w' ⟨rfl,rfl⟩);go_ret;exact⟨rfl,rfl⟩
theorem aht{ah cO k b:Nat}(hk:k<cO)(h:(uH ah k||decide (k+1=cO))=T_):pcs ah cO (cO-k) k b=(b,k+1)::pcs ah cO (cO-(k+1)) (k+1) (k+1):=by rw[show cO-k=(cO-(k+1))+1 by omega,pcs,aK h]
theorem ai9{ah cO k b:Nat}(hk:k<cO)(h:(uH ah k||decide (k+1=cO))=F_):pcs ah cO (cO-k) k b=pcs ah cO (cO-(k+1)) (k+1) b:=by rw[show cO-k=(cO-(k+1))+1 by omega,pcs,aJ (by rw[h];exact Bool.false_ne_true)]
theorem RX(ah from_ cO:Nat)(ends:List Int)(ev:Value)(He:List HB)(W:World)(hs:ah≤63)(hft:from_≤cO)(hto:cO≤ends.length)(hl:ends.length≤1000)(he:∀e∈ends,0≤e∧e≤100000000)(hev:jy ev ends He)(Oa:Sat W He):Calls P_ 83 #[i_ l_ ah,i_ l_ from_,i_ l_ cO,ev] W fun e w'=>∃v1 v2 H1 H2,e=r_ (t_ #[v1,v2])∧jy v1 (jT (dV ah from_ cO)) H1∧jy v2 (sizesM ends (rZ ends from_) (dV ah from_ cO)) H2∧Mv W He w' (H1++(H2++He)):=by
 obtain⟨ea,ec,rfl⟩:=hev.slice;obtain⟨n,hn⟩:=X_ (ends.length);rw[hn]at hev hto hl⊢;have GE:Hid (∀i,i<n→ends[i]?=S_ (ends.getD i 0)∧0≤ends.getD i 0∧ends.getD i 0≤100000000):=af (by
  intro i hi;obtain⟨x,h⟩:∃x,ends[i]?=S_ x:=⟨_,ai (by rw[hn];exact hi)⟩;have e:ends.getD i 0=x:=by rw[ax,h];rfl
  rw[e];exact⟨h,he _ (aF h)⟩)
 have KE:=nY hev he Oa;obtain⟨F,hF⟩:∃L,dV ah from_ cO=L:=⟨_,rfl⟩;have HP:=af hF;have hF0:Hid (pcs ah cO (cO-from_) from_ (from_-0)=F):=af hF;rw[hF];have HL:Hid (F.length≤1000):=af (by rw[←hF];exact fD (zC ah cO _ _ _) (by omega));clear hF hn he hev Oa;go_enter Tryz.func83,Tryz.ntmps83;go_upto_if 16 with fail;go_cut [13,16]from 17 (fun s13 _ wx=>s13=i_ l_ (rZ ends from_)∧wx=W)
 case first=>
  by_cases h1:from_=0
  ·have d:decide (0<from_)=F_:=by simp;omega
   have E:Hid (rZ ends from_=0):=af (by unfold rZ;rw[aK h1]);rw[d];clear d h1;go_wp2_with fail;go_meet;rw[E.out];exact⟨rfl,rfl⟩
  ·have d:decide (0<from_)=T_:=by simp;omega
   obtain⟨q1,q2,q3⟩:=GE (from_-1) (by omega);have E:Hid (rZ ends from_=ends.getD (from_-1) 0):=af (by unfold rZ;rw[aJ h1]);obtain⟨eg,rfl⟩:=KE.1.form (by omega);have c1:=KE.1.at_ KE.2.2 q1;have e1:(from_:Int)-1=((from_-1:Nat):Int):=by omega
   have e2:((from_-1:Nat):Int)<n:=by omega
   rw[d];clear q1 h1 d;generalize ends.getD (from_-1) 0=eb at*;go_wp2_with fail;go_meet;rw[E.out];exact⟨rfl,rfl⟩
 case rest=>
  obtain⟨h13,rfl⟩:=hcut;subst h13;go_wp2_with fail;go_loopg [10,11,12,13,14] (cO-from_) (fun mm v10 v11 v12 v13 v14 wx=>∃(k r:Nat) (L:List (Nat×Nat)) (H1 H2:List YtjngfhgakokejaaGreat.HB),from_≤k∧k≤cO∧mm=cO-k∧v14=i_ l_ k∧r≤k∧v12=i_ l_ r∧v13=i_ l_ (IJ ends (rZ ends from_) L)∧L++pcs ah cO (cO-k) k (k-r)=F∧jy v10 (jT L) H1∧jy v11 (sizesM ends (rZ ends from_) L) H2∧Mv wc He wx (H1++(H2++He)))
  case atStart=>exact⟨from_,0,[],[],[],aN _,hft,rfl,rfl,aY _,rfl,rfl,hF0.out,dh.nil _ _,dh.nil _ _,Mv.refl KE.2.2⟩
  case round=>
   obtain⟨k,r,L,H1,H2,hk0,hk1,rfl,rfl,hrk,rfl,rfl,hL,r1,r2,m⟩:=hrel;by_cases hlt:k<cO
   ·have d1:decide ((k:Int)<cO)=T_:=by simp;omega
    have hlL:L.length≤1000:=by have:=HL.out;rw[←hL,au]at this;omega
    have hkn:k<n:=by omega
    obtain⟨q1,q2,q3⟩:=GE k hkn;obtain⟨eg,rfl⟩:=KE.1.form (by omega);have hRe:Hid (∀W',Sat W' He→W'.cell? ⟨eg,k,N_⟩=S_ (i_ l_ (ends.getD k 0))):=af fun W' h=>KE.1.at_ h q1;have hwb:Hid (0≤IJ ends (rZ ends from_) L∧IJ ends (rZ ends from_) L≤100000000):=af (Ui ends (Kr ends KE.2.1) _ _ (Uj ends KE.2.1 _));have EN:=af (fun w=>Qs ah k w hs (by omega));have hzL:=uK ends (rZ ends from_) L;have hsn:=Gz ends (k-r,k+1) (rZ ends from_) L;have hwn:=LJ ends (k-r,k+1) (rZ ends from_) L;simp only[gV]at hsn hwn;obtain⟨was,Qe⟩:=X_ (IJ ends (rZ ends from_) L);obtain⟨eb,heb⟩:=X_ (ends.getD k 0);rw[Qe,heb]at hsn;rw[heb]at hwn q2 q3 hRe;rw[Qe]at hwb⊢;have xu:Hid ((uH ah k||decide (k+1=cO))=T_→∀p,p=L++[(k-r,k+1)]→p++pcs ah cO (cO-(k+1)) (k+1) (k+1)=F):=af (by intro h p hp;rw[hp,←hL,aht hlt h,az];rfl);have hnn:Hid ((uH ah k||decide (k+1=cO))=F_→L++pcs ah cO (cO-(k+1)) (k+1) (k+1-(r+1))=F):=af (by intro h;rw[←hL,ai9 hlt h,show k+1-(r+1)=k-r by omega]);have hln:Hid (jT (L++[(k-r,k+1)])=jT L++[(r:Int)+1]):=af (by simp only[jT,bU,bJ,gW];congr 2;omega);have hll:(jT L).length=L.length:=by simp[jT]
    obtain⟨a1,c1,e10⟩:=r1.slice;obtain⟨a2,c2,e11⟩:=r2.slice;have KK:=aiu e10 e11 (e10 ▸ r1) hll (e11 ▸ r2) hzL m hsn hwn Qe;have alO:r≤1000:=by omega
    have amS:cO≤1000:=by omega
    have R12:=dS r1 r2;clear hsn hwn Qe hzL hll r1 r2 m heb q1 hL e10 e11;have x1:1≤cO:=by omega
    obtain⟨b,hb⟩:=X_ (uH ah k);rw[hb]at xu hnn EN;clear hb;by_cases hk2:k+1=cO
    ·have d3:((k:Int)==(cO:Int)-1)=T_:=by simp;omega
     rw[aQ hk2,Bool.or_true]at xu;clear hk2 hnn EN;go_upto_region 10 with fail;refine ik (R! _ eg n ec k ((r:Int)+1) eb was a1 a2 c1 c2 (jT L) (sizesM ends (rZ ends from_) L) H1 H2 He He wc _ KK.1 KK.2.1 KK.2.2.1 (by rw[KK.2.2.2.1];exact hlL) KK.2.2.2.2.1 (by rw[KK.2.2.2.2.2.1];exact hlL) hkn hl ⟨q2,q3⟩ hwb hRe KK.2.2.2.2.2.2.1 ?_);rintro _ _ _ _ _ _ _ _ _ _ _ _ _ _ _ g2 HA g5 HB w10 ⟨m10,-⟩ r42 r51 ⟨-,rfl⟩ ⟨-,rfl⟩;have M10:Mv wc He w10 (HA++(HB++He)):=m10.O_;have c10:=hRe w10 M10.sat.right.right;have K10:=nY r42 r51 M10;have hkI:(k:Int)<n:=by omega
     clear m10 r42 r51 M10;go_upto_region 11 with fail;go_quiet (fail);have M11:=af (K10.2.2.drewN nq);go_wp2_with fail;go_roundg (cO-(k+1))
     case measure=>omega
     case rel=>exact⟨k+1,0,L++[(k-r,k+1)],HA,HB,by omega,hlt,rfl,by push_cast;rfl,aY _,rfl,by rw[KK.2.2.2.2.2.2.2.2.1],xu (by first|rfl|trivial) _ rfl,by rw[hln.out];exact K10.1,by rw[KK.2.2.2.2.2.2.2.1];exact K10.2.1,M11.out⟩
    ·have d3:((k:Int)==(cO:Int)-1)=F_:=by simp;omega
     rw[aW hk2,Bool.or_false]at xu hnn;clear hk2;rcases b with _|_
     ·clear xu;go_wp2_with (go_at_call 97;(with_reducible refine(EN.out _).mono ?_);rintro e w' ⟨rfl,rfl⟩);go_roundg (cO-(k+1))
      case measure=>omega
      case rel=>exact⟨k+1,r+1,L,H1,H2,by omega,hlt,rfl,by push_cast;rfl,by omega,by push_cast;rfl,by rw[KK.2.2.2.2.2.2.2.2.2],hnn (by first|rfl|trivial),R12.1,R12.2,KK.2.2.2.2.2.2.1⟩
     ·clear hnn;go_upto_region 10 with(go_at_call 97;(with_reducible refine(EN.out _).mono ?_);rintro e w' ⟨rfl,rfl⟩);refine ik (R! _ eg n ec k ((r:Int)+1) eb was a1 a2 c1 c2 (jT L) (sizesM ends (rZ ends from_) L) H1 H2 He He wc _ KK.1 KK.2.1 KK.2.2.1 (by rw[KK.2.2.2.1];exact hlL) KK.2.2.2.2.1 (by rw[KK.2.2.2.2.2.1];exact hlL) hkn hl ⟨q2,q3⟩ hwb hRe KK.2.2.2.2.2.2.1 ?_);rintro _ _ _ _ _ _ _ _ _ _ _ _ _ _ _ g2 HA g5 HB w10 ⟨m10,-⟩ r42 r51 ⟨-,rfl⟩ ⟨-,rfl⟩;have M10:Mv wc He w10 (HA++(HB++He)):=m10.O_;have c10:=hRe w10 M10.sat.right.right;have K10:=nY r42 r51 M10;have hkI:(k:Int)<n:=by omega
      clear m10 r42 r51 M10;go_upto_region 11 with fail;go_quiet (fail);have M11:=af (K10.2.2.drewN nq);go_wp2_with fail;go_roundg (cO-(k+1))
      case measure=>omega
      case rel=>exact⟨k+1,0,L++[(k-r,k+1)],HA,HB,by omega,hlt,rfl,by push_cast;rfl,aY _,rfl,by rw[KK.2.2.2.2.2.2.2.2.1],xu (by first|rfl|trivial) _ rfl,by rw[hln.out];exact K10.1,by rw[KK.2.2.2.2.2.2.2.1];exact K10.2.1,M11.out⟩
   ·obtain rfl:k=cO:=by omega
    have d1:decide ((k:Int)<k)=F_:=by simp
    have hL2:L=F:=by rw[iI,pcs,dD]at hL;exact hL
    have K:=zO r1 r2 m hL2;clear r1 r2 m hL hL2 hlt;go_wp2_with fail;go_ret2;rw[←K.2.2.2];exact⟨_,_,H1,H2,rfl,K.1,K.2.1,K.2.2.1⟩
theorem aa0{ops:Array Oper}{o:Oper}{a:Act}{w:World}{K:Act→World→Prop}{Q:Exit→Act→World→Prop}{E:Prop}(hgd:o.guard=N_)(s x:Operand)(ho:o.op=.call {callee:=.builtin .append,args:=#[s,x],argTypes:=#[56,56]})(v u:Value)(l r:List (Int×Bool))(H:List HB)
 (hsv:a.eval s=v) (hxu:a.eval x=u) (h:vM v l H) (hs:Sat w H) (hu:PV w u r) (hl:l.length+r.length≤100000000)
 (hK:∀v' w' H',vM v' (l++r) H'→Mv w H w' H'→K (a.put o.dst v') w'):if Region.wanted o (yielded ops a.tmps)=T_ then Oper.wp P_ o a w K Q else E:=by
 have hw:Region.wanted o (yielded ops a.tmps)=T_:=by simp[Region.wanted,hgd]
 rw[aK hw];exact H! s x ho v u l r H hsv hxu h hs hu hl hK
theorem ai6(w:World)(p:Int×Bool)(g:Nat)(hg:g=w.heap.size):PV (w.alloc (.cells #[i_ l_ p.1,b_ p.2] 142)) (s_ (S_ ⟨g,0,N_⟩) 1 1) [p]:=by subst hg;have h:vM (s_ (S_ ⟨w.heap.size,0,N_⟩) 1 1) [p] [⟨w.heap.size,142,#[i_ l_ p.1,b_ p.2]⟩]:=dh.new 142 w.heap.size 1 #[i_ l_ p.1,b_ p.2] rfl (by decide);exact h.pv (iF w 142 _).sat
theorem lH.at2{w:World}{g n c:Nat}{l:List (Int×Bool)}{H:List HB}(h:lH (s_ (S_ ⟨g,0,N_⟩) n c) l H)(hs:Sat w H){k:Nat}{p:Int×Bool}(hk:l[k]?=S_ p):w.cell? ⟨g,k*2+1,N_⟩=S_ (b_ p.2):=by obtain⟨a',c',e⟩:=h.slice;cases e;have hi:=(aj.1 hk).1;exact(dh.cell h hs rfl (k*2+1) (by omega)).1.trans (C9 hk).2
def blT(g:Nat)(pl:Int)(vp vb:Value):HB:=⟨g,58,#[i_ l_ pl,vp,vb]⟩
def Bi(g:Nat)(pl:Int)(vp vb:Value):HB:=⟨g,51,#[i_ l_ pl,vp,vb]⟩
theorem ajd(pl:Int)(vp:Value)(ba:Option Addr)(bn bc:Nat)(ps:List (Int×Bool))(Hq:List HB)(w:World)(hq:lH vp ps Hq)(hs:Sat w Hq)(hn:ps.length≤1000):Calls P_ 20 #[g_ #[i_ l_ pl,vp,s_ ba bn bc]] w fun e w'=>∃Ij Hp,e=r_ (g_ #[i_ l_ pl,Ij,s_ ba bn bc])∧vM Ij ps Hp∧Mv w Hq w' (Hp++Hq):=by
 obtain⟨qa,qc,rfl⟩:=hq.slice;obtain⟨n,hnn⟩:=X_ (ps.length);rw[hnn]at hq hn⊢;have M1:=((Mv.refl hs).alloc 51 #[i_ l_ pl,s_ qa n qc,s_ ba bn bc]).alloc 58 #[i_ l_ 0,s_ N_ 0 0,s_ N_ 0 0];have M2:=M1.alloc 58 #[i_ l_ pl,s_ N_ 0 0,s_ ba bn bc];simp only[jV]at M1 M2;have K2:Hid (Mv w Hq _ ([]++(blT (w.heap.size+1+1) pl (s_ N_ 0 0) (s_ ba bn bc)::blT (w.heap.size+1) 0 (s_ N_ 0 0) (s_ N_ 0 0)::Bi w.heap.size pl (s_ qa n qc) (s_ ba bn bc)::Hq))):=af M2;have KQ:=dS hq hnn;clear M1 M2 hq hs hnn;go_enter Tryz.func20,Tryz.ntmps20;go_upto_region 2 with fail;generalize((w.alloc (.cells #[i_ l_ pl,s_ qa n qc,s_ ba bn bc] 51)).alloc (.cells #[i_ l_ 0,s_ N_ 0 0,s_ N_ 0 0] 58)).alloc (.cells #[i_ l_ pl,s_ N_ 0 0,s_ ba bn bc] 58)=w2 at*;generalize w.heap.size=g at*;have K3:Hid (Mv w Hq w2 ([]++(blT (g+2) pl (s_ N_ 0 0) (s_ ba bn bc)::blT (g+1) 0 (s_ N_ 0 0) (s_ N_ 0 0)::Bi g pl (s_ qa n qc) (s_ ba bn bc)::Hq))):=K2;clear K2;go_wp2_with fail;go_loopg [4] n (fun mm s4 wx=>∃(k:Nat) (l:List (Int×Bool)) (a:Option Addr) (c:Nat) (H:List HB),k≤n∧mm=n-k∧s4=i_ l_ k∧ps.take k=l∧l.length=k∧vM (s_ a k c) l H∧Mv w Hq wx (H++(blT (g+2) pl (s_ a k c) (s_ ba bn bc)::blT (g+1) 0 (s_ N_ 0 0) (s_ N_ 0 0)::Bi g pl (s_ qa n qc) (s_ ba bn bc)::Hq)))
 case atStart=>exact⟨0,[],N_,0,[],aY _,rfl,rfl,rfl,rfl,dh.nil _ _,K3.out⟩
 case round=>
  obtain⟨k,l,a,c,H,hk,rfl,rfl,hl,hll,hp,hm⟩:=hrel;have c1:wr.cell? ⟨g,1,N_⟩=S_ (s_ qa n qc):=(hm.drop.cell 2 (g:=g) rfl 1);by_cases hlt:k<n
  ·have d1:decide ((k:Int)<n)=T_:=by simp;omega
   obtain⟨-,qg,rfl⟩:=KQ.1.form (by omega);obtain⟨p,hpk⟩:∃p,ps[k]?=S_ p:=⟨_,ai (by rw[KQ.2];exact hlt)⟩;have SQ:Sat wr Hq:=Sat.right (A:=[_,_,_]) hm.drop.sat;have p1:=(KQ.1.at_ SQ hpk).1;have p2:=KQ.1.at2 SQ hpk;have hkn:(k:Int)<n:=by omega
   have r0:wr.drew.cell? ⟨g,1,N_⟩=S_ (s_ (S_ ⟨qg,0,N_⟩) n qc):=c1;have r1:wr.drew.cell? ⟨qg,k*2,N_⟩=S_ (i_ l_ p.1):=p1;have r2:wr.drew.cell? ⟨qg,k*2+1,N_⟩=S_ (b_ p.2):=p2;have r3:wr.drew.cell? ⟨g+2,1,N_⟩=S_ (s_ a k c):=(hm.drop.cell 0 (g:=g+2) rfl 1);have M1:=hm.alloc 142 #[i_ l_ p.1,b_ p.2];have A1:Hid (PV (wr.alloc (.cells #[i_ l_ p.1,b_ p.2] 142)).drew (s_ (S_ ⟨wr.heap.size,0,N_⟩) 1 1) [p]):=af (ai6 wr p _ rfl);have r4:(wr.alloc (.cells #[i_ l_ p.1,b_ p.2] 142)).drew.cell? ⟨g+2,1,N_⟩=S_ (s_ a k c):=(M1.drop1.drop.cell 0 (g:=g+2) rfl 1);have K1:=af M1.drop1.drew;have KP:=af hp;obtain⟨l6,hl6⟩:=X_ (ps.take (k+1));have HL6:Hid (l++[p]=l6):=af (by rw[←hl6,eU,hl,hpk];rfl);have akS:l6.length=k+1:=by rw[←HL6.out,au,hll];rfl
   have HT:=af hl6;have hbd:l.length+[p].length≤100000000:=by rw[hll];simp only[List.length_cons,List.length_nil];omega
   clear M1 hp hm hl hl6 SQ p1 p2 hpk;go_upto_region 5 with fail;clear c1;go_region_law (first|((with_reducible refine aa0 (o:=⟨S_ 33,_,_,_,_,_⟩) (v:=s_ a k c) (u:=s_ (S_ ⟨wr.heap.size,0,N_⟩) 1 1) (l:=l) (r:=[p]) (H:=H) rfl (.tmp 18) (.tmp 32) rfl ?_ ?_ KP.out K1.out.sat.left A1.out hbd ?_);simp[Act.eval];simp[Act.eval];intro v6 w6 H6 yN m6;rw[HL6.out]at yN;obtain⟨a6,c6,rfl⟩:=yN.slice;have M6:=Mv.call K1 m6;(have y3:w6.cell? ⟨g+2,1,N_⟩=S_ (s_ a k c):=(by first|exact(M6.drop.cell 0 (g:=g+2) rfl 1)));(have z3:w6.frozen? ⟨g+2,1,N_⟩=F_:=(by first|exact(M6.drop.frozen 0 (g:=g+2) rfl 1)));have K6:=dS yN M6;clear yN m6 M6))
   all_goals
    have M7:=af (Mv.setAt (A:=H6) (g:=g+2) (t:=58) (cs:=#[i_ l_ pl,s_ a k c,s_ ba bn bc]) K6.2 1 (s_ a6 (k+1) c6));go_wp2_with fail;go_roundg (n-(k+1))
    case measure=>omega
    case rel=>exact⟨k+1,l6,a6,c6,H6,by omega,rfl,by push_cast;rfl,HT.out,akS,by(have:=K6.1;rw[akS]at this;exact this),M7.out⟩
  ·have d1:decide ((k:Int)<n)=F_:=by simp;omega
   obtain rfl:k=n:=by omega
   have el:ps=l:=by rw[←hl,dC (by rw[KQ.2];exact aN _)]
   rw[←el]at hp;have HL:=af hp;have m1:Mv w Hq wr ([blT (g+1) 0 (s_ N_ 0 0) (s_ N_ 0 0)]++(blT (g+2) pl (s_ a k c) (s_ ba bn bc)::(H++Hq))):=hm.sub (fun g=>by simp only[aP,bK,gI];omega) (fun b hb=>by
    simp only[ay,aC,bP,gQ]at hb⊢;rcases hb with h|h|h|h
    ·exact .inr (.inr (.inl h))
    ·exact .inr (.inl h)
    ·exact .inl h
    ·exact .inr (.inr (.inr (.inr h))))
   have K1:=af m1;clear el hl hll hp hm m1;go_upto_region 6 with fail;clear c1;refine wp_region_lit ?_;refine wpList_load_row rfl 58 (.tmp 3) rfl (g+2) rfl 58 #[i_ l_ pl,s_ a k c,s_ ba bn bc] (0,0) _ (K1.blk 1 (g:=g+2) (t:=58) (cs:=#[i_ l_ pl,s_ a k c,s_ ba bn bc]) rfl) Tryz.underlying58 rfl (by kernel_rfl) ?_;refine tK rfl 58 (.tmp 2) (.tmp 35) rfl (g+1) #[i_ l_ pl,s_ a k c,s_ ba bn bc] rfl rfl 58 _ (K1.blk 0 (g:=g+1) (t:=58) (cs:=#[i_ l_ 0,s_ N_ 0 0,s_ N_ 0 0]) rfl) (by kernel_rfl) rfl (by simp[Value.oneCell']) ?_;have M9:=af (Mv.call K1 (zx (cs:=#[i_ l_ pl,s_ a k c,s_ ba bn bc]) (K1.blk 0 (g:=g+1) (t:=58) (cs:=#[i_ l_ 0,s_ N_ 0 0,s_ N_ 0 0]) rfl)));generalize wr.setRow (g+1) #[i_ l_ pl,s_ a k c,s_ ba bn bc]=w9 at*;go_wp2_with fail;refine dU (v:=g_ #[i_ l_ pl,s_ a k c,s_ ba bn bc]) (iT Tryz.results20 _ _ (g+1) 58 _ (0,0) _ rfl (M9.blk 0 rfl) Tryz.underlying58 rfl (by kernel_rfl)) rfl ?_;exact⟨_,H,rfl,HL.out,M9.drop1.drop1⟩
theorem adH(x n:Int)(w:World)(h3:1≤n)(h4:n≤1000000):Calls P_ 8 #[i_ l_ x,i_ l_ n] w fun e w'=>e=r_ (i_ l_ (x%n))∧w'=w:=by
 obtain⟨h5,h6⟩:=Ul x n h3;have E:=af (OJ x n h3);go_enter Tryz.func8,Tryz.ntmps8;go_wp2
 all_goals go_ret
 ·exact⟨by rw[←E.out,aK (by assumption)];rfl,rfl⟩
 ·exact⟨by rw[←E.out,aJ (by omega)];rfl,rfl⟩
def xK(xb:Nat)(P:Int)(pv bv:Value)(Hp Hb:List HB):List HB:=Bi xb P pv bv::(Hp++Hb)
theorem ND{w0 W:World}{H0 H Hp Hb:List HB}{xb:Nat}{P:Int}{pv bv:Value}(m:Mv w0 H0 W (H++xK xb P pv bv Hp Hb)):W.cell? ⟨xb,0,N_⟩=S_ (i_ l_ P)∧W.cell? ⟨xb,1,N_⟩=S_ pv∧W.cell? ⟨xb,2,N_⟩=S_ bv:=⟨m.drop.cell 0 rfl 0,m.drop.cell 0 rfl 1,m.drop.cell 0 rfl 2⟩
section
variable{w0 W:World}{xb:Nat}{P:Int}{pv:Value}{ba:Option Addr}{bn bc:Nat}{ps:List (Int×Bool)}{bs:List UInt8}{Hp Hb:List HB}
theorem ahy(hp:lH pv ps Hp)(hn:ps.length≤1000){H:List HB}(m:Mv w0 [] W (H++xK xb P pv (s_ ba bn bc) Hp Hb)):Calls P_ 20 #[g_ #[i_ l_ P,pv,s_ ba bn bc]] W fun e w'=>∃Ij H1,e=r_ (g_ #[i_ l_ P,Ij,s_ ba bn bc])∧vM Ij ps H1∧Mv w0 [] w' (H1++(H++xK xb P pv (s_ ba bn bc) Hp Hb)):=by have m1:Mv w0 [] W (Hp++(H++(Bi xb P pv (s_ ba bn bc)::Hb))):=m.sub (fun g=>by simp only[xK,aP,bK];omega) (fun c hc=>by simp only[xK,ay,aC]at hc⊢;grind);refine(ajd P pv ba bn bc ps Hp W hp m1.sat.left hn).mono ?_;rintro e w' ⟨Ij,H1,rfl,r1,m2⟩;exact⟨Ij,H1,rfl,r1,(Mv.call m1 m2).sub (fun g=>by simp only[xK,aP,bK];omega) (fun c hc=>by simp only[xK,ay,aC]at hc⊢;grind)⟩
end
theorem ad1{m:aT}{k:Int}(h:k<0∨(m.ss.length:Int)≤k):xZ m k=OV:=by unfold xZ;rw[aK h]
theorem Oi{m:aT}{j:Nat}{s:og}(h:m.ss[j]?=S_ s):xZ m (j:Int)=s:=by have hj:=(aj.1 h).1;unfold xZ;rw[aJ (by omega),Int.toNat_natCast,ax,h];rfl
theorem aaD{m:aT}{j:Nat}{s:og}(h:m.ss[j]?=S_ s)(pl:Int)(ps:List (Int×Bool))(bs:List UInt8):(DV m (j:Int) pl ps bs).ss=m.ss.set j ⟨pl,ps,bs,s.said,s.lb⟩:=by have hj:=(aj.1 h).1;unfold DV;rw[aJ (by omega),Int.toNat_natCast,Oi h]
theorem WL(p q:Nat)(aH:Int){j:Nat}(hj:j<p*q):(vH p q aH).ss[j]?=S_ lV.m:=by simp only[vH,jH];rw[aK hj]
def QSt(s:gu):Prop:=lH s.vp s.m.ps s.Hp∧dR s.vb s.m.bs s.Hb∧s.m.Fits
def jk(bb ti tu:Nat)(vl:Value)(m:aT):HB:=⟨bb,83,#[i_ l_ m.aH,vl,p_ (S_ ⟨ti,0,N_⟩),p_ (S_ ⟨tu,0,N_⟩),b_ m.set]⟩
structure iG where
 ti:Nat
 tu:Nat
 vl:Value
 Hl:List HB
 Hi:List HB
 Hu:List HB
 G:List gu
structure iG.ok(b:iG)(m:aT)(ff fz:Bool):Prop where
 ss:b.G.map (·.m)=m.ss
 st:∀s∈b.G,QSt s
 row:dh 85 5 b.vl b.G.length (b.G.flatMap gu.v) b.Hl
 ti:ku b.ti m.first ff b.Hi
 tu:ku b.tu m.dA fz b.Hu
 pl: -1000≤m.aH∧m.aH≤1000
def iG.heap(b:iG)(bb:Nat)(m:aT):List HB:=jk bb b.ti b.tu b.vl m::(b.Hl++(b.Hi++(b.Hu++b.G.flatMap gu.heap)))
def kC(bb:Nat)(m:aT)(ff fz:Bool)(H:List HB):Prop:=∃b:iG,b.ok m ff fz∧H=b.heap bb m
theorem afc:(Tryz.prog.info? 85).map (fun i=>(i.zero,i.size,i.bytes))=S_ (S_ (g_ #[i_ l_ 0,s_ N_ 0 0,s_ N_ 0 0,i_ l_ 0,i_ l_ 0]),5,72):=by kernel_rfl
def JG(x:Int)(n:Nat):Nat:=(x%(n:Int)).toNat
theorem zq(x:Int){n:Nat}(h:1≤n):JG x n<n:=by have h1:=Int.emod_nonneg x (show(n:Int)≠0 by omega);have h2:=Int.emod_lt_of_pos x (show 0<(n:Int) by omega);unfold JG;omega
theorem OE(x:Int){n:Nat}(h:1≤n):((JG x n:Nat):Int)=x%n:=by have h1:=Int.emod_nonneg x (show(n:Int)≠0 by omega);unfold JG;omega
def Q5(aH:Nat)(ns:List Int)(i:Nat):Int:=
 if ns.length=0 then 0 else
 let n:=ns.getD (i%ns.length) 0;let m:=JG (wrap64 (wrap64 (Int.tdiv n 64)+i)) (2^JG (wrap64 (Int.tdiv n 7)) (aH+1));let c:=JG (wrap64 (n+(i/ns.length:Nat))) 5
 if c<2 then(m:Int)else if c<4 then-(m:Int)else 0
def jI(aH:Nat)(ns:List Int):List Int:=(List.range 15).map (Q5 aH ns)
theorem J!(aH:Nat)(ns:List Int)(i:Nat):(Q5 aH ns i).natAbs<2^aH:=by
 have h0:0<2^aH:=Nat.pow_pos (by decide);unfold Q5;split
 ·exact h0
 ·rename_i hn;simp only;generalize ns.getD (i%ns.length) 0=n;have h1:=zq (wrap64 (Int.tdiv n 7)) (n:=aH+1) (by omega);have h2:=zq (wrap64 (wrap64 (Int.tdiv n 64)+i)) (n:=2^JG (wrap64 (Int.tdiv n 7)) (aH+1)) (Nat.pow_pos (by decide));have h3:2^JG (wrap64 (Int.tdiv n 7)) (aH+1)≤2^aH:=fB (by decide) (by omega);split
  ·omega
  ·split
   ·omega
   ·exact h0
def zk(band ah:Nat)(v:List Int):GeoM:=⟨3,5,band,ah,v.map Int.natAbs,v.map fun n=>yh (decide (n<0))⟩
theorem ahY(band ah aH:Nat)(ns:List Int)(h1:band≤3)(h2:ah≤63)(h3:aH≤12):(zk band ah (jI aH ns)).Ok:=
 ⟨by show 1≤3;decide,by show 3≤64;decide,by show 1≤5;decide,by show 5≤64;decide,h1,h2,by simp[zk,jI],by simp[zk,jI],by
  intro m hm;simp only[zk,jI,jc,bW]at hm;obtain⟨i,-,rfl⟩:=hm;have h:=J! aH ns i;have h4:2^aH≤2^12:=fB (by decide) h3;have h5:(2:Nat)^12=4096:=rfl;show(Q5 aH ns i).natAbs<1073741824;omega,by
  intro m hm;simp only[zk,bW]at hm;obtain⟨i,-,rfl⟩:=hm;exact zT _⟩
theorem Af(band ah aH:Nat)(ns:List Int)(h3:aH≤12):(jv (zk band ah (jI aH ns))).aH≤12∧(jv (zk band ah (jI aH ns))).fZ.length≤34∧(jv (zk band ah (jI aH ns))).bytes.length≤200000∧(∀p∈(jv (zk band ah (jI aH ns))).fZ,0≤p.1∧p.1≤200000):=by
 obtain⟨G,hG⟩:=X_ (zk band ah (jI aH ns));have hp:iO G.yl≤12:=Nw G.yl 12 (by intro m hm;rw[←hG]at hm;simp only[zk,jI,jc,bW]at hm;obtain⟨i,-,rfl⟩:=hm;have h:=J! aH ns i;have h4:2^aH≤2^12:=fB (by decide) h3;exact eH h h4);have hw:G.w*G.h=15:=by rw[←hG];rfl
 have hh:1≤G.h:=by rw[←hG];show 1≤5;decide
 rw[hG];obtain⟨ok,hb⟩:=Jz G hh;have he:(jv G).aH=iO G.yl:=rfl;rw[←he]at hp;have h2:oM (jv G).aH≤34:=by unfold oM;omega
 have hn:(jv G).fZ.length≤34:=by rw[ok.len];exact h2
 have h3:(jv G).bytes.length≤34*2948:=by refine fD hb ?_;rw[hw];exact dK _ h2
 exact⟨hp,hn,by omega,fun p hpm=>by have:=ok.pos p hpm;omega⟩
structure ShapeM where
 w:Int
 h:Int
 spare:Int
 aH:List Int
 ns:List Int
def ShapeM.W(s:ShapeM):Nat:=JG s.w 4
def ShapeM.H(s:ShapeM):Nat:=JG s.h 4
def ShapeM.most(s:ShapeM):Nat:=12+JG s.spare 4
def ShapeM.n(s:ShapeM)(k:Nat):Nat:=if s.aH.length=0 then 0 else JG (s.aH.getD (k%s.aH.length) 0) 13
theorem ShapeM.aeP(s:ShapeM)(k:Nat):s.n k≤12:=by
 unfold ShapeM.n;split
 ·omega
 ·have:=zq (s.aH.getD (k%s.aH.length) 0) (n:=13) (by omega);omega
def ShapeM.blk(s:ShapeM)(i ah k:Nat):aiv:=jv (zk (i%4) ah (jI (s.n k) s.ns))
def ShapeM.new(s:ShapeM):aT:=vH s.W s.H (s.most:Int)
def ShapeM.band(s:ShapeM)(i ah:Nat):Nat→aT
 |0=>s.new
 |k+1=>DV (s.band i ah k) (k:Int) ((s.blk i ah k).aH:Int) (s.blk i ah k).fZ (s.blk i ah k).bytes
theorem ShapeM.lt(s:ShapeM):s.W<4∧s.H<4∧12≤s.most∧s.most<16:=by have h1:=zq s.w (n:=4) (by omega);have h2:=zq s.h (n:=4) (by omega);have h3:=zq s.spare (n:=4) (by omega);unfold ShapeM.W ShapeM.H ShapeM.most;omega
theorem ShapeM.Lm(s:ShapeM)(i ah:Nat):∀k≤s.W*s.H,(s.band i ah k).ss.length=s.W*s.H∧(∀j,k≤j→j<s.W*s.H→(s.band i ah k).ss[j]?=S_ lV.m)∧
 (s.band i ah k).aH=(s.most:Int)∧(s.band i ah k).w=s.W∧(s.band i ah k).h=s.H∧(s.band i ah k).set=F_∧(s.band i ah k).first=jr s.W s.H∧(s.band i ah k).dA=jr s.W s.H∧
 ∀x∈(s.band i ah k).ss,x=lV.m∨∃j<k,x=⟨((s.blk i ah j).aH:Int),(s.blk i ah j).fZ,(s.blk i ah j).bytes,0,3⟩
 |0,_=>⟨by simp[ShapeM.band,ShapeM.new,vH],fun j _ hj=>WL _ _ _ hj,rfl,rfl,rfl,rfl,rfl,rfl,fun x hx=>.inl (jC hx)⟩
 |k+1,hk=>by
  obtain⟨h1,h2,h3,h4,h5,h6,h7,h8,h9⟩:=ShapeM.Lm s i ah k (by omega);have h0:=h2 k (aN _) (by omega);have e:=aaD h0 ((s.blk i ah k).aH:Int) (s.blk i ah k).fZ (s.blk i ah k).bytes;have e2:(s.band i ah (k+1)).ss=(s.band i ah k).ss.set k ⟨((s.blk i ah k).aH:Int),(s.blk i ah k).fZ,(s.blk i ah k).bytes,0,3⟩:=e;have e3:∀{α:Type} (f:aT→α),(∀(m:aT) (ss:List og),f {m with ss:=ss}=f m)→f (s.band i ah (k+1))=f (s.band i ah k):=by
   intro α f hf;show f (DV _ _ _ _ _)=_;unfold DV;split
   ·rfl
   ·exact hf _ _
  refine⟨by rw[e2,fC];exact h1,fun j hj1 hj2=>?_,(e3 aT.aH fun _ _=>rfl).trans h3,(e3 aT.w fun _ _=>rfl).trans h4,(e3 aT.h fun _ _=>rfl).trans h5,(e3 aT.set fun _ _=>rfl).trans h6,(e3 aT.first fun _ _=>rfl).trans h7,(e3 aT.dA fun _ _=>rfl).trans h8,fun x hx=>?_⟩
  ·rw[e2,oC (by omega)];exact h2 j (by omega) hj2
  ·rw[e2]at hx;rcases cZ hx with h|h
   ·rcases h9 x h with h|⟨j,hj,h⟩
    ·exact .inl h
    ·exact .inr ⟨j,by omega,h⟩
   ·exact .inr ⟨k,by omega,h⟩
theorem V8(a w h:Nat){j:Nat}(hj:j<w*h):(uu a (jE w h))[j]?=S_ (JZ a w h j,⟨0,0,F_⟩):=by refine Ee ?_;simp only[jE,jH];rw[aK hj]
theorem Ai(a w h:Nat):(uu a (jE w h)).length=w*h:=by simp[uu,jE]
theorem aiZ(n a b j:Nat)(h1:1<a*b)(ha:1≤a)(ha2:a≤64)(hab:a*b≤4096)(hj:j<a*b)(hn:n≤24576):wrap64 (wrap64 ((n:Int)+a*b+wrap64 (wrap64 (Int.tdiv (wrap64 ((j:Int)/(a:Int))) 2)*(((a:Int)+1)/2)))+wrap64 (Int.tdiv ((j:Int)%a) 2))=JZ n a b j:=by
 unfold JZ;rw[aK h1];have e1:(j:Int)/(a:Int)=((j/a:Nat):Int):=by push_cast;rfl
 have e2:(j:Int)%a=((j%a:Nat):Int):=by push_cast;rfl
 have e3:(a:Int)*b=((a*b:Nat):Int):=by push_cast;rfl
 rw[e1,e2,e3];clear e1 e2 e3;have h2:j/a≤j:=pV j a;have h3:j%a<a:=kP _ (by omega);generalize j/a=p at*;generalize j%a=q at*;generalize a*b=r at*;have h6:p/2≤4096:=by omega
 have h7:(a+1)/2≤64:=by omega
 have h8:p/2*((a+1)/2)≤262144:=by have h9:p/2*((a+1)/2)≤4096*((a+1)/2):=dK _ h6;omega
 have hu:q/2≤64:=by omega
 have e7:((p/2:Nat):Int)*(((a+1)/2:Nat):Int)=((p/2*((a+1)/2):Nat):Int):=(Int.natCast_mul _ _).symm;have W:Hid (∀x:Int,0≤x→x≤1000000→wrap64 x=x):=af fun x h1 h2=>pK x ⟨by omega,by omega⟩;have D:Hid (∀x:Nat,Int.tdiv (x:Int) 2=((x/2:Nat):Int)):=af fun x=>by rw[Int.tdiv_eq_ediv_of_nonneg (by omega)];omega
 have b1:(0:Int)≤p∧(p:Int)≤1000000:=by omega
 have b2:(0:Int)≤((p/2:Nat):Int)∧((p/2:Nat):Int)≤1000000:=by omega
 have b3:(0:Int)≤((q/2:Nat):Int)∧((q/2:Nat):Int)≤1000000:=by omega
 rw[show((a:Int)+1)/2=(((a+1)/2:Nat):Int) by omega,W _ b1.1 b1.2,D.out,D.out,W _ b2.1 b2.2,W _ b3.1 b3.2,e7];clear e7 b1 b2 b3;generalize p/2*((a+1)/2)=t at*;generalize q/2=u at*;have b1:(0:Int)≤t∧(t:Int)≤1000000:=by omega
 have b2:(0:Int)≤n+r+t∧(n:Int)+r+t≤1000000:=by omega
 have b3:(0:Int)≤n+r+t+u∧(n:Int)+r+t+u≤1000000:=by omega
 push_cast;rw[W _ b1.1 b1.2,W _ b2.1 b2.2,W _ b3.1 b3.2]
theorem abU(x y:Nat)(W:World)(hx:x≤64)(hy:y≤64):Calls P_ 51 #[i_ l_ x,i_ l_ y] W fun e W'=>∃tb H,e=r_ (p_ (S_ ⟨tb,0,N_⟩))∧ku tb (jr x y) F_ H∧Mv W [] W' H:=by
 by_cases h0:x=0∨y=0
 ·have e0:jr x y=[]:=by unfold jr;rw[aK (by omega)]
  rw[e0];have M:=iF W 159 #[s_ N_ 0 0,i_ l_ 0,b_ F_];have T0:ku W.heap.size [] F_ [⟨W.heap.size,159,#[s_ N_ 0 0,i_ l_ 0,b_ F_]⟩]:=⟨_,[],rfl,dh.nil _ _⟩;have K:=dS M T0;have mx:(if(0:Int)<x then(x:Int)else 0)=(x:Int):=by split<;>omega
  have my:(if(0:Int)<y then(y:Int)else 0)=(y:Int):=by split<;>omega
  clear M T0 e0;rcases h0 with rfl|rfl
  ·go_enter Tryz.func51,Tryz.ntmps51;go_wp2_with fail;go_ret;exact⟨_,_,rfl,K.2,K.1⟩
  ·go_enter Tryz.func51,Tryz.ntmps51;go_wp2_with fail;go_ret;exact⟨_,_,rfl,K.2,K.1⟩
 ·have hx1:1≤x:=by omega
  have hy1:1≤y:=by omega
  have e0:jr x y=treeNew 7 x y:=by unfold jr;rw[aJ (by omega),Int.toNat_natCast,Int.toNat_natCast]
  rw[e0];have mx:(if(0:Int)<x then(x:Int)else 0)=(x:Int):=by split<;>omega
  have my:(if(0:Int)<y then(y:Int)else 0)=(y:Int):=by split<;>omega
  have hxy:x*y≤64*64:=bZ hx hy;have akA:1*1≤x*y:=bZ hx1 hy1;have b1:(x:Int)*y≤4096:=by exact_mod_cast hxy
  have b2:1≤(x:Int)*y:=by exact_mod_cast akA
  have b3:((x:Int)*y==0)=F_:=by simp only[bF,ne_eq];omega
  have M:=iF W 159 #[s_ N_ 0 0,i_ l_ ((x:Int)*y),b_ F_];have hp6:(64:Nat)=2^6:=rfl;have K:=nY M (show x≤2^6 by omega) (show y≤2^6 by omega);have HL:Hid (leavesM (treeNew 7 x y)=x*y):=af (by unfold treeNew;split<;>simp[leavesM,jE]);have y0:=M.cell 0 rfl 1;obtain⟨tb,htb⟩:∃g,W.heap.size=g:=⟨_,rfl⟩;rw[htb]at K;have HTB:=af htb;clear M h0 e0 hp6 hxy akA;go_enter Tryz.func51,Tryz.ntmps51;go_upto_region 4 with fail
  (try simp only[htb])
  clear htb y0;go_wp2_with fail;go_loopg [6,7,8] 7 (fun m s6 s7 s8 wx=>∃(f a b n:Nat) (l:List (Int×dY)) (v:Value) (Hl:List HB),m=f+1∧f≤6∧s6=i_ l_ a∧s7=i_ l_ b∧s8=i_ l_ n∧l.length=n∧1≤a∧a≤2^f∧1≤b∧b≤2^f∧n+f*4096≤6*4096∧l++rnodes n (treeNew (f+1) a b)=rnodes 0 (treeNew 7 x y)∧dh 162 4 v n (kM l) Hl∧Mv W [] wx (⟨tb,159,#[v,i_ l_ ((x:Int)*y),b_ F_]⟩::Hl))
  case atStart=>exact⟨6,x,y,0,[],_,[],rfl,aN _,rfl,rfl,rfl,rfl,hx1,K.2.1,hy1,K.2.2,aN _,rfl,dh.nil _ _,K.1⟩
  case round=>
   obtain⟨f,a,b,n,l,v,Hl,rfl,hf,rfl,rfl,rfl,hln,ha1,ha2,hb1,hb2,hn,hT,hr,m⟩:=hrel;have h64:2^f≤64:=fB (n:=2) (by decide) hf;have ahV:a≤64:=by omega
   have hb64:b≤64:=by omega
   have hab:a*b≤64*64:=bZ ahV hb64;have ak6:1*1≤a*b:=bZ ha1 hb1;have c1:(a:Int)*b≤4096:=by exact_mod_cast hab
   have c2:1≤(a:Int)*b:=by exact_mod_cast ak6
   have hn2:n≤24576:=by omega
   have KR:=LH hln ha2 hb2 hn hT;have KM:=dS hr m;obtain⟨q,hq⟩:=X_ (a*b);have HQ:=af hq;have hq1:1≤q∧q≤4096:=by omega
   obtain⟨hq1,hq2⟩:=hq1;clear hln ha2 hb2 hn hT hr m h64 hab ak6 K hq;go_wp2_with fail;go_loopg [10] q (fun mm s10 wx=>∃(j:Nat) (v:Value) (Hl:List HB),j≤q∧mm=q-j∧s10=i_ l_ j∧dh 162 4 v (n+j) (kM (l++(uu n (jE a b)).take j)) Hl∧Mv W [] wx (⟨tb,159,#[v,i_ l_ ((x:Int)*y),b_ F_]⟩::Hl))
   case atStart=>exact⟨0,v,Hl,aY _,rfl,rfl,by simpa using KM.1,KM.2⟩
   case round=>
    clear KM;obtain⟨j,v,Hl,hj,rfl,rfl,hr,m⟩:=hrel;have z0:wr.cell? ⟨tb,0,N_⟩=S_ v:=m.cell 0 rfl 0;have z1:=m.frozen 0 rfl 0;obtain⟨va,vc,rfl⟩:=hr.slice;by_cases hlt:j<q
    ·have d1:decide ((j:Int)<a*b)=T_:=aQ (by have:=HQ.out;exact_mod_cast (by omega:j<a*b));have KA:=dS hr m;have KH:=af hr;clear hr m;by_cases h1:1<a*b
     ·have d2:decide (1<(a:Int)*b)=T_:=aQ (by exact_mod_cast h1);have hrp:=af (aiZ n a b j h1 ha1 ahV (by rw[HQ.out];exact hq2) (by rw[HQ.out];exact hlt) hn2);go_upto_region 11 with fail;go_quiet (fail);simp only[hrp.out];clear hrp z0 z1 d2;obtain⟨up,hup⟩:=X_ (JZ n a b j);simp only[hup];replace hup:=af hup;obtain⟨wq,hwq⟩:=X_ (wr.drewN nq);have mq:Mv W [] wq (⟨tb,159,#[s_ va (n+j) vc,i_ l_ ((x:Int)*y),b_ F_]⟩::Hl):=by rw[←hwq];exact KA.2.drewN nq
      rw[hwq];clear hwq KA;have z0:wq.cell? ⟨tb,0,N_⟩=S_ (s_ va (n+j) vc):=mq.cell 0 rfl 0;have M4:=mq.alloc 162 #[i_ l_ 0,i_ l_ 0,b_ F_,i_ l_ up];have M5:Mv W [] _ (Hl++(⟨wq.heap.size,162,#[i_ l_ 0,i_ l_ 0,b_ F_,i_ l_ up]⟩::⟨tb,159,#[s_ va (n+j) vc,i_ l_ ((x:Int)*y),b_ F_]⟩::[])):=M4.Z_;have K5:=dS KH M5;clear M4 M5 mq KH;go_upto_region 8 with(at_builtin;refine rY Tryz.underlying157 ae7 rfl (by decide) (by decide) rfl (.tmp 62) (.tmp 65) rfl (s_ va (n+j) vc) rfl rfl K5.out.1 K5.out.2.sat.left (zy rfl rfl) ?one ?len ?nxt;(case one=>(intro u hu;exact Nv [(up,⟨0,0,F_⟩)] u hu));(case len=>omega);intro v6 w6 H6 h6 m6;obtain⟨a6,c6,rfl⟩:=h6.slice;have M6:=Mv.call K5.out.2 m6;have M7:Mv W [] w6 (⟨tb,159,#[s_ va (n+j) vc,i_ l_ ((x:Int)*y),b_ F_]⟩::H6):=M6.Z_;have z2:w6.cell? ⟨tb,0,N_⟩=S_ (s_ va (n+j) vc):=(by first|exact M7.cell 0 rfl 0);have z3:w6.frozen? ⟨tb,0,N_⟩=F_:=(by first|exact M7.frozen 0 rfl 0);have K6:=dS h6 (M7.set 0 (s_ a6 (n+j+1) c6));clear h6 m6 M6 M7);go_wp2_with fail;go_roundg (q-(j+1))
      case measure=>omega
      case rel=>exact⟨j+1,_,H6,hlt,rfl,by push_cast;rfl,by rw[eU,V8 n a b (by rw[HQ.out];exact hlt),Option.toList_some,←az,GR,hup.out];exact K6.1,K6.2⟩
     ·have d2:decide (1<(a:Int)*b)=F_:=aW (by intro h;exact h1 (by exact_mod_cast h));clear z0 z1;have hup:Hid (JZ n a b j= -1):=af (by unfold JZ;rw[aJ h1]);obtain⟨wq,rfl⟩:∃wq:World,wq=wr:=⟨_,rfl⟩;have mq:Mv W [] wq (⟨tb,159,#[s_ va (n+j) vc,i_ l_ ((x:Int)*y),b_ F_]⟩::Hl):=KA.2;clear KA;have z0:wq.cell? ⟨tb,0,N_⟩=S_ (s_ va (n+j) vc):=mq.cell 0 rfl 0;have M4:=mq.alloc 162 #[i_ l_ 0,i_ l_ 0,b_ F_,i_ l_ (-1)];have M5:Mv W [] _ (Hl++(⟨wq.heap.size,162,#[i_ l_ 0,i_ l_ 0,b_ F_,i_ l_ (-1)]⟩::⟨tb,159,#[s_ va (n+j) vc,i_ l_ ((x:Int)*y),b_ F_]⟩::[])):=M4.Z_;have K5:=dS KH M5;clear M4 M5 mq KH;go_upto_region 8 with(at_builtin;refine rY Tryz.underlying157 ae7 rfl (by decide) (by decide) rfl (.tmp 62) (.tmp 65) rfl (s_ va (n+j) vc) rfl rfl K5.out.1 K5.out.2.sat.left (zy rfl rfl) ?alB ?alH ?amO;(case alB=>(intro u hu;exact Nv [(-1,⟨0,0,F_⟩)] u hu));(case alH=>omega);intro v6 w6 H6 h6 m6;obtain⟨a6,c6,rfl⟩:=h6.slice;have M6:=Mv.call K5.out.2 m6;have M7:Mv W [] w6 (⟨tb,159,#[s_ va (n+j) vc,i_ l_ ((x:Int)*y),b_ F_]⟩::H6):=M6.Z_;have z2:w6.cell? ⟨tb,0,N_⟩=S_ (s_ va (n+j) vc):=(by first|exact M7.cell 0 rfl 0);have z3:w6.frozen? ⟨tb,0,N_⟩=F_:=(by first|exact M7.frozen 0 rfl 0);have K6:=dS h6 (M7.set 0 (s_ a6 (n+j+1) c6));clear h6 m6 M6 M7);go_wp2_with fail;go_roundg (q-(j+1))
      case measure=>omega
      case rel=>exact⟨j+1,_,H6,hlt,rfl,by push_cast;rfl,by rw[eU,V8 n a b (by rw[HQ.out];exact hlt),Option.toList_some,←az,GR,hup.out];exact K6.1,K6.2⟩
    ·have d1:decide ((j:Int)<a*b)=F_:=aW (by intro h;have h2:=HQ.out;have h3:j<a*b:=(by exact_mod_cast h);omega);obtain rfl:j=q:=by omega
     have hj2:(uu n (jE a b)).take j=uu n (jE a b):=dC (by rw[Ai,HQ.out];exact aN _);rw[hj2]at hr;have KA:=dS hr m;clear hr m z0 z1 hj2;by_cases h1:j=1
     ·subst h1;have h2:=HQ.out;obtain⟨rfl,rfl⟩:a=1∧b=1:=⟨Nat.eq_one_of_mul_eq_one_right h2,Nat.eq_one_of_mul_eq_one_left h2⟩;clear h2;go_wp2_with fail;go_ret;obtain⟨k1,k2,k3,k4,k5⟩:=KR.out;have e:l++uu n (jE 1 1)=rnodes 0 (treeNew 7 x y):=by rw[←k5];simp[treeNew,rnodes]
      have hlen:(rnodes 0 (treeNew 7 x y)).length=n+1:=by rw[←e,au,Ai,k1]
      (first|refine⟨tb,_,rfl,⟨s_ va (n+1) vc,Hl,?_,?_⟩,KA.2⟩|refine⟨tb,rfl,_,⟨s_ va (n+1) vc,Hl,?_,?_⟩,KA.2⟩)
      ·rw[HL.out];push_cast;rfl
      ·rw[hlen,←e];exact KA.1
     ·have d3:((a:Int)*b==1)=F_:=by
       simp only[bF,ne_eq];intro h;have h2:=HQ.out;have h3:a*b=1:=by exact_mod_cast h
       omega
      go_wp2_with fail;obtain⟨k1,k2,k3,k4,k5⟩:=KR.out;cases f with
      |zero=>
       have h2:=HQ.out;obtain rfl:a=1:=by simp at k2;omega
       obtain rfl:b=1:=by simp at k3;omega
       omega
      |succ f=>
       rw[Nat.pow_succ]at k2 k3;go_roundg (f+1)
       case measure=>omega
       case rel=>
        have hne:¬(a=1∧b=1):=fun h=>by have h2:=HQ.out;rw[h.1,h.2]at h2;omega
        have e:treeNew (f+1+1) a b=jE a b::treeNew (f+1) ((a+1)/2) ((b+1)/2):=by
         conv=>lhs;unfold treeNew
         rw[aJ hne]
        refine⟨f,(a+1)/2,(b+1)/2,n+j,l++uu n (jE a b),_,Hl,rfl,by omega,by go_num,by go_num,?_,by rw[au,Ai,k1,HQ.out],by omega,by omega,by omega,by omega,by omega,?_,KA.1,KA.2⟩
        ·have h2:=HQ.out;rw[←h2];push_cast;rfl
        ·rw[←k5,e];simp only[rnodes,az,jE,ja,HQ.out]
theorem P!:QSt lV:=⟨dh.nil _ _,dh.nil _ _,⟨by simp[lV],by simp[lV],by simp[lV],by simp[lV],by simp[lV],by simp[lV]⟩⟩
theorem Yn(n:Nat):(List.replicate n lV).flatMap gu.heap=[]:=by
 induction n with
 |zero=>rfl
 |succ n ih=>simp[gu.heap,lV]
theorem ZK(G:List gu)(h:∀s∈G,QSt s):∀u∈G.flatMap gu.v,u.oneCell'=T_:=by intro u hu;obtain⟨s,hs,hu⟩:=iw.1 hu;obtain⟨h1,h2,-⟩:=h s hs;obtain⟨a1,c1,e1⟩:=h1.slice;obtain⟨a2,c2,e2⟩:=dR.slice h2;simp only[gu.v,aC,bP,gQ,e1,e2]at hu;rcases hu with rfl|rfl|rfl|rfl|rfl<;>rfl
theorem acf(x y:Nat)(aH:Int)(W:World)(hx:x≤64)(hy:y≤64)(hp: -1000≤aH∧aH≤1000):Calls P_ 16 #[i_ l_ x,i_ l_ y,i_ l_ aH] W fun e W'=>∃bb H,e=r_ (p_ (S_ ⟨bb,0,N_⟩))∧kC bb (vH x y aH) F_ F_ H∧Mv W [] W' H:=by
 have T1:=af fun V=>abU x y V hx hy;have mx:(if(0:Int)<x then(x:Int)else 0)=(x:Int):=by split<;>omega
 have my:(if(0:Int)<y then(y:Int)else 0)=(y:Int):=by split<;>omega
 have hxy:x*y≤64*64:=bZ hx hy;have b1:(x:Int)*y≤4096:=by exact_mod_cast hxy
 have b2:0≤(x:Int)*y:=by exact_mod_cast aY (x*y)
 obtain⟨n,hn⟩:=X_ (x*y);have hn4:n≤4096:=by omega
 have HN:=af hn;clear hn hxy;go_enter Tryz.func16,Tryz.ntmps16;have T2:=T1;go_upto_region 2 with(first
  |(go_at_call 51;(with_reducible refine(T1.out _).mono ?_);rintro e w1 ⟨t1,H1,rfl,q2,q3⟩;have K1:=dS q2 q3;clear q2 q3 T1)
  |(go_at_call 51;(with_reducible refine(T2.out _).mono ?_);rintro e w2 ⟨t2,H2,rfl,q2,q3⟩;have K2:=dS q2 (Mv.call (H:=[]) (R:=H1) K1.out.2 q3);clear q2 q3 T2))
 obtain⟨bb,hbb⟩:=X_ (w2.heap.size);have M3:=K2.2.alloc 83 #[i_ l_ aH,s_ N_ 0 0,p_ (S_ ⟨t1,0,N_⟩),p_ (S_ ⟨t2,0,N_⟩),b_ F_];rw[hbb]at M3;have K3:=af M3;clear M3;simp only[hbb];go_wp2_with fail;go_loopg [8] n (fun mm s8 wx=>∃(j:Nat) (v:Value) (Hl:List HB),j≤n∧mm=n-j∧s8=i_ l_ j∧dh 85 5 v j ((List.replicate j lV).flatMap gu.v) Hl∧Mv W [] wx (⟨bb,83,#[i_ l_ aH,v,p_ (S_ ⟨t1,0,N_⟩),p_ (S_ ⟨t2,0,N_⟩),b_ F_]⟩::(Hl++(H2++H1))))
 case atStart=>exact⟨0,_,[],aY _,rfl,rfl,dh.nil _ _,K3.out⟩
 case round=>
  clear K3;obtain⟨j,v,Hl,hj,rfl,rfl,hr,m⟩:=hrel;have z0:wr.cell? ⟨bb,1,N_⟩=S_ v:=m.cell 0 rfl 1;have z1:=m.frozen 0 rfl 1;obtain⟨va,vc,rfl⟩:=hr.slice;by_cases hlt:j<n
  ·have d1:decide ((j:Int)<x*y)=T_:=aQ (by have:=HN.out;exact_mod_cast (by omega:j<x*y));have M4:=m.alloc 85 #[i_ l_ 0,s_ N_ 0 0,s_ N_ 0 0,i_ l_ 0,i_ l_ 3];have M5:Mv W [] _ (Hl++(⟨wr.heap.size,85,#[i_ l_ 0,s_ N_ 0 0,s_ N_ 0 0,i_ l_ 0,i_ l_ 3]⟩::⟨bb,83,#[i_ l_ aH,s_ va j vc,p_ (S_ ⟨t1,0,N_⟩),p_ (S_ ⟨t2,0,N_⟩),b_ F_]⟩::(H2++H1))):=M4.Z_;have KA:=dS hr M5;clear hr m M4 M5;go_upto_region 4 with(at_builtin;refine rY Tryz.underlying80 afc rfl (by decide) (by decide) rfl (.tmp 31) (.tmp 33) rfl (s_ va j vc) rfl rfl KA.out.1 KA.out.2.sat.left (zy rfl rfl) ?one ?len ?nxt;(case one=>(intro u hu;exact ZK [⟨⟨0,[],[],0,3⟩,s_ N_ 0 0,s_ N_ 0 0,[],[]⟩] (fun s hs=>by rw[fJ.1 hs];exact P!) u hu));(case len=>omega);intro v6 w6 H6 h6 m6;obtain⟨a6,c6,rfl⟩:=h6.slice;have M6:=Mv.call KA.out.2 m6;have M7:Mv W [] w6 (⟨bb,83,#[i_ l_ aH,s_ va j vc,p_ (S_ ⟨t1,0,N_⟩),p_ (S_ ⟨t2,0,N_⟩),b_ F_]⟩::(H6++(H2++H1))):=M6.Z_;have z2:w6.cell? ⟨bb,1,N_⟩=S_ (s_ va j vc):=(by first|exact M7.cell 0 rfl 1);have z3:w6.frozen? ⟨bb,1,N_⟩=F_:=(by first|exact M7.frozen 0 rfl 1);have K6:=dS h6 (M7.set 1 (s_ a6 (j+1) c6));clear h6 m6 M6 M7);go_wp2_with fail;go_roundg (n-(j+1))
   case measure=>omega
   case rel=>
    refine⟨j+1,_,H6,hlt,rfl,by push_cast;rfl,?_,K6.2⟩;have e:(List.replicate (j+1) lV).flatMap gu.v=(List.replicate j lV).flatMap gu.v++[i_ l_ 0,s_ N_ 0 0,s_ N_ 0 0,i_ l_ 0,i_ l_ 3]:=by rw[rV,gX];rfl
    rw[e];exact K6.1
  ·have d1:decide ((j:Int)<x*y)=F_:=aW (by intro h;have h2:=HN.out;have h3:j<x*y:=(by exact_mod_cast h);omega);obtain rfl:j=n:=by omega
   have KA:=dS hr m;clear hr m z0 z1;go_wp2_with fail;go_ret;have RB:kC bb (vH x y aH) F_ F_ (⟨bb,83,#[i_ l_ aH,s_ va j vc,p_ (S_ ⟨t1,0,N_⟩),p_ (S_ ⟨t2,0,N_⟩),b_ F_]⟩::(Hl++(H1++(H2++[])))):=by
    refine⟨⟨t1,t2,s_ va j vc,Hl,H1,H2,List.replicate j lV⟩,⟨?_,?_,?_,K1.1,K2.1,hp⟩,?_⟩
    ·simp only[vH,List.map_replicate,HN.out]
    ·intro s hs;rw[jC hs];exact P!
    ·simpa using KA.1
    ·simp only[iG.heap,jk,Yn];rfl
   have M9:Mv W [] wr (⟨bb,83,#[i_ l_ aH,s_ va j vc,p_ (S_ ⟨t1,0,N_⟩),p_ (S_ ⟨t2,0,N_⟩),b_ F_]⟩::(Hl++(H1++(H2++[])))):=KA.2.Z_
   first
    |exact⟨bb,_,rfl,RB,M9⟩
    |exact⟨bb,rfl,_,RB,M9⟩
theorem uw{w:World}{vl:Value}{G:List gu}{Hl:List HB}(h:dh 85 5 vl G.length (G.flatMap gu.v) Hl)(hs:Sat w Hl){k:Nat}{s:gu}(hk:G[k]?=S_ s): ∃g c,vl=s_ (S_ ⟨g,0,N_⟩) G.length c∧w.cell? ⟨g,k*5,N_⟩=S_ (i_ l_ s.m.pl)∧w.cell? ⟨g,k*5+1,N_⟩=S_ s.vp∧w.cell? ⟨g,k*5+2,N_⟩=S_ s.vb∧w.cell? ⟨g,k*5+3,N_⟩=S_ (i_ l_ s.m.said)∧w.cell? ⟨g,k*5+4,N_⟩=S_ (i_ l_ s.m.lb)∧∀i,i<G.length*5→w.frozen? ⟨g,i,N_⟩=F_:=by have hkl:=(aj.1 hk).1;obtain⟨g,cap,cur,rfl,h1,h2,h3,h4,rfl⟩:=h.form (by omega);have hc:=fun j (hj:j<5)=>h.cell hs rfl (k*5+j) (by omega);have hg:=fun j (hj:j<5)=>flat_get gu.v 5 gu.jw G k s hk j hj;exact⟨g,cap,rfl,(hc 0 (by omega)).1.trans (hg 0 (by omega)),(hc 1 (by omega)).1.trans (hg 1 (by omega)),(hc 2 (by omega)).1.trans (hg 2 (by omega)),(hc 3 (by omega)).1.trans (hg 3 (by omega)),(hc 4 (by omega)).1.trans (hg 4 (by omega)),fun i hi=>(h.cell hs rfl i hi).2⟩
theorem SK{G:List gu}{k:Nat}{s:gu}(h:G[k]?=S_ s)(pl:Int)(ps:List (Int×Bool))(bs:List UInt8)(vp vb:Value)(Hp Hb:List HB):((((G.flatMap gu.v).set (k*5) (i_ l_ pl)).set (k*5+1) vp).set (k*5+2) vb)=(G.set k (s.F6 pl ps bs vp vb Hp Hb)).flatMap gu.v:=by have hk:=(aj.1 h).1;have e1:=jh gu.v 5 gu.jw G k s ⟨{s.m with pl:=pl},s.vp,s.vb,s.Hp,s.Hb⟩ h 0 (by omega) (i_ l_ pl) rfl;have e2:=jh gu.v 5 gu.jw (G.set k ⟨{s.m with pl:=pl},s.vp,s.vb,s.Hp,s.Hb⟩) k _ ⟨{s.m with pl:=pl},vp,s.vb,s.Hp,s.Hb⟩ (dJ hk) 1 (by omega) vp rfl;rw[jo]at e2;have e3:=jh gu.v 5 gu.jw (G.set k ⟨{s.m with pl:=pl},vp,s.vb,s.Hp,s.Hb⟩) k _ (s.F6 pl ps bs vp vb Hp Hb) (dJ hk) 2 (by omega) vb rfl;rw[jo]at e3;rw[Nat.add_zero]at e1;rw[e1,e2,e3]
theorem aey(bb:Nat)(m:aT)(ff fz:Bool)(H Hp Hb:List HB)(W:World)(hB:kC bb m ff fz H)(hs:Sat W (H++(Hp++Hb)))(k:Nat)(hk:k<m.ss.length)(hn5:m.ss.length≤10000)(pl:Int)(vp:Value)(ba:Option Addr)(bn bc:Nat)(ps:List (Int×Bool))(bs:List UInt8)(hp:lH vp ps Hp)(hb:dR (s_ ba bn bc) bs Hb)
 (hpl: -1000≤pl∧pl≤1000) (hn:ps.length≤1000) (hm:bs.length≤10000000) (he:∀p∈ps,0≤p.1∧p.1≤100000000) (hsd:(xZ m k).said≤ps.length):
 Calls P_ 21 #[p_ (S_ ⟨bb,0,N_⟩),i_ l_ k,g_ #[i_ l_ pl,vp,s_ ba bn bc]] W fun e W'=>e=r_ (t_ #[])∧∃H',kC bb (DV m k pl ps bs) ff fz H'∧Mv W (H++(Hp++Hb)) W' H':=by
 obtain⟨b,hb0,rfl⟩:=hB;have hlen:b.G.length=m.ss.length:=by rw[←hb0.ss,aO]
 obtain⟨s,hg⟩:∃s,b.G[k]?=S_ s:=⟨_,ai (by omega)⟩;have hms:m.ss[k]?=S_ s.m:=by rw[←hb0.ss,aV,hg];rfl
 have hso:=hb0.st s (aF hg);have e0:xZ m (k:Int)=s.m:=Oi hms;rw[e0]at hsd;obtain⟨pa,pc,rfl⟩:=hp.slice;obtain⟨w1,hw1⟩:=Y_ (W.alloc (.cells #[i_ l_ pl,s_ pa ps.length pc,s_ ba bn bc] 51));have M1:=(Mv.refl hs).alloc 51 #[i_ l_ pl,s_ pa ps.length pc,s_ ba bn bc];rw[←hw1]at M1;obtain⟨R,hR⟩:=X_ (b.Hi++(b.Hu++b.G.flatMap gu.heap));have M2:Mv W (b.heap bb m++(Hp++Hb)) w1 (b.Hl++(⟨W.heap.size,51,#[i_ l_ pl,s_ pa ps.length pc,s_ ba bn bc]⟩::jk bb b.ti b.tu b.vl m::(R++(Hp++Hb)))):=M1.sub (fun g=>by simp only[iG.heap,hR,aP,bK];omega) (fun c hc=>by simp only[iG.heap,hR,ay,aC]at hc⊢;grind);obtain⟨lg,lc,hvl,c0,c1,c2,-,-,fz0⟩:=uw hb0.row M2.sat.left hg;have y0:w1.cell? ⟨W.heap.size,0,N_⟩=S_ (i_ l_ pl):=M1.cell 0 rfl 0;have y1:w1.cell? ⟨W.heap.size,1,N_⟩=S_ (s_ pa ps.length pc):=M1.cell 0 rfl 1;have y2:w1.cell? ⟨W.heap.size,2,N_⟩=S_ (s_ ba bn bc):=M1.cell 0 rfl 2;have z0:w1.cell? ⟨bb,1,N_⟩=S_ (s_ (S_ ⟨lg,0,N_⟩) b.G.length lc):=by rw[←hvl];exact M1.cell 1 rfl 1
 have f0:=fz0 (k*5) (by omega);have f1:=fz0 (k*5+1) (by omega);have f2:=fz0 (k*5+2) (by omega);have FIN:Hid (∀w2,Mv W (b.heap bb m++(Hp++Hb)) w2 (b.Hl++(⟨W.heap.size,51,#[i_ l_ pl,s_ pa ps.length pc,s_ ba bn bc]⟩::jk bb b.ti b.tu b.vl m::(R++(Hp++Hb))))→ ∃H',kC bb (DV m k pl ps bs) ff fz H'∧Mv W (b.heap bb m++(Hp++Hb)) (((w2.setCell ⟨lg,k*5,N_⟩ (i_ l_ pl)).setCell ⟨lg,k*5+1,N_⟩ (s_ pa ps.length pc)).setCell ⟨lg,k*5+2,N_⟩ (s_ ba bn bc)) H'):=af (by
  intro w2 m2;obtain⟨H1,r1,q1⟩:=hb0.row.set m2.sat.left hvl (k*5) (i_ l_ pl) (by omega);obtain⟨H2,r2,q2⟩:=r1.set q1.sat hvl (k*5+1) (s_ pa ps.length pc) (by omega);obtain⟨H3,r3,q3⟩:=r2.set q2.sat hvl (k*5+2) (s_ ba bn bc) (by omega);have m3:=Mv.call m2 (Mv.call (R:=[]) (by simpa using Mv.call (R:=[]) (by simpa using q1) q2) q3);rw[SK hg pl ps bs (s_ pa ps.length pc) (s_ ba bn bc) Hp Hb]at r3;refine⟨_,⟨{b with Hl:=H3,G:=b.G.set k (s.F6 pl ps bs (s_ pa ps.length pc) (s_ ba bn bc) Hp Hb)},⟨?_,?_,?_,?_,?_,?_⟩,rfl⟩,m3.sub (fun g=>?_) (fun c hc=>?_)⟩
  ·rw[aaD hms,←hb0.ss,jb];rfl
  ·intro x hx;rcases cZ hx with h|rfl
   ·exact hb0.st x h
   ·exact⟨hp,hb,⟨hn,hm,hpl,⟨hso.2.2.said.1,hsd⟩,hso.2.2.lb,he⟩⟩
  ·simp only[fC];exact r3
  ·have:=hb0.ti;unfold DV;split
   ·exact this
   ·exact this
  ·have:=hb0.tu;unfold DV;split
   ·exact this
   ·exact this
  ·have:=hb0.pl;unfold DV;split
   ·exact this
   ·exact this
  ·have:=uI gu.heap (s.F6 pl ps bs (s_ pa ps.length pc) (s_ ba bn bc) Hp Hb) g b.G k s hg;have e:cnt g (gu.heap (s.F6 pl ps bs (s_ pa ps.length pc) (s_ ba bn bc) Hp Hb))=cnt g (Hp++Hb):=rfl;rw[←hR];simp only[iG.heap,jk,aP,bK,gI]at this e⊢;omega
  ·rw[←hR];simp only[iG.heap,ay,aC,bP,gQ]at hc⊢;rcases hc with h|h|h|h|h
   ·refine .inr (.inr (.inl ?_));rw[h];unfold jk DV;split<;>rfl
   ·exact .inl h
   ·exact .inr (.inr (.inr (.inl (.inl h))))
   ·exact .inr (.inr (.inr (.inl (.inr (.inl h)))))
   ·rcases Am gu.heap h with h1|h1
    ·exact .inr (.inr (.inr (.inl (.inr (.inr h1)))))
    ·exact .inr (.inr (.inr (.inr (ay.1 h1)))))
 have K2:=af M2;have hkg:(k:Int)<b.G.length:=by omega
 have hk5:k*5<100000:=by omega
 have hgl:b.G.length≤10000:=by omega
 obtain⟨gl,ak1⟩:=X_ (b.G.length);rw[ak1]at z0 hkg hgl;obtain⟨np,xu⟩:=X_ (ps.length);rw[xu]at FIN K2 y1 hw1⊢;clear ak1 hs hb0 hlen hg hms hso e0 hsd M1 M2 hR hp hb hn hm he fz0 hvl hn5 hk xu;go_enter Tryz.func21,Tryz.ntmps21;go_upto_region 1 with fail;rw[←hw1];clear hw1;go_upto_region 2 with fail;go_still_tail 8,(by kernel_rfl);go_wp2_with fail;obtain⟨H',h1,h2⟩:=FIN _ K2.out;exact dm (bH rfl _ _ _) rfl ⟨rfl,H',h1,h2.drew⟩
def setLeaf(T:List bV)(k:Nat)(n:Int):List bV:=
 match T with
 | []=>[]
 |L::R=>(match L.l[k]? with|some x=>{L with l:=L.l.set k {x with n:=n}}|none=>L)::R
def rplantStep(count:Nat)(m:aT)(k:Nat):aT:=
 match m.ss[k]? with
 |none=>m
 |some s=>{m with first:=setLeaf m.first k (frN count s.ps.length),dA:=setLeaf m.dA k (m.aH-s.pl)}
def gY(count:Nat)(m:aT)(k:Nat):aT:=(List.range k).foldl (rplantStep count) {m with set:=T_}
theorem Dv(count:Nat)(m:aT)(k:Nat):gY count m (k+1)=rplantStep count (gY count m k) k:=by unfold gY;rw[fO,dP];rfl
def xh(T:List bV)(n:Nat):Prop:=(∃L R,T=L::R∧L.l.length=n)∧offT T T.length≤100000
theorem O6{T:List bV}{n:Nat}(h:xh T n)(k:Nat)(v:Int):xh (setLeaf T k v) n:=by
 obtain⟨⟨L,R,rfl,hl⟩,ho⟩:=h;have e:(match L.l[k]? with|some x=>{L with l:=L.l.set k {x with n:=v}}|none=>L).l.length=L.l.length:=by
  split
  ·simp
  ·rfl
 refine⟨⟨_,R,rfl,e.trans hl⟩,?_⟩;unfold setLeaf;simp only[List.length_cons,offT]at ho⊢;rw[e];exact ho
theorem Rf(count:Nat)(m:aT)(k n:Nat)(h:m.set=T_∧xh m.first n∧xh m.dA n):(rplantStep count m k).ss=m.ss∧(rplantStep count m k).aH=m.aH∧(rplantStep count m k).set=T_∧xh (rplantStep count m k).first n∧xh (rplantStep count m k).dA n:=by
 unfold rplantStep;split
 ·exact⟨rfl,rfl,h⟩
 ·exact⟨rfl,rfl,h.1,O6 h.2.1 _ _,O6 h.2.2 _ _⟩
theorem Nu(count:Nat)(m:aT)(n:Nat)(h:xh m.first n∧xh m.dA n):∀k,(gY count m k).ss=m.ss∧(gY count m k).aH=m.aH∧(gY count m k).set=T_∧xh (gY count m k).first n∧xh (gY count m k).dA n
 |0=>⟨rfl,rfl,rfl,h.1,h.2⟩
 |k+1=>by rw[Dv];obtain⟨h1,h2,h3⟩:=Nu count m n h k;obtain⟨g1,g2,g3⟩:=Rf count _ k n h3;exact⟨g1.trans h1,g2.trans h2,g3⟩
theorem JU(tb:Nat)(T:List bV)(fr:Bool)(H:List HB)(W:World)(k n:Nat)(v:Int)(hT:xh T n)(hk:k<n)(h:ku tb T fr H)(hs:Sat W H):Calls P_ 79 #[p_ (S_ ⟨tb,0,N_⟩),i_ l_ k,i_ l_ v] W fun e w'=>e=r_ (t_ #[])∧∃H',ku tb (setLeaf T k v) F_ H'∧Mv W H w' H':=by
 obtain⟨⟨L,R,rfl,hl⟩,ho⟩:=hT;obtain⟨x,hx⟩:∃x,L.l[k]?=S_ x:=⟨_,ai (by omega)⟩;refine(ael tb (L::R) fr H W k v L x h hs rfl hx ho).mono ?_;rintro e w' ⟨rfl,H',r,m⟩;refine⟨rfl,H',?_,m⟩;have e:setLeaf (L::R) k v=(L::R).set 0 {L with l:=L.l.set k {x with n:=v}}:=by simp only[setLeaf,hx,List.set_cons_zero]
 rw[e];exact r
theorem Zh(bb:Nat)(m:aT)(ff fz:Bool)(H:List HB)(W:World)(hB:kC bb m ff fz H)(hs:Sat W H)(hset:m.set=T_)(count:Nat):Calls P_ 33 #[p_ (S_ ⟨bb,0,N_⟩),i_ l_ count] W fun e w'=>e=r_ (t_ #[])∧w'=W:=by
 obtain⟨b,hb0,rfl⟩:=hB;have c4:W.cell? ⟨bb,4,N_⟩=S_ (b_ T_):=by rw[←hset];exact(hs.at_ 0 rfl).cell 4
 clear hb0 hs hset;go_enter Tryz.func33,Tryz.ntmps33;go_wp2_with fail;exact dU (bH rfl _ _ _) rfl ⟨rfl,rfl⟩
theorem GY(bb:Nat)(m:aT)(b:iG)(ff fz:Bool)(hb:b.ok m ff fz){W0 w:World}{H0:List HB}(M:Mv W0 H0 w (b.heap bb m)){k:Nat}{s:og}(hk:m.ss[k]?=S_ s): ∃(lg lc n:Nat) (pa:Option Addr) (pc:Nat),n=m.ss.length∧w.cell? ⟨bb,0,N_⟩=S_ (i_ l_ m.aH)∧w.cell? ⟨bb,1,N_⟩=S_ (s_ (S_ ⟨lg,0,N_⟩) n lc)∧w.cell? ⟨bb,2,N_⟩=S_ (p_ (S_ ⟨b.ti,0,N_⟩))∧w.cell? ⟨bb,3,N_⟩=S_ (p_ (S_ ⟨b.tu,0,N_⟩))∧w.cell? ⟨lg,k*5,N_⟩=S_ (i_ l_ s.pl)∧w.cell? ⟨lg,k*5+1,N_⟩=S_ (s_ pa s.ps.length pc)∧s.Fits:=by
 have hlen:b.G.length=m.ss.length:=by rw[←hb.ss,aO]
 obtain⟨g,hg⟩:∃g,b.G[k]?=S_ g:=⟨_,ai (by rw[hlen];exact(aj.1 hk).1)⟩;have e:g.m=s:=by
  have:m.ss[k]?=S_ g.m:=by rw[←hb.ss,aV,hg];rfl
  rw[hk]at this;exact(iL this).symm
 obtain⟨q1,q2,q3⟩:=hb.st g (aF hg);obtain⟨pa,pc,hp⟩:=q1.slice;have M2:Sat w (jk bb b.ti b.tu b.vl m::(b.Hl++(b.Hi++(b.Hu++b.G.flatMap gu.heap)))):=M.sat;obtain⟨lg,lc,hvl,c0,c1,-⟩:=uw hb.row (Sat.left (B:=_) (Sat.right (A:=[_]) M2)) hg;rw[e]at c0 q3 hp;rw[hp]at c1;have d:=fun i=>(M2.at_ 0 rfl).cell i;refine⟨lg,lc,b.G.length,pa,pc,hlen,d 0,?_,d 2,d 3,c0,c1,q3⟩;rw[←hvl];exact d 1
theorem JW(bb:Nat)(m:aT)(ff fz:Bool)(k n:Nat)(v:Int)(hk:k<n)(hl:xh m.first n)(b:iG)(hb:b.ok m ff fz)(W0 w:World)(H0:List HB)(M:Mv W0 H0 w (b.heap bb m)):Calls P_ 79 #[p_ (S_ ⟨b.ti,0,N_⟩),i_ l_ k,i_ l_ v] w fun e w'=>e=r_ (t_ #[])∧∃b':iG,b'.ok {m with first:=setLeaf m.first k v} F_ fz∧Mv W0 H0 w' (b'.heap bb {m with first:=setLeaf m.first k v})∧b'.tu=b.tu:=by
 have m1:Mv W0 H0 w (b.Hi++(jk bb b.ti b.tu b.vl m::(b.Hl++(b.Hu++b.G.flatMap gu.heap)))):=M.sub (fun g=>by simp only[iG.heap,aP,bK];omega) (fun c hc=>by simp only[iG.heap,ay,aC]at hc⊢;grind);refine(JU b.ti m.first ff b.Hi w k n v hl hk hb.ti m1.sat.left).mono ?_;rintro e w' ⟨rfl,H',r,q⟩;refine⟨rfl,{b with Hi:=H'},⟨hb.ss,hb.st,hb.row,r,hb.tu,hb.pl⟩,(Mv.call m1 q).sub (fun g=>?_) (fun c hc=>?_),rfl⟩
 ·simp only[iG.heap,jk,aP,bK];omega
 ·simp only[iG.heap,jk,ay,aC]at hc⊢;grind
theorem JV(bb:Nat)(m:aT)(ff fz:Bool)(k n:Nat)(v:Int)(hk:k<n)(hl:xh m.dA n)(b:iG)(hb:b.ok m ff fz)(W0 w:World)(H0:List HB)(M:Mv W0 H0 w (b.heap bb m)):Calls P_ 79 #[p_ (S_ ⟨b.tu,0,N_⟩),i_ l_ k,i_ l_ v] w fun e w'=>e=r_ (t_ #[])∧∃b':iG,b'.ok {m with dA:=setLeaf m.dA k v} ff F_∧Mv W0 H0 w' (b'.heap bb {m with dA:=setLeaf m.dA k v}):=by
 have m1:Mv W0 H0 w (b.Hu++(jk bb b.ti b.tu b.vl m::(b.Hl++(b.Hi++b.G.flatMap gu.heap)))):=M.sub (fun g=>by simp only[iG.heap,aP,bK];omega) (fun c hc=>by simp only[iG.heap,ay,aC]at hc⊢;grind);refine(JU b.tu m.dA fz b.Hu w k n v hl hk hb.tu m1.sat.left).mono ?_;rintro e w' ⟨rfl,H',r,q⟩;refine⟨rfl,{b with Hu:=H'},⟨hb.ss,hb.st,hb.row,hb.ti,r,hb.pl⟩,(Mv.call m1 q).sub (fun g=>?_) (fun c hc=>?_)⟩
 ·simp only[iG.heap,jk,aP,bK];omega
 ·simp only[iG.heap,jk,ay,aC]at hc⊢;grind
theorem Zi(bb:Nat)(m:aT)(ff fz:Bool)(H:List HB)(W:World)(hB:kC bb m ff fz H)(hs:Sat W H)(hset:m.set=F_)(count n:Nat)(hc:1≤count∧count≤100)(hn:m.ss.length=n)(hn5:n≤1000)(hps:∀s∈m.ss,s.ps.length≤100)(hl:xh m.first n∧xh m.dA n):Calls P_ 33 #[p_ (S_ ⟨bb,0,N_⟩),i_ l_ count] W fun e w'=>e=r_ (t_ #[])∧∃ff' fz' H',kC bb (gY count m n) ff' fz' H'∧(0<n→ff'=F_∧fz'=F_)∧Mv W H w' H':=by
 obtain⟨b,hb0,rfl⟩:=hB;have c4:W.cell? ⟨bb,4,N_⟩=S_ (b_ F_):=by rw[←hset];exact(hs.at_ 0 rfl).cell 4
 have f4:W.frozen? ⟨bb,4,N_⟩=F_:=(hs.at_ 0 rfl).frozen 4;have K0:Hid (∃b':iG,b'.ok {m with set:=T_} ff fz∧Mv W (b.heap bb m) (W.setCell ⟨bb,4,N_⟩ (b_ T_)) (b'.heap bb {m with set:=T_})):=af ⟨b,⟨hb0.ss,hb0.st,hb0.row,hb0.ti,hb0.tu,hb0.pl⟩,by have:=(Mv.refl hs).set 4 (b_ T_);exact this⟩;have OK:=af (Nu count m n hl);have PS:=nY hps hn hb0.pl;obtain⟨H0,hH0⟩:=X_ (b.heap bb m);rw[hH0]at K0⊢;clear hb0 hs hset hps hH0 hl hn;go_enter Tryz.func33,Tryz.ntmps33;go_upto_region 2 with fail;generalize W.setCell ⟨bb,4,N_⟩ (b_ T_)=w1 at*;clear c4 f4;go_wp2_with fail;go_loopg [4,5] n (fun mm v4 _ wx=>∃(k:Nat) (ff' fz':Bool) (b':iG),k≤n∧mm=n-k∧v4=i_ l_ k∧b'.ok (gY count m k) ff' fz'∧(0<k→ff'=F_∧fz'=F_)∧Mv W H0 wx (b'.heap bb (gY count m k)))
 case atStart=>obtain⟨b',h1,h2⟩:=K0.out;exact⟨0,ff,fz,b',aY _,rfl,rfl,h1,(fun h=>absurd h (by omega)),h2⟩
 case round=>
  clear K0;obtain⟨k,ff',fz',b',hk,rfl,rfl,hb,hff,M⟩:=hrel;obtain⟨o1,o2,o3,o4,o5⟩:=OK k;have z1:∃lg lc,wr.cell? ⟨bb,1,N_⟩=S_ (s_ lg n lc):=by obtain⟨a,c,e⟩:=dh.slice hb.row;have:=(M.sat.at_ 0 rfl).cell 1;rw[show b'.G.length=n by rw[←PS.2.1,←o1,←hb.ss,aO]]at e;exact⟨a,c,by rw[←e];exact this⟩
  by_cases hlt:k<n
  ·have d1:decide ((k:Int)<n)=T_:=by simp;omega
   obtain⟨s,hsk⟩:∃s,(gY count m k).ss[k]?=S_ s:=⟨_,ai (by rw[o1,PS.2.1];exact hlt)⟩;have xu:s.ps.length≤100:=PS.1 s (by rw[←o1];exact aF hsk);have hfit:=(GY bb _ b' ff' fz' hb M hsk);obtain⟨lg,lc,nn,pa,pc,hnn,y0,y1,y2,y3,y4,y5,hfit⟩:=hfit;obtain rfl:nn=n:=hnn.trans (by rw[o1,PS.2.1]);clear z1 hnn;have am1:=hfit.pl;have hPb:=PS.2.2;have E:Hid (gY count m (k+1)={gY count m k with first:=setLeaf (gY count m k).first k (frN count s.ps.length:Nat),dA:=setLeaf (gY count m k).dA k (m.aH-s.pl)}):=af (by have h:=Dv count m k;unfold rplantStep at h;simp only[hsk]at h;exact h.trans (by rw[←o2]));have HSK:=af hsk;have HP:=af o2;have OK1:=af o1;have KB:=dS hb M;rw[o2]at y0;obtain⟨np,Z8⟩:=X_ (s.ps.length);rw[Z8]at E xu y5;obtain⟨NN,hNN⟩:=X_ (frN count np);rw[hNN]at E;have HNN:Hid (frGo count np (count-0) 0=NN):=af hNN;have PA:Hid (∀(j:Nat) (V:World),j<count→Calls P_ 78 #[i_ l_ np,i_ l_ count,i_ l_ ((j:Int)+1)] V fun e w'=>e=r_ (i_ l_ (jg (np:Int) (count:Int) ((j:Int)+1)))∧w'=V):=af (by intro j V hj;have:=GL np count (j+1) V xu hc (by omega);simpa using this);obtain⟨P,hP⟩:=X_ (m.aH);rw[hP]at y0 hPb HP E;obtain⟨wa,hwa⟩:∃wa:World,wa=wr:=⟨_,rfl⟩;clear hb M hsk o1 o2 o3 Z8 hNN hP hfit;go_wp2_with fail;go_loopg [5] count (fun mm v5 wx=>∃j:Nat,j≤count∧mm=count-j∧v5=i_ l_ j∧frGo count np (count-j) j=NN∧wa=wx)
   case atStart=>exact⟨0,aY _,rfl,rfl,HNN.out,hwa⟩
   case round=>
    subst hwa;obtain⟨j,hj,rfl,rfl,hfr,rfl⟩:=hrel;by_cases hjc:j<count
    ·have d2:decide ((j:Int)<count)=T_:=by simp;omega
     have P1:=af fun V=>PA j V hjc;have EF:=af (TB count np (count-j-1) j);have hc1:count≤100:=hc.2;obtain⟨q,hq⟩:=X_ (jg (np:Int) (count:Int) ((j:Int)+1));rw[hq]at P1 EF;clear hq;by_cases hz:q=0
     ·subst hz;have FR:Hid (frGo count np (count-(j+1)) (j+1)=NN):=af (by rw[show count-j=count-j-1+1 by omega,EF.out,aK rfl]at hfr;rw[show count-(j+1)=count-j-1 by omega];exact hfr);clear hfr;go_wp2_with (go_at_call 78;(with_reducible refine(P1.out _).mono ?_);rintro e w' ⟨rfl,rfl⟩);go_roundg (count-(j+1))
      case measure=>omega
      case rel=>exact⟨j+1,hjc,rfl,by push_cast;rfl,FR.out,rfl⟩
     ·have dz:(q==0)=F_:=by simp;exact hz
      obtain rfl:j=NN:=by rw[show count-j=count-j-1+1 by omega,EF.out,aJ hz]at hfr;exact hfr
      clear hz;have FSz:=af (JW bb _ ff' fz' k _ (j:Int) hlt o4 b' KB.1 W _ H0 KB.2);clear hfr;go_upto_region 9 with(first|(go_at_call 78;(with_reducible refine(P1.out _).mono ?_);rintro e w' ⟨rfl,rfl⟩)|(go_at_call 79;refine FSz.out.mono ?_;rintro e w2 ⟨rfl,b2,hb2,M2,-⟩;have K2:=dS hb2 M2;clear hb2 M2));clear y0 y1 y2 y3 y4 y5 FSz;obtain⟨lg2,lc2,n2,pa2,pc2,hn2,y0,y1,y2,y3,y4,y5,-⟩:=GY bb _ b2 _ _ K2.1 K2.2 (k:=k) (s:=s) HSK.out;obtain rfl:n2=nn:=hn2.trans (by rw[←PS.2.1,←OK1.out]);simp only[HP.out]at y0;have FZ:=af (JV bb {gY count m k with first:=setLeaf (gY count m k).first k (j:Int)} F_ fz' k n2 (P-s.pl) hlt o5 b2 K2.1 W w2.drew H0 K2.2.drew);clear hn2;generalize s.pl=pl at*;go_still_tail 19,(by kernel_rfl);go_wp2_with (go_at_call 79;refine FZ.out.mono ?_;rintro e w3 ⟨rfl,b3,hb3,M3⟩;have K3:=dS hb3 M3;clear hb3 M3);go_roundg (n2-(k+1))
      case measure=>omega
      case rel=>exact⟨k+1,F_,F_,b3,hlt,rfl,by push_cast;rfl,by rw[E.out];exact K3.1,fun _=>⟨rfl,rfl⟩,by rw[E.out];exact K3.2⟩
    ·have d2:decide ((j:Int)<count)=F_:=by simp;omega
     obtain rfl:j=NN:=by rw[show count-j=0 by omega]at hfr;exact hfr
     have FSz:=af (JW bb _ ff' fz' k _ (j:Int) hlt o4 b' KB.1 W _ H0 KB.2);clear hfr;go_upto_region 9 with(go_at_call 79;refine FSz.out.mono ?_;rintro e w2 ⟨rfl,b2,hb2,M2,-⟩;have K2:=dS hb2 M2;clear hb2 M2);clear y0 y1 y2 y3 y4 y5 FSz;obtain⟨lg2,lc2,n2,pa2,pc2,hn2,y0,y1,y2,y3,y4,y5,-⟩:=GY bb _ b2 _ _ K2.1 K2.2 (k:=k) (s:=s) HSK.out;obtain rfl:n2=nn:=hn2.trans (by rw[←PS.2.1,←OK1.out]);simp only[HP.out]at y0;have FZ:=af (JV bb {gY count m k with first:=setLeaf (gY count m k).first k (j:Int)} F_ fz' k n2 (P-s.pl) hlt o5 b2 K2.1 W w2.drew H0 K2.2.drew);clear hn2;generalize s.pl=pl at*;go_still_tail 19,(by kernel_rfl);go_wp2_with (go_at_call 79;refine FZ.out.mono ?_;rintro e w3 ⟨rfl,b3,hb3,M3⟩;have K3:=dS hb3 M3;clear hb3 M3);go_roundg (n2-(k+1))
     case measure=>omega
     case rel=>exact⟨k+1,F_,F_,b3,hlt,rfl,by push_cast;rfl,by rw[E.out];exact K3.1,fun _=>⟨rfl,rfl⟩,by rw[E.out];exact K3.2⟩
  ·obtain rfl:k=n:=by omega
   have d1:decide ((k:Int)<k)=F_:=by simp
   obtain⟨lg,lc,z1⟩:=z1;have K:=nY hb hff M;clear hb hff M hlt o1 o2 o3 o4 o5;go_wp2_with fail;exact dm (bH rfl _ _ _) rfl ⟨rfl,ff',fz',_,⟨b',K.1,rfl⟩,K.2.1,K.2.2⟩
theorem Po(n:Nat)(w:World)(hn:n≤1000000000000):Calls P_ 85 #[i_ l_ n] w fun e w'=>e=r_ (i_ l_ n.log2)∧w'=w:=by
 have hl:=Qa hn;go_enter Tryz.func85,Tryz.ntmps85;go_wp2_with fail;go_loopg [3] n.log2 (fun m s3 wx=>∃k:Nat,k≤n.log2∧m=n.log2-k∧s3=i_ l_ k∧wx=w)
 case atStart=>exact⟨0,aY _,rfl,rfl,rfl⟩
 case round=>
  obtain⟨k,hk,rfl,rfl,rfl⟩:=hrel;have al8:k+1≤41:=by omega
  by_cases h:0<n/2^(k+1)
  ·have d1:=Ib h;have h2:=WZ h;clear h;go_wp2_with fail;go_roundg (n.log2-(k+1))
   case measure=>omega
   case rel=>exact⟨k+1,h2,rfl,by push_cast;rfl,rfl⟩
  ·have d1:=Ic h;have h2:=af (W9 h hk);clear h;go_wp2_with fail;go_ret;exact⟨by rw[←h2.out];rfl,rfl⟩
theorem adQ(n:Nat)(h1:3≤n)(h2:n<6):ui 3 2++ui (n-3:Int) 2=ui (12+(n:Int)-3) 4:=by
 obtain h|h|h:n=3∨n=4∨n=5:=by omega
 all_goals subst h;decide
theorem Zq(wb:Nat)(bs:List Bool)(n:Nat)(w:World)(H:List HB)(h:oN wb bs H)(hs:Sat w H)(hl:bs.length≤60000000)(hn:n≤1000)(hn1:1≤n):Calls P_ 82 #[p_ (S_ ⟨wb,0,N_⟩),i_ l_ n] w fun e w'=>e=r_ (t_ #[])∧∃H',oN wb (bs++D8 n) H'∧Mv w H w' H':=by
 have BS:=af (fun(a b:Int)=>L9 wb bs a b w H h hs (by omega));have BT:=af (fun(l:List Bool) (a b:Int) (W:World) (H1:List HB) (h1:oN wb (bs++l) H1) (s1:Sat W H1) (hll:l.length≤32)=>L9 wb (bs++l) a b W H1 h1 s1 (by rw[au];omega));have HL:=af AY;obtain⟨R,hR⟩:=X_ (D8 n);rw[hR];unfold D8 at hR;have HR:=af hR;clear h hs hR;by_cases c1:n<2
 ·have e:=af (HR.symm.trans (aK c1));obtain rfl:n=1:=by omega
  clear c1;go_enter Tryz.func82,Tryz.ntmps82;go_wp2_with (go_at_call 86;(with_reducible refine(BS.out _ _).mono ?_);rintro e w1 ⟨rfl,H1,h1,m1⟩;have K1:=dS h1 m1;clear h1 m1);exact dm (bH rfl _ _ _) rfl ⟨rfl,H1,by rw[e.out];exact K1.1,K1.2⟩
 have HR2:=af (HR.symm.trans (aJ c1));have d1:((n:Int)==1)=F_:=bF.2 (by omega);by_cases c2:n<3
 ·have e:=af (HR2.trans (aK c2));obtain rfl:n=2:=by omega
  clear c1 c2 d1;go_enter Tryz.func82,Tryz.ntmps82;go_wp2_with (go_at_call 86;(with_reducible refine(BS.out _ _).mono ?_);rintro e w1 ⟨rfl,H1,h1,m1⟩;have K1:=dS h1 m1;clear h1 m1);exact dm (bH rfl _ _ _) rfl ⟨rfl,H1,by rw[e.out];exact K1.1,K1.2⟩
 have HR3:=af (HR2.trans (aJ c2));have d2:((n:Int)==2)=F_:=bF.2 (by omega);by_cases c3:n<6
 ·have e:=af ((HR3.trans (aK c3)).trans (adQ n (by omega) c3));have d3:decide ((n:Int)≤5)=T_:=by simp;omega
  have c3':n≤5:=by omega
  clear c1 c2 c3;go_enter Tryz.func82,Tryz.ntmps82;go_wp2_with (go_at_call 86;(with_reducible refine(BS.out _ _).mono ?_);rintro e w1 ⟨rfl,H1,h1,m1⟩;have K1:=dS h1 m1;clear h1 m1);exact dm (bH rfl _ _ _) rfl ⟨rfl,H1,by rw[e.out];exact K1.1,K1.2⟩
 have HR4:=af (HR3.trans (aJ c3));have d3:decide ((n:Int)≤5)=F_:=by simp;omega
 have c3':¬n≤5:=by omega
 by_cases c4:n<37
 ·have e:=af (HR4.trans (aK c4));have d4:decide ((n:Int)≤36)=T_:=by simp;omega
  have c4':n≤36:=by omega
  clear c1 c2 c3 c4;go_enter Tryz.func82,Tryz.ntmps82;go_wp2_with (first
   |(go_at_call 86;(with_reducible refine(BS.out 15 4).mono ?_);rintro e w1 ⟨rfl,H1,h1,m1⟩;have K1:=dS h1 m1;clear h1 m1)
   |(go_at_call 86;(with_reducible refine(BT.out _ _ _ _ _ K1.out.1 K1.out.2.sat (HL.out _ _)).mono ?_);rintro e w2 ⟨rfl,H2,h2,m2⟩;have K2:=dS h2 (K1.out.2.trans m2);clear h2 m2))
  exact dm (bH rfl _ _ _) rfl ⟨rfl,H2,by rw[e.out,←az];exact K2.1,K2.2⟩
 ·have e:=af (HR4.trans (aJ c4));have d4:decide ((n:Int)≤36)=F_:=by simp;omega
  have c4':¬n≤36:=by omega
  clear c1 c2 c3 c4;go_enter Tryz.func82,Tryz.ntmps82;go_wp2_with (first
   |(go_at_call 86;(with_reducible refine(BS.out 511 9).mono ?_);rintro e w1 ⟨rfl,H1,h1,m1⟩;have K1:=dS h1 m1;clear h1 m1)
   |(go_at_call 86;(with_reducible refine(BT.out _ _ _ _ _ K1.out.1 K1.out.2.sat (HL.out _ _)).mono ?_);rintro e w2 ⟨rfl,H2,h2,m2⟩;have K2:=dS h2 (K1.out.2.trans m2);clear h2 m2))
  exact dm (bH rfl _ _ _) rfl ⟨rfl,H2,by rw[e.out,←az];exact K2.1,K2.2⟩
section
variable(K:Act→World→Prop)(wb xb g1 g2 n c1 c2 i p:Nat)(sz lb:Int)(bs:List Bool)(H1 R H0:List YtjngfhgakokejaaGreat.HB)(w0:World)(w:World){s0 s2 s3 s4 s5 s6 s7 s8 s9 s10 s11 s13 s14 l9 kS s20 lF lC s23 s24 kZ s26 kW kR kY lu lJ lK lI lL lD s36 lY lX mG ni mZ mY s43 s44 nI mF nH nK s49 mD mg lW s53 mX mQ mP mO nX nJ oU oQ pO qW qN qV rD rC s68 rM rJ sN s72 sK sJ ry ru rf s78 qZ rH rG s82 s83 uk uj xI s87 xH xG xF xE xn xk xC xA xy xw xR zl oK oJ nT nS qj qh pY pX pG pF oI oH o9 oG nP nO nN nM oZ oW oV:Value}
inductive RP(bQ:Array Bool)(a:Act)(W:World):Prop|mk {b0 b1 b2 b3 b4 b5 b6 b7 b8 b9 b10 b11 b12 b13:Bool} {Uk LV agE agD agC u105 agB agA agz agy agx agw agv aiP:Value} {HB:List YtjngfhgakokejaaGreat.HB} (hl:bQ=#[b0,b1,b2,b3,b4,b5,b6,b7,b8,b9,b10,b11,b12,b13]) (ha:a=⟨List.toArray (s0::(.pointer (some ⟨wb,0,none⟩))::s2::s3::s4::s5::s6::s7::s8::s9::s10::s11::(.pointer (some ⟨xb,0,none⟩))::s13::s14::(.slice (some ⟨g1,0,none⟩) n c1)::(.slice (some ⟨g2,0,none⟩) n c2)::l9::(.int .i64 ((i:Int)))::kS::s20::lF::lC::s23::s24::kZ::s26::kW::kR::kY::lu::lJ::lK::lI::lL::lD::s36::lY::lX::mG::ni::mZ::mY::s43::s44::nI::mF::nH::nK::s49::mD::mg::lW::s53::mX::mQ::mP::mO::nX::nJ::oU::oQ::pO::qW::qN::qV::rD::rC::s68::rM::rJ::sN::s72::sK::sJ::ry::ru::rf::s78::qZ::rH::rG::s82::s83::uk::uj::xI::s87::xH::xG::xF::xE::xn::xk::xC::xA::xy::xw::xR::zl::Uk::LV::agE::agD::agC::u105::agB::agA::agz::agy::agx::agw::agv::aiP::nP::nO::nN::nM::oZ::oW::oV::[]),[]⟩) (HW:(Mv w0 H0 W (HB++R)∧(b13=false→HB=H1))) (hF:(b0=true→Uk=.pointer (some ⟨wb,0,none⟩))∧(b1=true→LV=.slice (some ⟨g2,0,none⟩) n c2)∧(b2=true→agE=.int .i64 ((i:Int)))∧(b3=true→agD=.pointer (some ⟨g2,i,none⟩))∧(b4=true→agC=.int .i64 (sz))∧(b5=true→u105=.pointer (some ⟨xb,4,none⟩))∧(b6=true→agB=.int .i64 (lb))∧(b7=true→agA=.slice (some ⟨g1,0,none⟩) n c1)∧(b8=true→agz=.int .i64 ((i:Int)))∧(b9=true→agy=.pointer (some ⟨g1,i,none⟩))∧(b10=true→agx=.int .i64 ((p:Int)))∧(b11=true→agw=.int .i64 ((p.log2:Int)))∧(b12=true→agv=.int .i64 (lb+(p.log2:Int)))∧(b13=true→oN wb (bs++ui sz (lb+(p.log2:Int))) HB):=by and_intros<;>first|assumption|exact fun _=>rfl|(simp only[bM,bI,aI]<;>assumption)):RP bQ a W
theorem agV(hin:i<n)(hn:n≤1000)(hlb:0≤lb∧lb≤1000)(hp:p≤1000000∧p.log2≤64)(hbl:bs.length≤70000000)(hwb:oN wb bs H1)(hS:∀W,Sat W R→W.cell? ⟨xb,4,N_⟩=S_ (i_ l_ lb)∧W.cell? ⟨g1,i,N_⟩=S_ (i_ l_ p)∧W.cell? ⟨g2,i,N_⟩=S_ (i_ l_ sz))(hM:Mv w0 H0 w (H1++R))
 (hk:∀(Uk LV agE agD agC u105 agB agA agz agy agx agw agv aiP:Value) (HB:List YtjngfhgakokejaaGreat.HB) (W:World),(Mv w0 H0 W (HB++R)∧(T_=F_→HB=H1))→(oN wb (bs++ui sz (lb+(p.log2:Int))) HB)→K ⟨List.toArray (s0::(p_ (S_ ⟨wb,0,N_⟩))::s2::s3::s4::s5::s6::s7::s8::s9::s10::s11::(p_ (S_ ⟨xb,0,N_⟩))::s13::s14::(s_ (S_ ⟨g1,0,N_⟩) n c1)::(s_ (S_ ⟨g2,0,N_⟩) n c2)::l9::(i_ l_ ((i:Int)))::kS::s20::lF::lC::s23::s24::kZ::s26::kW::kR::kY::lu::lJ::lK::lI::lL::lD::s36::lY::lX::mG::ni::mZ::mY::s43::s44::nI::mF::nH::nK::s49::mD::mg::lW::s53::mX::mQ::mP::mO::nX::nJ::oU::oQ::pO::qW::qN::qV::rD::rC::s68::rM::rJ::sN::s72::sK::sJ::ry::ru::rf::s78::qZ::rH::rG::s82::s83::uk::uj::xI::s87::xH::xG::xF::xE::xn::xk::xC::xA::xy::xw::xR::zl::Uk::LV::agE::agD::agC::u105::agB::agA::agz::agy::agx::agw::agv::aiP::nP::nO::nN::nM::oZ::oW::oV::[]),[]⟩ W):
 (dQ 19 Tryz.f38).wp P_ (Exit.then K qX) ⟨List.toArray (s0::(p_ (S_ ⟨wb,0,N_⟩))::s2::s3::s4::s5::s6::s7::s8::s9::s10::s11::(p_ (S_ ⟨xb,0,N_⟩))::s13::s14::(s_ (S_ ⟨g1,0,N_⟩) n c1)::(s_ (S_ ⟨g2,0,N_⟩) n c2)::l9::(i_ l_ ((i:Int)))::kS::s20::lF::lC::s23::s24::kZ::s26::kW::kR::kY::lu::lJ::lK::lI::lL::lD::s36::lY::lX::mG::ni::mZ::mY::s43::s44::nI::mF::nH::nK::s49::mD::mg::lW::s53::mX::mQ::mP::mO::nX::nJ::oU::oQ::pO::qW::qN::qV::rD::rC::s68::rM::rJ::sN::s72::sK::sJ::ry::ru::rf::s78::qZ::rH::rG::s82::s83::uk::uj::xI::s87::xH::xG::xF::xE::xn::xk::xC::xA::xy::xw::xR::zl::oK::oJ::nT::nS::qj::qh::pY::pX::pG::pF::oI::oH::o9::oG::nP::nO::nN::nM::oZ::oW::oV::[]),[]⟩ w:=by
 conv in(dQ _ _)=>whnf
 unfold qX;have HK:=af hk;clear hk;have LG:=af (fun V=>Po p V (by omega));refine jS (by kernel_rfl) [[],[],[],[1,2],[3],[],[5],[],[],[7,8],[9],[10],[6,11],[0,4,12,11]] [0,1,2,3,4,5,6,7,8,9,10,11,12,13] (by kernel_rfl) (by kernel_rfl) (@RP wb xb g1 g2 n c1 c2 i p sz lb bs H1 R H0 w0 s0 s2 s3 s4 s5 s6 s7 s8 s9 s10 s11 s13 s14 l9 kS s20 lF lC s23 s24 kZ s26 kW kR kY lu lJ lK lI lL lD s36 lY lX mG ni mZ mY s43 s44 nI mF nH nK s49 mD mg lW s53 mX mQ mP mO nX nJ oU oQ pO qW qN qV rD rC s68 rM rJ sN s72 sK sJ ry ru rf s78 qZ rH rG s82 s83 uk uj xI s87 xH xG xF xE xn xk xC xA xy xw xR zl nP nO nN nM oZ oW oV) ?_ ?_ ?_
 ·refine .mk (HB:=H1) rfl rfl ⟨hM.drew,fun _=>rfl⟩ ⟨nofun,nofun,nofun,nofun,nofun,nofun,nofun,nofun,nofun,nofun,nofun,nofun,nofun,nofun⟩
 ·rintro _ _ W ⟨rfl,rfl,HW,-,-,-,-,-,-,-,-,-,-,-,-,-,h13⟩ hb;simp only[List.all_cons,List.all_nil,dO,kJ]at hb;obtain⟨rfl,rfl,rfl,rfl,rfl,rfl,rfl,rfl,rfl,rfl,rfl,rfl,rfl,rfl⟩:=hb;exact HK _ _ _ _ _ _ _ _ _ _ _ _ _ _ _ W HW (h13 rfl)
 ·rintro _ _ W i @⟨_,_,_,_,_,_,_,_,_,_,_,_,_,_,_,_,_,_,_,_,_,_,_,_,_,_,_,_,HB,rfl,rfl,HW,h0,h1,h2,h3,h4,h5,h6,h7,h8,h9,h10,h11,h12,h13⟩ hi hi2 zp;have hi4:i=4∨i=6∨i=10∨i=11∨i=12∨i=13∨i=0∨i=1∨i=2∨i=3∨i=5∨i=7∨i=8∨i=9:=(by have:i<14:=hi;omega);clear hi;rcases hi4 with rfl|rfl|rfl|rfl|rfl|rfl|rfl|rfl|rfl|rfl|rfl|rfl|rfl|rfl
  all_goals simp at hi2 zp;(repeat obtain⟨_,zp⟩:=zp);(try subst_vars);try simp only[bM,bI,aI]at h0 h1 h2 h3 h4 h5 h6 h7 h8 h9 h10 h11 h12 h13
  all_goals try subst_vars
  all_goals refine jm rfl (fun K hK=>?_)
  ·have e:=(hS W HW.1.sat.right).2.2;go_simp;exact hK _ _ (.mk rfl rfl HW)
  ·have e:=(hS W HW.1.sat.right).1;go_simp;exact hK _ _ (.mk rfl rfl HW)
  ·have e:=(hS W HW.1.sat.right).2.1;go_simp;exact hK _ _ (.mk rfl rfl HW)
  ·go_simp;go_at_call 85
   (with_reducible refine(LG.out _).mono ?_)
   rintro e w9 ⟨rfl,rfl⟩;exact hK _ _ (.mk rfl rfl HW)
  ·have e:IntKind.i64.wrap (lb+(p.log2:Int))=lb+(p.log2:Int):=fF _ (by omega);go_simp;exact hK _ _ (.mk rfl rfl HW)
  ·obtain rfl:=HW.2 rfl;have BI:=af (L9 wb bs sz (lb+(p.log2:Int)) W HB hwb HW.1.sat.left hbl);go_simp;go_at_call 86
   (with_reducible refine BI.out.mono ?_)
   rintro e w9 ⟨rfl,H9,r9,m9⟩;have N9:=Mv.call HW.1 m9;refine hK _ _ (.mk (HB:=H9) rfl rfl ⟨N9,fun e=>nomatch e⟩ ?_);and_intros<;>first|assumption|exact fun _=>rfl|(simp only[bM,bI,aI]<;>assumption)|exact fun _=>r9
  all_goals first|(go_simp;exact hK _ _ (.mk rfl rfl HW))|((have e:(i:Int)<n:=by omega);go_simp;exact hK _ _ (.mk rfl rfl HW))
end
section
variable(K:Act→World→Prop)(xb g1 g2 n c1 c2 i p sz lb q:Nat)(R H0:List YtjngfhgakokejaaGreat.HB)(w0:World)(w:World){s0 s1 s2 s3 s4 s5 s6 s7 s8 s9 s10 s11 s13 s14 kH kS s20 lF lC s23 s24 kZ s26 kW kR kY lu lJ lK lI lL lD s36 lY lX mG ni mZ mY s43 s44 nI mF nH nK s49 mD mg lW s53 mX mQ mP mO nX nJ oU oQ pO qW qN qV rD rC s68 rM rJ sN s72 sK sJ ry ru rf s78 qZ rH rG s82 s83 uk uj xI s87 xH xG xF xE xn xk xC xA xy xw xR zl oK oJ nT nS qj qh pY pX pG pF oI oH o9 oG nP nO nN nM oZ oW oV:Value}
inductive RU(bQ:Array Bool)(a:Act)(W:World):Prop|mk {b0 b1 b2 b3 b4 b5 b6 b7 b8 b9 b10 b11 b12 b13 b14:Bool} {u71 u72 u73 u74 u75 u76 u77 u78 u79 u80 u81 u82 u83 u84 u85:Value} (hl:bQ=#[b0,b1,b2,b3,b4,b5,b6,b7,b8,b9,b10,b11,b12,b13,b14]) (ha:a=⟨List.toArray (s0::s1::s2::s3::s4::s5::s6::s7::s8::s9::s10::s11::(.pointer (some ⟨xb,0,none⟩))::s13::s14::(.slice (some ⟨g1,0,none⟩) n c1)::(.slice (some ⟨g2,0,none⟩) n c2)::(.int .i64 ((i:Int)))::kH::kS::s20::lF::lC::s23::s24::kZ::s26::kW::kR::kY::lu::lJ::lK::lI::lL::lD::s36::lY::lX::mG::ni::mZ::mY::s43::s44::nI::mF::nH::nK::s49::mD::mg::lW::s53::mX::mQ::mP::mO::nX::nJ::oU::oQ::pO::qW::qN::qV::rD::rC::s68::rM::rJ::u71::u72::u73::u74::u75::u76::u77::u78::u79::u80::u81::u82::u83::u84::u85::xI::s87::xH::xG::xF::xE::xn::xk::xC::xA::xy::xw::xR::zl::oK::oJ::nT::nS::qj::qh::pY::pX::pG::pF::oI::oH::o9::oG::nP::nO::nN::nM::oZ::oW::oV::[]),[]⟩) (HW:(Mv w0 H0 W R)) (hF:(b0=true→u71=.slice (some ⟨g2,0,none⟩) n c2)∧(b1=true→u72=.int .i64 ((i:Int)))∧(b2=true→u73=.pointer (some ⟨g2,i,none⟩))∧(b3=true→u74=.int .i64 ((sz:Int)))∧(b4=true→u75=.pointer (some ⟨xb,4,none⟩))∧(b5=true→u76=.int .i64 ((lb:Int)))∧(b6=true→u77=.slice (some ⟨g1,0,none⟩) n c1)∧(b7=true→u78=.int .i64 ((i:Int)))∧(b8=true→u79=.pointer (some ⟨g1,i,none⟩))∧(b9=true→u80=.int .i64 ((p:Int)))∧(b10=true→u81=.int .i64 ((p.log2:Int)))∧(b11=true→u82=.int .i64 ((q:Int)))∧(b12=true→u83=.int .u64 (q:Int))∧(b13=true→u84=.int .i64 ((sz:Int)/2^q))∧(b14=true→u85=.bool (decide ((0:Int)<sz/2^q))):=by and_intros<;>first|assumption|exact fun _=>rfl|(simp only[bM,bI,aI]<;>assumption)):RU bQ a W
theorem agW(hin:i<n)(hn:n≤1000)(hp:p≤1000000)(hq:lb+p.log2=q)(am0:q≤60)(hS:∀W,Sat W R→W.cell? ⟨xb,4,N_⟩=S_ (i_ l_ lb)∧W.cell? ⟨g1,i,N_⟩=S_ (i_ l_ p)∧W.cell? ⟨g2,i,N_⟩=S_ (i_ l_ sz))(hM:Mv w0 H0 w R)
 (hk:∀(u71 u72 u73 u74 u75 u76 u77 u78 u79 u80 u81 u82 u83 u84 u85:Value) (W:World),(Mv w0 H0 W R)→(u85=b_ (decide ((0:Int)<sz/2^q)))→K ⟨List.toArray (s0::s1::s2::s3::s4::s5::s6::s7::s8::s9::s10::s11::(p_ (S_ ⟨xb,0,N_⟩))::s13::s14::(s_ (S_ ⟨g1,0,N_⟩) n c1)::(s_ (S_ ⟨g2,0,N_⟩) n c2)::(i_ l_ ((i:Int)))::kH::kS::s20::lF::lC::s23::s24::kZ::s26::kW::kR::kY::lu::lJ::lK::lI::lL::lD::s36::lY::lX::mG::ni::mZ::mY::s43::s44::nI::mF::nH::nK::s49::mD::mg::lW::s53::mX::mQ::mP::mO::nX::nJ::oU::oQ::pO::qW::qN::qV::rD::rC::s68::rM::rJ::u71::u72::u73::u74::u75::u76::u77::u78::u79::u80::u81::u82::u83::u84::u85::xI::s87::xH::xG::xF::xE::xn::xk::xC::xA::xy::xw::xR::zl::oK::oJ::nT::nS::qj::qh::pY::pX::pG::pF::oI::oH::o9::oG::nP::nO::nN::nM::oZ::oW::oV::[]),[]⟩ W):
 (dQ 12 Tryz.f38).wp P_ (Exit.then K qX) ⟨List.toArray (s0::s1::s2::s3::s4::s5::s6::s7::s8::s9::s10::s11::(p_ (S_ ⟨xb,0,N_⟩))::s13::s14::(s_ (S_ ⟨g1,0,N_⟩) n c1)::(s_ (S_ ⟨g2,0,N_⟩) n c2)::(i_ l_ ((i:Int)))::kH::kS::s20::lF::lC::s23::s24::kZ::s26::kW::kR::kY::lu::lJ::lK::lI::lL::lD::s36::lY::lX::mG::ni::mZ::mY::s43::s44::nI::mF::nH::nK::s49::mD::mg::lW::s53::mX::mQ::mP::mO::nX::nJ::oU::oQ::pO::qW::qN::qV::rD::rC::s68::rM::rJ::sN::s72::sK::sJ::ry::ru::rf::s78::qZ::rH::rG::s82::s83::uk::uj::xI::s87::xH::xG::xF::xE::xn::xk::xC::xA::xy::xw::xR::zl::oK::oJ::nT::nS::qj::qh::pY::pX::pG::pF::oI::oH::o9::oG::nP::nO::nN::nM::oZ::oW::oV::[]),[]⟩ w:=by
 conv in(dQ _ _)=>whnf
 unfold qX;have HK:=af hk;clear hk;have LG:=af (fun V=>Po p V (by omega));have HQ:=And.intro (Nat.le_of_eq hq) (Nat.le_of_eq hq.symm);clear hq;refine jS (by kernel_rfl) [[],[],[0,1],[2],[],[4],[],[],[6,7],[8],[9],[5,10],[11],[3,12],[13]] [0,1,2,3,4,5,6,7,8,9,10,11,12,13,14] (by kernel_rfl) (by kernel_rfl) (@RU xb g1 g2 n c1 c2 i p sz lb q R H0 w0 s0 s1 s2 s3 s4 s5 s6 s7 s8 s9 s10 s11 s13 s14 kH kS s20 lF lC s23 s24 kZ s26 kW kR kY lu lJ lK lI lL lD s36 lY lX mG ni mZ mY s43 s44 nI mF nH nK s49 mD mg lW s53 mX mQ mP mO nX nJ oU oQ pO qW qN qV rD rC s68 rM rJ xI s87 xH xG xF xE xn xk xC xA xy xw xR zl oK oJ nT nS qj qh pY pX pG pF oI oH o9 oG nP nO nN nM oZ oW oV) ?_ ?_ ?_
 ·refine .mk rfl rfl hM.drew ⟨nofun,nofun,nofun,nofun,nofun,nofun,nofun,nofun,nofun,nofun,nofun,nofun,nofun,nofun,nofun⟩
 ·rintro _ _ W ⟨rfl,rfl,HW,-,-,-,-,-,-,-,-,-,-,-,-,-,-,JH⟩ hb;simp only[List.all_cons,List.all_nil,dO,kJ]at hb;obtain⟨rfl,rfl,rfl,rfl,rfl,rfl,rfl,rfl,rfl,rfl,rfl,rfl,rfl,rfl,rfl⟩:=hb;exact HK _ _ _ _ _ _ _ _ _ _ _ _ _ _ _ W HW (JH rfl)
 ·rintro _ _ W i @⟨_,_,_,_,_,_,_,_,_,_,_,_,_,_,_,_,_,_,_,_,_,_,_,_,_,_,_,_,_,_,rfl,rfl,HW,h0,h1,h2,h3,h4,h5,h6,h7,h8,h9,h10,h11,h12,h13,JH⟩ hi hi2 zp;have hi4:i=3∨i=5∨i=9∨i=10∨i=11∨i=12∨i=13∨i=0∨i=1∨i=2∨i=4∨i=6∨i=7∨i=8∨i=14:=(by have:i<15:=hi;omega);clear hi;rcases hi4 with rfl|rfl|rfl|rfl|rfl|rfl|rfl|rfl|rfl|rfl|rfl|rfl|rfl|rfl|rfl
  all_goals simp at hi2 zp;(repeat obtain⟨_,zp⟩:=zp);(try subst_vars);try simp only[bM,bI,aI]at h0 h1 h2 h3 h4 h5 h6 h7 h8 h9 h10 h11 h12 h13 JH
  all_goals try subst_vars
  all_goals refine jm rfl (fun K hK=>?_)
  ·have e:=(hS W HW.sat).2.2;go_simp;exact hK _ _ (.mk rfl rfl HW)
  ·have e:=(hS W HW.sat).1;go_simp;exact hK _ _ (.mk rfl rfl HW)
  ·have e:=(hS W HW.sat).2.1;go_simp;exact hK _ _ (.mk rfl rfl HW)
  ·go_simp;go_at_call 85
   (with_reducible refine(LG.out _).mono ?_)
   rintro e w9 ⟨rfl,rfl⟩;exact hK _ _ (.mk rfl rfl HW)
  ·have hq:=Nat.le_antisymm HQ.1 HQ.2;have e0:(lb:Int)+p.log2=q:=by omega
   have e:IntKind.i64.wrap (q:Int)=q:=fF _ (by omega);go_simp;exact hK _ _ (.mk rfl rfl HW)
  ·have e1:IntKind.u64.wrap (q:Int)=q:=IntWalk.u64_in _ (by omega);go_simp;exact hK _ _ (.mk rfl rfl HW)
  ·have e1:min q 64=q:=by omega
   go_simp;exact hK _ _ (.mk rfl rfl HW)
  all_goals first|(go_simp;exact hK _ _ (.mk rfl rfl HW))|((have e:(i:Int)<n:=by omega);go_simp;exact hK _ _ (.mk rfl rfl HW))
end
def amy(xb g1 g2 n:Nat)(lb:Int)(L1 L2:List Int)(Y:List HB):Prop:=∀i,i<n→∀W,Sat W Y→W.cell? ⟨xb,4,N_⟩=S_ (i_ l_ lb)∧W.cell? ⟨g1,i,N_⟩=S_ (i_ l_ (L1.getD i 0))∧W.cell? ⟨g2,i,N_⟩=S_ (i_ l_ (L2.getD i 0))
theorem aec(K:Act→World→Prop)(wb xb g1 g2 n c1 c2:Nat)(lb:Int)(bs:List Bool)(L1 L2:List Int)(HW Y H0:List HB)(w0 w:World)(hw:oN wb bs HW)(m:Mv w0 H0 w (HW++Y))(hS:amy xb g1 g2 n lb L1 L2 Y)
 (hp:∀i,i<n→0≤L1.getD i 0∧L1.getD i 0≤1000) (hlb:0≤lb∧lb≤1000) (hn:n≤1000) (hbs:bs.length≤60000000)
 (hK:∀(t94 t95 t96 t97 t98 t99 t100 t101 t102 t103 t104 t105 t106 t107 t108 t109 t110 t111 t112 t113:Value) (wx:World) (lM:List HB),oN wb (bs++Gh L1 L2 lb n) lM→Mv w0 H0 wx (lM++Y)→K ⟨List.toArray (s0::(p_ (S_ ⟨wb,0,N_⟩))::s2::s3::s4::s5::s6::s7::s8::s9::s10::s11::(p_ (S_ ⟨xb,0,N_⟩))::s13::s14::(s_ (S_ ⟨g1,0,N_⟩) n c1)::(s_ (S_ ⟨g2,0,N_⟩) n c2)::l9::(i_ l_ n)::kS::s20::lF::lC::s23::s24::kZ::s26::kW::kR::kY::lu::lJ::lK::lI::lL::lD::s36::lY::lX::mG::ni::mZ::mY::s43::s44::nI::mF::nH::nK::s49::mD::mg::lW::s53::mX::mQ::mP::mO::nX::nJ::oU::oQ::pO::qW::qN::qV::rD::rC::s68::rM::rJ::sN::s72::sK::sJ::ry::ru::rf::s78::qZ::rH::rG::s82::s83::uk::uj::xI::s87::xH::xG::xF::xE::xn::xk::t94::t95::t96::t97::t98::t99::t100::t101::t102::t103::t104::t105::t106::t107::t108::t109::t110::t111::t112::t113::nP::nO::nN::nM::oZ::oW::oV::[]),[]⟩ wx):
 (jB 6 Tryz.f38).wp P_ (Exit.then K qX) ⟨List.toArray (s0::(p_ (S_ ⟨wb,0,N_⟩))::s2::s3::s4::s5::s6::s7::s8::s9::s10::s11::(p_ (S_ ⟨xb,0,N_⟩))::s13::s14::(s_ (S_ ⟨g1,0,N_⟩) n c1)::(s_ (S_ ⟨g2,0,N_⟩) n c2)::l9::(i_ l_ 0)::kS::s20::lF::lC::s23::s24::kZ::s26::kW::kR::kY::lu::lJ::lK::lI::lL::lD::s36::lY::lX::mG::ni::mZ::mY::s43::s44::nI::mF::nH::nK::s49::mD::mg::lW::s53::mX::mQ::mP::mO::nX::nJ::oU::oQ::pO::qW::qN::qV::rD::rC::s68::rM::rJ::sN::s72::sK::sJ::ry::ru::rf::s78::qZ::rH::rG::s82::s83::uk::uj::xI::s87::xH::xG::xF::xE::xn::xk::xC::xA::xy::xw::xR::zl::oK::oJ::nT::nS::qj::qh::pY::pX::pG::pF::oI::oH::o9::oG::nP::nO::nN::nM::oZ::oW::oV::[]),[]⟩ w:=by
 conv in(jB _ _)=>whnf
 unfold qX;have HK:=af hK;have K0:=dS hw m;have HS:=dS hS hp;clear hK hw m hS hp;go_wp2_with fail;go_loopg [18] n (fun mm kH wx=>∃(i:Nat) (lM:List YtjngfhgakokejaaGreat.HB),i≤n∧mm=n-i∧kH=i_ l_ i∧oN wb (bs++Gh L1 L2 lb i) lM∧Mv w0 H0 wx (lM++Y))
 case atStart=>exact⟨0,HW,aY _,rfl,rfl,by rw[Gh,dD];exact K0.1,K0.2⟩
 case round=>
  clear K0;obtain⟨i,HW1,hi,rfl,rfl,hw,m⟩:=hrel;by_cases hlt:i<n
  ·have d1:decide ((i:Int)<n)=T_:=by simp;omega
   have hS1:=HS.1 i hlt;have hp1:=HS.2 i hlt;have hbk:=FM L1 L2 lb i;have hsu:Hid (Gh L1 L2 lb (i+1)=Gh L1 L2 lb i++ui (L2.getD i 0) (lb+((L1.getD i 0).toNat.log2:Int))):=af rfl;obtain⟨p,hpe⟩:=dW hp1.1;rw[hpe]at hsu hS1 hp1;rw[Int.toNat_natCast]at hsu;have hll:=Qa (n:=p) (by omega);have KK:=nY hS1 hw m;clear hpe hS1 hw m;go_upto_region 19 with fail;refine lU (agV _ wb xb g1 g2 n c1 c2 i p (L2.getD i 0) lb (bs++Gh L1 L2 lb i) HW1 Y H0 w0 _ hlt hn hlb ⟨by omega,by omega⟩ (by rw[au];omega) KK.2.1 KK.1 KK.2.2 ?_);rintro _ _ _ _ _ _ _ _ _ _ _ _ _ _ HB2 w2 ⟨m2,-⟩ r2;have K2:=dS r2 m2;clear m2 r2;go_wp2_with fail;go_roundg (n-(i+1))
   case measure=>omega
   case rel=>exact⟨i+1,HB2,hlt,rfl,by push_cast;rfl,by rw[hsu.out,←az];exact K2.1,K2.2⟩
  ·obtain rfl:i=n:=by omega
   have d1:decide ((i:Int)<i)=F_:=by simp
   have K2:=dS hw m;clear hw m;go_wp2_with fail;exact HK _ _ _ _ _ _ _ _ _ _ _ _ _ _ _ _ _ _ _ _ _ _ K2.1 K2.2
theorem akw{n:Nat}(h:n≤100000000):n.log2≤26:=by
 by_cases h0:n=0
 ·subst h0;decide
 ·have:=(uV h0 (k:=27)).2 (by have:(2:Nat)^27=134217728:=rfl;omega);omega
theorem alF{n:Nat}(h:n≤1000):n.log2≤9:=by
 by_cases h0:n=0
 ·subst h0;decide
 ·have:=(uV h0 (k:=10)).2 (by have:(2:Nat)^10=1024:=rfl;omega);omega
theorem J9(L1 L2:List Int)(lb:Int)(n:Nat)(h:∀i,i<n→0≤L2.getD i 0∧L2.getD i 0≤100000000):∀k,k≤n→lb≤needK L1 L2 lb k∧needK L1 L2 lb k≤max lb 27
 |0,_=>⟨gG _,by rw[needK];omega⟩
 |k+1,hk=>by have ih:=J9 L1 L2 lb n h k (by omega);have h2:=h k (by omega);have h3:=akw (n:=(L2.getD k 0).toNat) (by omega);rw[PY];split<;>omega
theorem acv{sz p I4 lbi:Nat}{fin:Int}(hf:fin=if 0<(sz:Int)then max (lbi:Int) ((sz.log2:Int)+1-(p.log2:Int))else lbi)(h1:lbi≤I4)(h2:(I4:Int)≤fin):0<sz/2^(I4+p.log2)↔(I4:Int)<fin:=by
 by_cases hs:sz=0
 ·subst hs;rw[aJ (by decide)]at hf;simp only[Nat.zero_div];omega
 ·rw[aK (by omega)]at hf;have e:0<sz/2^(I4+p.log2)↔I4+p.log2≤sz.log2:=by rw[Nat.div_pos_iff];rw[Nat.le_log2 hs];have:0<2^(I4+p.log2):=Nat.pow_pos (by decide);omega
  rw[e];omega
def jJ(xb:Nat)(pl said lb:Int)(vp vb:Value):HB:=⟨xb,85,#[i_ l_ pl,vp,vb,i_ l_ said,i_ l_ lb]⟩
theorem aeb(K:Act→World→Prop)(wb xb g1 g2 n c1 c2:Nat)(pl said lb:Int)(vp vb:Value)(bs:List Bool)(L1 L2:List Int)(HW Y H0:List HB)(w0 w:World)(hw:oN wb bs HW)(m:Mv w0 H0 w (HW++(jJ xb pl said lb vp vb::Y)))
 (hR:∀i,i<n→∀W,Sat W Y→W.cell? ⟨g1,i,N_⟩=S_ (i_ l_ (L1.getD i 0))∧W.cell? ⟨g2,i,N_⟩=S_ (i_ l_ (L2.getD i 0)))
 (hp:∀i,i<n→0≤L1.getD i 0∧L1.getD i 0≤1000) (hq:∀i,i<n→0≤L2.getD i 0∧L2.getD i 0≤100000000) (hlb:0≤lb∧lb≤45) (hn:n≤1000) (hbs:bs.length≤60000000)
 (hK:∀(t65 t66 t67 t68 t69 t70 t71 t72 t73 t74 t75 t76 t77 t78 t79 t80 t81 t82 t83 t84 t85 t86 t87 t88 t89 t90 t91:Value) (wx:World) (lM:List HB),oN wb (bs++List.replicate (needK L1 L2 lb n-lb).toNat T_) lM→Mv w0 H0 wx (lM++(jJ xb pl said (needK L1 L2 lb n) vp vb::Y))→K ⟨List.toArray (s0::(p_ (S_ ⟨wb,0,N_⟩))::s2::s3::s4::s5::s6::s7::s8::s9::s10::s11::(p_ (S_ ⟨xb,0,N_⟩))::s13::s14::(s_ (S_ ⟨g1,0,N_⟩) n c1)::(s_ (S_ ⟨g2,0,N_⟩) n c2)::(i_ l_ n)::kH::kS::s20::lF::lC::s23::s24::kZ::s26::kW::kR::kY::lu::lJ::lK::lI::lL::lD::s36::lY::lX::mG::ni::mZ::mY::s43::s44::nI::mF::nH::nK::s49::mD::mg::lW::s53::mX::mQ::mP::mO::nX::nJ::oU::oQ::pO::qW::qN::t65::t66::t67::t68::t69::t70::t71::t72::t73::t74::t75::t76::t77::t78::t79::t80::t81::t82::t83::t84::t85::t86::t87::t88::t89::t90::t91::xn::xk::xC::xA::xy::xw::xR::zl::oK::oJ::nT::nS::qj::qh::pY::pX::pG::pF::oI::oH::o9::oG::nP::nO::nN::nM::oZ::oW::oV::[]),[]⟩ wx):
 (jB 2 Tryz.f38).wp P_ (Exit.then K qX) ⟨List.toArray (s0::(p_ (S_ ⟨wb,0,N_⟩))::s2::s3::s4::s5::s6::s7::s8::s9::s10::s11::(p_ (S_ ⟨xb,0,N_⟩))::s13::s14::(s_ (S_ ⟨g1,0,N_⟩) n c1)::(s_ (S_ ⟨g2,0,N_⟩) n c2)::(i_ l_ 0)::kH::kS::s20::lF::lC::s23::s24::kZ::s26::kW::kR::kY::lu::lJ::lK::lI::lL::lD::s36::lY::lX::mG::ni::mZ::mY::s43::s44::nI::mF::nH::nK::s49::mD::mg::lW::s53::mX::mQ::mP::mO::nX::nJ::oU::oQ::pO::qW::qN::qV::rD::rC::s68::rM::rJ::sN::s72::sK::sJ::ry::ru::rf::s78::qZ::rH::rG::s82::s83::uk::uj::xI::s87::xH::xG::xF::xE::xn::xk::xC::xA::xy::xw::xR::zl::oK::oJ::nT::nS::qj::qh::pY::pX::pG::pF::oI::oH::o9::oG::nP::nO::nN::nM::oZ::oW::oV::[]),[]⟩ w:=by
 conv in(jB _ _)=>whnf
 unfold qX;have HK:=af hK;have K0:=dS hw m;have HS:=nY hR hp hq;have BD:=af (J9 L1 L2 lb n hq);clear hK hw m hR hp hq;go_wp2_with fail;go_loopg [17] n (fun mm l9 wx=>∃(i:Nat) (lM:List YtjngfhgakokejaaGreat.HB),i≤n∧mm=n-i∧l9=i_ l_ i∧oN wb (bs++List.replicate (needK L1 L2 lb i-lb).toNat T_) lM∧Mv w0 H0 wx (lM++(jJ xb pl said (needK L1 L2 lb i) vp vb::Y)))
 case atStart=>exact⟨0,HW,aY _,rfl,rfl,by rw[needK,Int.sub_self];simpa using K0.1,K0.2⟩
 case round=>
  clear K0;obtain⟨i,HW1,hi,rfl,rfl,hw,m⟩:=hrel;by_cases hlt:i<n
  ·have d1:decide ((i:Int)<n)=T_:=by simp;omega
   have hp1:=HS.2.1 i hlt;have hq1:=HS.2.2 i hlt;have hR1:=HS.1 i hlt;have bd0:=BD i hi;have bd1:=BD (i+1) hlt;have hsu:=PY L1 L2 lb i;obtain⟨p,hpe⟩:=dW hp1.1;obtain⟨sz,hze⟩:=dW hq1.1;obtain⟨lbi,hle⟩:=dW (a:=needK L1 L2 lb i) (by omega);obtain⟨fin,hfin⟩:=X_ (needK L1 L2 lb (i+1));obtain⟨l0,hl0⟩:=dW hlb.1;have HFI:=af hfin;rw[hpe,hze,hle,hfin]at hsu;rw[hpe,hze]at hR1;rw[hpe]at hp1;rw[hze]at hq1;rw[hle]at hw m bd0;rw[hfin]at bd1;simp only[Int.toNat_natCast]at hsu;have HF:=af hsu;have KK:=nY hR1 hw m;have hp9:=alF (n:=p) (by omega);have B0:=af bd0;have B1:=af bd1;have hpb:p≤1000:=by omega
   clear hsu hR1 hw m hfin hpe hze hle hp1 hq1 bd0 bd1;go_wp2_with fail;go_loopg [] (fin.toNat-lbi) (fun mm wx=>∃(I4:Nat) (lM:List YtjngfhgakokejaaGreat.HB),lbi≤I4∧(I4:Int)≤fin∧mm=fin.toNat-I4∧oN wb (bs++List.replicate ((I4:Int)-lb).toNat T_) lM∧Mv w0 H0 wx (lM++(jJ xb pl said I4 vp vb::Y)))
   case atStart=>exact⟨lbi,HW1,aN _,(by rw[HF.out];split<;>omega),rfl,KK.2.1,KK.2.2⟩
   case round=>
    obtain⟨I4,HW2,h1,h2,rfl,hw,m⟩:=hrel;have NC:=af (acv HF h1 h2);have hlq:I4+p.log2≤60:=by have:=B1.out;omega
    have hSx:∀W,Sat W (HW2++(jJ xb pl said I4 vp vb::Y))→W.cell? ⟨xb,4,N_⟩=S_ (i_ l_ I4)∧W.cell? ⟨g1,i,N_⟩=S_ (i_ l_ p)∧W.cell? ⟨g2,i,N_⟩=S_ (i_ l_ sz):=fun W h=>⟨(h.right.at_ 0 rfl).cell 4,KK.1 W (Sat.right (A:=[_]) h.right)⟩;obtain⟨q,hq⟩:=X_ (I4+p.log2);rw[hq]at NC hlq;have K2:=dS hw m;go_upto_region 12 with fail;refine ik (agW _ xb g1 g2 n c1 c2 i p sz I4 q (HW2++(jJ xb pl said I4 vp vb::Y)) H0 w0 _ hlt hn (by omega) hq hlq hSx K2.2 ?_);rintro _ _ _ _ _ _ _ _ _ _ _ _ _ _ _ w2 m2 hu;have hlc:I4≤60:=by omega
    have M2:Mv w0 H0 w2 (jJ xb pl said I4 vp vb::(HW2++Y)):=m2.Z_;have K3:=dS K2.1 m2;have KM:=af M2;by_cases hc:(I4:Int)<fin
    ·rw[Ib (NC.2 hc)]at hu;subst hu;have y4:w2.cell? ⟨xb,4,N_⟩=S_ (i_ l_ I4):=M2.cell 0 rfl 4;have f4:w2.frozen? ⟨xb,4,N_⟩=F_:=M2.frozen 0 rfl 4;have M3:=af (M2.set 4 (i_ l_ ((I4:Int)+1)));clear m2 M2 hSx hq hlq;go_upto_region 14 with fail;generalize w2.setCell ⟨xb,4,N_⟩ (i_ l_ ((I4:Int)+1))=w3 at*;have M4:Mv w0 H0 w3 (HW2++(jJ xb pl said ((I4+1:Nat):Int) vp vb::Y)):=M3.sub (fun g=>by simp only[aP,bK,jJ];omega) (fun c hc=>by simp only[ay,aC]at hc⊢;rcases hc with h|h|h;exact .inr (.inl h);exact .inl (by rw[h];rfl);exact .inr (.inr h));have BT:=af (CZ wb (bs++List.replicate ((I4:Int)-lb).toNat T_) 1 w3 HW2 K3.1 M4.sat.left (by rw[au,ja];omega));have K4:=af M4;clear M4 y4 f4;go_wp2_with (go_at_call 35;refine BT.out.mono ?_;rintro e w4 ⟨rfl,HW4,r4,m4⟩;have K5:=dS r4 (Mv.call K4.out m4);clear r4 m4);go_roundg (fin.toNat-(I4+1))
     case measure=>omega
     case rel=>
      refine⟨I4+1,HW4,by omega,by push_cast;omega,rfl,?_,K5.2⟩;have e:(((I4+1:Nat):Int)-lb).toNat=((I4:Int)-lb).toNat+1:=by have:=B0.1;omega
      rw[e,rV,←az];exact K5.1
    ·rw[Ic (fun h=>hc (NC.1 h))]at hu;subst hu;have ef:(I4:Int)=fin:=by omega
     have EF:=af ef;clear m2 M2 hSx hq hlq ef;go_wp2_with fail;go_roundg (n-(i+1))
     case measure=>omega
     case rel=>exact⟨i+1,HW2,hlt,rfl,by push_cast;rfl,by rw[HFI.out,←EF.out];exact K3.1,by rw[HFI.out,←EF.out];exact K3.2⟩
  ·obtain rfl:i=n:=by omega
   have d1:decide ((i:Int)<i)=F_:=by simp
   have K2:=dS hw m;clear hw m;go_wp2_with fail;exact HK _ _ _ _ _ _ _ _ _ _ _ _ _ _ _ _ _ _ _ _ _ _ _ _ _ _ _ _ _ K2.1 K2.2
theorem Np{T:List bV}{n k:Nat}(hk:k<n)(h:wR T n):∀i,wR (zerosE T k i).1 n
 |0=>h
 |i+1=>JA _ hk (Np hk h i)
theorem abf(K:Act→World→Prop)(bb tu wb k n z:Nat)(T T1:List bV)(fr:Bool)(bs:List Bool)(HU HW Y H0:List HB)(w0 w:World)(hT1:(if fr=T_ then T else fillT T)=T1)(hu:ku tu T fr HU)(hw:oN wb bs HW)(m:Mv w0 H0 w (HU++(HW++Y)))
 (hY:∀W,Sat W Y→W.cell? ⟨bb,3,N_⟩=S_ (p_ (S_ ⟨tu,0,N_⟩))) (hg:wR T1 n) (hk:k<n) (hz:z≤60) (hbs:bs.length≤40000000)
 (hK:∀(t36 t37 t38 t39 t40 t41 t42 t43 t44 t45 t46 t47 t48 t49:Value) (wx:World) (HU' lM:List HB),ku tu (zerosE T1 k (z+1)).1 T_ HU'→oN wb (bs++(zerosE T1 k (z+1)).2) lM→Mv w0 H0 wx (HU'++(lM++Y))→K ⟨List.toArray ((p_ (S_ ⟨bb,0,N_⟩))::(p_ (S_ ⟨wb,0,N_⟩))::(i_ l_ k)::s3::s4::s5::s6::s7::s8::s9::s10::s11::s12::(i_ l_ z)::(i_ l_ ((z:Int)+2))::s15::s16::l9::kH::kS::s20::lF::lC::s23::s24::kZ::s26::kW::kR::kY::lu::lJ::lK::lI::lL::lD::t36::t37::t38::t39::t40::t41::t42::t43::t44::t45::t46::t47::t48::t49::mD::mg::lW::s53::mX::mQ::mP::mO::nX::nJ::oU::oQ::pO::qW::qN::qV::rD::rC::s68::rM::rJ::sN::s72::sK::sJ::ry::ru::rf::s78::qZ::rH::rG::s82::s83::uk::uj::xI::s87::xH::xG::xF::xE::xn::xk::xC::xA::xy::xw::xR::zl::oK::oJ::nT::nS::qj::qh::pY::pX::pG::pF::oI::oH::o9::oG::nP::nO::nN::nM::oZ::oW::oV::[]),[]⟩ wx):
 (jB 0 Tryz.f38).wp P_ (Exit.then K qX) ⟨List.toArray ((p_ (S_ ⟨bb,0,N_⟩))::(p_ (S_ ⟨wb,0,N_⟩))::(i_ l_ k)::s3::s4::s5::s6::s7::s8::s9::s10::s11::s12::(i_ l_ z)::(i_ l_ 1)::s15::s16::l9::kH::kS::s20::lF::lC::s23::s24::kZ::s26::kW::kR::kY::lu::lJ::lK::lI::lL::lD::s36::lY::lX::mG::ni::mZ::mY::s43::s44::nI::mF::nH::nK::s49::mD::mg::lW::s53::mX::mQ::mP::mO::nX::nJ::oU::oQ::pO::qW::qN::qV::rD::rC::s68::rM::rJ::sN::s72::sK::sJ::ry::ru::rf::s78::qZ::rH::rG::s82::s83::uk::uj::xI::s87::xH::xG::xF::xE::xn::xk::xC::xA::xy::xw::xR::zl::oK::oJ::nT::nS::qj::qh::pY::pX::pG::pF::oI::oH::o9::oG::nP::nO::nN::nM::oZ::oW::oV::[]),[]⟩ w:=by
 conv in(jB _ _)=>whnf
 unfold qX;have HK:=af hK;have K0:=nY hu hw m;have HG:=nY hT1 hY (Np hk hg);have amA:Hid (T1.length≤20):=af hg.1.2.2.2.2;clear hK hu hw m hT1 hY hg;go_wp2_with fail;go_loopg [14] (z+1) (fun mm s14 wx=>∃(i:Nat) (T':List bV) (fr':Bool) (HU' lM:List YtjngfhgakokejaaGreat.HB),i≤z+1∧mm=z+1-i∧s14=i_ l_ ((i:Int)+1)∧(if fr'=T_ then T' else fillT T')=(zerosE T1 k i).1∧(0<i→fr'=T_)∧ku tu T' fr' HU'∧oN wb (bs++(zerosE T1 k i).2) lM∧Mv w0 H0 wx (HU'++(lM++Y)))
 case atStart=>exact⟨0,T,fr,HU,HW,aY _,rfl,rfl,HG.1,(fun h=>absurd h (by omega)),K0.1,by rw[zerosE,dD];exact K0.2.1,K0.2.2⟩
 case round=>
  clear K0;obtain⟨i,T',fr',FV,HW1,hi,rfl,rfl,hT',hf,hu,hw,m⟩:=hrel;have c3:=HG.2.1 wr m.sat.right.right;by_cases hlt:i≤z
  ·have d1:decide ((i:Int)+1≤(z:Int)+1)=T_:=by simp;omega
   have d2:decide ((i:Int)≤z)=T_:=by simp;omega
   have hzl:=(zS T1 k amA i (by omega)).2;have M1:Mv w0 H0 wr ((FV++HW1)++Y):=by rw[az];exact m
   have EN:=af (VU tu wb T' fr' FV HW1 (bs++(zerosE T1 k i).2) wr n k ((i:Int)+1) (zerosE T1 k i).1 hT' hu hw M1.sat.left (HG.2.2 i) hk (by omega) (by rw[au];omega));have hsu:Hid (zerosE T1 k (i+1)=((encAt (zerosE T1 k i).1 k ((i:Int)+1)).1,(zerosE T1 k i).2++(encAt (zerosE T1 k i).1 k ((i:Int)+1)).2)):=af (by rw[zerosE];simp only[Int.natCast_add,Int.cast_ofNat_Int]);have KM:=af M1;clear hT' hf hu hw m M1 hzl;go_wp2_with (go_at_call 37;refine EN.out.mono ?_;rintro e w2 ⟨rfl,XR,HW2,r1,r2,m2⟩;have K2:=nY r1 r2 (Mv.call KM.out m2);clear r1 r2 m2);go_roundg (z+1-(i+1))
   case measure=>omega
   case rel=>exact⟨i+1,(encAt (zerosE T1 k i).1 k ((i:Int)+1)).1,T_,XR,HW2,by omega,rfl,by push_cast;rfl,by rw[hsu.out];rfl,fun _=>rfl,K2.1,by rw[hsu.out,←az];exact K2.2.1,by rw[←az];exact K2.2.2⟩
  ·obtain rfl:i=z+1:=by omega
   have d1:decide (((z+1:Nat):Int)+1≤(z:Int)+1)=F_:=by simp;omega
   have hfr:=hf (by omega);subst hfr;rw[aK rfl]at hT';subst hT';have K2:=nY hu hw m;clear hu hw m hlt hf hi;go_wp2_with fail;exact HK _ _ _ _ _ _ _ _ _ _ _ _ _ _ _ _ _ K2.1 K2.2.1 K2.2.2
theorem agU(K:Act→World→Prop)(bb xb lg lc n k:Nat)(pl said lb:Int)(va:Option Addr)(vn vc:Nat)(ua:Option Addr)(un uc:Nat)(w:World)
 (c1:w.cell? ⟨bb,1,N_⟩=S_ (s_ (S_ ⟨lg,0,N_⟩) n lc)) (x0:w.cell? ⟨xb,0,N_⟩=S_ (i_ l_ pl)) (x1:w.cell? ⟨xb,1,N_⟩=S_ (s_ va vn vc)) (x2:w.cell? ⟨xb,2,N_⟩=S_ (s_ ua un uc)) (x3:w.cell? ⟨xb,3,N_⟩=S_ (i_ l_ said)) (x4:w.cell? ⟨xb,4,N_⟩=S_ (i_ l_ lb))
 (f0:w.frozen? ⟨lg,k*5,N_⟩=F_) (f1:w.frozen? ⟨lg,k*5+1,N_⟩=F_) (f2:w.frozen? ⟨lg,k*5+2,N_⟩=F_) (f3:w.frozen? ⟨lg,k*5+3,N_⟩=F_) (f4:w.frozen? ⟨lg,k*5+4,N_⟩=F_)
 (y0:∃v,w.cell? ⟨lg,k*5,N_⟩=S_ v) (y1:∃v,w.cell? ⟨lg,k*5+1,N_⟩=S_ v) (y2:∃v,w.cell? ⟨lg,k*5+2,N_⟩=S_ v) (y3:∃v,w.cell? ⟨lg,k*5+3,N_⟩=S_ v) (y4:∃v,w.cell? ⟨lg,k*5+4,N_⟩=S_ v)
 (hk:k<n) (hn:n≤1000)
 (hK:∀(t114 t115 t116 t117 t118 t119 t120:Value),K ⟨List.toArray ((p_ (S_ ⟨bb,0,N_⟩))::s1::(i_ l_ k)::s3::s4::s5::s6::s7::s8::s9::s10::s11::(p_ (S_ ⟨xb,0,N_⟩))::s13::s14::s15::s16::l9::kH::kS::s20::lF::lC::s23::s24::kZ::s26::kW::kR::kY::lu::lJ::lK::lI::lL::lD::s36::lY::lX::mG::ni::mZ::mY::s43::s44::nI::mF::nH::nK::s49::mD::mg::lW::s53::mX::mQ::mP::mO::nX::nJ::oU::oQ::pO::qW::qN::qV::rD::rC::s68::rM::rJ::sN::s72::sK::sJ::ry::ru::rf::s78::qZ::rH::rG::s82::s83::uk::uj::xI::s87::xH::xG::xF::xE::xn::xk::xC::xA::xy::xw::xR::zl::oK::oJ::nT::nS::qj::qh::pY::pX::pG::pF::oI::oH::o9::oG::t114::t115::t116::t117::t118::t119::t120::[]),[]⟩ (((((w.setCell ⟨lg,k*5,N_⟩ (i_ l_ pl)).setCell ⟨lg,k*5+1,N_⟩ (s_ va vn vc)).setCell ⟨lg,k*5+2,N_⟩ (s_ ua un uc)).setCell ⟨lg,k*5+3,N_⟩ (i_ l_ said)).setCell ⟨lg,k*5+4,N_⟩ (i_ l_ lb)).drew):
 (dQ 20 Tryz.f38).wp P_ (Exit.then K qX) ⟨List.toArray ((p_ (S_ ⟨bb,0,N_⟩))::s1::(i_ l_ k)::s3::s4::s5::s6::s7::s8::s9::s10::s11::(p_ (S_ ⟨xb,0,N_⟩))::s13::s14::s15::s16::l9::kH::kS::s20::lF::lC::s23::s24::kZ::s26::kW::kR::kY::lu::lJ::lK::lI::lL::lD::s36::lY::lX::mG::ni::mZ::mY::s43::s44::nI::mF::nH::nK::s49::mD::mg::lW::s53::mX::mQ::mP::mO::nX::nJ::oU::oQ::pO::qW::qN::qV::rD::rC::s68::rM::rJ::sN::s72::sK::sJ::ry::ru::rf::s78::qZ::rH::rG::s82::s83::uk::uj::xI::s87::xH::xG::xF::xE::xn::xk::xC::xA::xy::xw::xR::zl::oK::oJ::nT::nS::qj::qh::pY::pX::pG::pF::oI::oH::o9::oG::nP::nO::nN::nM::oZ::oW::oV::[]),[]⟩ w:=by
 conv in(dQ _ _)=>whnf
 unfold qX;have HK:=af hK;clear hK;obtain⟨v0,y0⟩:=y0;obtain⟨v1,y1⟩:=y1;obtain⟨v2,y2⟩:=y2;obtain⟨v3,y3⟩:=y3;obtain⟨v4,y4⟩:=y4;have hkn:(k:Int)<n:=by omega
 have hk5:k*5<100000:=by omega
 go_still_tail 7,(by kernel_rfl);go_wp2_with fail;exact HK _ _ _ _ _ _ _
def vS(T1:List bV)(k z from_:Nat):List Bool:=if from_=0 then(zerosE T1 k (z+1)).2 else []
def yP(T T1:List bV)(k z from_:Nat):List bV:=if from_=0 then(zerosE T1 k (z+1)).1 else T
def Ep(fr:Bool)(from_:Nat):Bool:=if from_=0 then T_ else fr
def Jl(bb:Nat)(m:aT)(b:iG):List HB:=jk bb b.ti b.tu b.vl m::(b.Hl++(b.Hi++b.G.flatMap gu.heap))
def aj0(bb lg lc n k:Nat)(V:World):Prop:=V.cell? ⟨bb,1,N_⟩=S_ (s_ (S_ ⟨lg,0,N_⟩) n lc)∧∀j,j<5→V.frozen? ⟨lg,k*5+j,N_⟩=F_∧∃v,V.cell? ⟨lg,k*5+j,N_⟩=S_ v
def O4(w:World)(lg k:Nat)(pl:Int)(vp vb:Value)(said lb:Int):World:=((((w.setCell ⟨lg,k*5,N_⟩ (i_ l_ pl)).setCell ⟨lg,k*5+1,N_⟩ vp).setCell ⟨lg,k*5+2,N_⟩ vb).setCell ⟨lg,k*5+3,N_⟩ (i_ l_ said)).setCell ⟨lg,k*5+4,N_⟩ (i_ l_ lb)
theorem abg(bb wb k n z from_ cO ah lg lc pn vc bn uc:Nat)(pl said lb P:Int)(va ua:Option Addr)(b:iG)(m:aT)(ff fz:Bool)(hb:b.ok m ff fz)(HW:List HB)(bs:List Bool)(W:World)(T1:List bV)(hw:oN wb bs HW)(hs:Sat W (b.heap bb m++HW))
 (hT1:(if fz=T_ then m.dA else fillT m.dA)=T1) (hg:from_=0→wR T1 n) (hk:k<n) (hn1:n≤1000) (hz:z≤60) (hP:P=pl+z) (hPm:m.aH=P) (anp: -1000≤pl∧pl≤1000) (hbs:bs.length≤40000000) (hft:from_<cO) (hto:cO≤pn) (hpn:pn≤100) (Em:ah≤63) (ps:List (Int×Bool)) (Hp R:List HB) (hp:lH (s_ va pn vc) ps Hp) (hpl2:ps.length=pn) (aiI:∀e∈ps.map (·.1),0≤e∧e≤100000000) (hYc:∀g,cnt g (Jl bb m b)=cnt g Hp+cnt g R) (hYm:∀c,c∈Jl bb m b↔c∈Hp∨c∈R) (L1 L2:List Int) (np:Nat) (hL1:jT (dV ah from_ cO)=L1) (hL2:sizesM (ps.map (·.1)) (rZ (ps.map (·.1)) from_) (dV ah from_ cO)=L2) (UN:L1.length=np) (akO:L2.length=np) (ahQ:0<np) (ajE:np≤100) (hq1:∀i,i<np→0≤L1.getD i 0∧L1.getD i 0≤1000) (hq2:∀i,i<np→0≤L2.getD i 0∧L2.getD i 0≤100000000) (hlb:0≤lb∧lb≤45) (hbz:(bs++vS T1 k z from_).length≤40000000)
 (Q:World→Prop) (hcl:∀V,Sat V (Hp++R)→aj0 bb lg lc n k V)
 (hfin:∀w2 HW2 XR,ku b.tu (yP m.dA T1 k z from_) (Ep fz from_) XR→oN wb (((bs++vS T1 k z from_++D8 (cO-from_))++List.replicate (needK L1 L2 lb np-lb).toNat T_++[F_])++Gh L1 L2 (needK L1 L2 lb np) np) HW2→Mv W (b.heap bb m++HW) w2 (HW2++(XR++(Hp++R)))→Q (O4 w2 lg k pl (s_ va pn vc) (s_ ua bn uc) said (needK L1 L2 lb np)).drew)
 (z1:W.cell? ⟨bb,1,N_⟩=S_ (s_ (S_ ⟨lg,0,N_⟩) n lc)) (c0:W.cell? ⟨lg,k*5,N_⟩=S_ (i_ l_ pl)) (c1:W.cell? ⟨lg,k*5+1,N_⟩=S_ (s_ va pn vc)) (c2:W.cell? ⟨lg,k*5+2,N_⟩=S_ (s_ ua bn uc)) (c3:W.cell? ⟨lg,k*5+3,N_⟩=S_ (i_ l_ said)) (c4:W.cell? ⟨lg,k*5+4,N_⟩=S_ (i_ l_ lb)):
 Calls P_ 38 #[p_ (S_ ⟨bb,0,N_⟩),p_ (S_ ⟨wb,0,N_⟩),i_ l_ k,i_ l_ ah,i_ l_ from_,i_ l_ cO] W fun e w'=>e=r_ (t_ #[])∧Q w':=by
 have M0:=Mv.refl hs;have M1:=M0.alloc 85 #[i_ l_ pl,s_ va pn vc,s_ ua bn uc,i_ l_ said,i_ l_ lb];obtain⟨H0,hH0⟩:=X_ (b.heap bb m++HW);obtain⟨xb,hxb⟩:=X_ (W.heap.size);obtain⟨w1,hw1⟩:=Y_ (W.alloc (.cells #[i_ l_ pl,s_ va pn vc,s_ ua bn uc,i_ l_ said,i_ l_ lb] 85));rw[←hw1,hxb]at M1;have M2:Mv W (b.heap bb m++HW) w1 (b.Hu++(HW++(jJ xb pl said lb (s_ va pn vc) (s_ ua bn uc)::Jl bb m b))):=M1.sub (fun g=>by simp only[iG.heap,Jl,jJ,aP,bK];omega) (fun c hc=>by simp only[iG.heap,Jl,jJ,ay,aC]at hc⊢;grind);rw[hH0]at M2 hfin;have FIN:=af hfin;have HCL:=af hcl;clear hfin hcl;have YB:Hid (∀V,Sat V (jJ xb pl said lb (s_ va pn vc) (s_ ua bn uc)::Jl bb m b)→V.cell? ⟨bb,3,N_⟩=S_ (p_ (S_ ⟨b.tu,0,N_⟩))∧V.cell? ⟨bb,0,N_⟩=S_ (i_ l_ (pl+z))∧V.cell? ⟨xb,0,N_⟩=S_ (i_ l_ pl)):=af (fun V h=>⟨(h.at_ 1 rfl).cell 3,by rw[←hP,←hPm];exact(h.at_ 1 rfl).cell 0,(h.at_ 0 rfl).cell 0⟩);have K0:=nY hb.tu hw M2;have GD:=dS hT1 hg;have hkI:(k:Int)<n:=by omega
 have hk5:k*5<100000:=by omega
 obtain⟨Y,hY⟩:=X_ (Jl bb m b);rw[hY]at K0 YB hYc hYm;have YH:=dS hYc hYm;have PH:=nY hp hpl2 aiI;clear hYc hYm hp hpl2 aiI;clear hs hb hw M0 M1 M2 hT1 hg hH0 hPm hY;go_enter Tryz.func38,Tryz.ntmps38;go_upto_region 1 with fail;rw[←hw1]
 try simp only[hxb]
 clear hw1 z1 c0 c1 c2 c3 c4;have yy:=YB w1 K0.2.2.sat.right.right;obtain⟨y3,y0,x0⟩:=yy;go_upto_if 27 with fail;go_cut [13,14,27]from 28 (fun _ _ _ wx=>∃HU' lM,ku b.tu (yP m.dA T1 k z from_) (Ep fz from_) HU'∧oN wb (bs++vS T1 k z from_) lM∧Mv W H0 wx (HU'++(lM++(jJ xb pl said lb (s_ va pn vc) (s_ ua bn uc)::Y))))
 case first=>
  by_cases h0:from_=0
  ·have d:(from_==0)=T_:=by simp;exact h0
   have e1:Hid (yP m.dA T1 k z from_=(zerosE T1 k (z+1)).1∧Ep fz from_=T_∧vS T1 k z from_=(zerosE T1 k (z+1)).2):=af ⟨aK h0,aK h0,aK h0⟩;have hg0:=af (GD.2 h0);subst h0;go_upto_region 2 with fail;go_quiet (fail);have M4:=K0.2.2.drewN nq;go_upto_block 0 with fail;rw[show pl+(z:Int)-pl=z by omega];refine lU (abf _ bb b.tu wb k n z m.dA T1 fz bs b.Hu HW (jJ xb pl said lb (s_ va pn vc) (s_ ua bn uc)::Y) H0 W _ GD.1 K0.1 K0.2.1 M4 (fun V h=>(YB V h).1) hg0 hk hz hbs ?_);rintro _ _ _ _ _ _ _ _ _ _ _ _ _ _ w5 HU5 HW5 r1 r2 m5;have K5:=nY r1 r2 m5;go_wp2_with fail;go_meet;exact⟨HU5,HW5,by rw[e1.1,e1.2.1];exact K5.1,by rw[e1.2.2];exact K5.2.1,K5.2.2⟩
  ·have d:(from_==0)=F_:=by simp;exact h0
   have dI:((from_:Int)==0)=F_:=by simp;exact h0
   have e1:Hid (yP m.dA T1 k z from_=m.dA∧Ep fz from_=fz∧vS T1 k z from_=[]):=af ⟨aJ h0,aJ h0,aJ h0⟩;clear h0;go_wp2_with fail;go_meet;exact⟨b.Hu,HW,by rw[e1.1,e1.2.1];exact K0.1,by rw[e1.2.2,dD];exact K0.2.1,K0.2.2⟩
 case rest=>
  obtain⟨FV,HW1,r1,r2,m⟩:=hcut;have M5:Mv W H0 wc (HW1++(FV++(jJ xb pl said lb (s_ va pn vc) (s_ ua bn uc)::Y))):=m.Z_;have RC:=af (Zq wb (bs++vS T1 k z from_) (cO-from_) wc HW1 r2 M5.sat.left (by omega) (by omega) (by omega));have eft:((cO-from_:Nat):Int)=cO-from_:=by omega
  rw[eft]at RC;have K5:=dS r1 M5;clear r1 r2 m M5 eft K0 y0 y3 x0;go_upto_region 8 with(go_at_call 82;(with_reducible refine RC.out.mono ?_);rintro e w6 ⟨rfl,HW6,r6,m6⟩;have K6:=dS r6 (Mv.call K5.out.2 m6);clear r6 m6);have M6:Mv W H0 w6 (Hp++(HW6++(FV++(jJ xb pl said lb (s_ va pn vc) (s_ ua bn uc)::R)))):=K6.2.sub (fun g=>by have:=YH.1 g;simp only[aP,bK];omega) (fun c hc=>by have:=YH.2 c;simp only[ay,aC]at hc⊢;grind);have xB:=(M6.sat.right.right.right.at_ 0 rfl);have x0:=xB.cell 0;have x1:=xB.cell 1;have x2:=xB.cell 2;have EN:=af (ab9 pl (s_ va pn vc) (s_ ua bn uc) ps Hp w6 PH.1 M6.sat.left (by rw[PH.2.1];omega) ⟨_,_,_,rfl⟩);have KM6:=af M6;have SG:Hid (∀v Hn V,jy v (ps.map (·.1)) Hn→Sat V Hn→Calls P_ 83 #[i_ l_ ah,i_ l_ from_,i_ l_ cO,v] V fun e w'=>∃v1 v2 H1 H2,e=r_ (t_ #[v1,v2])∧jy v1 (jT (dV ah from_ cO)) H1∧jy v2 (sizesM (ps.map (·.1)) (rZ (ps.map (·.1)) from_) (dV ah from_ cO)) H2∧Mv V Hn w' (H1++(H2++Hn))):=af (fun v Hn V h1 h2=>RX ah from_ cO (ps.map (·.1)) v Hn V Em (by omega) (by rw[aO,PH.2.1];exact hto) (by rw[aO,PH.2.1];omega) PH.2.2 h1 h2);rw[hL1,hL2]at SG;have NP:=zO UN akO hq1 hq2;clear M6 xB hL1 hL2 UN akO hq1 hq2;go_upto_region 9 with(first|(go_at_call 84;refine EN.out.mono ?_;rintro e w7 ⟨v7,H7,rfl,r7,m7⟩;have K7:=dS r7 (Mv.call KM6.out m7);clear r7 m7)|(go_at_call 83;refine(SG.out _ H7 _ K7.out.1 K7.out.2.sat.left.left).mono ?_;rintro e w8 ⟨v8,v9,H8,H9,rfl,r8,r9,m8⟩;have K8:=nY r8 r9 m8;clear r8 r9 m8));obtain⟨a8,k8,e8⟩:=K8.1.slice;obtain⟨a9,k9,e9⟩:=K8.2.1.slice;rw[NP.1]at e8;rw[NP.2.1]at e9;subst e8;subst e9;obtain⟨g1,rfl⟩:=K8.1.form ahQ;obtain⟨g2,rfl⟩:=K8.2.1.form ahQ;have M7:Mv W H0 w7 (H7++(Hp++(HW6++(FV++(jJ xb pl said lb (s_ va pn vc) (s_ ua bn uc)::R))))):=by rw[←az];exact K7.2
  have M8:Mv W H0 w8 (HW6++(jJ xb pl said lb (s_ va pn vc) (s_ ua bn uc)::(H8++(H9++(H7++(Hp++(FV++R))))))):=(Mv.call M7 K8.2.2).Z_;have KM8:=af M8;clear M7 M8;go_upto_block 2 with fail;refine ik (aeb _ wb xb g1 g2 np k8 k9 pl said lb (s_ va pn vc) (s_ ua bn uc) _ L1 L2 HW6 (H8++(H9++(H7++(Hp++(FV++R))))) H0 W _ K6.1 KM8 (fun i hi V h=>⟨K8.1.at_ h.left (by rw[ax,ai (by rw[NP.1];exact hi)];rfl),K8.2.1.at_ h.right.left (by rw[ax,ai (by rw[NP.2.1];exact hi)];rfl)⟩) NP.2.2.1 NP.2.2.2 hlb (by omega) (by have:=Et (cO-from_);rw[au];omega) ?_);rintro _ _ _ _ _ _ _ _ _ _ _ _ _ _ _ _ _ _ _ _ _ _ _ _ _ _ _ w9 HW9 r9 m9;have hbd:=J9 L1 L2 lb np NP.2.2.2 np (aN _);obtain⟨nl,hnl⟩:=X_ (needK L1 L2 lb np);rw[hnl]at r9 m9 hbd;have hlen:((bs++vS T1 k z from_++D8 (cO-from_))++List.replicate (nl-lb).toNat T_).length≤50000000:=by have:=Et (cO-from_);rw[au,au,ja];omega
  have BT:=af (CZ wb _ 0 w9 HW9 r9 m9.sat.left (by omega));have K9:=af m9;have am4:0≤nl∧nl≤45:=by omega
  have HN:=af hnl;have HLn:=af hlen;clear r9 m9 hbd hnl hlen;go_upto_region 16 with(go_at_call 35;refine BT.out.mono ?_;rintro e w10 ⟨rfl,amz,r10,m10⟩;have K10:=dS r10 (Mv.call K9.out m10);clear r10 m10);go_upto_block 6 with fail;refine ik (aec _ wb xb g1 g2 np k8 k9 nl _ L1 L2 amz (jJ xb pl said nl (s_ va pn vc) (s_ ua bn uc)::(H8++(H9++(H7++(Hp++(FV++R)))))) H0 W _ K10.1 K10.2 (fun i hi V h=>⟨(h.at_ 0 rfl).cell 4,K8.1.at_ (Sat.right (A:=[_]) h).left (by rw[ax,ai (by rw[NP.1];exact hi)];rfl),K8.2.1.at_ (Sat.right (A:=[_]) h).right.left (by rw[ax,ai (by rw[NP.2.1];exact hi)];rfl)⟩) NP.2.2.1 (by omega) (by omega) (by have:=HLn.out;rw[au];simp only[List.length_cons,List.length_nil];omega) ?_);rintro _ _ _ _ _ _ _ _ _ _ _ _ _ _ _ _ _ _ _ _ w11 alq r11 m11;have x1b:=m11.sat.right.at_ 0 rfl;have x0:=x1b.cell 0;have x1:=x1b.cell 1;have x2:=x1b.cell 2;have x3:=x1b.cell 3;have x4:=x1b.cell 4;have M12:Mv W H0 w11 (alq++(FV++(Hp++R))):=m11.Z_;obtain⟨d1,dj⟩:=HCL w11 M12.sat.right.right;have KF:=nY K5.1 r11 M12;clear r11 m11 M12 x1b;go_upto_region 20 with fail;refine lU (agU _ bb xb lg lc n k pl said nl va pn vc ua bn uc _ d1 x0 x1 x2 x3 x4 (dj 0 (by decide)).1 (dj 1 (by decide)).1 (dj 2 (by decide)).1 (dj 3 (by decide)).1 (dj 4 (by decide)).1 (dj 0 (by decide)).2 (dj 1 (by decide)).2 (dj 2 (by decide)).2 (dj 3 (by decide)).2 (dj 4 (by decide)).2 hk hn1 ?_);rintro _ _ _ _ _ _ _;refine dm (bH rfl _ _ _) rfl ⟨rfl,?_⟩;have F:=FIN w11 alq FV KF.1 (by rw[HN.out];exact KF.2.1) KF.2.2;rw[HN.out]at F;exact F
end
end Go.Proofs.YtjngfhgakokejaaGreat
