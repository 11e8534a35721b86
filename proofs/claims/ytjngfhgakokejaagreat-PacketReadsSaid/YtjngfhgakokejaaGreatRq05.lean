/- PacketReads: part 5. -/
import Derived.Test.YtjngfhgakokejaaGreatRq04
import Derived.Sort.CutIn
set_option maxRecDepth 100000
set_option maxHeartbeats 8000000
set_option linter.all false
namespace Go.Proofs.YtjngfhgakokejaaGreat
open Value renaming int→i_,slice→s_,pointer→p_,bool→b_,agg→g_,tuple→t_
open IntKind renaming i64→l_
open Ending renaming returned→r_
open Tryz renaming prog→P_
open Option renaming some→S_,none→N_
open Bool renaming true→T_,false→F_
section
open Go.RowKit
theorem Xz(tb rb:Nat)(l:List UInt8)(P:List oq)(r:jG)(k:Nat)(b:Int)(p0:oq)(W:World)(HT HR:List HB)(h:tH tb P HT)(hw:jA rb l r HR)(hs:Sat W (HR++HT))(hl:P.length≤20)(hd:uJ P)(h0:P[0]?=S_ p0)(hk:k<p0.2.w*p0.2.h)
 (hb:b≤1000) (hll:l.length≤90000000) (hrb:r.begun≤80000000) (Jb:r.left≤8):
 Calls P_ 112 #[p_ (S_ ⟨tb,0,N_⟩),p_ (S_ ⟨rb,0,N_⟩),i_ l_ k,i_ l_ b] W fun e W'=>e=r_ (b_ (qM (aam (decP l P (k%p0.2.w) (k/p0.2.w) b r).t (k%p0.2.w) (k/p0.2.w)) b))∧ ∃HT' HR',tH tb (decP l P (k%p0.2.w) (k/p0.2.w) b r).t HT'∧jA rb l (decP l P (k%p0.2.w) (k/p0.2.w) b r).rd HR'∧Mv W (HR++HT) W' (HR'++HT'):=by
 have WO:=af (Yb tb P k p0 W HT h hs.right hl hd h0 hk);have hn:0<P.length:=(aj.1 h0).1;have q:=hd.get h0;have hx:k%p0.2.w<p0.2.w:=kP _ (by omega);have hy:k/p0.2.w<p0.2.h:=oz hk;have AT:=af fun i p hp=>uJ.at_ (i:=i) (p:=p) hd h0 hx hy hp;generalize k%p0.2.w=x at*;generalize k/p0.2.w=y at*;have K:=LH h hw hs hd h0;clear h hw hs hd q h0 hk hx hy;have hn0:(0:Int)<P.length:=by omega
 rw[←Tm];go_enter Tryz.func112,Tryz.ntmps112;go_wp2_with (go_at_call 106;refine WO.out.mono ?_;rintro e w1 ⟨v1,H1,rfl,r1,m1⟩;obtain⟨a1,c1,rfl⟩:=r1.slice;have K1:=dS r1 m1;clear r1 m1);go_loopg [9,12,18] P.length (fun g s9 _ kH wx=>∃(m:Nat) (HTm HRm:List HB),m≤P.length∧m=g∧kH=i_ l_ (P.length-m:Nat)∧s9=i_ l_ (decP l (P.drop m) (x/2^m) (y/2^m) b r).low∧tH tb (midD l P x y b r m) HTm∧jA rb l (decP l (P.drop m) (x/2^m) (y/2^m) b r).rd HRm∧Mv W (HR++HT) wx (HRm++(HTm++H1)))
 case atStart=>refine⟨P.length,HT,HR,aN _,rfl,by simp,by simp[decP],by rw[aeY];exact K.1,by simpa[decP]using K.2.1,?_⟩;have:=Mv.call (Mv.Lu (A:=HR) (B:=HT) (R:=[]) (by simpa using Mv.refl K.2.2.1)) K1.2;exact Mv.sub this (fun g=>by simp only[aP,gI];omega) (fun c hc=>by simp only[ay,bP,gQ]at hc⊢;grind)
 case round=>
  obtain⟨wa,rfl⟩:∃wa:World,wa=wr:=⟨_,rfl⟩;obtain⟨m,HTm,HRm,hm,rfl,rfl,rfl,tm,bm,mm⟩:=hrel;by_cases hm0:m=0
  ·subst hm0;obtain⟨g1,eg1,hc1,-⟩:=K1.1.get mm.sat.right.right (by omega);have cj:=hc1 (P.length-1) (by omega);rw[List.getElem?_reverse (by rw[uo];omega),uo,show P.length-1-(P.length-1)=0 from by omega,JL P x y 0 p0 K.2.2.2.2]at cj;subst eg1;have hsh:=P7 l P x y b r 0;have hdT:uJ (midD l P x y b r 0):=K.2.2.2.1.congr hsh;obtain⟨pz,hpz⟩:∃pz,(midD l P x y b r 0)[0]?=S_ pz:=⟨_,ai (by have:=fM List.length hsh;simp only[aO]at this;omega)⟩;have hpw:pz.1=p0.1∧pz.2.w=p0.2.w∧pz.2.h=p0.2.h:=by have e1:=fM (fun l=>l[0]?) hsh;have e2:=fM (fun l=>l[0]?) (Fv l P x y b r).2;rw[Tm]at e1 hpz;simp only[aV,hpz,K.2.2.2.2,Option.map_some,dG,dM,fK]at e1 e2;exact⟨e2,e1.1,e1.2.1⟩
   have hxy:=AT 0 p0 K.2.2.2.2;simp only[Nat.pow_zero,Nat.div_one]at hxy cj;obtain⟨y0,y1,y2,-⟩:=Bg (R:=HRm++H1) tm (mm.Z_) hdT hpz (x:=x) (y:=y) (by rw[hpw.2.1];exact hxy.1) (by rw[hpw.2.2];exact hxy.2);have hlf:aam (midD l P x y b r 0) x y=pz.2.at_ x y:=by
    obtain⟨T,hT⟩:=X_ (midD l P x y b r 0);rw[hT]at hpz⊢;cases T with
    |nil=>simp at hpz
    |cons a T=>simp at hpz;subst hpz;rfl
   rw[hpw.1,hpw.2.1]at y0 y1 y2;obtain⟨z,hz⟩:=X_ (pz.2.at_ x y);rw[hz]at y0 y1 y2 hlf;have HLF:=af hlf;clear hz;have KE:=nY tm bm mm;clear tm bm mm K1 hc1 hsh hdT hpz hpw hxy hlf y1;simp only[Nat.sub_zero,iW,Nat.pow_zero,Nat.div_one]at KE⊢;have d9:¬(P.length:Int)<P.length:=by omega
   have d8:decide ((0:Int)<P.length)=T_:=aQ hn0;by_cases hsd:z.said=T_
   ·rw[hsd]at y2;obtain⟨bb,hbb⟩:=X_ (decide (z.n<b));have hbm:qM z b=bb:=by unfold qM;rw[hsd,hbb];rfl
    have HBM:=af hbm;clear hbm hsd;go_wp2_with fail;go_ret;exact⟨by show Ending.returned (b_ _)=_;rw[HLF.out,HBM.out],HTm,KE.1,HRm,KE.2.1,Mv.sub KE.2.2 (fun g=>by simp only[aP];omega) (fun c hc=>by simp only[ay]at hc⊢;grind)⟩
   ·rw[Bool.not_eq_true]at hsd;rw[hsd]at y2;have hbm:qM z b=F_:=by unfold qM;rw[hsd];rfl
    have HBM:=af hbm;clear hbm hsd;go_wp2_with fail;go_ret;exact⟨by show Ending.returned (b_ _)=_;rw[HLF.out,HBM.out],HTm,KE.1,HRm,KE.2.1,Mv.sub KE.2.2 (fun g=>by simp only[aP];omega) (fun c hc=>by simp only[ay]at hc⊢;grind)⟩
  ·obtain⟨m,rfl⟩:∃m',m=m'+1:=⟨m-1,by omega⟩;obtain⟨p,hp⟩:∃p,P[m]?=S_ p:=⟨_,ai (by omega)⟩;obtain⟨g1,eg1,hc1,-⟩:=K1.1.get mm.sat.right.right (by omega);obtain⟨j,hj⟩:=X_ (P.length-(m+1));have hjn:j<P.length:=by omega
   have cj:=hc1 j (by omega);rw[List.getElem?_reverse (by rw[uo];exact hjn),uo,show P.length-1-j=m from by omega,JL P x y m p hp]at cj;subst eg1;have hT:=aeX l P x y b r m p hp;have hst:=acy l P x y b r m p hp;have hdT:uJ (midD l P x y b r (m+1)):=K.2.2.2.1.congr (P7 l P x y b r (m+1));have hXY:=AT m p hp;obtain⟨hlow,he8,heb⟩:=afL l (P.drop (m+1)) (x/2^(m+1)) (y/2^(m+1)) b r Jb;have hbl:(decP l (P.drop (m+1)) (x/2^(m+1)) (y/2^(m+1)) b r).rd.begun≤80020000:=by have:=bZ (show(P.drop (m+1)).length≤20 by simp;omega) (show b.toNat≤1000 by omega);omega
   clear heb;generalize hX:x/2^m=X at*;generalize hY:y/2^m=Y at*;have HX:=dS hX hY;clear hX hY;generalize decP l (P.drop (m+1)) (x/2^(m+1)) (y/2^(m+1)) b r=E at*;have hTs:(midD l P x y b r (m+1)).set m (p.1,p.2.qY X Y (p.2.at_ X Y))=midD l P x y b r (m+1):=by
    rw[bV.aiV _ _ _ (by rw[(K.2.2.2.1.get hp).1];exact nU hXY.1 hXY.2)];obtain⟨h1,h2⟩:=aj.1 hT
    conv=>rhs;rw[←uN h1]
    rw[h2]
   have S0:X4 W (HR++HT) wa tb rb l (midD l P x y b r (m+1)) m p X Y (p.2.at_ X Y) E.rd H1:=⟨HTm,HRm,by rw[hTs];exact tm,bm,mm⟩;simp only at hst;generalize p.2.at_ X Y=z0 at*;generalize midD l P x y b r (m+1)=T at*;have CE:=fun w z r (h:X4 W (HR++HT) w tb rb l T m p X Y z r H1)=>h.cells hdT hT hXY.1 hXY.2;have SE:=fun w z r z' f v (h:X4 W (HR++HT) w tb rb l T m p X Y z r H1)=>h.set hdT hT hXY.1 hXY.2 z' f v;generalize 3*(Y*p.2.w+X)=kk at*;have KS:=af S0;obtain⟨y0,y1,y2,fz⟩:=CE wa z0 _ S0;have CE:=af CE;have SE:=af SE;have HS:=af hst;have KM:=dS hm hj;obtain⟨lo,hlo⟩:=X_ (E.low);obtain⟨re,hre⟩:=X_ (E.rd);rw[hlo]at hlow HS⊢;rw[hre]at HS he8 hbl KS;rw[hj];clear tm bm mm hc1 hT hst hdT hXY hTs S0 hp hlo hj hm hm0 hre;go_upto_region 7 with fail
   all_goals
    obtain⟨lw,hlw⟩:=X_ (max z0.low lo);have S1:=SE wa z0 _ {z0 with low:=max z0.low lo} 1 (i_ l_ (max z0.low lo)) KS (.inr (.inl ⟨rfl,rfl,rfl⟩));have hmx:max z0.low lo=lo∧lo=lw∨max z0.low lo=z0.low∧z0.low=lw:=by omega
    have hw5:∃w5,w5=wa.setCell ⟨p.1,kk+1,N_⟩ (i_ l_ (max z0.low lo)):=⟨_,rfl⟩;obtain⟨w5,hw5⟩:=hw5;rw[←hw5]at S1;have EN:pU l z0 lo b re=decL l (b-lw).toNat {z0 with low:=lw} b re:=by unfold pU;rw[hlw]
    rw[hlw]at S1;have hlb:0≤lw:=by omega
    first
     |(have h5:max z0.low lo=lo:=by omega)
     |(have h5:max z0.low lo=z0.low:=by omega)
    rw[h5]at hw5;simp only[←hw5];have EN:=af EN;have KS1:=af S1;clear y0 y1 y2 fz hw5 S1 h5 hmx hlw cj;go_loopg [31] (b-lw).toNat (fun g _ wx=>∃(z:dY) (r':jG),(b-z.low).toNat=g∧decL l (b-lw).toNat {z0 with low:=lw} b re=decL l g z b r'∧X4 W (HR++HT) wx tb rb l T m p X Y z r' H1∧0≤z.low∧r'.left≤8∧r'.begun+g≤re.begun+(b-lw).toNat)
    case atStart=>exact⟨_,re,rfl,rfl,KS1.out,hlb,he8,aN _⟩
    case round=>
     obtain⟨wd,rfl⟩:∃wd:World,wd=wr:=⟨_,rfl⟩;obtain⟨z,r',rfl,hE,hS,hz0,ajy,amX⟩:=hrel;obtain⟨y0,y1,y2,fz⟩:=CE wd z _ hS;have KZ:=dS hE hS;have f0:=fz kk;have f1:=fz (kk+1);have f2:=fz (kk+2);clear hE hS fz;by_cases hlt:z.low<b
     ·by_cases hsd:z.said=T_
      ·rw[hsd]at y2;have EQ:Hid (pU l z0 lo b re=(z,r')):=af (by rw[EN.out,KZ.1,zM _ _ _ _ _ (fun e=>by rw[hsd]at e;cases e.2)]);have K9:=af KZ.2;clear hsd;go_wp2_with fail;go_roundg m
       case measure=>omega
       case rel=>
        obtain⟨HT9,HR9,q1,q2,q3⟩:=K9.out;obtain⟨s1,s2,s3⟩:=HS.out;rw[EQ.out]at s1 s2 s3;rw[←HX.1,←HX.2]at s1 s2 s3;refine⟨m,HT9,HR9,by have:=KM.1;omega,rfl,?_,?_,by rw[←s1,HX.1,HX.2];exact q1,by rw[s3];exact q2,q3⟩
        ·have:=KM.out;first|(congr 1;omega)|go_num
        ·rw[s2]
      ·rw[Bool.not_eq_true]at hsd;rw[hsd]at y2;by_cases hq:(eY l r').1=1
       ·have EQ:Hid (pU l z0 lo b re=({z with said:=T_,n:=z.low},(eY l r').2)):=af (by rw[EN.out,KZ.1,Qy _ _ _ _ _ ⟨hlt,hsd⟩ hq rfl]);have B6:=af (KZ.2.bit hll (by omega) ajy 1 hq);have S6:Hid (∀w',X4 W (HR++HT) w' tb rb l T m p X Y z (eY l r').2 H1→X4 W (HR++HT) ((w'.setCell ⟨p.1,kk+2,N_⟩ (b_ T_)).setCell ⟨p.1,kk,N_⟩ (i_ l_ z.low)) tb rb l T m p X Y {z with said:=T_,n:=z.low} (eY l r').2 H1):=af (fun w' h=>by have s6:=SE w' z _ {z with said:=T_} 2 (b_ T_) h (.inr (.inr ⟨rfl,rfl,rfl⟩));exact SE _ _ _ {z with said:=T_,n:=z.low} 0 (i_ l_ z.low) s6 (.inl ⟨rfl,rfl,rfl⟩));clear hsd hq;go_wp2_with (go_at_call 88;with_reducible refine B6.out.mono ?_;rintro e w7 ⟨rfl,S7⟩;obtain⟨x0,x1,x2,fz⟩:=CE.out w7 _ _ S7;have f0:=fz kk;have f1:=fz (kk+1);have f2:=fz (kk+2);have K7:=af S7;clear S7 fz);have K9:=af (S6 w7 K7.out);go_roundg m
        case measure=>omega
        case rel=>
         obtain⟨HT9,HR9,q1,q2,q3⟩:=K9.out;obtain⟨s1,s2,s3⟩:=HS.out;rw[EQ.out]at s1 s2 s3;rw[←HX.1,←HX.2]at s1 s2 s3;refine⟨m,HT9,HR9,by have:=KM.1;omega,rfl,?_,?_,by rw[←s1,HX.1,HX.2];exact q1,by rw[s3];exact q2,q3⟩
         ·have:=KM.out;first|(congr 1;omega)|go_num
         ·rw[s2]
       ·obtain⟨hf,EZ⟩:=Nh l _ z b r' ⟨hlt,hsd⟩ hq rfl;have EQ:=af EZ;have hr2:=jD l r' ajy;have hq0:(eY l r').1=0:=by omega
        have B6:=af (KZ.2.bit hll (by omega) ajy 0 hq0);have S6:Hid (∀w',X4 W (HR++HT) w' tb rb l T m p X Y z (eY l r').2 H1→X4 W (HR++HT) ((w'.setCell ⟨p.1,kk+2,N_⟩ (b_ F_)).setCell ⟨p.1,kk+1,N_⟩ (i_ l_ (z.low+1))) tb rb l T m p X Y {z with said:=F_,low:=z.low+1} (eY l r').2 H1):=af (fun w' h=>by have s6:=SE w' z _ {z with said:=F_} 2 (b_ F_) h (.inr (.inr ⟨rfl,rfl,rfl⟩));exact SE _ _ _ {z with said:=F_,low:=z.low+1} 1 (i_ l_ (z.low+1)) s6 (.inr (.inl ⟨rfl,rfl,rfl⟩)));have hr3:=hr2.2;generalize hr4:(eY l r').2=r4 at*;clear EZ hsd hq hq0 hr2 hr4;go_wp2_with (go_at_call 88;with_reducible refine B6.out.mono ?_;rintro e w7 ⟨rfl,S7⟩;obtain⟨x0,x1,x2,fz⟩:=CE.out w7 _ _ S7;have f0:=fz kk;have f1:=fz (kk+1);have f2:=fz (kk+2);have K7:=af S7;clear S7 fz);have K8:=af (S6 w7 K7.out);go_roundg (b-(z.low+1)).toNat
        case measure=>omega
        case rel=>refine⟨_,r4,rfl,?_,K8.out,by first|omega|(simp only;omega),hr3.1,by have:=hr3.2;first|omega|(simp only;omega)⟩;rw[KZ.1,EQ.out]
     ·have EQ:Hid (pU l z0 lo b re=(z,r')):=af (by rw[EN.out,KZ.1,zM _ _ _ _ _ (fun e=>hlt e.1)]);have K9:=af KZ.2;go_wp2_with fail;go_roundg m
      case measure=>omega
      case rel=>
       obtain⟨HT9,HR9,q1,q2,q3⟩:=K9.out;obtain⟨s1,s2,s3⟩:=HS.out;rw[EQ.out]at s1 s2 s3;rw[←HX.1,←HX.2]at s1 s2 s3;refine⟨m,HT9,HR9,by have:=KM.1;omega,rfl,?_,?_,by rw[←s1,HX.1,HX.2];exact q1,by rw[s3];exact q2,q3⟩
       ·have:=KM.out;first|(congr 1;omega)|go_num
       ·rw[s2]
def decT(l:List UInt8):List bV→Nat→Nat→Int→jG→List bV×Int×jG
 | [],_,_,_,r=>([],0,r)
 |L::R,x,y,b,r=>
  let q:=decT l R (x/2) (y/2) b r;let e:=pU l (L.at_ x y) q.2.1 b q.2.2
  (L.qY x y e.1::q.1,e.1.low,e.2)
theorem afK(l:List UInt8)(P:List oq)(x y:Nat)(b:Int)(r:jG):decT l (P.map (·.2)) x y b r=((decP l P x y b r).t.map (·.2),(decP l P x y b r).low,(decP l P x y b r).rd):=by
 induction P generalizing x y with
 |nil=>rfl
 |cons p R ih=>simp only[bJ,decT,decP,ih]
def leafT(T:List bV)(x y:Nat):dY:=match T with
 | []=>⟨0,0,F_⟩
 |L::_=>L.at_ x y
theorem acE(P:List oq)(x y:Nat):leafT (P.map (·.2)) x y=aam P x y:=by cases P<;>rfl
def iR(l:List UInt8)(T:List bV)(k:Nat)(b:Int)(r:jG):List bV×Bool×jG:=
 match T with
 | []=>([],F_,r)
 |L::R=>((decT l (L::R) (k%L.w) (k/L.w) b r).1,qM (leafT (decT l (L::R) (k%L.w) (k/L.w) b r).1 (k%L.w) (k/L.w)) b,(decT l (L::R) (k%L.w) (k/L.w) b r).2.2)
theorem TT(l:List UInt8)(P:List oq)(k:Nat)(b:Int)(r:jG)(p0:oq)(h:P[0]?=S_ p0):iR l (P.map (·.2)) k b r=((decP l P (k%p0.2.w) (k/p0.2.w) b r).t.map (·.2),qM (aam (decP l P (k%p0.2.w) (k/p0.2.w) b r).t (k%p0.2.w) (k/p0.2.w)) b,(decP l P (k%p0.2.w) (k/p0.2.w) b r).rd):=by
 cases P with
 |nil=>simp at h
 |cons p R=>simp only[List.getElem?_cons_zero,dG]at h;subst h;show((decT l ((p::R).map (·.2)) (k%p.2.w) (k/p.2.w) b r).1,qM (leafT (decT l ((p::R).map (·.2)) (k%p.2.w) (k/p.2.w) b r).1 (k%p.2.w) (k/p.2.w)) b,(decT l ((p::R).map (·.2)) (k%p.2.w) (k/p.2.w) b r).2.2)=_;rw[afK,acE]
theorem Ky(l:List UInt8)(T:List bV)(x y:Nat)(b:Int)(r:jG)(h:r.left≤8):(decT l T x y b r).1.length=T.length∧0≤(decT l T x y b r).2.1∧(decT l T x y b r).2.2.left≤8∧(decT l T x y b r).2.2.begun≤r.begun+T.length*b.toNat:=by
 induction T generalizing x y with
 |nil=>exact⟨rfl,gG _,h,by simp[decT]⟩
 |cons q R ih=>
  obtain⟨h0,h1,h2,h3⟩:=ih (x/2) (y/2);obtain⟨k1,k2,k3⟩:=Qz l (b-max (q.at_ x y).low (decT l R (x/2) (y/2) b r).2.1).toNat {q.at_ x y with low:=max (q.at_ x y).low (decT l R (x/2) (y/2) b r).2.1} b (decT l R (x/2) (y/2) b r).2.2 h2;simp only[decT,pU];refine⟨by simp[h0],?_,k1,?_⟩
  ·simp only at k3;omega
  ·rw[List.length_cons,jW,←kK];exact fD k2 (Nat.add_le_add h3 (by omega))
theorem IG(l:List UInt8)(T:List bV)(k:Nat)(b:Int)(r:jG)(h:r.left≤8)(hT:T.length≤20)(_hb:b≤1000):(iR l T k b r).1.length=T.length∧(iR l T k b r).2.2.left≤8∧(iR l T k b r).2.2.begun≤r.begun+20*b.toNat:=by
 cases T with
 |nil=>exact⟨rfl,h,by simp[iR]⟩
 |cons L R=>obtain⟨h0,h1,h2,h3⟩:=Ky l (L::R) (k%L.w) (k/L.w) b r h;exact⟨h0,h2,fD h3 (Nat.add_le_add_left (dK _ hT) _)⟩
section
variable{d:bu}{b:di}{w0 w:World}{H0 X HR:List HB}{rb:Nat}{l:List UInt8}{r:jG}
theorem adt(ok:b.ok d)(hw:jA rb l r HR)(m:Mv w0 H0 w (HR++(X++b.heap d)))(k:Nat)(hk:k<d.n)(bd:Int)(hb:bd≤1000)(hll:l.length≤90000000)(hrb:r.begun≤80000000)(Jb:r.left≤8):Calls P_ 112 #[p_ (S_ ⟨b.ft,0,N_⟩),p_ (S_ ⟨rb,0,N_⟩),i_ l_ k,i_ l_ bd] w fun e w2=>e=r_ (b_ (iR l b.model.first k bd r).2.1)∧ ∃(b':di) (HR':List HB),b'.ok d∧b'.model={b.model with first:=(iR l b.model.first k bd r).1}∧b'.G=b.G∧jA rb l (iR l b.model.first k bd r).2.2 HR'∧Mv w0 H0 w2 (HR'++(X++b'.heap d)):=by
 have hkw:k<b.w*b.h:=by rw[←ok.n];exact hk
 obtain⟨p0,h0,hw1,hh⟩:=ok.kf.2.2 (by omega);have m1:Mv w0 H0 w ((HR++b.Hf)++(X++jU b d::jY b d::(b.Hz++b.G.flatMap gu.heap))):=m.sub (fun g=>by simp only[di.heap,aP,bK];omega) (fun c hc=>by simp only[di.heap,ay,aC]at hc⊢;grind);have em:=TT l b.Pf k bd r p0 h0;rw[show b.model.first=b.Pf.map (·.2)from rfl,em];refine(Xz b.ft rb l b.Pf r k bd p0 w b.Hf HR ok.tf hw m1.sat.left ok.kf.1 ok.kf.2.1 h0 (by rw[hw1,hh];exact hkw) hb hll hrb Jb).mono ?_;rintro e w2 ⟨rfl,H',HR',hT,hR,hM⟩;have sh:=Fv l b.Pf (k%p0.2.w) (k/p0.2.w) bd r;refine⟨rfl,{b with Pf:=(decP l b.Pf (k%p0.2.w) (k/p0.2.w) bd r).t,Hf:=H'},HR',⟨hT,ok.tz,ok.kf.congr sh.1,ok.kz,ok.st,ok.len,ok.n,ok.pl,ok.hw,ok.hh⟩,rfl,rfl,hR,?_⟩;exact(Mv.call m1 hM).sub (fun g=>by simp only[di.heap,aP,bK,jU,jY];omega) (fun c hc=>by simp only[di.heap,ay,aC,jU,jY]at hc⊢;grind)
theorem ads(ok:b.ok d)(hw:jA rb l r HR)(m:Mv w0 H0 w (HR++(X++b.heap d)))(k:Nat)(hk:k<d.n)(bd:Int)(hb:bd≤1000)(hll:l.length≤90000000)(hrb:r.begun≤80000000)(Jb:r.left≤8):Calls P_ 112 #[p_ (S_ ⟨b.zt,0,N_⟩),p_ (S_ ⟨rb,0,N_⟩),i_ l_ k,i_ l_ bd] w fun e w2=>e=r_ (b_ (iR l b.model.dA k bd r).2.1)∧ ∃(b':di) (HR':List HB),b'.ok d∧b'.model={b.model with dA:=(iR l b.model.dA k bd r).1}∧b'.G=b.G∧jA rb l (iR l b.model.dA k bd r).2.2 HR'∧Mv w0 H0 w2 (HR'++(X++b'.heap d)):=by
 have hkw:k<b.w*b.h:=by rw[←ok.n];exact hk
 obtain⟨p0,h0,hw1,hh⟩:=ok.kz.2.2 (by omega);have m1:Mv w0 H0 w ((HR++b.Hz)++(X++jU b d::jY b d::(b.Hf++b.G.flatMap gu.heap))):=m.sub (fun g=>by simp only[di.heap,aP,bK];omega) (fun c hc=>by simp only[di.heap,ay,aC]at hc⊢;grind);have em:=TT l b.Pz k bd r p0 h0;rw[show b.model.dA=b.Pz.map (·.2)from rfl,em];refine(Xz b.zt rb l b.Pz r k bd p0 w b.Hz HR ok.tz hw m1.sat.left ok.kz.1 ok.kz.2.1 h0 (by rw[hw1,hh];exact hkw) hb hll hrb Jb).mono ?_;rintro e w2 ⟨rfl,H',HR',hT,hR,hM⟩;have sh:=Fv l b.Pz (k%p0.2.w) (k/p0.2.w) bd r;refine⟨rfl,{b with Pz:=(decP l b.Pz (k%p0.2.w) (k/p0.2.w) bd r).t,Hz:=H'},HR',⟨ok.tf,hT,ok.kf,ok.kz.congr sh.1,ok.st,ok.len,ok.n,ok.pl,ok.hw,ok.hh⟩,rfl,rfl,hR,?_⟩;exact(Mv.call m1 hM).sub (fun g=>by simp only[di.heap,aP,bK,jU,jY];omega) (fun c hc=>by simp only[di.heap,ay,aC,jU,jY]at hc⊢;grind)
end
theorem Mv.still{w w1:World}{H R:List HB}(hs:Sat w H)(m:Mv w H w1 (R++H)):Mv w [] w1 R:=by
 refine⟨m.sat.left,⟨m.only.os,m.only.tape,m.only.output,m.only.size,fun k hk _=>?_⟩,fun g hg=>?_⟩
 ·by_cases hk2:k∈keys H
  ·obtain⟨b,hb,rfl⟩:=bW.1 hk2;exact(m.sat.right.2 b hb).trans (hs.2 b hb).symm
  ·exact m.only.block k hk hk2
 ·rcases m.new g (by rw[mM];exact cu _ hg)with h1|h1
  ·exact(m.sat.apart hg h1).elim
  ·exact .inr h1
def Ap(z:dY):Int:=if z.said then z.n else-1
def xU(T:List bV)(k:Nat):Int:=match T with
 | []=> -1
 |L::R=>Ap (leafT (L::R) (k%L.w) (k/L.w))
theorem Z5(tb:Nat)(P:List oq)(k:Nat)(p0:oq)(W:World)(HT:List HB)(h:tH tb P HT)(hs:Sat W HT)(hl:P.length≤20)(hd:uJ P)(h0:P[0]?=S_ p0)(hk:k<p0.2.w*p0.2.h):Calls P_ 129 #[p_ (S_ ⟨tb,0,N_⟩),i_ l_ k] W fun e W'=>e=r_ (i_ l_ (Ap (p0.2.at_ (k%p0.2.w) (k/p0.2.w))))∧Mv W [] W' []:=by
 have WO:=af (Yb tb P k p0 W HT h hs hl hd h0 hk);have hn:0<P.length:=(aj.1 h0).1;have q:=hd.get h0;have hx:k%p0.2.w<p0.2.w:=kP _ (by omega);have hy:k/p0.2.w<p0.2.h:=oz hk;generalize k%p0.2.w=x at*;generalize k/p0.2.w=y at*;have CE:Hid (∀v1 H1 w1,dh 194 1 v1 P.length (Vw P x y).reverse H1→Mv W HT w1 (H1++HT)→∃g c,v1=s_ (S_ ⟨g,0,N_⟩) P.length c∧w1.cell? ⟨g,P.length-1,N_⟩=S_ (p_ (S_ ⟨p0.1,3*(y*p0.2.w+x),N_⟩))∧w1.cell? ⟨p0.1,3*(y*p0.2.w+x),N_⟩=S_ (i_ l_ (p0.2.at_ x y).n)∧w1.cell? ⟨p0.1,3*(y*p0.2.w+x)+2,N_⟩=S_ (b_ (p0.2.at_ x y).said)∧Mv W [] w1 []):=af (by intro v1 H1 w1 r1 m1;obtain⟨a1,c1,rfl⟩:=r1.slice;obtain⟨g1,eg1,hc1,-⟩:=r1.get m1.sat.left hn;have cj:=hc1 (P.length-1) (by omega);rw[List.getElem?_reverse (by rw[uo];omega),uo,show P.length-1-(P.length-1)=0 from by omega,JL P x y 0 p0 h0]at cj;simp only[Nat.pow_zero,Nat.div_one]at cj;obtain⟨y0,y1,y2,-⟩:=Bg (R:=H1) h m1 hd h0 hx hy;subst eg1;exact⟨g1,c1,rfl,cj,y0,y2,Mv.drop (A:=H1) (H:=[]) (by rw[dD];exact Mv.still hs m1)⟩);generalize p0.2.at_ x y=z at*;generalize P.length=np at*;have hn0:(0:Int)<np:=by omega
 have hP0:¬(np:Int)=0:=by omega
 clear h hs hd h0 hk q hx hy;go_enter Tryz.func129,Tryz.ntmps129;by_cases hsd:z.said=T_
 ·have ek:Ap z=z.n:=by unfold Ap;rw[aK hsd]
  rw[ek];rw[hsd]at CE;clear hsd ek;go_wp2_with (go_at_call 106;refine WO.out.mono ?_;rintro e w1 ⟨v1,H1,rfl,r1,m1⟩;obtain⟨g1,c1,rfl,z1,z2,z3,m2⟩:=CE.out v1 H1 w1 r1 m1;have K1:=af m2;clear r1 m1 m2);go_ret;exact⟨rfl,K1.out⟩
 ·have ek:Ap z= -1:=by unfold Ap;rw[aJ hsd]
  rw[Bool.not_eq_true]at hsd;rw[ek];rw[hsd]at CE;clear hsd ek;go_wp2_with (go_at_call 106;refine WO.out.mono ?_;rintro e w1 ⟨v1,H1,rfl,r1,m1⟩;obtain⟨g1,c1,rfl,z1,z2,z3,m2⟩:=CE.out v1 H1 w1 r1 m1;have K1:=af m2;clear r1 m1 m2);go_ret;exact⟨rfl,K1.out⟩
theorem k!{d:bu}{b:di}{w:World}(ok:b.ok d)(hs:Sat w (b.heap d))(k:Nat)(hk:k<d.n):Calls P_ 129 #[p_ (S_ ⟨b.zt,0,N_⟩),i_ l_ k] w fun e w2=>e=r_ (i_ l_ (xU b.model.dA k))∧Mv w [] w2 []:=by
 have hkw:k<b.w*b.h:=by rw[←ok.n];exact hk
 obtain⟨p0,h0,hw1,hh⟩:=ok.kz.2.2 (by omega);have s1:Sat w b.Hz:=hs.sub (fun g=>by simp only[di.heap,aP,bK];omega) (fun c hc=>by simp only[di.heap,ay,aC]at hc⊢;grind);have e:xU b.model.dA k=Ap (p0.2.at_ (k%p0.2.w) (k/p0.2.w)):=by
  show xU (b.Pz.map (·.2)) k=_;obtain⟨P,hP⟩:=X_ (b.Pz);rw[hP]at h0⊢;cases P with
  |nil=>simp at h0
  |cons p R=>simp at h0;subst h0;rfl
 rw[e];exact Z5 b.zt b.Pz k p0 w b.Hz ok.tz s1 ok.kz.1 ok.kz.2.1 h0 (by rw[hw1,hh];exact hkw)
def pM(l:List UInt8)(r:jG):Nat×jG:=
 let a:=eY l r
 if a.1=0 then(1,a.2)else
 let b:=eY l a.2
 if b.1=0 then(2,b.2)else
 let c:=yO l 2 b.2
 if c.1<3 then(3+c.1,c.2)else
 let d:=yO l 5 c.2
 if d.1<31 then(6+d.1,d.2)else
 (37+(yO l 7 d.2).1,(yO l 7 d.2).2)
theorem Io(l:List UInt8)(r:jG)(h:r.left≤8):1≤(pM l r).1∧(pM l r).1≤164∧(pM l r).2.left≤8∧(pM l r).2.begun≤r.begun+16:=by
 obtain⟨a1,a2,a3⟩:=jD l r h;obtain⟨b1,b2,b3⟩:=jD l _ a2;obtain⟨c1,c2,c3⟩:=wM l _ b2 2;obtain⟨d1,d2,d3⟩:=wM l _ c2 5;obtain⟨e1,e2,e3⟩:=wM l _ d2 7;have g2:∀s,yO l 2 s=rdB l 2 s:=fun s=>by unfold yO;rw[aK (by omega)];rfl
 have g5:∀s,yO l 5 s=rdB l 5 s:=fun s=>by unfold yO;rw[aK (by omega)];rfl
 have g7:∀s,yO l 7 s=rdB l 7 s:=fun s=>by unfold yO;rw[aK (by omega)];rfl
 unfold pM;simp only[g2,g5,g7];split
 ·exact⟨by simp,by simp,a2,by simp only;omega⟩
 ·split
  ·exact⟨by simp,by simp,b2,by simp only;omega⟩
  ·split
   ·exact⟨by simp only;omega,by simp only;omega,c2,by simp only;omega⟩
   ·split
    ·exact⟨by simp only;omega,by simp only;omega,d2,by simp only;omega⟩
    ·exact⟨by simp only;omega,by simp only;omega,e2,by simp only;omega⟩
theorem adP(rb:Nat)(l:List UInt8)(r:jG)(w:World)(H:List HB)(h:jA rb l r H)(hs:Sat w H)(hl:l.length≤90000000)(hb:r.begun≤70000000)(h8:r.left≤8):Calls P_ 114 #[p_ (S_ ⟨rb,0,N_⟩)] w fun e w'=>e=r_ (i_ l_ ((pM l r).1:Int))∧∃H',jA rb l (pM l r).2 H'∧Mv w H w' H':=by
 have BT:Hid (∀W H' r' q,jA rb l r' H'→Mv w H W H'→r'.begun≤80000000→r'.left≤8→(eY l r').1=q→Calls P_ 88 #[p_ (S_ ⟨rb,0,N_⟩)] W fun e w'=>e=r_ (i_ l_ q)∧∃Vk,jA rb l (eY l r').2 Vk∧Mv w H w' Vk):=af (by intro W H' r' q h1 m1 h2 h3 h4;refine(JF rb l r' W H' h1 m1.sat hl (by omega) h3).mono ?_;rintro e w' ⟨rfl,Vk,k1,k2⟩;exact⟨by rw[h4],Vk,k1,m1.trans k2⟩);have GT:Hid (∀W H' r' sz q,jA rb l r' H'→Mv w H W H'→r'.begun≤80000000→r'.left≤8→(yO l sz r').1=q→Calls P_ 115 #[p_ (S_ ⟨rb,0,N_⟩),i_ l_ sz] W fun e w'=>e=r_ (i_ l_ q)∧∃Vk,jA rb l (yO l sz r').2 Vk∧Mv w H w' Vk):=af (by intro W H' r' sz q h1 m1 h2 h3 h4;refine(aay rb l r' sz W H' h1 m1.sat hl (by omega) h3).mono ?_;rintro e w' ⟨rfl,Vk,k1,k2⟩;exact⟨by rw[h4],Vk,k1,m1.trans k2⟩);obtain⟨a1,a2,a3⟩:=jD l r h8;obtain⟨r1,hr1⟩:=X_ ((eY l r).2);rw[hr1]at a2 a3;obtain⟨b1,b2,b3⟩:=jD l r1 a2;obtain⟨r2,hr2⟩:=X_ ((eY l r1).2);rw[hr2]at b2 b3;obtain⟨c1,c2,c3⟩:=wM l r2 b2 2;rw[←show yO l 2 r2=rdB l 2 r2 by unfold yO;rw[aK (by omega)];rfl]at c1 c2 c3;obtain⟨r3,hr3⟩:=X_ ((yO l 2 r2).2);rw[hr3]at c2 c3;obtain⟨d1,d2,d3⟩:=wM l r3 c2 5;rw[←show yO l 5 r3=rdB l 5 r3 by unfold yO;rw[aK (by omega)];rfl]at d1 d2 d3;obtain⟨r4,hr4⟩:=X_ ((yO l 5 r3).2);rw[hr4]at d2 d3;obtain⟨e1,e2,e3⟩:=wM l r4 d2 7;rw[←show yO l 7 r4=rdB l 7 r4 by unfold yO;rw[aK (by omega)];rfl]at e1 e2 e3;obtain⟨qa,hqa⟩:∃q,(eY l r).1=q:=⟨_,rfl⟩;obtain⟨qb,NH⟩:∃q,(eY l r1).1=q:=⟨_,rfl⟩;obtain⟨qc,hqc⟩:∃q,(yO l 2 r2).1=q:=⟨_,rfl⟩;obtain⟨qd,hqd⟩:∃q,(yO l 5 r3).1=q:=⟨_,rfl⟩;obtain⟨qe,hqe⟩:∃q,(yO l 7 r4).1=q:=⟨_,rfl⟩;have K0:=dS h (Mv.refl hs);unfold pM;simp only[hr1,hr2,hr3,hr4,hqa,NH,hqc,hqd,hqe];rw[hqa]at a1;rw[NH]at b1;rw[hqc]at c1;rw[hqd]at d1;rw[hqe]at e1;clear h hs;have CA:=af (BT w H r qa K0.1 K0.2 (by omega) h8 hqa);have CB:=af (fun W H' (h1:jA rb l r1 H') m1=>BT W H' r1 qb h1 m1 (by omega) a2 NH);have CC:=af (fun W H' (h1:jA rb l r2 H') m1=>GT W H' r2 2 qc h1 m1 (by omega) b2 hqc);have CD:=af (fun W H' (h1:jA rb l r3 H') m1=>GT W H' r3 5 qd h1 m1 (by omega) c2 hqd);have CE:=af (fun W H' (h1:jA rb l r4 H') m1=>GT W H' r4 7 qe h1 m1 (by omega) d2 hqe);rw[hr1]at CA;rw[hr2]at CB;rw[hr3]at CC;rw[hr4]at CD;clear hr1 hr2 hr3 hr4 hqa NH hqc hqd hqe a2 a3 b2 b3 c2 c3 d2 d3 e2 e3 BT GT K0;by_cases ha:qa=0
 ·subst ha;go_enter Tryz.func114,Tryz.ntmps114;go_wp2_with (go_at_call 88;(with_reducible refine CA.out.mono ?_);rintro e w1 ⟨rfl,H1,q1,m1⟩;have K1:=dS q1 m1;clear q1 m1);go_ret;exact⟨rfl,H1,K1.1,K1.2⟩
 ·obtain rfl:qa=1:=by omega
  rw[aJ (by decide)];by_cases hb:qb=0
  ·subst hb;go_enter Tryz.func114,Tryz.ntmps114;go_upto_region 3 with(go_at_call 88;(with_reducible refine CA.out.mono ?_);rintro e w1 ⟨rfl,H1,q1,m1⟩;have K1:=dS q1 m1;clear q1 m1);go_wp2_with (go_at_call 88;(with_reducible refine(CB.out _ _ K1.out.1 K1.out.2).mono ?_);rintro e w2 ⟨rfl,H2,q1,m1⟩;have K2:=dS q1 m1;clear q1 m1);go_ret;exact⟨rfl,H2,K2.1,K2.2⟩
  ·obtain rfl:qb=1:=by omega
   rw[aJ (by decide)];by_cases hc:qc<3
   ·rw[aK hc];have hc':(qc:Int)<3:=by omega
    go_enter Tryz.func114,Tryz.ntmps114;go_upto_region 3 with(go_at_call 88;(with_reducible refine CA.out.mono ?_);rintro e w1 ⟨rfl,H1,q1,m1⟩;have K1:=dS q1 m1;clear q1 m1);go_upto_region 5 with(go_at_call 88;(with_reducible refine(CB.out _ _ K1.out.1 K1.out.2).mono ?_);rintro e w2 ⟨rfl,H2,q1,m1⟩;have K2:=dS q1 m1;clear q1 m1);go_wp2_with (go_at_call 115;(with_reducible refine(CC.out _ _ K2.out.1 K2.out.2).mono ?_);rintro e w3 ⟨rfl,H3,q1,m1⟩;have K3:=dS q1 m1;clear q1 m1);go_ret;exact⟨by push_cast;rfl,H3,K3.1,K3.2⟩
   ·rw[aJ hc];have hc':¬(qc:Int)<3:=by omega
    by_cases hd:qd<31
    ·rw[aK hd];have hd':(qd:Int)<31:=by omega
     go_enter Tryz.func114,Tryz.ntmps114;go_upto_region 3 with(go_at_call 88;(with_reducible refine CA.out.mono ?_);rintro e w1 ⟨rfl,H1,q1,m1⟩;have K1:=dS q1 m1;clear q1 m1);go_upto_region 5 with(go_at_call 88;(with_reducible refine(CB.out _ _ K1.out.1 K1.out.2).mono ?_);rintro e w2 ⟨rfl,H2,q1,m1⟩;have K2:=dS q1 m1;clear q1 m1);go_upto_region 8 with(go_at_call 115;(with_reducible refine(CC.out _ _ K2.out.1 K2.out.2).mono ?_);rintro e w3 ⟨rfl,H3,q1,m1⟩;have K3:=dS q1 m1;clear q1 m1);go_wp2_with (go_at_call 115;(with_reducible refine(CD.out _ _ K3.out.1 K3.out.2).mono ?_);rintro e w4 ⟨rfl,H4,q1,m1⟩;have K4:=dS q1 m1;clear q1 m1);go_ret;exact⟨by push_cast;rfl,H4,K4.1,K4.2⟩
    ·rw[aJ hd];have hd':¬(qd:Int)<31:=by omega
     go_enter Tryz.func114,Tryz.ntmps114;go_upto_region 3 with(go_at_call 88;(with_reducible refine CA.out.mono ?_);rintro e w1 ⟨rfl,H1,q1,m1⟩;have K1:=dS q1 m1;clear q1 m1);go_upto_region 5 with(go_at_call 88;(with_reducible refine(CB.out _ _ K1.out.1 K1.out.2).mono ?_);rintro e w2 ⟨rfl,H2,q1,m1⟩;have K2:=dS q1 m1;clear q1 m1);go_upto_region 8 with(go_at_call 115;(with_reducible refine(CC.out _ _ K2.out.1 K2.out.2).mono ?_);rintro e w3 ⟨rfl,H3,q1,m1⟩;have K3:=dS q1 m1;clear q1 m1);go_upto_region 11 with(go_at_call 115;(with_reducible refine(CD.out _ _ K3.out.1 K3.out.2).mono ?_);rintro e w4 ⟨rfl,H4,q1,m1⟩;have K4:=dS q1 m1;clear q1 m1);go_wp2_with (go_at_call 115;(with_reducible refine(CE.out _ _ K4.out.1 K4.out.2).mono ?_);rintro e w5 ⟨rfl,H5,q1,m1⟩;have K5:=dS q1 m1;clear q1 m1);go_ret;exact⟨by push_cast;rfl,H5,K5.1,K5.2⟩
def zN(g n:Nat):HB:=⟨g,3,(List.replicate n (Value.int l_ 0)).toArray⟩
def zL(g n:Nat):HB:=⟨g,4,(List.replicate n (Value.bool F_)).toArray⟩
def XF(G:GeoM)(gm gn gs ge ga:Nat):List Value:= [i_ l_ G.w,i_ l_ G.h,i_ l_ G.band,i_ l_ G.ah,Ci gm (G.w*G.h),Ci gn (G.w*G.h),Ci gs (G.w*G.h),Ci ge (G.w*G.h),Ci ga (G.w*G.h)]++(Di jL++[b_ F_,b_ F_,.pointer N_,.pointer N_,.pointer N_,.pointer N_])
section
variable(K:Act→World→Prop)(G:GeoM)(w:World){s4 s5 s6 s7 s8 s10 s11 s12 s13 s14 s15 s16 l9 kH kS s20 lF lC s23 s24 kZ s26 kW kR kY:Value}
inductive QQ(bQ:Array Bool)(a:Act)(W:World):Prop|mk {b0 b1 b2 b3 b4 b5 b6 b7 b8 b9 b10 b11 b12 b13 b14 b15 b16 b17:Bool} {u13 u14 u15 u16 M! L! K! u20 u21 u22 u23 u24 u25 u26 u27 u28 u29 u8:Value} {g5:Nat} {g7:Nat} {g9:Nat} {g11:Nat} {g13:Nat} {g16:Nat} {Vl:Array Value} (hl:bQ=#[b0,b1,b2,b3,b4,b5,b6,b7,b8,b9,b10,b11,b12,b13,b14,b15,b16,b17]) (ha:a=⟨#[(.int .i64 G.w),(.int .i64 G.h),(.int .i64 G.band),(.int .i64 G.ah),s4,s5,s6,s7,u8,(.int .i64 ((G.w:Int)*G.h)),s10,s11,s12,u13,u14,u15,u16,M!,L!,K!,u20,u21,u22,u23,u24,u25,u26,u27,u28,u29],[]⟩) (HW:Mv w [] W (oh b5 (zN g5 (G.w*G.h))++(oh b7 (zN g7 (G.w*G.h))++(oh b9 (zL g9 (G.w*G.h))++(oh b11 (zL g11 (G.w*G.h))++(oh b13 (zL g13 (G.w*G.h))++oh b16 ⟨g16,133,Vl⟩)))))) (hF:(b0=true→u13=.int .i64 G.w)∧(b1=true→u14=.int .i64 G.h)∧(b2=true→u15=.int .i64 G.band)∧(b3=true→u16=.int .i64 G.ah)∧(b4=true→M!=.int .i64 ((G.w:Int)*G.h))∧(b5=true→L!=Ci g5 (G.w*G.h))∧(b6=true→K!=.int .i64 ((G.w:Int)*G.h))∧(b7=true→u20=Ci g7 (G.w*G.h))∧(b8=true→u21=.int .i64 ((G.w:Int)*G.h))∧(b9=true→u22=Ci g9 (G.w*G.h))∧(b10=true→u23=.int .i64 ((G.w:Int)*G.h))∧(b11=true→u24=Ci g11 (G.w*G.h))∧(b12=true→u25=.int .i64 ((G.w:Int)*G.h))∧(b13=true→u26=Ci g13 (G.w*G.h))∧(b14=true→u27=.agg (Di jL).toArray)∧(b15=true→u28=.agg (XF G g5 g7 g9 g11 g13).toArray)∧(b15=true→(b5=true∧b7=true∧b9=true∧b11=true∧b13=true))∧(b16=true→u29=.pointer (some ⟨g16,0,none⟩))∧(b16=true→Vl=(XF G g5 g7 g9 g11 g13).toArray∧b15=true)∧(b17=true→u8=.pointer (some ⟨g16,0,none⟩))∧(b17=true→b16=true):=by and_intros<;>first|assumption|exact fun _=>rfl|(simp only[bM,bI,aI]<;>assumption)):QQ bQ a W
theorem afZ(hn:G.w*G.h≤4096)
 (hk:∀(u13 u14 u15 u16 M! L! K! u20 u21 u22 u23 u24 u25 u26 u27 u28 u29 u8:Value) (g5:Nat) (g7:Nat) (g9:Nat) (g11:Nat) (g13:Nat) (g16:Nat) (Vl:Array Value) (W:World),Mv w [] W (oh T_ (zN g5 (G.w*G.h))++(oh T_ (zN g7 (G.w*G.h))++(oh T_ (zL g9 (G.w*G.h))++(oh T_ (zL g11 (G.w*G.h))++(oh T_ (zL g13 (G.w*G.h))++oh T_ ⟨g16,133,Vl⟩)))))→(u29=p_ (S_ ⟨g16,0,N_⟩)∧Vl=(XF G g5 g7 g9 g11 g13).toArray∧T_=T_)→(u8=p_ (S_ ⟨g16,0,N_⟩)∧T_=T_)→K ⟨#[(i_ l_ G.w),(i_ l_ G.h),(i_ l_ G.band),(i_ l_ G.ah),s4,s5,s6,s7,u8,(i_ l_ ((G.w:Int)*G.h)),s10,s11,s12,u13,u14,u15,u16,M!,L!,K!,u20,u21,u22,u23,u24,u25,u26,u27,u28,u29],[]⟩ W):
 (dQ 2 Tryz.f53).wp P_ (Exit.then K qX) ⟨#[(i_ l_ G.w),(i_ l_ G.h),(i_ l_ G.band),(i_ l_ G.ah),s4,s5,s6,s7,s8,(i_ l_ ((G.w:Int)*G.h)),s10,s11,s12,s13,s14,s15,s16,l9,kH,kS,s20,lF,lC,s23,s24,kZ,s26,kW,kR,kY],[]⟩ w:=by
 conv in(dQ _ _)=>whnf
 unfold qX;have HK:=af hk;clear hk;refine jS (by kernel_rfl) [[],[],[],[],[],[4,4],[],[6,6],[],[8,8],[],[10,10],[],[12,12],[],[0,1,2,3,5,7,9,11,13,14],[15],[16,14,0,1,2,3,4,5,6,7,8,9,10,11,12,13,14,15,16]] [0,1,2,3,4,5,6,7,8,9,10,11,12,13,14,15,16,17] (by kernel_rfl) (by kernel_rfl) (@QQ G w s4 s5 s6 s7 s10 s11 s12) ?_ ?_ ?_
 ·refine .mk (g5:=0) (g7:=0) (g9:=0) (g11:=0) (g13:=0) (g16:=0) (Vl:=#[]) rfl rfl (by simpa[jl]using(Mv.refl (Sat.nil w)).drew) ⟨nofun,nofun,nofun,nofun,nofun,nofun,nofun,nofun,nofun,nofun,nofun,nofun,nofun,nofun,nofun,nofun,nofun,nofun,nofun,nofun,nofun⟩
 ·rintro _ _ W ⟨rfl,rfl,HW,-,-,-,-,-,-,-,-,-,-,-,-,-,-,-,-,-,h16,k16,h17,k17⟩ hb;simp only[List.all_cons,List.all_nil,dO,kJ]at hb;obtain⟨rfl,rfl,rfl,rfl,rfl,rfl,rfl,rfl,rfl,rfl,rfl,rfl,rfl,rfl,rfl,rfl,rfl,rfl⟩:=hb;exact HK _ _ _ _ _ _ _ _ _ _ _ _ _ _ _ _ _ _ _ _ _ _ _ _ _ W HW ⟨h16 rfl,k16 rfl⟩ ⟨h17 rfl,k17 rfl⟩
 ·rintro _ _ W i @⟨_,_,_,_,_,_,_,_,_,_,_,_,_,_,_,_,_,_,_,_,_,_,_,_,_,_,_,_,_,_,_,_,_,_,_,_,g5,g7,g9,g11,g13,g16,Vl,rfl,rfl,HW,h0,h1,h2,h3,h4,h5,h6,h7,h8,h9,h10,h11,h12,h13,JH,h15,k15,h16,k16,h17,k17⟩ hi hi2 zp;have hi4:i=5∨i=7∨i=9∨i=11∨i=13∨i=14∨i=15∨i=16∨i=0∨i=1∨i=2∨i=3∨i=4∨i=6∨i=8∨i=10∨i=12∨i=17:=(by have:i<18:=hi;omega);clear hi;rcases hi4 with rfl|rfl|rfl|rfl|rfl|rfl|rfl|rfl|rfl|rfl|rfl|rfl|rfl|rfl|rfl|rfl|rfl|rfl
  all_goals simp at hi2 zp;(repeat obtain⟨_,zp⟩:=zp);(try subst_vars);try simp only[bM,bI,aI]at h0 h1 h2 h3 h4 h5 h6 h7 h8 h9 h10 h11 h12 h13 JH h15 k15 h16 k16 h17 k17
  all_goals try subst_vars
  all_goals refine jm rfl (fun K hK=>?_)
  ·have M9:=HW.alloc 3 (zN W.heap.size (G.w*G.h)).cs;refine yQ rfl (.tmp 17) (.tmp 17) 38 rfl 3 (i_ l_ 0) (G.w*G.h) 8 Tryz.underlying38 (by kernel_rfl) (by decide) hn (by simp[Act.eval]) (by simp[Act.eval]) rfl ?_;refine hK _ _ (.mk (g5:=W.heap.size) (g7:=g7) (g9:=g9) (g11:=g11) (g13:=g13) (g16:=g16) (Vl:=Vl) rfl rfl (M9.sub (fun g=>by simp only[zN,zL,kN,jl,aP,bK,gI];omega) (fun c hc=>by simp only[zN,zL,kN,jl,ay,aC]at hc⊢;grind)) ?_);and_intros<;>first|assumption|exact fun _=>rfl|(simp only[bM,bI,aI]<;>assumption)|exact fun e=>nomatch (k15 e).1|exact fun e=>nomatch (k15 (k16 e).2).1|exact fun e=>nomatch (k15 (k16 (k17 e)).2).1
  ·have M9:=HW.alloc 3 (zN W.heap.size (G.w*G.h)).cs;refine yQ rfl (.tmp 19) (.tmp 19) 38 rfl 3 (i_ l_ 0) (G.w*G.h) 8 Tryz.underlying38 (by kernel_rfl) (by decide) hn (by simp[Act.eval]) (by simp[Act.eval]) rfl ?_;refine hK _ _ (.mk (g5:=g5) (g7:=W.heap.size) (g9:=g9) (g11:=g11) (g13:=g13) (g16:=g16) (Vl:=Vl) rfl rfl (M9.sub (fun g=>by simp only[zN,zL,kN,jl,aP,bK,gI];omega) (fun c hc=>by simp only[zN,zL,kN,jl,ay,aC]at hc⊢;grind)) ?_);and_intros<;>first|assumption|exact fun _=>rfl|(simp only[bM,bI,aI]<;>assumption)|exact fun e=>nomatch (k15 e).2.1|exact fun e=>nomatch (k15 (k16 e).2).2.1|exact fun e=>nomatch (k15 (k16 (k17 e)).2).2.1
  ·have M9:=HW.alloc 4 (zL W.heap.size (G.w*G.h)).cs;refine yQ rfl (.tmp 21) (.tmp 21) 123 rfl 4 (b_ F_) (G.w*G.h) 1 Tryz.underlying123 (by kernel_rfl) (by decide) hn (by simp[Act.eval]) (by simp[Act.eval]) rfl ?_;refine hK _ _ (.mk (g5:=g5) (g7:=g7) (g9:=W.heap.size) (g11:=g11) (g13:=g13) (g16:=g16) (Vl:=Vl) rfl rfl (M9.sub (fun g=>by simp only[zN,zL,kN,jl,aP,bK,gI];omega) (fun c hc=>by simp only[zN,zL,kN,jl,ay,aC]at hc⊢;grind)) ?_);and_intros<;>first|assumption|exact fun _=>rfl|(simp only[bM,bI,aI]<;>assumption)|exact fun e=>nomatch (k15 e).2.2.1|exact fun e=>nomatch (k15 (k16 e).2).2.2.1|exact fun e=>nomatch (k15 (k16 (k17 e)).2).2.2.1
  ·have M9:=HW.alloc 4 (zL W.heap.size (G.w*G.h)).cs;refine yQ rfl (.tmp 23) (.tmp 23) 123 rfl 4 (b_ F_) (G.w*G.h) 1 Tryz.underlying123 (by kernel_rfl) (by decide) hn (by simp[Act.eval]) (by simp[Act.eval]) rfl ?_;refine hK _ _ (.mk (g5:=g5) (g7:=g7) (g9:=g9) (g11:=W.heap.size) (g13:=g13) (g16:=g16) (Vl:=Vl) rfl rfl (M9.sub (fun g=>by simp only[zN,zL,kN,jl,aP,bK,gI];omega) (fun c hc=>by simp only[zN,zL,kN,jl,ay,aC]at hc⊢;grind)) ?_);and_intros<;>first|assumption|exact fun _=>rfl|(simp only[bM,bI,aI]<;>assumption)|exact fun e=>nomatch (k15 e).2.2.2.1|exact fun e=>nomatch (k15 (k16 e).2).2.2.2.1|exact fun e=>nomatch (k15 (k16 (k17 e)).2).2.2.2.1
  ·have M9:=HW.alloc 4 (zL W.heap.size (G.w*G.h)).cs;refine yQ rfl (.tmp 25) (.tmp 25) 123 rfl 4 (b_ F_) (G.w*G.h) 1 Tryz.underlying123 (by kernel_rfl) (by decide) hn (by simp[Act.eval]) (by simp[Act.eval]) rfl ?_;refine hK _ _ (.mk (g5:=g5) (g7:=g7) (g9:=g9) (g11:=g11) (g13:=W.heap.size) (g16:=g16) (Vl:=Vl) rfl rfl (M9.sub (fun g=>by simp only[zN,zL,kN,jl,aP,bK,gI];omega) (fun c hc=>by simp only[zN,zL,kN,jl,ay,aC]at hc⊢;grind)) ?_);and_intros<;>first|assumption|exact fun _=>rfl|(simp only[bM,bI,aI]<;>assumption)|exact fun e=>nomatch (k15 e).2.2.2.2|exact fun e=>nomatch (k15 (k16 e).2).2.2.2.2|exact fun e=>nomatch (k15 (k16 (k17 e)).2).2.2.2.2
  ·go_simp;go_at_call 99;refine(Qk W).mono ?_;rintro e W2 ⟨rfl,m9⟩;have M9:=Mv.call (H:=[]) HW m9
   try simp only[]
   exact hK _ _ (.mk rfl rfl M9)
  ·refine Q7 rfl 133 _ rfl (XF G g5 g7 g9 g11 g13).toArray (by kernel_rfl) ?_;refine hK _ _ (.mk rfl rfl HW ?_);and_intros<;>first|assumption|exact fun _=>rfl|(simp only[bM,bI,aI]<;>assumption)|exact fun _=>⟨rfl,rfl,rfl,rfl,rfl⟩|exact fun e=>nomatch (k16 e).2|exact fun e=>nomatch (k16 (k17 e)).2
  ·have M9:=HW.alloc 133 (XF G g5 g7 g9 g11 g13).toArray;go_simp;refine hK _ _ (.mk (g5:=g5) (g7:=g7) (g9:=g9) (g11:=g11) (g13:=g13) (g16:=W.heap.size) (Vl:=(XF G g5 g7 g9 g11 g13).toArray) rfl rfl (M9.sub (fun g=>by simp only[zN,zL,kN,jl,aP,bK,gI];omega) (fun c hc=>by simp only[zN,zL,kN,jl,ay,aC]at hc⊢;grind)) ?_);and_intros<;>first|assumption|exact fun _=>rfl|(simp only[bM,bI,aI]<;>assumption)|exact fun _=>⟨rfl,rfl⟩|exact fun e=>nomatch k17 e
  all_goals first|(go_simp;exact hK _ _ (.mk rfl rfl HW))
end
theorem adp(G:GeoM)(ano:1≤G.w)(hw2:G.w≤64)(anr:1≤G.h)(hh2:G.h≤64)(w:World):Calls P_ 53 #[i_ l_ G.w,i_ l_ G.h,i_ l_ G.band,i_ l_ G.ah] w fun e w'=>∃A:oP,e=r_ (p_ (S_ ⟨A.cb,0,N_⟩))∧Mv w [] w' (⟨A.cb,133,(XF G A.gm A.gn A.gs A.ge A.ga).toArray⟩::zN A.gm (G.w*G.h)::zN A.gn (G.w*G.h)::zL A.gs (G.w*G.h)::zL A.ge (G.w*G.h)::zL A.ga (G.w*G.h)::[]):=by
 have hn:G.w*G.h≤4096:=bZ hw2 hh2;go_enter Tryz.func53,Tryz.ntmps53;go_upto_region 2 with fail;refine ik (afZ _ G w hn ?_);rintro _ _ _ _ _ _ _ _ _ _ _ _ _ _ _ _ _ _ g5 g7 g9 g11 g13 g16 Vl W HW ⟨-,fA,-⟩ ⟨f17,-⟩;subst f17 fA;have K:=af HW;clear HW;go_wp2_with fail;go_ret;refine⟨⟨g16,g5,g7,g9,g11,g13⟩,rfl,K.sub ?_ ?_⟩
 ·intro g;simp only[kN,aP,bK,gI];omega
 ·intro c hc;simp only[kN,ay,aC,bP,gQ]at hc⊢;grind
def noDefer(ops:Array Oper):Bool:=ops.all fun o=>match o.op with| .defer _=>F_|_=>T_
theorem PR{ops:Array Oper}(h:noDefer ops=T_){i:Nat}{o:Oper}(hi:ops[i]?=S_ o):∀c,o.op≠.defer c:=by intro c hc;unfold noDefer at h;rw[Array.all_eq_true]at h;obtain⟨h1,h2⟩:=jf.1 hi;have:=h i h1;rw[h2,hc]at this;cases this
theorem PK{P:Program}{o:Oper}{a:Act}{w:World}{K K':Act→World→Prop}{Q:Exit→Act→World→Prop}{l n:Nat}(hd:∀c,o.op≠.defer c)(hK:∀a w,K a w→K' a w)(h:o.wp P a w K Q):o.wpIn (Fence.wide.inRound l) n P a w K' Q:=by
 unfold Oper.wpIn;refine⟨fun f _=>trivial,?_⟩;rw[show(Fence.wide.inRound l).round=S_ l from rfl,jR l _ _ hd];unfold Oper.wp at h;generalize(execOp a.eval o).run P w=r at h⊢;cases r with
 |ok x w'=>
  cases x with
  |value v=>exact hK _ _ h
  |skip=>exact hK _ _ h
  |defer d=>exact hK _ _ h
  |enter f args=>
   refine⟨fun e=>(by simp[Fence.wide]at e),?_⟩;refine CallsIn.inRound l (iH.2 (Calls.mono h ?_));intro e w'' he;cases e with
   |returned v=>exact hK _ _ he
   |panicked c=>exact he
   |outgrown=>exact he
  |row row args=>refine⟨fun e=>(by simp[Fence.wide]at e),?_⟩;intro c cs _;obtain⟨v,w2,hr,hs⟩:=h c cs;exact⟨v,w2,hK _ _ hr,stepsIn_wide.2 hs⟩
  |round l f tmps assign body=>exact h.elim
  |_=>exact h.elim
 |halt x w'=>
  cases x with
  |panic v=>exact h
  |_=>exact h.elim
theorem Bl{P:Program}{md:Region.Mode}{ops:Array Oper}{Q:Exit→Act→World→Prop}(l n:Nat)(hd:noDefer ops=T_)(hl:¬LetsOut Q):∀(f:Nat) (bQ:Array Bool) (a:Act) (w:World),wpAny P md ops Q f bQ a w→wpAnyIn (Fence.wide.inRound l) n P md ops Q f bQ a w
 |0,_,_,_,h=>h
 |f+1,bQ,a,w,h=>by
  refine⟨h.1,fun i hi=>?_⟩;have h2:=h.2 i hi;unfold wpOp at h2;unfold wpOpIn;cases ho:ops[i]? with
  |none=>rw[ho]at h2;exact Bl l n hd hl f _ _ _ h2
  |some o=>
   rw[ho]at h2;simp only at h2⊢;split
   ·rename_i hw;rw[aK hw]at h2;rcases h2 with h2|h2
    ·exact PK (PR hd ho) (fun a w k=>Bl l n hd hl f _ a w k) h2
    ·exact absurd h2.2 hl
   ·rename_i hw;rw[aJ hw]at h2;exact⟨fun f _=>trivial,Bl l n hd hl f _ _ _ h2⟩
theorem wL{P:Program}{l k id:Nat}{Q:Exit→Act→World→Prop}{a:Act}{w:World}{ops:List Oper}(n:Nat)(hm:P.follows .mixedOrders=T_)(hd:noDefer ops.toArray=T_)(hl:¬LetsOut Q)(hB:Region.lexTailB .any ops.toArray n=T_)(h:wpStill P ops.toArray {w with drawn:=w.drawn+1} (fun a'=>wpList P ops.toArray Q (ops.drop n) a' {w with drawn:=w.drawn+1}) (ops.take n) a):(Code.region id ops.toArray T_).wpIn (Fence.wide.inRound l) k P Q a w:=by
 simp only[Region.lexTailB,dO,jF]at hB;obtain⟨⟨⟨⟨hsel,hn⟩,hs⟩,hc⟩,hlex⟩:=hB;have hn':n<ops.length:=by simpa using hn
 have htl:(ops.take n).length=n:=by simp;omega
 have hdl:(ops.drop n).length=ops.toArray.size-n:=by simp
 have inv0:HeadInv .any ops.toArray n (Array.replicate ops.toArray.size F_):=⟨by simp,fun j oj _ hl=>(by rw[uU]at hl;cases hl),fun t _ ht=>getD_in (by simpa using ht) (uU _ _)⟩;have H:=wpAnyL_lex (md:=.any) (g:=ops.toArray.size-n) hsel hs hc hn (ops.take n) 0 _ a (fun j hj=>by
  have hj':j<n:=by rw[htl]at hj;exact hj
  simp[hj']) (by simpa using htl) inv0 (by rw[htl];exact hlex) h
 refine wpIn_region_any hm (Bl l k hd hl _ _ _ _ ?_);have:=wpAny_of_head (Q':=Q) (g:=ops.toArray.size-n) (fun bQ a' hL=>by have:=wpAny_of_seq (md:=.any) (Q':=Q) (ops.drop n) n bQ a' {w with drawn:=w.drawn+1} (fun j=>by simp[nZ]) (by rw[hdl];exact hL.1) hL.2;rwa[hdl]at this) _ _ _ H;rw[htl,show n+(ops.toArray.size-n)=ops.toArray.size by omega]at this;exact this
section
variable{P:Program}{ops:Array Oper}{md:Region.Mode}{C:World→Prop}
def Xh(P:Program)(md:Region.Mode)(ops:Array Oper)(C:World→Prop)(n:Nat)(L:Array Bool→Act→Prop):Nat→Array Bool→Act→Prop
 |0,bQ,a=>L bQ a
 |f+1,bQ,a=>Region.ready md ops bQ≠[]∧∀i∈Region.ready md ops bQ,i<n∧qOp P ops C i (Xh P md ops C n L f (bQ.setIfInBounds i T_)) a
theorem Uc{n g:Nat}{L:Array Bool→Act→Prop}{Q:Exit→Act→World→Prop}(hL:∀bQ a w,C w→L bQ a→wpAny P md ops Q g bQ a w): ∀(f:Nat) (bQ:Array Bool) (a:Act) (w:World),C w→Xh P md ops C n L f bQ a→wpAny P md ops Q (f+g) bQ a w
 |0,bQ,a,w,hw,h=>by rw[dH];exact hL _ _ _ hw h
 |f+1,bQ,a,w,hw,h=>by rw[show f+1+g=(f+g)+1 by omega];exact⟨fun h0=>absurd h0 h.1,fun i hi=>wpOp_of_qOp hw (fun a' w' hw' h'=>Uc hL f _ a' w' hw' h') (h.2 i hi).2⟩
theorem afr{n i:Nat}{oi:Oper}{v:Value}{L:Array Bool→Act→Prop}(hi:ops[i]?=S_ oi)(hsel:∀(j:Nat) (o:Oper) cs b,ops[j]?=S_ o→o.op≠.select cs b)
 (hs:Region.sinkB md ops n=T_) (hc:Region.chainB md ops n=T_) (hn:n<ops.size) (hin:i<n) (hdone:∀bQ a,L bQ a→∀j∈Region.ready md ops bQ,n≤j):
 ∀(f:Nat) (bQ:Array Bool) (a:Act),HeadInv md ops n bQ→
  (∀j oj,ops[j]?=S_ oj→j≠i→bQ.getD j T_=F_→(∀e∈oj.after,Region.binds md e=T_→e.on≠i)→oi.apart ops oj=T_)→
  i∈Region.ready md ops bQ→YieldsIn P ops C oi v a→Xh P md ops C n L f (bQ.setIfInBounds i T_) (a.put oi.dst v)→Xh P md ops C n L (f+1) bQ a:=by
 intro f
 induction f with
 |zero=>
  intro bQ a inv hfree hr hy H;refine⟨fun e=>(by rw[e]at hr;cases hr),fun j hj=>?_⟩;have hlt:j<n:=Nat.lt_of_not_le fun hge=>tail_waits hs hc hn inv _ i rfl hin (Go.mem_ready.1 hr).1 j hge hj;by_cases e:j=i
  ·subst e;exact⟨hlt,hy.qOp hi H⟩
  ·exact absurd (hdone _ _ H j (ready_mono hj e)) (by omega)
 |succ f ih=>
  intro bQ a inv hfree hr hy H;refine⟨fun e=>(by rw[e]at hr;cases hr),fun j hj=>?_⟩;have hun:=(Go.mem_ready.1 hr).1;have hlt:j<n:=Nat.lt_of_not_le fun hge=>tail_waits hs hc hn inv _ i rfl hin hun j hge hj;by_cases e:j=i
  ·subst e;exact⟨hlt,hy.qOp hi H⟩
  ·obtain⟨hjun,oj,hoj,hall⟩:=Go.mem_ready.1 hj;have hnot:∀d∈oj.after,Region.binds md d=T_→d.on≠i:=by intro d hd hb h1;have h2:=hall d hd hb;rw[h1,getD_both hun]at h2;cases h2
   refine⟨hlt,qOp_mono (fun a' h3=>?_) (qOp_put hoj (hfree j oj hoj e hjun hnot) (fun cs b=>hsel i oi cs b hi) (fun cs b=>hsel j oj cs b hoj) hy (H.2 j (ready_mono hj e)).2)⟩;refine ih _ a' (inv.set hj hlt) (fun k ok hk hki al4 hno=>hfree k ok hk hki ?_ hno) (ready_mono hr fun h=>e h.symm) h3.1 ?_
   ·by_cases hjk:j=k
    ·subst hjk;exact hjun
    ·rwa[getD_set_ne T_ hjk]at al4
   ·rw[Array.setIfInBounds_comm _ _ e];exact h3.2
theorem afq{n g:Nat}{Lq:Act→Prop}(hsel:Region.noSelect ops=T_)(hs:Region.sinkB md ops n=T_)(hc:Region.chainB md ops n=T_)(hn:n<ops.size):
 ∀(l:List Oper) (k:Nat) (bQ:Array Bool) (a:Act),(∀j,j<l.length→l[j]?=ops[k+j]?)→k+l.length=n→HeadInv md ops n bQ→
 Region.lexHead md ops g l.length k bQ=T_→wpQuiet P ops C Lq l a→Xh P md ops C n (fun listed' a'=>Region.seqB md ops g n listed'=T_∧Lq a') l.length bQ a
 | [],k,bQ,a,_,hk,_,hB,h=>by
  have e:k=n:=by simpa using hk
  rw[←e];exact⟨by simpa[Region.lexHead]using hB,h⟩
 |o::l,k,bQ,a,hl,hk,inv,hB,h=>by
  have h0:ops[k]?=S_ o:=by simpa using(hl 0 (by simp)).symm
  rw[List.length_cons]at hk;have hkn:k<n:=by omega
  simp only[List.length_cons,Region.lexHead,dO]at hB;have hr:k∈Region.ready md ops bQ:=by simpa using hB.1.1
  have hq:qOp P ops C k (wpQuiet P ops C Lq l) a:=by unfold qOp;simp only[h0];exact h
  obtain⟨v,hy,hK⟩:=yieldsIn_of_qOp h0 hq;refine afr h0 (Region.noSelect_spec hsel) hs hc hn hkn (fun _ _ hL=>seqB_ready hL.1) l.length bQ a inv (Region.free_spec h0 hB.1.2) hr hy ?_;refine afq hsel hs hc hn l (k+1) _ _ (fun j hj=>?_) (by omega) (inv.set hr hkn) hB.2 hK;have:=hl (j+1) (by simp;omega);simpa[kK,Nat.add_comm 1 j]using this
theorem Ih{Q:Exit→Act→World→Prop}{a:Act}{w:World}{l:List Oper}(n:Nat)(hB:Region.lexTailB .any l.toArray n=T_)(hC:C w)(h:wpQuiet P l.toArray C (fun a'=>∀w',C w'→wpList P l.toArray Q (l.drop n) a' w') (l.take n) a):wpAny P .any l.toArray Q l.toArray.size (Array.replicate l.toArray.size F_) a w:=by
 simp only[Region.lexTailB,dO,jF]at hB;obtain⟨⟨⟨⟨hsel,hn⟩,hs⟩,hc⟩,hlex⟩:=hB;have hn':n<l.length:=by simpa using hn
 have htl:(l.take n).length=n:=by simp;omega
 have hdl:(l.drop n).length=l.toArray.size-n:=by simp
 have inv0:HeadInv .any l.toArray n (Array.replicate l.toArray.size F_):=⟨by simp,fun j oj _ hl=>(by rw[uU]at hl;cases hl),fun t _ ht=>getD_in (by simpa using ht) (uU _ _)⟩;have H:=afq (C:=C) (md:=.any) (g:=l.toArray.size-n) hsel hs hc hn (l.take n) 0 _ a (fun j hj=>by
  have hj':j<n:=by rw[htl]at hj;exact hj
  simp[hj']) (by simpa using htl) inv0 (by rw[htl];exact hlex) h
 have:=Uc (Q:=Q) (g:=l.toArray.size-n) (fun bQ a' w' hw' hL=>by have:=wpAny_of_seq (md:=.any) (Q':=Q) (l.drop n) n bQ a' w' (fun j=>by simp[nZ]) (by rw[hdl];exact hL.1) (hL.2 w' hw');rwa[hdl]at this) _ _ _ w hC H;rw[htl,show n+(l.toArray.size-n)=l.toArray.size by omega]at this;exact this
theorem LZ{l k id:Nat}{Q:Exit→Act→World→Prop}{a:Act}{w:World}{ops:List Oper}(n:Nat)(C:World→Prop)(hm:P.follows .mixedOrders=T_)(hd:noDefer ops.toArray=T_)(hl:¬LetsOut Q)(hC:C {w with drawn:=w.drawn+1})(hB:Region.lexTailB .any ops.toArray n=T_)(h:wpQuiet P ops.toArray C (fun a'=>∀w',C w'→wpList P ops.toArray Q (ops.drop n) a' w') (ops.take n) a):(Code.region id ops.toArray T_).wpIn (Fence.wide.inRound l) k P Q a w:=wpIn_region_any hm (Bl l k hd hl _ _ _ _ (Ih n hB hC h))
theorem uf{id:Nat}{Q:Exit→Act→World→Prop}{a:Act}{w:World}{ops:List Oper}(n:Nat)(C:World→Prop)(hm:P.follows .mixedOrders=T_)(hC:C {w with drawn:=w.drawn+1})(hB:Region.lexTailB .any ops.toArray n=T_)(h:wpQuiet P ops.toArray C (fun a'=>∀w',C w'→wpList P ops.toArray Q (ops.drop n) a' w') (ops.take n) a):(Code.region id ops.toArray T_).wp P Q a w:=wp_region_any hm (Ih n hB hC h)
end
section
variable{P:Program}{ops:Array Oper}{C:World→Prop}{Q:Act→Prop}{a:Act}{o:Oper}{rest:List Oper}
theorem Iz(hw:Region.wanted o (yielded ops a.tmps)=F_)(h:wpQuiet P ops C Q rest (a.put o.dst undef)):wpQuiet P ops C Q (o::rest) a:=by
 show if _ then _ else _
 rw[aJ (by rw[hw];simp)];exact h
theorem Md(v:Value)(hw:Region.wanted o (yielded ops a.tmps)=T_)(hv:∀w,C w→o.quietAt P a C w v)(h:wpQuiet P ops C Q rest (a.put o.dst v)):wpQuiet P ops C Q (o::rest) a:=by
 show if _ then _ else _
 rw[aK hw];exact⟨v,hv,h⟩
theorem Ak{w:World}{v:Value}(h:(execOp a.eval o).run P w=.ok (.value v) w):o.quietAt P a C w v:=by unfold Oper.quietAt;rw[h];exact⟨rfl,rfl⟩
theorem Iy{w:World}(h:(execOp a.eval o).run P w=.ok .skip w):o.quietAt P a C w undef:=by unfold Oper.quietAt;rw[h];exact⟨rfl,rfl⟩
theorem IA{w:World}{v:Value}{f:FuncId}{args:Array Value}(h:(execOp a.eval o).run P w=.ok (.enter f args) w)(hc:Calls P f args w fun e w''=>e=r_ v∧C w''):o.quietAt P a C w v:=by unfold Oper.quietAt;rw[h];exact⟨rfl,hc⟩
end
end
section
open Go.RowKit Go.Shelf
attribute [local go_sem] jR
theorem LW(A:Option Addr)(n c:Nat)(w:World):Calls P_ 22 #[s_ A n c] w fun e w'=>e=r_ (.func (.func 68) #[] #[p_ (S_ ⟨w.heap.size,0,N_⟩)])∧w'=w.alloc (.cells #[s_ A n c] 26):=by go_enter Tryz.func22,Tryz.ntmps22;go_wp2_with fail;go_ret;exact⟨rfl,rfl⟩
theorem ack(d:bu)(b:di)(W:World)(H:List HB)(_:b.ok d)(hH:H=b.heap d)(hs:Sat W H)(hset:b.set=T_)(count:Int):Calls P_ 23 #[p_ (S_ ⟨d.bb,0,N_⟩),i_ l_ count] W fun e W'=>e=r_ (t_ #[])∧Mv W H W' H:=by subst hH;have e4:=(hs.2 _ (b.sF d)).cell 4;simp only[jU,hset]at e4;have M:=((Mv.refl hs).alloc 43 #[p_ (S_ ⟨d.bb,0,N_⟩)]).drop1;have M2:=(M.alloc 3 #[i_ l_ count]).drop1;have K:=af M2;have c1:=(Mv.kT M (b.sF d)).cell 4;have c2:=(Mv.kT M2 (b.sF d)).cell 4;simp only[jU,hset]at c1 c2;clear M M2 hs;go_enter Tryz.func23,Tryz.ntmps23;go_wp2_with fail;exact dU (bH rfl _ _ _) rfl ⟨rfl,K.out⟩
def G5(n0:Nat)(d:bu)(count:Int):List HB:=[⟨n0+3,26,#[s_ (S_ ⟨n0+2,0,N_⟩) 1 1]⟩,⟨n0+2,43,#[p_ (S_ ⟨d.bb,0,N_⟩)]⟩,⟨n0+1,3,#[i_ l_ count]⟩,⟨n0,43,#[p_ (S_ ⟨d.bb,0,N_⟩)]⟩]
def aac(n0:Nat)(d:bu)(count:Nat)(m:aT)(pre:List (kU [d]))(H:List HB):Prop:= ∃b:di,b.model=pre.foldl (fun m x=>plantStep count m x.1.k) m∧b.ok d∧H=G5 n0 d count++b.heap d
theorem aeB(n0:Nat)(d:bu)(count:Nat)(m:aT)(pre:List (kU [d]))(H:List HB)(W:World)(h:aac n0 d count m pre H)(hs:Sat W H):Ve W (n0+3) (S_ ⟨n0+2,0,N_⟩) 1 [d]:=by
 obtain⟨b,-,-,rfl⟩:=h;have k1:=(hs.2 _ (cu _ (show _∈G5 n0 d count from aG))).cell 0;have k2:=(hs.2 ⟨n0+2,43,#[p_ (S_ ⟨d.bb,0,N_⟩)]⟩ (cu _ (show _∈G5 n0 d count from aU _ aG))).cell 0;have k3:=(hs.2 _ (aS _ (b.sF d))).cell 0;refine⟨k1,fun j e hj=>?_,fun e he=>?_⟩
 ·obtain⟨rfl,rfl⟩:j=0∧d=e:=by
   cases j with
   |zero=>simpa using hj
   |succ j=>simp at hj
  exact⟨_,rfl,k2⟩
 ·simp only[fJ]at he;subst he;exact k3
theorem aeC(n0:Nat)(d:bu)(count:Nat)(m:aT)(pre:List (kU [d]))(H:List HB)(h:aac n0 d count m pre H):jQ H:=by
 obtain⟨b,-,hk,rfl⟩:=h;refine jQ.append ?_ (sH.PQ (m:=b.model) ⟨b,rfl,hk,rfl⟩);intro x hx;simp only[G5,aC,bP,gQ]at hx;rcases hx with rfl|rfl|rfl|rfl
 ·exact(show 26≠66 by decide)
 ·exact(show 43≠66 by decide)
 ·exact(show 3≠66 by decide)
 ·exact(show 43≠66 by decide)
theorem TB(count np:Int)(f n:Nat):frGo count np (f+1) n=if jg np count ((n:Int)+1)=0 then frGo count np f (n+1)else n:=rfl
theorem gu.ok.fZ{s:gu}(h:s.ok):∃A c,s.vp=s_ A s.m.ps.length c:=h.1.slice
theorem ZY{d:bu}{x:dF}(h:x∈aX [d]):∃k,k<d.n∧x=⟨d,k⟩:=by simp only[aX,tY,dE,List.flatMap_nil,dD,bW,lS]at h;obtain⟨k,hk,rfl⟩:=h;exact⟨k,hk,rfl⟩
theorem adr{d:bu}{b:di}{w0 w:World}{H0 X:List HB}(ok:b.ok d)(m:Mv w0 H0 w (X++b.heap d))(k:Nat)(hk:k<d.n)(n:Int):Calls P_ 69 #[p_ (S_ ⟨b.ft,0,N_⟩),i_ l_ k,i_ l_ n] w fun e w2=>e=r_ (t_ #[])∧ ∃b':di,b'.ok d∧b'.model={b.model with first:=JP b.model.first k n}∧b'.G=b.G∧b'.zt=b.zt∧b'.aH=b.aH∧Mv w0 H0 w2 (X++b'.heap d):=by
 have hkw:k<b.w*b.h:=by rw[←ok.n];exact hk
 obtain⟨p0,h0,hw,hh⟩:=ok.kf.2.2 (by omega);have m1:Mv w0 H0 w (b.Hf++(X++jU b d::jY b d::(b.Hz++b.G.flatMap gu.heap))):=m.sub (fun g=>by simp only[di.heap,aP,bK];omega) (fun c hc=>by simp only[di.heap,ay,aC]at hc⊢;grind);refine(VI b.ft b.Pf k n p0 w b.Hf ok.tf m1.sat.left ok.kf.1 ok.kf.2.1 h0 (by rw[hw,hh];exact hkw)).mono ?_;rintro e w2 ⟨rfl,H',hT,hM⟩;have sh:=Ew b.Pf (k%p0.2.w) (k/p0.2.w) n;refine⟨rfl,{b with Pf:=setP b.Pf (k%p0.2.w) (k/p0.2.w) n,Hf:=H'},⟨hT,ok.tz,ok.kf.congr sh.1,ok.kz,ok.st,ok.len,ok.n,ok.pl,ok.hw,ok.hh⟩,?_,rfl,rfl,rfl,?_⟩
 ·simp only[di.model,VJ b.Pf k n p0 h0]
 ·exact(Mv.call m1 hM).sub (fun g=>by simp only[di.heap,aP,bK,jU,jY];omega) (fun c hc=>by simp only[di.heap,ay,aC,jU,jY]at hc⊢;grind)
theorem adq{d:bu}{b:di}{w0 w:World}{H0 X:List HB}(ok:b.ok d)(m:Mv w0 H0 w (X++b.heap d))(k:Nat)(hk:k<d.n)(n:Int):Calls P_ 69 #[p_ (S_ ⟨b.zt,0,N_⟩),i_ l_ k,i_ l_ n] w fun e w2=>e=r_ (t_ #[])∧ ∃b':di,b'.ok d∧b'.model={b.model with dA:=JP b.model.dA k n}∧b'.G=b.G∧Mv w0 H0 w2 (X++b'.heap d):=by
 have hkw:k<b.w*b.h:=by rw[←ok.n];exact hk
 obtain⟨p0,h0,hw,hh⟩:=ok.kz.2.2 (by omega);have m1:Mv w0 H0 w (b.Hz++(X++jU b d::jY b d::(b.Hf++b.G.flatMap gu.heap))):=m.sub (fun g=>by simp only[di.heap,aP,bK];omega) (fun c hc=>by simp only[di.heap,ay,aC]at hc⊢;grind);refine(VI b.zt b.Pz k n p0 w b.Hz ok.tz m1.sat.left ok.kz.1 ok.kz.2.1 h0 (by rw[hw,hh];exact hkw)).mono ?_;rintro e w2 ⟨rfl,H',hT,hM⟩;have sh:=Ew b.Pz (k%p0.2.w) (k/p0.2.w) n;refine⟨rfl,{b with Pz:=setP b.Pz (k%p0.2.w) (k/p0.2.w) n,Hz:=H'},⟨ok.tf,hT,ok.kf,ok.kz.congr sh.1,ok.st,ok.len,ok.n,ok.pl,ok.hw,ok.hh⟩,?_,rfl,?_⟩
 ·simp only[di.model,VJ b.Pz k n p0 h0]
 ·exact(Mv.call m1 hM).sub (fun g=>by simp only[di.heap,aP,bK,jU,jY];omega) (fun c hc=>by simp only[di.heap,ay,aC,jU,jY]at hc⊢;grind)
theorem acm(d:bu)(b:di)(W:World)(hk:b.ok d)(hs:Sat W (b.heap d))(hset:b.set=F_)(count:Nat)(hct:count≤100000):Calls P_ 23 #[p_ (S_ ⟨d.bb,0,N_⟩),i_ l_ count] W fun e W'=>e=r_ (t_ #[])∧∃b':di,b'.model=kF count b.model∧b'.ok d∧Mv W (b.heap d) W' (b'.heap d):=by
 refine(iH (n:=8)).1 ?_;refine callsIn_of_wp_marks Tryz.func23 rfl trivial ?_ rfl;simp only[Tryz.ntmps23,pJ,List.length_cons,List.length_nil,Nat.reduceAdd,Nat.reduceSub,oD,Array.replicate_zero,rW,qw,List.nil_append,List.cons_append];have e4:=(hs.2 _ (b.sF d)).cell 4;simp only[jU,hset]at e4;have M:=((Mv.refl hs).alloc 43 #[p_ (S_ ⟨d.bb,0,N_⟩)]);have M2:=(M.alloc 3 #[i_ l_ count]);have K:=af M2;have c1:=(Mv.kT M (aU _ (b.sF d))).cell 4;have c2:=(Mv.kT M2 (aU _ (aU _ (b.sF d)))).cell 4;have f2:=(Mv.kT M2 (aU _ (aU _ (b.sF d)))).frozen 4;simp only[jU,hset]at c1 c2 f2;have KO:=af hk;clear M M2 hs;gi_wp2_with (refine⟨trivial,?_⟩;gi_at_call 22;refine(iH.2 (LW _ _ _ _)).mono ?_;rintro e w' ⟨rfl,rfl⟩);have hs0:(b.heap d)=jU b d::(jY b d::(b.Hf++(b.Hz++b.G.flatMap gu.heap))):=rfl;obtain⟨b1,hb1⟩:∃b1:di,b1={b with set:=T_}:=⟨_,rfl⟩;have K1:=K.out;rw[hs0]at K1;unfold jU at K1;have K2:=Mv.setAt (A:=[_,_]) K1 4 (b_ T_);have K3:=(K2.alloc 43 #[p_ (S_ ⟨d.bb,0,N_⟩)]).alloc 26 #[s_ (S_ ⟨W.heap.size+1+1,0,N_⟩) 1 1];simp only[jV,World.size_setCell]at K3;have hok1:b1.ok d:=by subst hb1;exact⟨KO.tf,KO.tz,KO.kf,KO.kz,KO.st,KO.len,KO.n,KO.pl,KO.hw,KO.hh⟩
 have K4:=af (show _ from K3);clear K1 K2 K3 e4 c1 c2 f2;refine Fb (by omega) 4 W (b.heap d) (by simp;omega) (box:=W.heap.size+3) (c:=1) (A:=S_ ⟨W.heap.size+2,0,N_⟩) (D:=[d]) rfl (by simp) (fun e he=>by simp only[fJ]at he;subst he;have:=KO.small;omega) (aac W.heap.size d count b1.model) (fun _ _=>False) (aeB _ _ _ _) (aeC _ _ _ _) ⟨_,⟨b1,rfl,hok1,rfl⟩,?start⟩ ?assign ?body ?done ?stop
 case start=>subst hb1;exact K4.out
 case assign=>intro l x y z w K hK;simp only[bf,List.set_cons_succ,List.set_cons_zero]at hK⊢;gi_wp2;exact hK
 case body=>
  intro l pre x hx B w H hr hP hs hlen;simp only[bf,List.set_cons_succ,List.set_cons_zero];obtain⟨bg,hm,ok,rfl⟩:=hP;obtain⟨k,hk,hxe⟩:=ZY hx;subst hxe;obtain⟨PS,TA⟩:=X_ (LY w (⟨B,66,dF.cells ⟨d,k⟩⟩::(G5 W.heap.size d count++bg.heap d)) (aac W.heap.size d count b1.model) (fun _ _=>False) (pre++[⟨⟨d,k⟩,hx⟩]));rw[TA];have HP:=af TA;have HL:Hid (¬LetsOut PS):=af (by rw[←TA];rintro⟨a,w,h⟩;exact h);clear TA;have hkw:=hk;rw[ok.n]at hkw;have hkn:k<4096:=eH hk ok.small;obtain⟨st,hst⟩:∃st,bg.G[k]?=S_ st:=⟨_,ai (by rw[ok.len];exact hk)⟩;have hso:=ok.st st (aF hst);obtain⟨A,cp,hvp⟩:=hso.fZ;obtain⟨np,xu⟩:=X_ (st.m.ps.length);have alU:np≤1000000:=by have:=hso.2.2.np;omega
  obtain⟨HH,Gn⟩:=Y_ ((⟨B,66,dF.cells ⟨d,k⟩⟩::(G5 W.heap.size d count++bg.heap d):List HB));have M0:Mv w HH w HH:=Mv.refl (by rw[Gn];exact hs);have BX:Hid (∀w',Mv w HH w' HH→w'.cell? ⟨B,0,N_⟩=S_ (p_ (S_ ⟨d.lb,k*5,N_⟩))∧w'.cell? ⟨B,1,N_⟩=S_ (p_ (S_ ⟨d.bb,0,N_⟩))∧w'.cell? ⟨B,2,N_⟩=S_ (i_ l_ k)∧w'.cell? ⟨W.heap.size+1,0,N_⟩=S_ (i_ l_ count)∧w'.cell? ⟨W.heap.size,0,N_⟩=S_ (p_ (S_ ⟨d.bb,0,N_⟩))∧w'.cell? ⟨d.bb,2,N_⟩=S_ (p_ (S_ ⟨bg.ft,0,N_⟩))∧w'.cell? ⟨d.lb,k*5+1,N_⟩=S_ (s_ A np cp)):=af (by intro w' m;have a1:=Mv.kT m (by rw[Gn];exact aG);have a2:=Mv.kT m (x:=⟨W.heap.size+1,3,#[i_ l_ count]⟩) (by rw[Gn];simp[G5]);have a3:=Mv.kT m (x:=⟨W.heap.size,43,#[p_ (S_ ⟨d.bb,0,N_⟩)]⟩) (by rw[Gn];simp[G5]);have a4:=Mv.kT m (by rw[Gn];exact aU _ (aS _ (bg.sF d)));have a5:=Mv.kT m (by rw[Gn];exact aU _ (aS _ (bg.zH d)));have a6:=uZ a5 hst;rw[hvp,xu]at a6;exact⟨a1.cell 0,a1.cell 1,a1.cell 2,a2.cell 0,a3.cell 0,a4.cell 2,a6.2.1⟩);have FR:Hid (∀w',Mv w HH w' HH→∀j:Nat,j≤count→Calls P_ 24 #[g_ #[p_ (S_ ⟨d.lb,k*5,N_⟩),p_ (S_ ⟨d.bb,0,N_⟩),i_ l_ k],i_ l_ count,i_ l_ j] w' fun e w2=>e=r_ (i_ l_ (jg np count ((j:Int)+1)))∧Mv w HH w2 HH):=af (by intro w' m j hj;refine(MP ⟨d,k⟩ count j w' A np cp (BX w' m).2.2.2.2.2.2 (by simp;omega) alU ⟨by omega,by omega⟩ ⟨by omega,by omega⟩).mono ?_;rintro e w2 ⟨rfl,m2⟩;exact⟨rfl,Mv.call (H:=[]) (H':=[]) m m2⟩);obtain⟨XX,Oo⟩:=Y_ ((⟨B,66,dF.cells ⟨d,k⟩⟩::G5 W.heap.size d count:List HB));have hHX:HH=XX++bg.heap d:=by rw[Gn,Oo];rfl
  have BY:Hid (∀(b2:di) w',b2.G=bg.G→Mv w HH w' (XX++b2.heap d)→w'.cell? ⟨B,0,N_⟩=S_ (p_ (S_ ⟨d.lb,k*5,N_⟩))∧w'.cell? ⟨B,2,N_⟩=S_ (i_ l_ k)∧w'.cell? ⟨W.heap.size,0,N_⟩=S_ (p_ (S_ ⟨d.bb,0,N_⟩))∧w'.cell? ⟨d.bb,1,N_⟩=S_ (i_ l_ b2.aH)∧w'.cell? ⟨d.bb,3,N_⟩=S_ (p_ (S_ ⟨b2.zt,0,N_⟩))∧w'.cell? ⟨d.lb,k*5,N_⟩=S_ (i_ l_ st.m.pl)):=af (by intro b2 w' hG m;have a1:=Mv.kT m (cu _ (by rw[Oo];exact aG));have a3:=Mv.kT m (x:=⟨W.heap.size,43,#[p_ (S_ ⟨d.bb,0,N_⟩)]⟩) (cu _ (by rw[Oo];simp[G5]));have a4:=Mv.kT m (aS _ (b2.sF d));have a5:=Mv.kT m (aS _ (b2.zH d));have a6:=uZ a5 (by rw[hG];exact hst);exact⟨a1.cell 0,a1.cell 2,a3.cell 0,a4.cell 1,a4.cell 3,a6.1⟩);have SF:Hid (∀w',Mv w HH w' HH→∀n:Nat,Calls P_ 69 #[p_ (S_ ⟨bg.ft,0,N_⟩),i_ l_ k,i_ l_ n] w' fun e w2=>e=r_ (t_ #[])∧
   ∃b2:di,(b2.ok d∧b2.model={bg.model with first:=JP bg.model.first k n}∧b2.G=bg.G∧Mv w HH w2 (XX++b2.heap d))∧b2.aH=bg.aH∧w2.cell? ⟨B,0,N_⟩=S_ (p_ (S_ ⟨d.lb,k*5,N_⟩))∧w2.cell? ⟨B,2,N_⟩=S_ (i_ l_ k)∧w2.cell? ⟨W.heap.size,0,N_⟩=S_ (p_ (S_ ⟨d.bb,0,N_⟩))∧
   w2.cell? ⟨d.bb,1,N_⟩=S_ (i_ l_ b2.aH)∧w2.cell? ⟨d.bb,3,N_⟩=S_ (p_ (S_ ⟨b2.zt,0,N_⟩))∧w2.cell? ⟨d.lb,k*5,N_⟩=S_ (i_ l_ st.m.pl)):=af (by
   intro w' m n;refine(adr ok (by rw[←hHX];exact m) k hk n).mono ?_;rintro e w2 ⟨rfl,b2,o1,o2,o3,-,o5,o6⟩;exact⟨rfl,b2,⟨o1,o2,o3,o6⟩,o5,BY b2 w2 o3 o6⟩)
  have SZ:Hid (∀(b2:di) w',b2.ok d→Mv w HH w' (XX++b2.heap d)→∀n:Int,Calls P_ 69 #[p_ (S_ ⟨b2.zt,0,N_⟩),i_ l_ k,i_ l_ n] w' fun e w2=>e=r_ (t_ #[])∧ ∃b3:di,b3.ok d∧b3.model={b2.model with dA:=JP b2.model.dA k n}∧b3.G=b2.G∧Mv w HH w2 (XX++b3.heap d)):=af (by intro b2 w' o1 m n;exact adq o1 m k hk n);have hpl:=ok.pl;have alN:=hso.2.2.pl;obtain⟨spl,ahM⟩:=X_ (st.m.pl);obtain⟨pls,ahP⟩:=X_ (bg.aH);rw[ahM]at alN SF;rw[ahP]at hpl SF;have FIN:Hid (∀(a:Act) (bz b3:di) (j:Nat) (z:Int) (w4:World),frGo count np count 0=j→z=max (pls-spl) 0→bz.model={bg.model with first:=JP bg.model.first k j}→b3.ok d→b3.model={bz.model with dA:=JP bz.model.dA k z}→Mv w HH w4 (XX++b3.heap d)→PS .normal a w4):=af (by intro a bz b3 j z w4 e1 e2 e3 e4 e5 m4;rw[←HP.out];rw[Gn,Oo]at m4;refine⟨G5 W.heap.size d count++b3.heap d,⟨b3,?_,e4,rfl⟩,Mv.drop1 m4⟩;rw[dP];show b3.model=plantStep count (pre.foldl _ b1.model) k;rw[←hm,e5,e3,e2,←e1];unfold plantStep frN;rw[show bg.model.ss[k]?=S_ st.m from by simp[di.model,hst]];simp only[xu,ahM,show bg.model.aH=pls from ahP]);have KM:=af M0;have KS:=H9_ hm ok hst hso hkw hHX Gn ahM ahP;obtain⟨NN,hNN⟩:=X_ (frGo count np count 0);have HN:=af hNN;obtain⟨b0,b1',b2,b3,b4,b5,b6⟩:=BX w M0;clear M0 hs hm ok hso hvp xu hkw hst K KO K4 hok1 hb1 hs0 hlen hHX Gn Oo ahM ahP BY;gi_wp2_with fail;gi_loopw [5] (fun s5 wr=>∃j:Nat,j≤count∧s5=i_ l_ j∧frGo count np (count-j) j=NN∧Mv w HH wr HH) (fun s5 _=>count-(intOf s5).toNat)
  case atStart=>exact⟨0,by omega,rfl,hNN,KM.out⟩
  case round=>
   obtain⟨wa,rfl⟩:∃wa:World,wa=wr:=⟨_,rfl⟩;obtain⟨j,hj,rfl,hfr,ma⟩:=hrel;clear b0 b1' b2 b3 b4 b5 b6;obtain⟨b0,b1',b2,b3,b4,b5,b6⟩:=BX wa ma;have FJ:=af (FR wa ma j hj);have KA:=dS hfr ma;clear ma hfr hNN;by_cases hlt:j<count
   ·have d1:decide ((j:Int)<count)=T_:=by simp;omega
    have EF:=af (TB count np (count-j-1) j);gi_wp2_with (refine⟨trivial,?_⟩;gi_at_call 24;refine(CallsIn.inRound l (iH.2 FJ.out)).mono ?_;rintro e w2 ⟨rfl,m2⟩;have K2:=af m2;clear m2)
    case roundEnd=>
     rename_i hz;have hz2:jg np count ((j:Int)+1)=0:=by simpa using hz
     refine⟨⟨j+1,by omega,by push_cast;rfl,?_,K2.out⟩,by simp[intOf];omega⟩;have h1:=KA.1;rw[show count-j=count-j-1+1 from by omega,EF.out,aK hz2]at h1;rw[show count-(j+1)=count-j-1 from by omega];exact h1
    rename_i hz kk hq;have hjn:j=NN:=by
     have hz2:¬jg np count ((j:Int)+1)=0:=by simpa using hz
     have h1:=KA.1;rw[show count-j=count-j-1+1 from by omega,EF.out,aJ hz2]at h1;exact h1
    subst hjn;clear b0 b1' b2 b3 b4 b5 b6 hz EF FJ KA;obtain⟨b0,b1',b2,b3,b4,b5,b6⟩:=BX w2 K2.out;have hmx:Tryz.prog.follows .mixedOrders=T_:=by kernel_rfl
    have C1:=af (SF w2.drew K2.drew j)
    (refine wL 7 hmx (by kernel_rfl) ((fun⟨a,w,h⟩=>HL ⟨a,w,h⟩)) (by kernel_rfl) ?_;simp only[List.take_succ_cons,List.take_zero,iE,iW];(repeat still_step);(try refine wpStill_nil ?_))
    go_wp2_with (go_at_call 69;refine C1.out.mono ?_;rintro e w3 ⟨rfl,bz,o1,o2,o3,o4,o6,o5,o7,o8⟩;have K3:=af o1;clear o1);rw[o2]at o5;have C2:=af fun n=>SZ bz w3.drew K3.1 (Mv.drew K3.2.2.2) n;clear b0 b1' b2 b3 b4 b5 b6 C1
    (refine wL 18 hmx (by kernel_rfl) ((fun⟨a,w,h⟩=>HL ⟨a,w,h⟩)) (by kernel_rfl) ?_;simp only[List.take_succ_cons,List.take_zero,iE,iW];(repeat still_step);(try refine wpStill_nil ?_))
    go_wp2_with (go_at_call 69;refine(C2.out _).mono ?_;rintro e w4 ⟨rfl,b3,p1,p2,p3,p4⟩;have K4:=zO p1 p2 p3 p4;clear p1 p2 p3 p4)
    all_goals rename_i al1;refine FIN _ bz b3 j _ w4 HN.out ?_ K3.2.1 K4.1 K4.2.1 K4.2.2.2;split<;>omega
   ·have d1:decide ((j:Int)<count)=F_:=by simp;omega
    gi_wp2_with fail;refine⟨trivial,?_⟩;gi_wp2_with fail;have hjn:j=NN:=by have h1:=KA.1;rw[show count-j=0 from by omega]at h1;exact h1
    subst hjn;have K2:=af KA.2;obtain⟨w2,rfl⟩:∃w2:World,w2=wa:=⟨_,rfl⟩;clear b0 b1' b2 b3 b4 b5 b6 FJ KA;obtain⟨b0,b1',b2,b3,b4,b5,b6⟩:=BX w2 K2.out;have hmx:Tryz.prog.follows .mixedOrders=T_:=by kernel_rfl
    have C1:=af (SF w2.drew K2.drew j)
    (refine wL 7 hmx (by kernel_rfl) ((fun⟨a,w,h⟩=>HL ⟨a,w,h⟩)) (by kernel_rfl) ?_;simp only[List.take_succ_cons,List.take_zero,iE,iW];(repeat still_step);(try refine wpStill_nil ?_))
    go_wp2_with (go_at_call 69;refine C1.out.mono ?_;rintro e w3 ⟨rfl,bz,o1,o2,o3,o4,o6,o5,o7,o8⟩;have K3:=af o1;clear o1);rw[o2]at o5;have C2:=af fun n=>SZ bz w3.drew K3.1 (Mv.drew K3.2.2.2) n;clear b0 b1' b2 b3 b4 b5 b6 C1
    (refine wL 18 hmx (by kernel_rfl) ((fun⟨a,w,h⟩=>HL ⟨a,w,h⟩)) (by kernel_rfl) ?_;simp only[List.take_succ_cons,List.take_zero,iE,iW];(repeat still_step);(try refine wpStill_nil ?_))
    go_wp2_with (go_at_call 69;refine(C2.out _).mono ?_;rintro e w4 ⟨rfl,b3,p1,p2,p3,p4⟩;have K4:=zO p1 p2 p3 p4;clear p1 p2 p3 p4)
    all_goals rename_i al1;refine FIN _ bz b3 j _ w4 HN.out ?_ K3.2.1 K4.1 K4.2.1 K4.2.2.2;split<;>omega
 case done=>intro K ys w H hK hy hP hM hd;gi_wp2;obtain⟨b2,e1,e2,rfl⟩:=hP;refine⟨by simp,.inl ⟨_,_,rfl,run_takeDeferred hd,?_⟩⟩;refine⟨_,bH rfl _ _ _,rfl,b2,?_,e2,(Mv.drop hM).putObj _ hK hd rfl⟩;rw[e1];unfold kF;rw[show b.model.set=F_ from hset,aJ (by simp),show b1.model={b.model with set:=T_}from by rw[hb1];rfl];rw[show b.model.ss.length=d.n from by simp[di.model,KO.len]];have e3:(fun(m:aT) (x:kU [d])=>plantStep count m x.1.k)=fun m x=>(fun(m:aT) (k:Nat)=>plantStep count m k) m ((fun x:dF=>x.k) x.1):=rfl;rw[e3,←List.foldl_map (f:=fun x:kU [d]=>x.1.k),show ys.map (fun x=>x.1.k)=List.range d.n from ?_];have e4:=fM (List.map (fun x:dF=>x.k)) hy;rw[jc]at e4;refine e4.trans ?_;simp[aX,tY,Function.comp_def]
 case stop=>intro K pre w H _ _ h;exact h.elim
theorem Zw(count:Nat)(m:aT)(h:m.set=T_):kF count m=m:=by unfold kF;rw[aK h]
theorem acn(d:bu)(m:aT)(W:World)(H:List HB)(h:sH d m H)(hs:Sat W H)(count:Nat)(hct:count≤100000):Calls P_ 23 #[p_ (S_ ⟨d.bb,0,N_⟩),i_ l_ count] W fun e W'=>e=r_ (t_ #[])∧∃H',sH d (kF count m) H'∧Mv W H W' H':=by
 obtain⟨b,rfl,hk,rfl⟩:=h;cases hset:b.set with
 |true=>refine(ack d b W _ hk rfl hs hset count).mono ?_;rintro e W' ⟨rfl,hM⟩;exact⟨rfl,_,⟨b,(Zw count _ hset).symm,hk,rfl⟩,hM⟩
 |false=>refine(acm d b W hk hs hset count hct).mono ?_;rintro e W' ⟨rfl,b',h1,h2,hM⟩;exact⟨rfl,_,⟨b',h1,h2,rfl⟩,hM⟩
end
section
open Go.RowKit Go.Shelf
attribute [local go_sem] jR
theorem UD(c:Nat)(m:aT)(k:Nat):(plantStep c m k).ss=m.ss∧(plantStep c m k).aH=m.aH:=by unfold plantStep;split<;>exact⟨rfl,rfl⟩
theorem Be(c:Nat)(m:aT):(kF c m).ss=m.ss∧(kF c m).aH=m.aH:=by
 unfold kF;split
 ·exact⟨rfl,rfl⟩
 ·have:∀(l:List Nat) (n:aT),(l.foldl (plantStep c) n).ss=n.ss∧(l.foldl (plantStep c) n).aH=n.aH:=by
   intro l
   induction l with
   |nil=>intro n;exact⟨rfl,rfl⟩
   |cons k l ih=>intro n;rw[List.foldl_cons,(ih _).1,(ih _).2];exact UD c n k
  exact this _ _
def Ar(c:Nat)(M:Nat→aT)(x:dF):Nat→aT:=ou M x.d.bb (kF c (M x.d.bb))
theorem uS(c:Nat)(l:List dF)(M:Nat→aT)(b:Nat):((l.foldl (Ar c) M) b).ss=(M b).ss:=by
 induction l generalizing M with
 |nil=>rfl
 |cons x l ih=>
  rw[List.foldl_cons,ih];unfold Ar ou;split
  ·rename_i h;rw[h];exact(Be _ _).1
  ·rfl
theorem qH{D:List bu}{x:dF}(h:x∈aX D):x.d∈D∧x.k<x.d.n:=by simp only[aX,tY,iw,bW,lS]at h;obtain⟨d,hd,k,hk,rfl⟩:=h;exact⟨hd,hk⟩
def zn(v:Value)(D:List bu)(H:List HB):Prop:=dh 43 1 v D.length (D.map fun d=>p_ (S_ ⟨d.bb,0,N_⟩)) H
theorem iK.band{D:List bu}{M:Nat→aT}{H:List HB}(h:iK D M H){d:bu}(hd:d∈D):∃b:di,b.model=M d.bb∧b.ok d∧∀x∈b.heap d,x∈H:=by
 induction D generalizing H with
 |nil=>cases hd
 |cons e D ih=>
  obtain⟨H1,H2,rfl,⟨b,k1,k2,rfl⟩,h2⟩:=h;rcases aC.1 hd with rfl|hd
  ·exact⟨b,k1,k2,fun x hx=>cu _ hx⟩
  ·obtain⟨b,k1,k2,k3⟩:=ih h2 hd;exact⟨b,k1,k2,fun x hx=>aS _ (k3 x hx)⟩
theorem zn.sp{A:Option Addr}{c box:Nat}{D:List bu}{M:Nat→aT}{HL H ait:List HB}{W:World}(h:zn (s_ A D.length c) D HL)(k:iK D M H)(hs:Sat W ait)(hb:(⟨box,26,#[s_ A D.length c]⟩:HB)∈ait)(h1:∀x∈HL,x∈ait)(h2:∀x∈H,x∈ait):Ve W box A c D:=by
 refine⟨(hs.2 _ hb).cell 0,fun j d hj=>?_,fun d hd=>?_⟩
 ·have hn:0<D.length:=by have:=(aj.1 hj).1;omega
  obtain⟨g,cap,cur,hv,e1,e2,e3,e4,hH⟩:=dh.form h hn;cases hv;refine⟨g,rfl,?_⟩;have:=(hs.2 _ (h1 _ (by rw[hH];exact aG))).cell j;rw[this];have hj2:=(aj.1 hj).1;have e5:(cur.toList.take (D.length*1))[j]?=S_ (p_ (S_ ⟨d.bb,0,N_⟩)):=by rw[e4,aV,hj];rfl
  rw[iC,aK (by omega),kG]at e5;exact e5
 ·obtain⟨b,k1,k2,k3⟩:=k.band hd;exact(hs.2 _ (h2 _ (k3 _ (b.sF d)))).cell 0
def zK(n0:Nat)(A:Option Addr)(n c:Nat)(ah count aB:Int)(more:Bool):List HB:=[⟨n0+5,26,#[s_ A n c]⟩,⟨n0+4,4,#[b_ more]⟩,⟨n0+3,30,#[s_ N_ 0 0]⟩,⟨n0+2,3,#[i_ l_ aB]⟩,⟨n0+1,3,#[i_ l_ count]⟩,⟨n0,3,#[i_ l_ ah]⟩]
theorem ah3(n0:Nat)(A:Option Addr)(n c:Nat)(ah count aB:Int)(more:Bool):jQ (zK n0 A n c ah count aB more):=by
 intro x hx;simp only[zK,aC,bP,gQ]at hx;rcases hx with rfl|rfl|rfl|rfl|rfl|rfl
 ·exact(show 26≠66 by decide)
 ·exact(show 4≠66 by decide)
 ·exact(show 30≠66 by decide)
 ·exact(show 3≠66 by decide)
 ·exact(show 3≠66 by decide)
 ·exact(show 3≠66 by decide)
def aiK(n0:Nat)(A:Option Addr)(c:Nat)(D:List bu)(ah aB:Int)(count:Nat)(HL:List HB)(M:Nat→aT)(pre:List (kU D))(H:List HB):Prop:= ∃HB',H=zK n0 A D.length c ah count aB F_++(HL++HB')∧iK D ((pre.map (·.1)).foldl (Ar count) M) HB'
def ais(D:List bu)(M:Nat→aT)(count:Nat)(aB:Int):Prop:=∀d∈D,∀s∈(M d.bb).ss,jg s.ps.length count (aB+1)≤s.said
theorem L8{fn:Func}{p u:Tmp}{ty:TypeId}(h:fn.results=#[.tmp u,.cell p ty])(tmps:Array Value)(P:Program)(w:World):(results fn tmps).run P w=((asAddr (tmps.getD p undef)).run P w).andThen fun a w₁=>((loadVar ty a).run P w₁).andThen fun v w₂=>.ok (t_ #[tmps.getD u undef,v]) w₂:=by simp only[results,h];simp[rQ,Result.andThen]
theorem Xr(tmps:Array Value)(w:World)(v:Value)(g:Nat)(h8:tmps.getD 8 undef=v)(h9:tmps.getD 9 undef=p_ (S_ ⟨g,0,N_⟩))(hb:zh w g 30 #[s_ N_ 0 0]):(results Tryz.f10 tmps).run P_ w=.ok (t_ #[v,s_ N_ 0 0]) w:=by rw[L8 (u:=8) (p:=9) (ty:=30) rfl,h8,h9];have c0:=hb.cell 0;simp only[asAddr];go_simp
theorem afC(A:Option Addr)(c:Nat)(D:List bu)(M:Nat→aT)(ah aB:Int)(count:Nat)(HL HB0:List HB)(W:World)(hD:D.length≤1000)(hL:zn (s_ A D.length c) D HL)(hB:iK D M HB0)(hs:Sat W (HL++HB0))(hct:count≤100000)(hly:0≤aB∧aB≤10000)(hno:ais D M count aB):Calls P_ 10 #[s_ A D.length c,i_ l_ ah,i_ l_ count,i_ l_ aB] W fun e W'=>∃v H1 HB',e=r_ (t_ #[v,s_ N_ 0 0])∧dR v [0] H1∧iK D ((aX D).foldl (Ar count) M) HB'∧Mv W (HL++HB0) W' (H1++(HL++HB')):=by
 refine(iH (n:=8)).1 ?_;refine callsIn_of_wp_marks Tryz.func10 rfl trivial ?_ rfl;simp only[Tryz.ntmps10,pJ,List.length_cons,List.length_nil,Nat.reduceAdd,Nat.reduceSub,oD,Array.replicate_zero,rW,qw,List.nil_append,List.cons_append];have K1:=((((((Mv.refl hs).alloc 3 #[i_ l_ ah]).alloc 3 #[i_ l_ count]).alloc 3 #[i_ l_ aB]).alloc 30 #[s_ N_ 0 0]).alloc 4 #[b_ F_]).alloc 26 #[s_ A D.length c];simp only[jV]at K1;have K:=af K1;have KI:=zO hL hB hno hs;clear K1 hs hL hB hno;gi_wp2_with (refine⟨trivial,?_⟩;gi_at_call 22;refine(iH.2 (LW _ _ _ _)).mono ?_;rintro e w' ⟨rfl,rfl⟩);refine Fb (by omega) 11 W (HL++HB0) (by simp;omega) (box:=W.heap.size+5) (c:=c) (A:=A) (D:=D) rfl (by omega) (fun e he=>by obtain⟨b,-,k2,-⟩:=KI.2.1.band he;have:=k2.small;omega) (aiK W.heap.size A c D ah aB count HL M) (fun _ _=>False) ?sp ?no ⟨_,⟨HB0,rfl,KI.2.1⟩,K.out⟩ ?assign ?body ?done ?stop
 case sp=>rintro pre H w ⟨HB',rfl,h2⟩ hs;exact zn.sp KI.1 h2 hs (cu _ aG) (fun x hx=>aS _ (cu _ hx)) (fun x hx=>aS _ (aS _ hx))
 case no=>rintro pre H ⟨HB',rfl,h2⟩;exact(ah3 _ _ _ _ _ _ _ _).append ((jQ.row KI.1 (by decide)).append h2.PQ)
 case assign=>intro l x y z w K hK;simp only[bf,List.set_cons_succ,List.set_cons_zero]at hK⊢;gi_wp2;exact hK
 case body=>
  intro l pre x hx B w H hr hP hs hlen;simp only[bf,List.set_cons_succ,List.set_cons_zero];obtain⟨HB1,rfl,hBs⟩:=hP;obtain⟨hxd,hxk⟩:=qH hx;obtain⟨d,k⟩:=x;simp only at hxd hxk;obtain⟨PS,TA⟩:=X_ (LY w (⟨B,66,dF.cells ⟨d,k⟩⟩::(zK W.heap.size A D.length c ah count aB F_++(HL++HB1))) (aiK W.heap.size A c D ah aB count HL M) (fun _ _=>False) (pre++[⟨⟨d,k⟩,hx⟩]));have LP:Hid (¬LetsOut PS):=af (by rw[←TA];rintro⟨a,w,h⟩;exact h);rw[TA];obtain⟨M1,hM1⟩:=X_ ((pre.map (·.1)).foldl (Ar count) M);rw[hM1]at hBs;obtain⟨XX,Oo⟩:=Y_ ((⟨B,66,dF.cells ⟨d,k⟩⟩::zK W.heap.size A D.length c ah count aB F_:List HB));obtain⟨HH,Gn⟩:=Y_ (XX++(HL++HB1));have M0:Mv w HH w HH:=Mv.refl (by rw[Gn,Oo];exact hs);have hkn:k<4096:=by obtain⟨b,-,k2,-⟩:=hBs.band hxd;exact eH hxk k2.small
  have PL:Hid (Calls P_ 23 #[p_ (S_ ⟨d.bb,0,N_⟩),i_ l_ count] w fun e w2=>e=r_ (t_ #[])∧∃HB2,iK D (Ar count M1 ⟨d,k⟩) HB2∧Mv w HH w2 (XX++(HL++HB2))):=af (by
   obtain⟨H1,R,r1,sm,back⟩:=hBs.split (Sat.right (Sat.right (A:=XX) (by rw[←Gn];exact M0.sat))).1 hxd;have m1:Mv w HH w (H1++(XX++(HL++R))):=by
    refine M0.sub (fun g=>?_) (fun y hy=>?_)
    ·have:=sm.1 g;rw[Gn];simp only[aP]at this⊢;omega
    ·have:=sm.2 y;rw[Gn];simp only[ay]at this hy⊢;grind
   refine(acn d _ w H1 r1 m1.sat.left count hct).mono ?_;rintro e w2 ⟨rfl,DX,h1,h2⟩;obtain⟨HB2,h3,h4⟩:=back _ _ h1;refine⟨rfl,HB2,h3,(Mv.call m1 h2).sub (fun g=>?_) (fun y hy=>?_)⟩
   ·have:=h4.1 g;simp only[aP]at this⊢;omega
   ·have:=h4.2 y;simp only[ay]at this hy⊢;grind)
  have BX:Hid (∀w' HB2,Mv w HH w' (XX++(HL++HB2))→w'.cell? ⟨B,0,N_⟩=S_ (p_ (S_ ⟨d.lb,k*5,N_⟩))∧w'.cell? ⟨B,1,N_⟩=S_ (p_ (S_ ⟨d.bb,0,N_⟩))∧w'.cell? ⟨B,2,N_⟩=S_ (i_ l_ k)∧w'.cell? ⟨W.heap.size+1,0,N_⟩=S_ (i_ l_ count)∧w'.cell? ⟨W.heap.size+2,0,N_⟩=S_ (i_ l_ aB)∧w'.cell? ⟨W.heap.size+4,0,N_⟩=S_ (b_ F_)∧w'.frozen? ⟨W.heap.size+4,0,N_⟩=F_):=af (by intro w' HB2 m;have a1:=Mv.kT m (cu _ (by rw[Oo];exact aG));have a2:=Mv.kT m (x:=⟨W.heap.size+1,3,#[i_ l_ count]⟩) (cu _ (by rw[Oo];simp[zK]));have a3:=Mv.kT m (x:=⟨W.heap.size+2,3,#[i_ l_ aB]⟩) (cu _ (by rw[Oo];simp[zK]));have a4:=Mv.kT m (x:=⟨W.heap.size+4,4,#[b_ F_]⟩) (cu _ (by rw[Oo];simp[zK]));exact⟨a1.cell 0,a1.cell 1,a1.cell 2,a2.cell 0,a3.cell 0,a4.cell 0,a4.frozen 0⟩);have BS:Hid (∀HB2,iK D (Ar count M1 ⟨d,k⟩) HB2→∃(np cp:Nat) (A':Option Addr) (said:Int),np≤1000∧jg np count (aB+1)≤said∧∀w',Mv w HH w' (XX++(HL++HB2))→w'.cell? ⟨d.lb,k*5+1,N_⟩=S_ (s_ A' np cp)∧w'.cell? ⟨d.lb,k*5+3,N_⟩=S_ (i_ l_ said)):=af (by
   intro HB2 h2;obtain⟨b,k1,k2,k3⟩:=h2.band hxd;obtain⟨st,hst⟩:∃st,b.G[k]?=S_ st:=⟨_,ai (by rw[k2.len];exact hxk)⟩;have hso:=k2.st st (aF hst);obtain⟨A',cp,hvp⟩:=hso.fZ;refine⟨st.m.ps.length,cp,A',st.m.said,hso.2.2.np,?_,fun w' m=>?_⟩
   ·refine KI.2.2.1 d hxd st.m ?_;have e1:(Ar count M1 ⟨d,k⟩ d.bb).ss=(M d.bb).ss:=by have:=uS count (pre.map (·.1)++[⟨d,k⟩]) M d.bb;rw[dP,hM1]at this;exact this
    rw[←e1,←k1];exact bW.2 ⟨st,aF hst,rfl⟩
   ·have a5:=Mv.kT m (aS _ (aS _ (k3 _ (b.zH d))));have a6:=uZ a5 hst;rw[hvp]at a6;exact⟨a6.2.1,a6.2.2.2.1⟩)
  have FIN:Hid (∀(a:Act) (w4:World) (HB2:List HB),iK D (Ar count M1 ⟨d,k⟩) HB2→Mv w HH w4 (XX++(HL++HB2))→PS .normal a w4):=af (by intro a w4 HB2 h2 m4;rw[←TA];rw[Gn,Oo]at m4;refine⟨zK W.heap.size A D.length c ah count aB F_++(HL++HB2),⟨HB2,rfl,?_⟩,Mv.drop1 m4⟩;rw[bU,dP,hM1];exact h2);have ST:Hid (∀w4 HB2,Mv w HH w4 (XX++(HL++HB2))→Mv w HH (w4.setCell ⟨W.heap.size+4,0,N_⟩ (b_ F_)) (XX++(HL++HB2))):=af (by intro w4 HB2 m4;rw[Oo]at m4⊢;exact Mv.setAt (A:=[_,_]) m4 0 (b_ F_));obtain⟨b0,b1,b2,b3,b4,b5,b6⟩:=BX w HB1 (by rw[←Gn];exact M0);clear M0 hs hBs K KI hlen Oo Gn hM1 TA;gi_wp2_with (refine⟨trivial,?_⟩;gi_at_call 23;refine(CallsIn.inRound l (iH.2 PL.out)).mono ?_;rintro e w2 ⟨rfl,HB2,h2,m2⟩;have K2:=dS h2 m2;clear h2 m2);clear b0 b1 b2 b3 b4 b5 b6;obtain⟨np,cp,A',said,xu,hsd,BC⟩:=BS HB2 K2.1;obtain⟨b0,b1,b2,b3,b4,b5,b6⟩:=BX w2 HB2 K2.2;obtain⟨c1,c3⟩:=BC w2 K2.2;have BC:=af BC;have d1:decide (said<jg np count (aB+1))=F_:=by simp;omega
  have C1:Hid (Calls P_ 24 #[g_ #[p_ (S_ ⟨d.lb,k*5,N_⟩),p_ (S_ ⟨d.bb,0,N_⟩),i_ l_ k],i_ l_ count,i_ l_ aB] w2.drew fun e w3=>e=r_ (i_ l_ (jg np count (aB+1)))∧Hid (Mv w HH w3 (XX++(HL++HB2)))∧w3.cell? ⟨B,0,N_⟩=S_ (p_ (S_ ⟨d.lb,k*5,N_⟩))∧w3.cell? ⟨W.heap.size+4,0,N_⟩=S_ (b_ F_)∧w3.frozen? ⟨W.heap.size+4,0,N_⟩=F_∧w3.cell? ⟨d.lb,k*5+3,N_⟩=S_ (i_ l_ said)∧w3.cell? ⟨W.heap.size+1,0,N_⟩=S_ (i_ l_ count)∧w3.cell? ⟨W.heap.size+2,0,N_⟩=S_ (i_ l_ aB)):=af (by refine(MP ⟨d,k⟩ count aB w2.drew A' np cp c1 (by simp;omega) (by omega) ⟨by omega,by omega⟩ ⟨by omega,by omega⟩).mono ?_;rintro e w3 ⟨rfl,m3⟩;have m4:=Mv.call (H:=[]) (H':=[]) (Mv.drew K2.2) m3;obtain⟨a0,a1,a2,a3,a4,a5,a6⟩:=BX w3 HB2 m4;exact⟨rfl,af m4,a0,a5,a6,(BC w3 m4).2,a3,a4⟩);have hmx:Tryz.prog.follows .mixedOrders=T_:=by kernel_rfl
  obtain⟨C,hC⟩:∃C:World→Prop,C=fun w'=>Hid (Mv w HH w' (XX++(HL++HB2))):=⟨_,rfl⟩;have CF:∀w',C w'→w'.cell? ⟨B,0,N_⟩=S_ (p_ (S_ ⟨d.lb,k*5,N_⟩))∧w'.cell? ⟨B,1,N_⟩=S_ (p_ (S_ ⟨d.bb,0,N_⟩))∧w'.cell? ⟨B,2,N_⟩=S_ (i_ l_ k)∧w'.cell? ⟨W.heap.size+4,0,N_⟩=S_ (b_ F_)∧w'.frozen? ⟨W.heap.size+4,0,N_⟩=F_∧w'.cell? ⟨d.lb,k*5+3,N_⟩=S_ (i_ l_ said)∧w'.cell? ⟨W.heap.size+1,0,N_⟩=S_ (i_ l_ count)∧w'.cell? ⟨W.heap.size+2,0,N_⟩=S_ (i_ l_ aB):=by intro w' h;rw[hC]at h;obtain⟨a0,a1,a2,a3,a4,a5,a6⟩:=BX w' HB2 h.out;exact⟨a0,a1,a2,a5,a6,(BC w' h.out).2,a3,a4⟩
  have CK:∀w',C w'→Calls P_ 24 #[g_ #[p_ (S_ ⟨d.lb,k*5,N_⟩),p_ (S_ ⟨d.bb,0,N_⟩),i_ l_ k],i_ l_ count,i_ l_ aB] w' fun e w3=>e=r_ (i_ l_ (jg np count (aB+1)))∧C w3:=by intro w' h;rw[hC]at h⊢;refine(MP ⟨d,k⟩ count aB w' A' np cp (BC w' h.out).1 (by simp;omega) (by omega) ⟨by omega,by omega⟩ ⟨by omega,by omega⟩).mono ?_;rintro e w3 ⟨rfl,m3⟩;exact⟨rfl,af (Mv.call (H:=[]) (H':=[]) h.out m3)⟩
  have CD:C w2.drew:=by rw[hC];exact af (Mv.drew K2.2)
  replace CF:=af CF;replace CK:=af CK;have HC:=af hC;clear hC;clear xu hsd b0 b1 b2 b3 b4 b5 b6 c1 c3 C1;refine LZ 13 C hmx (by kernel_rfl) (fun⟨a,w,h⟩=>LP ⟨a,w,h⟩) CD (by kernel_rfl) ?_;simp only[List.take_succ_cons,List.take_zero,iE,iW];iterate 13 (first|((with_reducible refine Iz ?_ ?_);(next=>(go_simp;done));(try simp only[Act.put,bf,List.set_cons_zero,List.set_cons_succ]))|((with_reducible refine Md ?_ ?_ (fun w' hw'=>?_) ?_);rotate_left;(next=>(go_simp;done));(next=>(first|(refine Ak ?_;(obtain⟨a0,a1,a2,a3,a4,a5,a6,a7⟩:=CF w' hw');clear hw';go_simp;done)|(refine Ak ?_;(obtain⟨a0,a1,a2,a3,a4,a5,a6,a7⟩:=CF w' hw');clear hw';go_simp;rfl)|(refine IA (f:=?_) (args:=?_) ?_ ?_;rotate_left 2;(next=>((obtain⟨a0,a1,a2,a3,a4,a5,a6,a7⟩:=CF w' hw');go_simp;constructor<;>rfl));(next=>(exact CK w' hw')))|(refine Iy ?_;(obtain⟨a0,a1,a2,a3,a4,a5,a6,a7⟩:=CF w' hw');clear hw';go_simp;done)));(try simp only[Act.put,bf,List.set_cons_zero,List.set_cons_succ])))
  refine wpQuiet_nil ?_;intro w' hw';obtain⟨a0,a1,a2,a3,a4,a5,a6,a7⟩:=CF w' hw';have m4:Hid (Mv w HH w' (XX++(HL++HB2))):=by rw[HC.out]at hw';exact hw'
  clear hw';go_wp2_with fail;exact FIN _ _ HB2 K2.1 (ST _ HB2 m4.out)
 case done=>
  intro K ys w H hK hy hP hM hd;obtain⟨HB2,rfl,h2⟩:=hP;rw[hy]at h2;have b9:=(Mv.kT hM (x:=⟨W.heap.size+4,4,#[b_ F_]⟩) (cu _ (by simp[zK]))).cell 0;have KD:=dS h2 hd;have KD2:=af h2;have NW:Hid (Calls P_ 25 #[] w fun e w'=>∃wb H',e=r_ (p_ (S_ ⟨wb,0,N_⟩))∧Hid (WrB wb [] H'∧Mv W (HL++HB0) w' (H'++(zK W.heap.size A D.length c ah count aB F_++(HL++HB2)))∧w'.heap[K]?=S_ (.deferred (S_ [])))∧w'.cell? ⟨W.heap.size+4,0,N_⟩=S_ (b_ F_)):=af (by refine(ZP w).mono ?_;rintro e w' ⟨wb,H',rfl,h3,m3⟩;have m4:Mv W (HL++HB0) w' (H'++(zK W.heap.size A D.length c ah count aB F_++(HL++HB2))):=Mv.call (H:=[]) hM m3;exact⟨wb,H',rfl,af ⟨h3,m4,m3.others (Sat.nil _) K _ hd (fun c t f e=>by cases e)⟩,(Mv.kT m4 (x:=⟨W.heap.size+4,4,#[b_ F_]⟩) (aS _ (cu _ (by simp[zK])))).cell 0⟩);clear h2 hd hM;gi_wp2_with (refine⟨trivial,?_⟩;gi_at_call 25;refine(iH.2 NW.out).mono ?_;rintro e w2 ⟨wb,HW,rfl,K2,b8⟩);obtain⟨w3,hw3⟩:=Y_ (w2.alloc (.cells #[p_ (S_ ⟨wb,0,N_⟩)] 70));have hK2:w2.heap[K]?=S_ (.deferred (S_ [])):=K2.2.2;have M3:Mv W (HL++HB0) w3 (⟨w2.heap.size,70,#[p_ (S_ ⟨wb,0,N_⟩)]⟩::(HW++(zK W.heap.size A D.length c ah count aB F_++(HL++HB2)))):=by rw[hw3];exact K2.2.1.alloc _ _
  have hK3:w3.heap[K]?=S_ (.deferred (S_ [])):=by rw[hw3];exact(Below.heap_alloc _ _ _ (jf.1 hK2).1).trans hK2
  have c0:=(Mv.kT M3 aG).cell 0;have c1:w3.cell? ⟨W.heap.size+4,0,N_⟩=S_ (b_ F_):=(Mv.kT M3 (x:=⟨W.heap.size+4,4,#[b_ F_]⟩) (aU _ (aS _ (cu _ (by simp[zK]))))).cell 0;have BI:Hid (Calls P_ 26 #[p_ (S_ ⟨wb,0,N_⟩),i_ l_ 0,i_ l_ 1] w3.drew fun e w4=>e=r_ (t_ #[])∧∃lM,Hid (WrB wb [F_] lM∧Mv W (HL++HB0) w4 (⟨w2.heap.size,70,#[p_ (S_ ⟨wb,0,N_⟩)]⟩::(lM++(zK W.heap.size A D.length c ah count aB F_++(HL++HB2))))∧w4.heap[K]?=S_ (.deferred (S_ [])))∧w4.cell? ⟨w2.heap.size,0,N_⟩=S_ (p_ (S_ ⟨wb,0,N_⟩))∧w4.cell? ⟨W.heap.size+4,0,N_⟩=S_ (b_ F_)):=af (by have m1:Mv W (HL++HB0) w3.drew (HW++(⟨w2.heap.size,70,#[p_ (S_ ⟨wb,0,N_⟩)]⟩::(zK W.heap.size A D.length c ah count aB F_++(HL++HB2)))):=(Mv.drew M3).Z_;refine(afV wb [] 0 1 w3.drew HW K2.1 m1.sat.left (by simp)).mono ?_;rintro e w4 ⟨rfl,lM,h4,m4⟩;have m5:Mv W (HL++HB0) w4 (⟨w2.heap.size,70,#[p_ (S_ ⟨wb,0,N_⟩)]⟩::(lM++(zK W.heap.size A D.length c ah count aB F_++(HL++HB2)))):=(Mv.call m1 m4).Z_;exact⟨rfl,lM,af ⟨h4,m5,m4.others m1.sat.left K _ hK3 (fun c t f e=>by cases e)⟩,(Mv.kT m5 aG).cell 0,(Mv.kT m5 (x:=⟨W.heap.size+4,4,#[b_ F_]⟩) (aU _ (aS _ (cu _ (by simp[zK]))))).cell 0⟩);simp only[←hw3];clear hw3 M3 hK2 hK3 NW KD;have hmx:Tryz.prog.follows .mixedOrders=T_:=by kernel_rfl
  gi_region_with_o (first|(refine⟨trivial,?_⟩;gi_at_call 27;refine(iH.2 (afw F_ _)).mono ?_;rintro e w' ⟨rfl,rfl⟩)|(refine⟨trivial,?_⟩;gi_at_call 26;refine(iH.2 BI.out).mono ?_;rintro e w4 ⟨rfl,lM,K4,d0,d1⟩))
  all_goals
   have BY:Hid (Calls P_ 28 #[p_ (S_ ⟨wb,0,N_⟩)] w4 fun e w5=>∃g c5 H1,e=r_ (s_ g 1 c5)∧Hid (dR (s_ g 1 c5) [0] H1∧Mv W (HL++HB0) w5 (H1++(zK W.heap.size A D.length c ah count aB F_++(HL++HB2)))∧w5.heap[K]?=S_ (.deferred (S_ [])))∧w5.cell? ⟨W.heap.size+3,0,N_⟩=S_ (s_ N_ 0 0)∧w5.frozen? ⟨W.heap.size+3,0,N_⟩=F_):=af (by obtain⟨q1,q2,q3⟩:=K4.out;have m1:Mv W (HL++HB0) w4 (lM++(zK W.heap.size A D.length c ah count aB F_++(HL++HB2))):=q2.drop1;refine(adi wb [F_] w4 lM q1 m1.sat.left (by simp)).mono ?_;rintro e w5 ⟨v',Hn,rfl,h5,m5⟩;have h6:dR v' [0] Hn:=h5;obtain⟨g,c5,rfl⟩:=h6.slice;have m6:Mv W (HL++HB0) w5 (Hn++(zK W.heap.size A D.length c ah count aB F_++(HL++HB2))):=(Mv.call m1 m5).Z_;have m7:=Mv.kT m6 (x:=⟨W.heap.size+3,30,#[s_ N_ 0 0]⟩) (aS _ (cu _ (by simp[zK])));exact⟨g,c5,Hn,rfl,af ⟨h6,m6,m5.others m1.sat.left K _ q3 (fun c t f e=>by cases e)⟩,m7.cell 0,m7.frozen 0⟩);gi_wp2_with (refine⟨trivial,?_⟩;gi_at_call 28;refine(iH.2 BY.out).mono ?_;rintro e w5 ⟨g5,c5,H1,rfl,K5,e0,e1⟩);have hk:(w5.setCell ⟨W.heap.size+1+1+1,0,N_⟩ (s_ N_ 0 0)).heap[K]?=S_ (.deferred (S_ [])):=(KeepsOthers.setCell w5 ⟨W.heap.size+3,0,N_⟩ _).same K _ K5.2.2 rfl;have m8:Mv W (HL++HB0) (w5.setCell ⟨W.heap.size+1+1+1,0,N_⟩ (s_ N_ 0 0)) (H1++(zK W.heap.size A D.length c ah count aB F_++(HL++HB2))):=by
    have m9:=K5.2.1;have e9:H1++(zK W.heap.size A D.length c ah count aB F_++(HL++HB2))=(H1++[⟨W.heap.size+5,26,#[s_ A D.length c]⟩,⟨W.heap.size+4,4,#[b_ F_]⟩])++⟨W.heap.size+3,30,#[s_ N_ 0 0]⟩::([⟨W.heap.size+2,3,#[i_ l_ aB]⟩,⟨W.heap.size+1,3,#[i_ l_ count]⟩,⟨W.heap.size,3,#[i_ l_ ah]⟩]++(HL++HB2)):=by simp[zK]
    rw[e9]at m9⊢;exact Mv.setAt m9 0 (s_ N_ 0 0)
   have m10:=m8.putObj (.deferred N_) hK hk rfl;refine⟨by simp,.inl ⟨_,_,rfl,run_takeDeferred hk,?_⟩⟩;refine⟨_,Xr _ _ _ (W.heap.size+3) rfl rfl (Mv.kT m10 (x:=⟨W.heap.size+3,30,#[s_ N_ 0 0]⟩) (aS _ (cu _ (by simp[zK])))),_,H1,HB2,rfl,K5.1,KD2.out,?_⟩;exact m10.Z_
 case stop=>intro K pre w H _ _ h;exact h.elim
end
section
open Go.RowKit
def lV:gu:=⟨⟨0,[],[],0,3⟩,s_ N_ 0 0,s_ N_ 0 0,[],[]⟩
theorem ad2:lV.ok:=⟨dh.nil _ _,dh.nil _ _,⟨by simp[lV],by simp[lV],by simp[lV],by simp[lV],by simp[lV],by simp[lV]⟩⟩
theorem ajq:(Tryz.prog.info? 69).map (fun i=>(i.zero,i.size,i.bytes))=S_ (S_ (g_ #[i_ l_ 0,s_ N_ 0 0,s_ N_ 0 0,i_ l_ 0,i_ l_ 0]),5,72):=by kernel_rfl
def st0:gu:=⟨⟨0,[],[],0,0⟩,s_ N_ 0 0,s_ N_ 0 0,[],[]⟩
def vH(w h:Nat)(aH:Int):aT:=⟨w,h,aH,jr w h,jr w h,F_,List.replicate (w*h) lV.m⟩
def zW(n j:Nat):List gu:=List.replicate j lV++List.replicate (n-j) st0
theorem Rz(n j:Nat)(h:j<n):(zW n j)[j]?=S_ st0:=by unfold zW;rw[aZ (by simp),ja,iI,jH,aK (by omega)]
theorem aa5(n j:Nat)(h:j<n):(zW n j).set j lV=zW n (j+1):=by unfold zW;apply fU;intro i;simp only[fQ,au,ja,List.getElem?_append,jH];grind
theorem Yo(n j:Nat)(h:j<n):((zW n j).flatMap gu.v).set (j*5+4) (i_ l_ 3)=(zW n (j+1)).flatMap gu.v:=by rw[←aa5 n j h];exact jh gu.v 5 gu.jw _ _ st0 lV (Rz n j h) 4 (by omega) _ rfl
theorem Yp(n:Nat):(List.replicate n (Value.agg #[i_ l_ 0,s_ N_ 0 0,s_ N_ 0 0,i_ l_ 0,i_ l_ 0]).cells.toList).flatten=(zW n 0).flatMap gu.v:=by
 unfold zW;simp only[List.replicate_zero,List.nil_append,Nat.sub_zero]
 induction n with
 |zero=>rfl
 |succ n ih=>rw[List.replicate_succ,List.replicate_succ,List.flatten_cons,dE,ih];rfl
theorem XO(x y:Nat)(aH:Int)(W:World)(hx:x≤64)(hy:y≤64)(hp: -1000≤aH∧aH≤1000):Calls P_ 15 #[i_ l_ x,i_ l_ y,i_ l_ aH] W fun e W'=>∃d H,e=r_ (p_ (S_ ⟨d.bb,0,N_⟩))∧d.n=x*y∧sH d (vH x y aH) H∧Mv W [] W' H:=by
 have T1:=af (adN x y);obtain⟨n,hn⟩:=X_ (x*y);have hn4:n≤4096:=by rw[←hn];exact bZ hx hy
 have hmul:(x:Int)*y=n:=by rw[←hn];push_cast;rfl
 obtain⟨i0,hi,hz0,hz1,hz2⟩:=qJ ajq;have MK:∀V:World,(Instr.makeSlice 114 (i_ l_ ((x:Int)*y)) (i_ l_ ((x:Int)*y))).run P_ V=.ok (s_ (S_ ⟨V.heap.size,0,N_⟩) n n) (V.alloc (.cells ((zW n 0).flatMap gu.v).toArray 69)):=by intro V;rw[hmul,←Yp];exact Ec _ _ i0 _ 5 72 n Tryz.underlying114 hi hz0 hz1 hz2 rfl (by omega) (by omega) (by omega) V
 have ub:(x:Int)*y≤4096:=by rw[hmul];omega
 have lb:0≤(x:Int)*y:=by rw[hmul];omega
 have HN:=dS hn hmul;clear hn hmul hi hz0 hz1 hz2;have b1:decide ((x:Int)<0)=F_:=by simp
 have b2:decide ((y:Int)<0)=F_:=by simp
 have b3:decide (64<(x:Int))=F_:=by simp;omega
 have b4:decide (64<(y:Int))=F_:=by simp;omega
 go_enter Tryz.func15,Tryz.ntmps15;go_upto_region 4 with(go_at_call 50;refine(T1.out _).mono ?_;rintro e w2 ⟨tb,P,H,rfl,q1,q2,q3⟩;have KT:=nY q1 q2 q3;clear q1 q2 q3);rename_i w1 t1 P1 H1 KT1 kk1 kk2;have M2:Mv W [] w2 (H++H1):=Mv.call (H:=[]) (R:=H1) KT1.2.2 KT.2.2;obtain⟨w3,hw3⟩:=Y_ (w2.alloc (.cells #[s_ N_ 0 0,i_ l_ aH,p_ (S_ ⟨t1,0,N_⟩),p_ (S_ ⟨tb,0,N_⟩),b_ F_] 118));have M3:Mv W [] w3 (⟨w2.heap.size,118,#[s_ N_ 0 0,i_ l_ aH,p_ (S_ ⟨t1,0,N_⟩),p_ (S_ ⟨tb,0,N_⟩),b_ F_]⟩::(H++H1)):=by rw[hw3];exact M2.alloc _ _
 have M4:=M3.alloc 69 ((zW n 0).flatMap gu.v).toArray;have c0:=(Mv.kT M4 (aU _ aG)).cell 0;have f0:=(Mv.kT M4 (aU _ aG)).frozen 0;have M5:=Mv.setAt (A:=[_]) M4 0 (s_ (S_ ⟨w3.heap.size,0,N_⟩) n n);simp only[←hw3];have K5:=af M5;clear hw3 M2 M3 M4 M5;go_wp2_with fail;obtain⟨lb,hlb⟩:=X_ (w3.heap.size);obtain⟨bb,hbb⟩:=X_ (w2.heap.size);rw[hlb,hbb]at K5;simp only[hlb,hbb];obtain⟨BB,hBB⟩:∃BB:HB,BB=⟨bb,118,#[s_ (S_ ⟨lb,0,N_⟩) n n,i_ l_ aH,p_ (S_ ⟨t1,0,N_⟩),p_ (S_ ⟨tb,0,N_⟩),b_ F_]⟩:=⟨_,rfl⟩;have K6:Hid (Mv W [] _ (⟨lb,69,((zW n 0).flatMap gu.v).toArray⟩::BB::(H++H1))):=af (by rw[hBB];exact K5.out);have FX:Hid (∀wx j,j<n→Mv W [] wx (⟨lb,69,((zW n j).flatMap gu.v).toArray⟩::BB::(H++H1))→wx.cell? ⟨bb,0,N_⟩=S_ (s_ (S_ ⟨lb,0,N_⟩) n n)∧wx.cell? ⟨lb,j*5+4,N_⟩=S_ (i_ l_ 0)∧wx.frozen? ⟨lb,j*5+4,N_⟩=F_∧Hid (Mv W [] (wx.setCell ⟨lb,j*5+4,N_⟩ (i_ l_ 3)) (⟨lb,69,((zW n (j+1)).flatMap gu.v).toArray⟩::BB::(H++H1)))):=af (by intro wx j hj m;have a1:=Mv.kT m (x:=BB) (aU _ aG);rw[hBB]at a1;have a2:=uZ (Mv.kT m aG) (Rz n j hj);have m2:=m.set (j*5+4) (i_ l_ 3);rw[←Yo n j hj];refine⟨a1.cell 0,a2.2.2.2.2.1,a2.2.2.2.2.2 _,af ?_⟩;simpa using m2);clear K5 c0 f0;go_loopg [46] n (fun m mF wx=>∃j:Nat,j≤n∧m=n-j∧mF=i_ l_ j∧Mv W [] wx (⟨lb,69,((zW n j).flatMap gu.v).toArray⟩::BB::(H++H1)))
 case atStart=>exact⟨0,by omega,rfl,rfl,K6.out⟩
 case round=>
  obtain⟨j,hj,rfl,rfl,m⟩:=hrel;have KM:=af m;clear m;by_cases hlt:j<n
  ·have d1:decide ((j:Int)<n)=T_:=by simp;omega
   obtain⟨e1,e2,e3,e4⟩:=FX wr j hlt KM.out;go_wp2_with fail
   all_goals
    go_roundg (n-(j+1))
    case measure=>omega
    case rel=>exact⟨j+1,by omega,rfl,by push_cast;rfl,e4.out⟩
  ·have d1:decide ((j:Int)<n)=F_:=by simp;omega
   go_wp2_with fail;obtain rfl:j=n:=by omega
   have e1:zW j j=List.replicate j lV:=by simp[zW]
   have m:=KM.out;rw[e1,hBB]at m;go_ret;refine⟨⟨bb,lb,j⟩,_,rfl,HN.1.symm,⟨⟨t1,tb,P1,P,H1,H,List.replicate j lV,aH,F_,x,y⟩,?_,?_,rfl⟩,?_⟩
   ·simp only[di.model,vH,KT.1,KT1.1,List.map_replicate,HN.1]
   ·exact⟨KT1.2.1,KT.2.1,OH _ _ _ hx hy KT1.1,OH _ _ _ hx hy KT.1,fun s hs=>by rw[jC hs];exact ad2,by simp,HN.1.symm,hp,hx,hy⟩
   ·have e2:(List.replicate j lV).flatMap gu.heap=[]:=by
     induction j with
     |zero=>rfl
     |succ j ih=>simp[gu.heap,lV]
    refine m.sub (fun g=>?_) (fun c hc=>?_)
    ·simp only[di.heap,jU,jY,e2,aP,bK,gI];omega
    ·simp only[di.heap,jU,jY,e2,ay,aC,bP,gQ]at hc⊢;grind
theorem Rh{P:Program}{fn:Func}{p q r:Tmp}{tp tq tr:TypeId}(h:fn.results=#[.cell p tp,.cell q tq,.cell r tr])(tmps:Array Value)(w:World):(results fn tmps).run P w=((asAddr (tmps.getD p undef)).run P w).andThen fun a w₁=>((loadVar tp a).run P w₁).andThen fun u w₂=>((asAddr (tmps.getD q undef)).run P w₂).andThen fun b w₃=>((loadVar tq b).run P w₃).andThen fun v w₄=>((asAddr (tmps.getD r undef)).run P w₄).andThen fun c w₅=>((loadVar tr c).run P w₅).andThen fun x w₆=>.ok (t_ #[u,v,x]) w₆:=by simp only[results,h];simp[rQ,Result.andThen]
theorem NG(A:Option Addr)(n c:Nat)(w:World):Calls P_ 40 #[s_ A n c,b_ F_] w fun e w'=>e=r_ (t_ #[i_ l_ 0,i_ l_ 0])∧w'=w:=by go_enter Tryz.func40,Tryz.ntmps40;go_wp2_with fail;go_ret2;exact⟨rfl,rfl⟩
theorem ae9:(Tryz.prog.info? 142).map (fun i=>(i.zero,i.size,i.bytes))=S_ (S_ (g_ #[i_ l_ 0,b_ F_]),2,16):=by kernel_rfl
def vM(v:Value)(l:List (Int×Bool))(H:List HB):Prop:=dh 142 2 v l.length (jd l) H
def PV(w:World)(v:Value)(l:List (Int×Bool)):Prop:=∃A c,v=s_ A l.length c∧l.length≤c∧c≤maxLen∧Reads w w.heap.size 2 A l.length (jd l)
theorem vG(a b:List (Int×Bool)):jd (a++b)=jd a++jd b:=by simp[jd]
theorem Aa(l:List (Int×Bool)):∀u:Value,u∈jd l→u.oneCell'=T_:=by intro u hu;simp only[jd,Nz,iw,aC,bP,gQ]at hu;obtain⟨p,-,rfl|rfl⟩:=hu<;>rfl
theorem vM.slice{v:Value}{l:List (Int×Bool)}{H:List HB}(h:vM v l H):∃a c,v=s_ a l.length c:=dh.slice h
theorem PV.keep{w w':World}{v:Value}{l:List (Int×Bool)}(h:PV w v l)(hb:Below w.heap.size w w'):PV w' v l:=by obtain⟨A,c,h1,h2,h3,h4⟩:=h;exact⟨A,c,h1,h2,h3,(h4.below hb).more hb.size⟩
theorem vM.pv{w:World}{v:Value}{l:List (Int×Bool)}{H:List HB}(h:vM v l H)(hs:Sat w H):PV w v l:=by
 have ho:=dh.owns h hs (B:=0) (fun _ _=>aY _);rcases h.2 with⟨rfl,h2,h3⟩|⟨g,cap,cur,rfl,h1,h2,-⟩
 ·exact⟨N_,0,by rw[h2],by omega,by unfold maxLen;omega,Reads.zD (by rw[h2]at ho⊢;exact ho)⟩
 ·exact⟨_,cap,rfl,h1,h2,Reads.zD ho⟩
theorem aef{w:World}{v u:Value}{l r:List (Int×Bool)}{H:List HB}(h:vM v l H)(hs:Sat w H)(hu:PV w u r)(hl:l.length+r.length≤100000000)(ty:TypeId): ∃v' w' H',(Builtin.append_ #[56,56] ty #[v,u]).run P_ w=.ok v' w'∧vM v' (l++r) H'∧Mv w H w' H':=by obtain⟨A,c,rfl,h1,h2,h3⟩:=hu;obtain⟨i0,hti,hz0,hz1,hz2⟩:=qJ ae9;obtain⟨v',w',hrun,k1,k2,k3⟩:=tZ (P:=P_) w 0 56 ty 142 i0 _ 2 16 Tryz.underlying56 hti hz0 hz1 hz2 rfl (by decide) v l.length (jd l) (dh.owns h hs (fun _ _=>aY _)) w.heap.size A r.length c (jd r) h3 (Aa r) (by unfold maxLen;omega) (by omega) (aY _);obtain⟨H',k4,k5⟩:=uM h k1 k2 k3;refine⟨v',w',H',hrun,?_,k5⟩;unfold vM;rw[au,vG];exact k4
section
variable{ops:Array Oper}{rest:List Oper}{o:Oper}{a:Act}{w:World}{K:Act→World→Prop}{Q:Exit→Act→World→Prop}{E:Prop}
theorem H!(s x:Operand)(ho:o.op=.call {callee:=.builtin .append,args:=#[s,x],argTypes:=#[56,56]})(v u:Value)(l r:List (Int×Bool))(H:List HB)
 (hsv:a.eval s=v) (hxu:a.eval x=u) (h:vM v l H) (hs:Sat w H) (hu:PV w u r) (hl:l.length+r.length≤100000000)
 (hK:∀v' w' H',vM v' (l++r) H'→Mv w H w' H'→K (a.put o.dst v') w'):o.wp P_ a w K Q:=by
 obtain⟨v',w',H',hrun,h1,h2⟩:=aef h hs hu hl o.type;unfold Oper.wp execOp;simp only[ho,resolve,invoke,builtin,rQ,Sem.run_pure,Result.andThen_ok,tN,bJ,gW,hsv,hxu,hrun];exact hK v' w' H' h1 h2
theorem Vt(hgd:o.guard=N_)(s x:Operand)(ho:o.op=.call {callee:=.builtin .append,args:=#[s,x],argTypes:=#[56,56]})(v u:Value)(l r:List (Int×Bool))(H:List HB)
 (hsv:a.eval s=v) (hxu:a.eval x=u) (h:vM v l H) (hs:Sat w H) (hu:PV w u r) (hl:l.length+r.length≤100000000)
 (hK:∀v' w' H',vM v' (l++r) H'→Mv w H w' H'→wpList P_ ops Q rest (a.put o.dst v') w'):wpList P_ ops Q (o::rest) a w:=
 wpList_plain hgd fun _ hk=>H! s x ho v u l r H hsv hxu h hs hu hl fun v' w' H' h1 h2=>hk _ _ (hK v' w' H' h1 h2)
end
theorem Ψ(v:Value)(l:List (Int×Bool))(w:World)(hv:PV w v l)(hn:l.length≤1000000):Calls P_ 105 #[v] w fun e w'=>∃v' H',e=r_ v'∧vM v' l H'∧Mv w [] w' H':=by
 obtain⟨A,c,rfl,h1,h2,hr⟩:=hv;have HV:=af hr;have hq:∀W,(binOp .eql 56 (s_ A l.length c) (s_ N_ 0 0)).run P_ W=.ok (b_ A.isNone) W:=fun W=>Lib.run_eql_slice_nil W 56 142 A l.length c 0 0 Tryz.underlying56;rcases A with _|ad
 ·have h0:l.length=0:=by
   rcases iZ l.length with h|h
   ·exact h
   ·obtain⟨_,h,_⟩:=hr.2 (by omega);cases h
  have hl:l=[]:=dN h0;subst hl;clear hr HV hn h1 h0;simp only[List.length_nil]at hq⊢;go_enter Tryz.func105,Tryz.ntmps105;go_wp2;go_ret;exact⟨_,[],rfl,dh.nil _ _,Mv.refl (Sat.nil w)⟩
 ·have M0:=iF w 142 #[];have B0:PV (w.alloc (.cells #[] 142)) (s_ (S_ ad) l.length c) l:=⟨S_ ad,c,rfl,h1,h2,(hr.alloc (aN _) _).more (by simp)⟩;have R0:vM (s_ (S_ ⟨w.heap.size,0,N_⟩) 0 0) [] [⟨w.heap.size,142,#[]⟩]:=dh.new 142 w.heap.size 0 #[] (by simp) (by decide);have K:=nY M0 B0 R0;obtain⟨n,hnn⟩:=X_ (l.length);have HN:=af hnn;rw[hnn]at hq hn h1 K;rw[hnn];clear hr HV M0 B0 R0 hnn;go_enter Tryz.func105,Tryz.ntmps105;go_wp2_with (at_builtin;go_must (refine Vt rfl (.tmp 5) (.tmp 6) rfl _ _ [] l _ rfl rfl K.2.2 K.1.sat K.2.1 (by rw[HN.out];simp;omega) ?_;intro v' w1 H1 hr1 m1;obtain⟨a1,c1,rfl⟩:=hr1.slice;have K1:=dS hr1 m1;clear hr1 m1));go_ret;exact⟨_,H1,rfl,by simpa using K1.1,K.1.trans K1.2⟩
theorem aae(pl:Int)(vp vb:Value)(ps:List (Int×Bool))(bs:List UInt8)(w:World)(hp:PV w vp ps)(hb:BV w vb bs)(hn:ps.length≤1000000)(hm:bs.length≤100000000):Calls P_ 67 #[g_ #[i_ l_ pl,vp,vb]] w fun e w'=>∃Ij DZ Hp Hb,e=r_ (g_ #[i_ l_ pl,Ij,DZ])∧vM Ij ps Hp∧dR DZ bs Hb∧Mv w [] w' (Hp++Hb):=by
 have M1:=((Mv.refl (Sat.nil w)).alloc 58 #[i_ l_ pl,vp,vb]).alloc 58 #[i_ l_ 0,s_ N_ 0 0,s_ N_ 0 0];obtain⟨w1,hw1⟩:=Y_ ((w.alloc (.cells #[i_ l_ pl,vp,vb] 58)).alloc (.cells #[i_ l_ 0,s_ N_ 0 0,s_ N_ 0 0] 58));rw[←hw1]at M1;have hsz:(w.alloc (.cells #[i_ l_ pl,vp,vb] 58)).heap.size=w.heap.size+1:=by simp
 rw[hsz]at M1;have BX:zh w1 w.heap.size 58 #[i_ l_ pl,vp,vb]:=Mv.kT M1 (x:=⟨w.heap.size,58,#[i_ l_ pl,vp,vb]⟩) (aU _ aG);have F:Hid (∀w' H,Mv w1.drew [] w' H→(w'.cell? ⟨w.heap.size,0,N_⟩=S_ (i_ l_ pl)∧w'.cell? ⟨w.heap.size,1,N_⟩=S_ vp∧w'.cell? ⟨w.heap.size,2,N_⟩=S_ vb)∧PV w' vp ps∧BV w' vb bs):=af (by intro w' H m;have hB:Below w1.heap.size w1 w':=⟨m.only.os,m.only.tape,m.only.output,m.only.size,m.tC.block⟩;have hB0:Below w.heap.size w w':=(Mv.tC M1).trans (hB.mono M1.only.size);have b1:=BX.below hB BX.lt;exact⟨⟨b1.cell 0,b1.cell 1,b1.cell 2⟩,hp.keep hB0,hb.keep hB0⟩);have BY:zh w1 (w.heap.size+1) 58 #[i_ l_ 0,s_ N_ 0 0,s_ N_ 0 0]:=Mv.kT M1 (x:=⟨w.heap.size+1,58,#[i_ l_ 0,s_ N_ 0 0,s_ N_ 0 0]⟩) aG;have FY:Hid (∀w' H,Mv w1.drew [] w' H→zh w' (w.heap.size+1) 58 #[i_ l_ 0,s_ N_ 0 0,s_ N_ 0 0]):=af (by intro w' H m;have hB:Below w1.heap.size w1 w':=⟨m.only.os,m.only.tape,m.only.output,m.only.size,m.tC.block⟩;exact BY.below hB BY.lt);clear BX BY;obtain⟨A,c,rfl,-⟩:=hp;obtain⟨B,d,rfl,-⟩:=hb;obtain⟨np,xu⟩:=X_ (ps.length);obtain⟨nb,hnb⟩:=X_ (bs.length);rw[xu]at F hn M1 hw1⊢;rw[hnb]at F hm M1 hw1⊢;have HN:=dS xu hnb;have KM:=af M1;clear xu hnb M1;go_enter Tryz.func67,Tryz.ntmps67;go_upto_region 1 with fail;rw[←hw1];have CP:=af fun W (h:PV W (s_ A np c) ps)=>Ψ _ ps W h (by rw[HN.1];exact hn);have CB:=af fun W (h:BV W (s_ B nb d) bs)=>clone_any _ bs W h (by rw[HN.2];exact hm);clear hw1;have F0:=(F w1.drew [] (Mv.refl (Sat.nil _))).1;go_region_held3 (fun w'=>w'.cell? ⟨w.heap.size,0,N_⟩=S_ (i_ l_ pl)∧w'.cell? ⟨w.heap.size,1,N_⟩=S_ (s_ A np c)∧w'.cell? ⟨w.heap.size,2,N_⟩=S_ (s_ B nb d))
  (first|(with_reducible exact F0)|(with_reducible exact F1)|(with_reducible exact F2)|(exact⟨(iD _ _ _ _ (by simp)).trans ((iD _ _ _ _ (by simp)).trans ((iD _ _ _ _ (by simp)).trans F2.1)),(iD _ _ _ _ (by simp)).trans ((iD _ _ _ _ (by simp)).trans ((iD _ _ _ _ (by simp)).trans F2.2.1)),(iD _ _ _ _ (by simp)).trans ((iD _ _ _ _ (by simp)).trans ((iD _ _ _ _ (by simp)).trans F2.2.2))⟩))
  (first|(go_at_call 105;refine(CP.out _ (F.out _ _ (Mv.refl (Sat.nil _))).2.1).mono ?_;rintro e w2 ⟨Ij,Hp,rfl,r1,m1⟩;obtain⟨a1,c1,rfl⟩:=r1.slice;have F1:=(F.out w2 _ m1).1;have K1:=dS r1 m1;clear r1 m1)|(go_at_call 31;refine(CB.out _ (F.out _ _ K1.out.2).2.2).mono ?_;rintro e w3 ⟨DZ,Hb,rfl,r2,m2⟩;obtain⟨a2,c2,rfl⟩:=dh.slice r2;have K2:=dS r2 m2;have F2:=(F.out w3 _ (Mv.call (H:=[]) K1.out.2 m2)).1;have Y3:=FY.out w3 _ (Mv.call (H:=[]) K1.out.2 m2);have y0:=Y3.cell 0;have y1:=Y3.cell 1;have y2:=Y3.cell 2;have z0:=Y3.frozen 0;have z1:=Y3.frozen 1;have z2:=Y3.frozen 2;have KY:=af Y3;clear r2 m2 Y3))
 go_wp2_with fail;rw[HN.1,HN.2];have M3a:Mv w [] w2 (Hp++[_,_]):=Mv.call (H:=[]) (R:=[_,_]) KM.drew K1.2;have M3b:Mv w [] w3 (Hb++(Hp++[_,_])):=Mv.call (H:=[]) (R:=Hp++[_,_]) M3a K2.2;have M3:Mv w [] w3 (⟨w.heap.size+1,58,#[i_ l_ 0,s_ N_ 0 0,s_ N_ 0 0]⟩::(Hp++Hb)):=M3b.Z_;have M4:=((M3.set 0 (i_ l_ pl)).set 1 (s_ a1 ps.length c1)).set 2 (s_ a2 bs.length c2);rw[HN.1,HN.2]at M4;refine dU (v:=g_ #[i_ l_ pl,s_ a1 np c1,s_ a2 nb c2]) (iT Tryz.results67 _ _ (w.heap.size+1) 58 _ (0,0) _ rfl (Mv.kT M4 aG) Tryz.underlying58 rfl (by kernel_rfl)) rfl ?_;have k1:=K1.1;have k2:=K2.1;rw[HN.1]at k1;rw[HN.2]at k2;exact⟨_,_,Hp,Hb,rfl,k1,k2,M4.drop1⟩
theorem QJ{α:Type}(f:α→List HB){l:List α}{x:α}(h:x∈l)(g:Nat):cnt g (f x)≤cnt g (l.flatMap f):=by
 induction l with
 |nil=>cases h
 |cons y l ih=>
  rw[dE,aP];rcases aC.1 h with rfl|h
  ·omega
  ·have:=ih h;omega
def OV:og:=⟨0,[],[],0,3⟩
def xZ(m:aT)(k:Int):og:=if k<0∨(m.ss.length:Int)≤k then OV else m.ss.getD k.toNat OV
theorem gu.sat{b:di}{d:bu}{w:World}(hs:Sat w (b.heap d)){s:gu}(h:s∈b.G):Sat w s.Hp∧Sat w s.Hb:=by
 have h1:Sat w (s.heap):=by
  refine hs.sub (fun g=>?_) (fun c hc=>?_)
  ·have:=QJ gu.heap h g;simp only[di.heap,bK,aP];omega
  ·have:c∈b.G.flatMap gu.heap:=iw.2 ⟨s,h,hc⟩;simp only[di.heap,aC,ay];exact .inr (.inr (.inr (.inr this)))
 exact⟨h1.left,h1.right⟩
theorem adm(d:bu)(m:aT)(H:List HB)(W:World)(hB:sH d m H)(hs:Sat W H)(k:Int):Calls P_ 48 #[p_ (S_ ⟨d.bb,0,N_⟩),i_ l_ k] W fun e W'=>∃Ij DZ Hp Hb,e=r_ (g_ #[i_ l_ (xZ m k).pl,Ij,DZ])∧vM Ij (xZ m k).ps Hp∧dR DZ (xZ m k).bs Hb∧Mv W [] W' (Hp++Hb):=by
 obtain⟨b,rfl,hk,rfl⟩:=hB;have hsm:=hk.small;obtain⟨w1,hw1⟩:=Y_ (W.alloc (.cells #[i_ l_ 0,s_ N_ 0 0,s_ N_ 0 0] 58));have M1:=(Mv.refl hs).alloc 58 #[i_ l_ 0,s_ N_ 0 0,s_ N_ 0 0];have MY:=iF W 58 #[i_ l_ 0,s_ N_ 0 0,s_ N_ 0 0];rw[←hw1]at M1 MY;have hbb:=Mv.kT M1 (aU _ (b.sF d));have hst:zh w1 d.lb 69 (b.G.flatMap gu.v).toArray:=Mv.kT M1 (aU _ (b.zH d));have c0:w1.cell? ⟨d.bb,0,N_⟩=S_ (s_ (S_ ⟨d.lb,0,N_⟩) d.n d.n):=hbb.cell 0;have hln:b.model.ss.length=d.n:=by simp only[di.model,aO];exact hk.len
 have GT:=af (Xj d.bb d.lb d.n d.n k w1 c0 (by omega));by_cases hr:k<0∨(d.n:Int)≤k
 ·rw[aK hr]at GT;have e0:xZ b.model k=OV:=by unfold xZ;rw[hln,aK hr]
  rw[e0];have KY:=af MY;have by0:=Mv.kT MY aG;have y0:=by0.cell 0;have y1:=by0.cell 1;have y2:=by0.cell 2;have z:=by0.frozen;clear hr e0 MY M1 hbb hst by0;go_enter Tryz.func48,Tryz.ntmps48;go_upto_region 1 with fail;rw[←hw1];clear hw1;go_wp2_with (go_at_call 66;refine GT.out.mono ?_;rintro e w' ⟨rfl,rfl⟩);have M4:=((KY.out.set 0 (i_ l_ 0)).set 1 (s_ N_ 0 0)).set 2 (s_ N_ 0 0);refine dU (v:=g_ #[i_ l_ 0,s_ N_ 0 0,s_ N_ 0 0]) (iT Tryz.results48 _ _ W.heap.size 58 _ (0,0) _ rfl (Mv.kT M4 aG) Tryz.underlying58 rfl (by kernel_rfl)) rfl ?_;exact⟨_,_,[],[],rfl,dh.nil _ _,dh.nil _ _,M4.drop1⟩
 ·rw[aJ hr]at GT;obtain⟨j,rfl⟩:∃j:Nat,k=(j:Int):=⟨k.toNat,by omega⟩;rw[Int.toNat_natCast]at GT;obtain⟨s,hg⟩:∃s,b.G[j]?=S_ s:=⟨_,ai (by rw[hk.len];omega)⟩;have hmem:=aF hg;have e0:xZ b.model (j:Int)=s.m:=by unfold xZ;rw[hln,aJ hr,Int.toNat_natCast];simp only[di.model,ax,aV,hg,Option.map_some,Option.getD_some]
  rw[e0];have hso:=hk.st s hmem;obtain⟨s1,s2⟩:=gu.sat hs hmem;have hpv:PV w1 s.vp s.m.ps:=(vM.pv hso.1 s1).keep MY.tC;have hbv:BV w1 s.vb s.m.bs:=(dR.bv hso.2.1 s2).keep MY.tC;obtain⟨q0,q1,q2,-,-,-⟩:=uZ hst hg;have OW:=af (aae s.m.pl s.vp s.vb s.m.ps s.m.bs w1 hpv hbv (by have:=hso.2.2.np;omega) (by have:=hso.2.2.nb;omega));have hj:j*5<100000:=by omega
  obtain⟨A,c1,e1,-⟩:=hpv;obtain⟨B,c2,e2,-⟩:=hbv;obtain⟨n1,hn1⟩:=X_ (s.m.ps.length);obtain⟨n2,hn2⟩:=X_ (s.m.bs.length);rw[e1,hn1]at q1;rw[e2,hn2]at q2;rw[e1,e2,hn1,hn2]at OW;have KY:=af MY;clear hr e0 MY M1 hbb hst hso s1 s2 e1 e2 hn1 hn2 hln hs hg hmem;go_enter Tryz.func48,Tryz.ntmps48;go_upto_region 1 with fail;rw[←hw1];clear hw1;go_wp2_with (first|(go_at_call 66;refine GT.out.mono ?_;rintro e w' ⟨rfl,rfl⟩)|(go_at_call 67;refine OW.out.mono ?_;rintro e w3 ⟨Ij,DZ,Hp,Hb,rfl,r1,r2,m3⟩;obtain⟨a3,c3,rfl⟩:=r1.slice;obtain⟨a4,c4,rfl⟩:=dh.slice r2;have M3:Mv W [] w3 ((Hp++Hb)++[_]):=Mv.call (H:=[]) (R:=[_]) KY.out m3;have by0:=Mv.kT M3 (aS _ aG);have y0:=by0.cell 0;have y1:=by0.cell 1;have y2:=by0.cell 2;have z0:=by0.frozen 0;have z1:=by0.frozen 1;have z2:=by0.frozen 2;have K3:=nY r1 r2 M3;clear r1 r2 m3 M3 by0));have M3:Mv W [] w3 (⟨W.heap.size,58,#[i_ l_ 0,s_ N_ 0 0,s_ N_ 0 0]⟩::(Hp++Hb)):=K3.2.2.Z_;have M4:=((M3.set 0 (i_ l_ s.m.pl)).set 1 (s_ a3 s.m.ps.length c3)).set 2 (s_ a4 s.m.bs.length c4);refine dU (v:=g_ #[i_ l_ s.m.pl,s_ a3 s.m.ps.length c3,s_ a4 s.m.bs.length c4]) (iT Tryz.results48 _ _ W.heap.size 58 _ (0,0) _ rfl (Mv.kT M4 aG) Tryz.underlying58 rfl (by kernel_rfl)) rfl ?_;exact⟨_,_,Hp,Hb,rfl,K3.1,K3.2.1,M4.drop1⟩
def Xa(g bb:Nat):HB:=⟨g,43,#[p_ (S_ ⟨bb,0,N_⟩)]⟩
theorem ah2(d:bu)(m:aT)(H0:List HB)(g:Nat)(W:World)(ah aB:Int)(count:Nat)(hB:sH d m H0)(hs:Sat W (Xa g d.bb::H0))(hct:count≤100000)(hly:0≤aB∧aB≤10000)(hno:∀s∈m.ss,jg s.ps.length count (aB+1)≤s.said):Calls P_ 10 #[s_ (S_ ⟨g,0,N_⟩) 1 1,i_ l_ ah,i_ l_ count,i_ l_ aB] W fun e W'=> ∃a c H1 m' H',e=r_ (t_ #[s_ (S_ ⟨a,0,N_⟩) 1 c,s_ N_ 0 0])∧dR (s_ (S_ ⟨a,0,N_⟩) 1 c) [0] H1∧W'.cell? ⟨a,0,N_⟩=S_ (i_ .u8 0)∧1≤c∧sH d m' H'∧m'.ss=m.ss∧Mv W (Xa g d.bb::H0) W' (H1++(Xa g d.bb::H')):=by
 have hL:zn (s_ (S_ ⟨g,0,N_⟩) 1 1) [d] [Xa g d.bb]:=dh.new (size:=1) _ g 1 #[p_ (S_ ⟨d.bb,0,N_⟩)] rfl (by decide);refine(afC (S_ ⟨g,0,N_⟩) 1 [d] (fun _=>m) ah aB count [Xa g d.bb] H0 W (by simp) hL ⟨H0,[],by simp,hB,rfl⟩ hs hct hly (fun d' hd s h=>?_)).mono ?_
 ·exact hno s h
 ·rintro e W' ⟨v,H1,HB',rfl,h1,⟨H2,H3,rfl,h2,rfl⟩,h3⟩;obtain⟨a,c,cur,rfl,hc,-⟩:=dh.form h1 (by decide);have hcell:=(dh.cell h1 h3.sat.left rfl 0 (by decide)).1;refine⟨a,c,H1,_,H2,rfl,h1,by simpa[cellsB]using hcell,hc,h2,uS count _ _ _,?_⟩;simpa using h3
theorem aeL(w h:Nat)(aH:Int)(count:Nat)(aB:Int):∀s∈(vH w h aH).ss,jg s.ps.length count (aB+1)≤s.said:=by intro s hs;rw[jC hs];exact Int.le_of_eq (ZI _ _)
theorem acF(w:World):Calls P_ 6 #[] w fun e w'=>e=r_ (b_ T_)∧Mv w [] w' []:=by have NB:=af (XO 1 1 5 w (by decide) (by decide) (by decide));have NN:=af (aeL 1 1 5 1 0);go_enter Tryz.func6,Tryz.ntmps6;go_wp2_with (first|(go_at_call 15;refine NB.out.mono ?_;rintro e w1 ⟨d,H,rfl,-,hB,m1⟩;have K1:=dS hB m1;clear hB m1)|(go_at_call 10;refine(ah2 d _ H _ _ 0 0 1 K1.out.1 (K1.out.2.alloc _ _).sat (by decide) (by decide) NN.out).mono ?_;rintro e w2 ⟨a,c,H1,m',H',rfl,-,c0,hc,-,-,m2⟩;have M2:=(K1.out.2.alloc _ _).trans m2;have K2:=af M2;clear m2 M2));go_ret;exact⟨rfl,Mv.drop (A:=H1++(_::H')) (H:=[]) (by simpa using K2.out)⟩
end
end Go.Proofs.YtjngfhgakokejaaGreat
