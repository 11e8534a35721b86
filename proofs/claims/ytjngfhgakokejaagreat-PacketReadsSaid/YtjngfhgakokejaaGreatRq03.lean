/- PacketReads: part 3. -/
import Derived.Test.YtjngfhgakokejaaGreatRq02
set_option maxRecDepth 100000
set_option maxHeartbeats 8000000
set_option linter.all false
namespace Go.Proofs.YtjngfhgakokejaaGreat
open Value renaming int→i_,slice→s_,pointer→p_,bool→b_,agg→g_,tuple→t_
open IntKind renaming i64→l_
open Ending renaming returned→r_
open Tryz renaming prog→P_
open Option renaming some→S_,none→N_
open Bool renaming true→T_,false→F_
section
open Go.RowKit
def dM(L:bV):Nat×Nat×Nat:=(L.w,L.h,L.l.length)
theorem Dims.congr{T U:List bV}(h:Dims T)(e:U.map dM=T.map dM):Dims U:=by
 induction T generalizing U with
 |nil=>rw[gW,List.map_eq_nil_iff]at e;subst e;trivial
 |cons L T ih=>
  cases U with
  |nil=>simp at e
  |cons K U=>
   simp only[bJ,iM]at e;obtain⟨e1,e2⟩:=e;simp only[dM,fK]at e1;obtain⟨a1,a2,a3⟩:=e1;cases T with
   |nil=>rw[gW,List.map_eq_nil_iff]at e2;subst e2;obtain⟨b1,b2,b3⟩:=h;exact⟨a1.trans b1,a2.trans b2,by rw[a3,a1,a2];exact b3⟩
   |cons M T=>
    cases U with
    |nil=>simp at e2
    |cons N U=>obtain⟨b1,b2,b3,b4,b5,b6⟩:=h;have e3:=e2;simp only[bJ,iM]at e3;obtain⟨c1,-⟩:=e3;simp only[dM,fK]at c1;exact⟨by omega,by omega,by rw[a3,a1,a2];exact b3,by omega,by omega,ih b6 e2⟩
theorem uJ.congr{P Q:List oq}(h:uJ P)(e:Q.map (fun p=>dM p.2)=P.map (fun p=>dM p.2)):uJ Q:=by refine⟨h.1.congr (by simpa[jc,Function.comp_def]using e),fun q hq=>?_⟩;have hm:dM q.2∈Q.map (fun p=>dM p.2):=bW.2 ⟨q,hq,rfl⟩;rw[e]at hm;obtain⟨p,hp,hs⟩:=bW.1 hm;have:=h.2 p hp;simp only[dM,fK]at hs;omega
def bV.qY(L:bV)(x y:Nat)(z:dY):bV:={L with l:=L.l.set (y*L.w+x) z}
theorem bV.vV(L:bV)(x y:Nat)(z:dY):dM (L.qY x y z)=dM L:=by simp[dM,bV.qY]
def bV.Eb(L:bV)(x y:Nat)(n:Int):bV:=L.qY x y {L.at_ x y with n:=n}
theorem acB(P:List oq)(i:Nat)(p:oq)(L:bV)(hp:P[i]?=S_ p)(hs:dM L=dM p.2):uD (P.set i (p.1,L))=uD P:=by
 induction P generalizing i with
 |nil=>simp at hp
 |cons q P ih=>
  have e:∀(a:oq) (M:List oq),uD (a::M)=IZ a++uD M:=by intro a M;simp[uD]
  cases i with
  |zero=>simp at hp;subst hp;simp only[dM,fK]at hs;rw[List.set_cons_zero,e,e];simp[IZ,hs.1,hs.2.1,hs.2.2]
  |succ i=>rw[List.set_cons_succ,e,e,ih i (by simpa using hp)]
theorem Mv.upd{w0 w w':World}{H0:List HB}{a b b':HB}{X Y Z:List HB}(h:Mv w0 H0 w (a::(X++(Y++b::Z))))(m:Mv w [b] w' [b']):Mv w0 H0 w' (a::(X++(Y++b'::Z))):=by have h1:Mv w0 H0 w ([b]++(a::(X++(Y++Z)))):=h.Z_;have h2:=Mv.call h1 m;exact h2.Z_
theorem JM{tb:Nat}{P:List oq}{H:List HB}{w:World}(h:tH tb P H)(hs:Sat w H){i:Nat}{p:oq}(hp:P[i]?=S_ p)(L:bV)(hL:dM L=dM p.2)(j:Nat)(v:Value)(hv:nC L.l=(nC p.2.l).set j v): ∃H',tH tb (P.set i (p.1,L)) H'∧Mv w H (w.setCell ⟨p.1,j,N_⟩ v) H':=by
 obtain⟨va,Hl,rfl,hr⟩:=h;have hi:=(aj.1 hp).1;have e1:P=P.take i++p::P.drop (i+1):=by have:=aj.1 hp;rw[←this.2];simp
 have e2:P.map CO=(P.take i).map CO++CO p::(P.drop (i+1)).map CO:=by
  conv=>lhs;rw[e1]
  simp
 have e3:(P.set i (p.1,L)).map CO=(P.take i).map CO++CO (p.1,L)::(P.drop (i+1)).map CO:=by rw[List.set_eq_take_append_cons_drop,aK hi];simp
 have m:=Mv.refl hs;rw[e2]at hs m⊢;have hb:zh w p.1 184 (nC p.2.l).toArray:=hs.2 (CO p) (by simp);have m2:=ZU hb j v;have e4:(nC p.2.l).toArray.setIfInBounds j v=(nC L.l).toArray:=by rw[hv];simp
 rw[e4]at m2;refine⟨_,⟨va,Hl,rfl,by rw[fC,acB P i p L hp hL];exact hr⟩,?_⟩;rw[e3];exact Mv.upd m m2
theorem Jq(L:bV)(x y:Nat)(n:Int)(hl:y*L.w+x<L.l.length):nC (L.Eb x y n).l=(nC L.l).set (3*(y*L.w+x)) (i_ l_ n):=by
 have hg:L.l[y*L.w+x]?=S_ (L.at_ x y):=by unfold bV.at_;rw[ax,ai hl];rfl
 have h:=PO L.l _ _ hg {L.at_ x y with n:=n};obtain⟨k1,k2,k3⟩:=Jr _ _ _ hg;show nC (L.l.set _ _)=_;rw[h];simp only;apply fU;intro q;simp only[fQ,fC,I9];by_cases e2:3*(y*L.w+x)+2=q
 ·subst e2;rw[aK rfl,aK (by omega),aJ (by omega),k3]
 ·rw[aJ e2];by_cases e1:3*(y*L.w+x)+1=q
  ·subst e1;rw[aK rfl,aK (by omega),aJ (by omega),k2]
  ·rw[aJ e1]
def setUpP:bV→List oq→Nat→Nat→List oq
 |_,[],_,_=>[]
 |B,p::R,x,y=>(p.1,p.2.Eb (x/2) (y/2) (zI B (x/2) (y/2)))::setUpP (p.2.Eb (x/2) (y/2) (zI B (x/2) (y/2))) R (x/2) (y/2)
def setP(P:List oq)(x y:Nat)(n:Int):List oq:=
 match P with
 | []=>[]
 |p::R=>(p.1,p.2.Eb x y n)::setUpP (p.2.Eb x y n) R x y
theorem Yv(B:bV)(R:List oq)(x y i:Nat)(p:oq)(h:R[i]?=S_ p): ∃B',((i=0∧B'=B)∨(0<i∧∃g,(setUpP B R x y)[i-1]?=S_ (g,B')))∧(setUpP B R x y)[i]?=S_ (p.1,p.2.Eb (x/2^(i+1)) (y/2^(i+1)) (zI B' (x/2^(i+1)) (y/2^(i+1)))):=by
 induction R generalizing B x y i with
 |nil=>simp at h
 |cons q R ih=>
  cases i with
  |zero=>simp at h;subst h;exact⟨B,.inl ⟨rfl,rfl⟩,by simp[setUpP]⟩
  |succ i=>
   obtain⟨B',h1,h2⟩:=ih (q.2.Eb (x/2) (y/2) (zI B (x/2) (y/2))) (x/2) (y/2) i (by simpa using h);refine⟨B',.inr ⟨by omega,?_⟩,?_⟩
   ·rcases h1 with⟨rfl,rfl⟩|⟨h0,g,hg⟩
    ·exact⟨q.1,by simp[setUpP]⟩
    ·refine⟨g,?_⟩;rw[gV];obtain⟨k,rfl⟩:∃k,i=k+1:=⟨i-1,by omega⟩;simpa[setUpP]using hg
   ·have e:∀z:Nat,z/2/2^(i+1)=z/2^(i+1+1):=fun z=>by rw[fE,Nat.pow_succ 2 (i+1),dX (2^(i+1)) 2]
    rw[e,e]at h2;simpa[setUpP]using h2
theorem Ur(B:bV)(R:List oq)(x y:Nat):(setUpP B R x y).map (fun p=>dM p.2)=R.map (fun p=>dM p.2)∧(setUpP B R x y).map (·.1)=R.map (·.1):=by
 induction R generalizing B x y with
 |nil=>exact⟨rfl,rfl⟩
 |cons q R ih=>obtain⟨h1,h2⟩:=ih (q.2.Eb (x/2) (y/2) (zI B (x/2) (y/2))) (x/2) (y/2);simp only[setUpP,bJ,h1,h2,iM,kJ];exact bV.vV _ _ _ _
theorem Ew(P:List oq)(x y:Nat)(n:Int):(setP P x y n).map (fun p=>dM p.2)=P.map (fun p=>dM p.2)∧(setP P x y n).map (·.1)=P.map (·.1):=by
 cases P with
 |nil=>exact⟨rfl,rfl⟩
 |cons q R=>obtain⟨h1,h2⟩:=Ur (q.2.Eb x y n) R x y;simp only[setP,bJ,h1,h2,iM,kJ];exact bV.vV _ _ _ _
theorem VK(P:List oq)(x y:Nat)(n:Int):(setP P x y n).length=P.length:=by have:=fM List.length (Ew P x y n).2;simpa using this
theorem ad7(P:List oq)(x y:Nat)(n:Int)(i:Nat)(p:oq)(h:P[i+1]?=S_ p): ∃g B,(setP P x y n)[i]?=S_ (g,B)∧(setP P x y n)[i+1]?=S_ (p.1,p.2.Eb (x/2^(i+1)) (y/2^(i+1)) (zI B (x/2^(i+1)) (y/2^(i+1)))):=by
 cases P with
 |nil=>simp at h
 |cons q R=>
  obtain⟨B',h1,h2⟩:=Yv (q.2.Eb x y n) R x y i p (by simpa using h);rcases h1 with⟨rfl,rfl⟩|⟨h0,g,hg⟩
  ·exact⟨q.1,q.2.Eb x y n,by simp[setP],by simpa[setP]using h2⟩
  ·obtain⟨k,rfl⟩:∃k,i=k+1:=⟨i-1,by omega⟩;exact⟨g,B',by simpa[setP]using hg,by simpa[setP]using h2⟩
def BJ(P Q:List oq)(i:Nat):List oq:=Q.take i++P.drop i
theorem P5{P Q:List oq}(h:Q.map (fun p=>dM p.2)=P.map (fun p=>dM p.2))(i:Nat):(BJ P Q i).map (fun p=>dM p.2)=P.map (fun p=>dM p.2):=by unfold BJ;rw[bU,List.map_take,List.map_drop,h,iP]
theorem WQ{P Q:List oq}(h:Q.length=P.length)(i:Nat):(BJ P Q i).length=P.length:=by unfold BJ;rw[au,bT,fH,h];omega
theorem aeT{P Q:List oq}(h:Q.length=P.length){i:Nat}(hi:i<P.length):(BJ P Q i)[i]?=P[i]?:=by unfold BJ;rw[aZ (by simp;omega),nZ];congr 1;simp;omega
theorem ZX{P Q:List oq}(h:Q.length=P.length){i:Nat}(hi:i+1≤P.length):(BJ P Q (i+1))[i]?=Q[i]?:=by unfold BJ;rw[df (by simp;omega),iC,aK (by omega)]
theorem Td{P Q:List oq}(h:Q.length=P.length){i:Nat}{z:oq}(hz:Q[i]?=S_ z):(BJ P Q i).set i z=BJ P Q (i+1):=by
 have hi:i<P.length:=by rw[←h];exact(aj.1 hz).1
 unfold BJ;rw[eU,hz];rw[dZ _ _ (by simp;omega)];have e:i-(Q.take i).length=0:=by simp;omega
 have e2:(P.drop i).set 0 z=z::P.drop (i+1):=by rw[fG hi];rfl
 rw[e,e2];simp
theorem aeU{P Q:List oq}(h:Q.length=P.length):BJ P Q P.length=Q:=by unfold BJ;rw[List.drop_length,dD,←h,vP]
theorem acw(P Q:List oq):BJ P Q 0=P:=by simp[BJ]
theorem VI(tb:Nat)(P:List oq)(k:Nat)(n:Int)(p0:oq)(W:World)(H:List HB)(h:tH tb P H)(hs:Sat W H)(hl:P.length≤20)(hd:uJ P)(h0:P[0]?=S_ p0)(hk:k<p0.2.w*p0.2.h):Calls P_ 69 #[p_ (S_ ⟨tb,0,N_⟩),i_ l_ k,i_ l_ n] W fun e W'=>e=r_ (t_ #[])∧∃H',tH tb (setP P (k%p0.2.w) (k/p0.2.w) n) H'∧Mv W H W' H':=by
 have WO:=af (Yb tb P k p0 W H h hs hl hd h0 hk);have hn:0<P.length:=(aj.1 h0).1;have q:=hd.get h0;have hx:k%p0.2.w<p0.2.w:=kP _ (by omega);have hy:k/p0.2.w<p0.2.h:=oz hk;have hmm:p0.2.w*p0.2.h≤4096:=bZ q.2.2.1 q.2.2.2.2;have hkb:k≤4096:=Nat.le_of_lt (eH hk hmm);have hkk:k/p0.2.w*p0.2.w+k%p0.2.w=k:=Nat.div_add_mod' k p0.2.w;have hki:(k:Int)<((p0.2.w*p0.2.h:Nat):Int):=by omega
 have al7:(k:Int)<p0.2.w*p0.2.h:=by exact_mod_cast hk
 have d0:((P.length:Int)==0)=F_:=bF.2 (by omega);have hn0:(0:Int)<P.length:=by omega
 have hw1:(p0.2.w:Int)≠0:=by omega
 have K:=H7_ h hs hd h0 hx hy hkk;have KQ:=dS q h0;clear h hs hd q h0 hk hx hy hkk hmm;go_enter Tryz.func69,Tryz.ntmps69;go_upto_region 1 with(go_at_call 106;refine WO.out.mono ?_;rintro e w1 ⟨v1,H1,rfl,r1,m1⟩;obtain⟨a1,c1,rfl⟩:=r1.slice;have K1:=af m1;clear r1 m1);obtain⟨lg,lc,c0,hc⟩:=Qb (R:=H1) K.1 K1 K.2.2.1 hn;obtain⟨e1,e2,e3⟩:=hc 0 p0 K.2.2.2.1;simp only[Nat.zero_mul,dH]at e1 e2 e3;clear hc WO;go_upto_region 2 with fail;have M2:=(Mv.drop (A:=H1) K1.out).alloc 181 #[i_ l_ p0.2.w,i_ l_ p0.2.h,s_ (S_ ⟨p0.1,0,N_⟩) (p0.2.w*p0.2.h) (p0.2.w*p0.2.h)];obtain⟨bx,hbx⟩:=Y_ (w1.heap.size);obtain⟨w2,hw2⟩:=Y_ (w1.alloc (.cells #[i_ l_ p0.2.w,i_ l_ p0.2.h,s_ (S_ ⟨p0.1,0,N_⟩) (p0.2.w*p0.2.h) (p0.2.w*p0.2.h)] 181));rw[←hw2,←hbx]at M2;simp only[←hw2,←hbx];clear hw2 hbx c0 e1 e2 e3;obtain⟨x,hxx⟩:=X_ (k%p0.2.w);obtain⟨y,hyy⟩:=X_ (k/p0.2.w);have ajs:x≤64:=by rw[←hxx];have:=K.2.2.2.2.1;have:=KQ.1;omega
 have akz:y≤64:=by rw[←hyy];have:=K.2.2.2.2.2.1;have:=KQ.1;omega
 have hxi:(k:Int)%p0.2.w=x:=by rw[←hxx];push_cast;rfl
 have hyi:(k:Int)/(p0.2.w:Int)=y:=by rw[←hyy];push_cast;rfl
 have N2:=Bg (R:=[_]) K.1 M2 K.2.2.1 K.2.2.2.1 K.2.2.2.2.1 K.2.2.2.2.2.1;rw[K.2.2.2.2.2.2,dX 3 k]at N2;have y1:=N2.1;have f1:=N2.2.2.2 (k*3);have b2:w2.cell? ⟨bx,2,N_⟩=S_ (s_ (S_ ⟨p0.1,0,N_⟩) (p0.2.w*p0.2.h) (p0.2.w*p0.2.h)):=M2.cell 0 rfl 2;obtain⟨H3,t3,m3⟩:=JM K.1 (M2.sat.right (A:=[_])) K.2.2.2.1 (p0.2.Eb (k%p0.2.w) (k/p0.2.w) n) (bV.vV _ _ _ _) (k*3) (i_ l_ n) (by rw[Jq _ _ _ _ (by rw[KQ.1.1];exact nU K.2.2.2.2.1 K.2.2.2.2.2.1),K.2.2.2.2.2.2,dX 3 k]);have M3:=Mv.Lu (A:=H3) (B:=[_]) (R:=[]) (Mv.call (Mv.Lu (A:=[_]) (B:=H) (R:=[]) (by simpa using M2)) m3);have hQl:=VK P (k%p0.2.w) (k/p0.2.w) n;have hQ0:(setP P (k%p0.2.w) (k/p0.2.w) n)[0]?=S_ (p0.1,p0.2.Eb (k%p0.2.w) (k/p0.2.w) n):=by
  have h0:=KQ.2;cases P with
  |nil=>cases h0
  |cons p R=>simp at h0;subst h0;rfl
 have t4:tH tb (BJ P (setP P (k%p0.2.w) (k/p0.2.w) n) 1) H3:=by rw[←Td hQl hQ0,acw];exact t3
 have hQs:=(Ew P (k%p0.2.w) (k/p0.2.w) n).1;have hQg:=fun i p hp=>ad7 P (k%p0.2.w) (k/p0.2.w) n i p hp;rw[hxx,hyy]at t4 hQl hQs hQg;have KD:=zO K.2.2.1 hQl hQs hQg;have AT:=af fun i p hp=>uJ.at_ (i:=i) (p:=p) K.2.2.1 K.2.2.2.1 K.2.2.2.2.1 K.2.2.2.2.2.1 hp;rw[hxx,hyy]at AT;rw[hxx,hyy]at K;obtain⟨Q,hQ⟩:=X_ (setP P x y n);have HQ:=af hQ;rw[hQ]at KD t4;have K3:=dS t4 M3;clear t3 m3 M3 M2 N2 t4 hQl hQ0 hQs hQg hQ K1 K;obtain⟨w3,hw3⟩:=Y_ (w2.setCell ⟨p0.1,k*3,N_⟩ (i_ l_ n));rw[←hw3]at K3;go_upto_region 3 with fail;simp only[←hw3];clear hw3 y1 f1 b2;have b0:w3.cell? ⟨bx,0,N_⟩=S_ (i_ l_ p0.2.w):=K3.2.cell 0 rfl 0;go_quiet (fail);go_upto_region 4 with fail;simp only[hxi];obtain⟨w4,hw4⟩:=Y_ (w3.drewN nq);have K4:Hid (tH tb (BJ P Q 1) H3∧Mv W H w4 ([⟨bx,181,#[i_ l_ p0.2.w,i_ l_ p0.2.h,s_ (S_ ⟨p0.1,0,N_⟩) (p0.2.w*p0.2.h) (p0.2.w*p0.2.h)]⟩]++H3)):=af ⟨K3.1,by rw[hw4];simpa using K3.2.drewN nq⟩;simp only[←hw4];clear hw4 K3 b0 hxi hyi d0 hki al7 hw1;go_wp2_with fail;go_loopg [7,8,9] P.length (fun m s7 s8 s9 wx=>∃(i:Nat) (Hi:List HB),i+1≤P.length∧m=P.length-i∧s9=i_ l_ ((i:Int)+1)∧s7=i_ l_ (x/2^i:Nat)∧s8=i_ l_ (y/2^i:Nat)∧tH tb (BJ P Q (i+1)) Hi∧Mv W H wx ([⟨bx,181,#[i_ l_ p0.2.w,i_ l_ p0.2.h,s_ (S_ ⟨p0.1,0,N_⟩) (p0.2.w*p0.2.h) (p0.2.w*p0.2.h)]⟩]++Hi))
 case atStart=>exact⟨0,H3,by omega,rfl,rfl,by simp,by simp,K4.1,K4.2⟩
 case round=>
  obtain⟨wa,rfl⟩:∃wa:World,wa=wr:=⟨_,rfl⟩;obtain⟨i,Hi,hi,rfl,rfl,rfl,rfl,ti,mi⟩:=hrel;obtain⟨hd,hQl,hQs,hQg⟩:=KD.out;have hdT:uJ (BJ P Q (i+1)):=hd.congr (P5 hQs _);have hTl:(BJ P Q (i+1)).length=P.length:=WQ hQl _;obtain⟨lg,lc,c0,hc⟩:=Qb (R:=[_]) ti mi hdT (by omega);rw[hTl]at c0;have KI:=dS ti mi;by_cases hlt:i+1<P.length
  ·obtain⟨p,hp⟩:∃p,P[i+1]?=S_ p:=⟨_,ai hlt⟩;have hTp:(BJ P Q (i+1))[i+1]?=S_ p:=by rw[aeT hQl hlt,hp]
   obtain⟨e1,e2,e3⟩:=hc (i+1) p hTp;obtain⟨gB,B,hB,hz⟩:=hQg i p hp;have hTB:(BJ P Q (i+1))[i]?=S_ (gB,B):=by rw[ZX hQl (by omega),hB]
   have qp:=hd.get hp;have qB:B.w=(P[i]'(by omega)).2.w∧B.h=(P[i]'(by omega)).2.h:=by have e9:=fM (fun l=>l[i]?) hQs;simp only[aV,hB,ai (show i<P.length by omega),Option.map_some,dG,dM,fK]at e9;exact⟨e9.1,e9.2.1⟩
   have a1:=AT i (P[i]'(by omega)) (ai (by omega));have a2:=AT (i+1) p hp;rw[←qB.1,←qB.2]at a1;obtain⟨X,hX⟩:=X_ (x/2^i);obtain⟨Y,hY⟩:=X_ (y/2^i);have hX2:x/2^(i+1)=X/2:=by rw[←hX,Nat.pow_succ,fE]
   have hY2:y/2^(i+1)=Y/2:=by rw[←hY,Nat.pow_succ,fE]
   rw[hX,hY]at a1;rw[hX2,hY2]at a2 hz;simp only[hX,hY];have HXY:=dS hX2 hY2;have LE0:=fun V H hV sV=>acD tb (BJ P Q (i+1)) i (gB,B) (X/2) (Y/2) V H hV sV hdT hTB (by omega) (by simp only;omega) (by simp only;omega);have GA0:=fun V=>UU p.2.w p.2.h p.1 (p.2.w*p.2.h) (p.2.w*p.2.h) (X/2) (Y/2) V (nU a2.1 a2.2) (by omega) (by omega) (by omega) (by have:=bZ qp.2.2.1 qp.2.2.2.2;omega);simp only[Int.natCast_ediv,Int.cast_ofNat_Int]at LE0 GA0;have LE:=af LE0;have GA:=af GA0;clear LE0 GA0;have hXb:X≤64:=by have:=pV x (2^i);omega
   have hYb:Y≤64:=by have:=pV y (2^i);omega
   have hii:(i:Int)+1<(P.length:Int):=by omega
   have akZ:i≤20:=by omega
   have KZ:=zO hTp hz a2 qp;have c0:=c0;clear hd hQs hQg hdT hTl hc hp hTp hB hTB qp qB a1 a2 hX hY hX2 hY2 hz ti mi;have FX:Hid (∀w5,Mv wa [] w5 []→Mv W H w5 ([⟨bx,181,#[i_ l_ p0.2.w,i_ l_ p0.2.h,s_ (S_ ⟨p0.1,0,N_⟩) (p0.2.w*p0.2.h) (p0.2.w*p0.2.h)]⟩]++Hi)):=af fun w5 m=>Mv.call (H:=[]) (H':=[]) KI.2 m;have FY:Hid (∀w5 w6,Mv W H w5 ([⟨bx,181,#[i_ l_ p0.2.w,i_ l_ p0.2.h,s_ (S_ ⟨p0.1,0,N_⟩) (p0.2.w*p0.2.h) (p0.2.w*p0.2.h)]⟩]++Hi)→Mv w5 Hi w6 Hi→Mv W H w6 ([⟨bx,181,#[i_ l_ p0.2.w,i_ l_ p0.2.h,s_ (S_ ⟨p0.1,0,N_⟩) (p0.2.w*p0.2.h) (p0.2.w*p0.2.h)]⟩]++Hi)∧w6.cell? ⟨p.1,3*(Y/2*p.2.w+X/2),N_⟩=S_ (i_ l_ (p.2.at_ (X/2) (Y/2)).n)∧w6.frozen? ⟨p.1,3*(Y/2*p.2.w+X/2),N_⟩=F_):=af (by intro w5 w6 m m6;have M6:=Mv.Lu (A:=Hi) (B:=[_]) (R:=[]) (Mv.call (Mv.Lu (A:=[_]) (B:=Hi) (R:=[]) (by simpa using m)) m6);rw[dD]at M6;have N6:=Bg (R:=[_]) KI.1 M6 (KD.1.congr (P5 KD.2.2.1 _)) KZ.1 KZ.2.2.1.1 KZ.2.2.1.2;exact⟨M6,N6.1,N6.2.2.2 _⟩);go_upto_region 8 with fail;go_wp2_with (first|(go_at_call 108;with_reducible refine(GA.out _).mono ?_;rintro e w5 ⟨rfl,m5⟩;have K5:=af (FX.out w5 m5);clear m5)|(go_at_call 107;with_reducible refine(LE.out _ Hi KI.out.1 (K5.out.sat.right)).mono ?_;rintro e w6 ⟨rfl,m6⟩;obtain⟨m7,y1,f1⟩:=FY.out w5 w6 K5.out m6;have K6:=af m7;clear m6 m7));obtain⟨H7,t7,m7⟩:=JM KI.1 (K6.sat.right) KZ.1 (p.2.Eb (X/2) (Y/2) (zI B (X/2) (Y/2))) (bV.vV _ _ _ _) (3*(Y/2*p.2.w+X/2)) (i_ l_ (zI B (X/2) (Y/2))) (Jq _ _ _ _ (by rw[KZ.2.2.2.1];exact nU KZ.2.2.1.1 KZ.2.2.1.2));rw[Td KD.2.1 KZ.2.1]at t7;have M7:=Mv.Lu (A:=H7) (B:=[_]) (R:=[]) (Mv.call (Mv.Lu (A:=[_]) (B:=Hi) (R:=[]) (by simpa using K6.out)) m7);rw[dD]at M7;have K7:=dS t7 M7;clear t7 m7 M7 y1 f1;go_roundg (P.length-(i+1))
   case measure=>omega
   case rel=>
    refine⟨i+1,H7,by omega,rfl,by go_num,?_,?_,K7.1,K7.2⟩
    ·rw[HXY.1];push_cast;rfl
    ·rw[HXY.2];push_cast;rfl
  ·have hie:i+1=P.length:=by omega
   have akY:(i:Int)+1=(P.length:Int):=by omega
   rw[hie,aeU hQl]at ti;have KE:=dS ti mi;have d9:¬(i:Int)+1<(P.length:Int):=by omega
   have KH:=af akY;clear ti mi hd hQl hQs hQg hdT hTl hc hie akY KI;go_wp2_with fail;go_end0;rw[HQ.out];exact⟨rfl,Hi,KE.1,Mv.drop (A:=[_]) KE.2⟩
def encL:Nat→dY→Int→dY×List Bool
 |0,x,_=>(x,[])
 |f+1,x,b=>if x.low<b∧x.said=F_ then(if x.n≤x.low then({x with said:=T_},[T_])else((encL f {x with low:=x.low+1,said:=F_} b).1,false::(encL f {x with low:=x.low+1,said:=F_} b).2))else(x,[])
def uy(x:dY)(low b:Int):dY×List Bool:=encL (b-max x.low low).toNat {x with low:=max x.low low} b
structure amD where
 t:List oq
 low:Int
 bs:List Bool
def encP:List oq→Nat→Nat→Int→amD
 | [],_,_,_=>⟨[],0,[]⟩
 |p::R,x,y,b=>
  let r:=encP R (x/2) (y/2) b;let e:=uy (p.2.at_ x y) r.low b
  ⟨(p.1,p.2.qY x y e.1)::r.t,e.1.low,r.bs++e.2⟩
theorem bV.set_set(L:bV)(x y:Nat)(a b:dY):(L.qY x y a).qY x y b=L.qY x y b:=by simp[bV.qY]
theorem bV.at_set(L:bV)(x y:Nat)(a:dY)(h:y*L.w+x<L.l.length):(L.qY x y a).at_ x y=a:=by unfold bV.at_ bV.qY;simp only;rw[ax,fQ,aK rfl,aK h];rfl
theorem bV.aiV(L:bV)(x y:Nat)(h:y*L.w+x<L.l.length):L.qY x y (L.at_ x y)=L:=by
 have hg:L.l[y*L.w+x]?=S_ (L.at_ x y):=by unfold bV.at_;rw[ax,ai h];rfl
 have:L.l.set (y*L.w+x) (L.at_ x y)=L.l:=by obtain⟨h1,h2⟩:=aj.1 hg;rw[←h2];exact uN h1
 unfold bV.qY;rw[this]
theorem ω(P:List oq)(x y:Nat)(b:Int):(encP P x y b).t.map (fun p=>dM p.2)=P.map (fun p=>dM p.2)∧(encP P x y b).t.map (·.1)=P.map (·.1):=by
 induction P generalizing x y with
 |nil=>exact⟨rfl,rfl⟩
 |cons q R ih=>obtain⟨h1,h2⟩:=ih (x/2) (y/2);simp only[encP,bJ,h1,h2,iM,kJ];exact bV.vV _ _ _ _
theorem ZM(L:bV)(x y:Nat)(z:dY)(hl:y*L.w+x<L.l.length)(f:Nat)(v:Value)(hv:(f=1∧z={L.at_ x y with low:=z.low}∧v=i_ l_ z.low)∨(f=2∧z={L.at_ x y with said:=z.said}∧v=b_ z.said)):nC (L.qY x y z).l=(nC L.l).set (3*(y*L.w+x)+f) v:=by
 have hg:L.l[y*L.w+x]?=S_ (L.at_ x y):=by unfold bV.at_;rw[ax,ai hl];rfl
 have h:=PO L.l _ _ hg z;obtain⟨k1,k2,k3⟩:=Jr _ _ _ hg;show nC (L.l.set _ _)=_;rw[h];generalize L.at_ x y=a at*;generalize y*L.w+x=k at*;apply fU;intro q;simp only[fQ,fC,I9];rcases hv with⟨rfl,hz,rfl⟩|⟨rfl,hz,rfl⟩
 ·have z1:z.n=a.n:=by rw[hz]
  have z3:z.said=a.said:=by rw[hz]
  by_cases e2:3*k+2=q
  ·subst e2;rw[aK rfl,aK (by omega),aJ (by omega),k3,z3]
  ·rw[aJ e2];by_cases e1:3*k+1=q
   ·subst e1;rw[aK rfl,aK rfl]
   ·rw[aJ e1,aJ e1];by_cases e0:3*k=q
    ·subst e0;rw[aK rfl,aK (by omega),k1,z1]
    ·rw[aJ e0]
 ·have z1:z.n=a.n:=by rw[hz]
  have z2:z.low=a.low:=by rw[hz]
  by_cases e2:3*k+2=q
  ·subst e2;rw[aK rfl,aK rfl]
  ·rw[aJ e2,aJ e2];by_cases e1:3*k+1=q
   ·subst e1;rw[aK rfl,aK (by omega),k2,z2]
   ·rw[aJ e1];by_cases e0:3*k=q
    ·subst e0;rw[aK rfl,aK (by omega),k1,z1]
    ·rw[aJ e0]
theorem ZO{tb:Nat}{P:List oq}{H:List HB}{w:World}(h:tH tb P H)(hs:Sat w H)(hd:uJ P){i:Nat}{p:oq}(hp:P[i]?=S_ p){x y:Nat}(hx:x<p.2.w)(hy:y<p.2.h):w.cell? ⟨p.1,3*(y*p.2.w+x),N_⟩=S_ (i_ l_ (p.2.at_ x y).n)∧w.cell? ⟨p.1,3*(y*p.2.w+x)+1,N_⟩=S_ (i_ l_ (p.2.at_ x y).low)∧w.cell? ⟨p.1,3*(y*p.2.w+x)+2,N_⟩=S_ (b_ (p.2.at_ x y).said)∧∀k,w.frozen? ⟨p.1,k,N_⟩=F_:=Bg (R:=[]) h (Mv.refl hs) hd hp hx hy
theorem aaM{tb:Nat}{P:List oq}{H:List HB}{w:World}(h:tH tb P H)(hs:Sat w H)(hd:uJ P){i:Nat}{p:oq}(hp:P[i]?=S_ p){x y:Nat}(hx:x<p.2.w)(hy:y<p.2.h)(z:dY)(f:Nat)(v:Value)
 (hv:(f=1∧z={p.2.at_ x y with low:=z.low}∧v=i_ l_ z.low)∨(f=2∧z={p.2.at_ x y with said:=z.said}∧v=b_ z.said)):
 ∃H',tH tb (P.set i (p.1,p.2.qY x y z)) H'∧Mv w H (w.setCell ⟨p.1,3*(y*p.2.w+x)+f,N_⟩ v) H':=
 JM h hs hp _ (bV.vV _ _ _ _) _ v (ZM _ _ _ _ (by rw[(hd.get hp).1];exact nU hx hy) f v hv)
section
variable{w0 w:World}{H0:List HB}{tb wb:Nat}{T:List oq}{m:Nat}{p:oq}{X Y:Nat}{z:dY}{bs:List Bool}{Hn:List HB}
theorem O5(hp:T[m]?=S_ p)(z:dY):(T.set m (p.1,p.2.qY X Y z)).map (fun p=>dM p.2)=T.map (fun p=>dM p.2):=by rw[jb];have hm:=(aj.1 hp).1;obtain⟨h1,h2⟩:=aj.1 hp;rw[show dM (p.1,p.2.qY X Y z).2=(T.map (fun p=>dM p.2))[m]'(by simpa using h1)from by simp[h2,bV.vV]];exact uN _
end
theorem Qx:∀(f:Nat) (x:dY) (b:Int),(encL f x b).2.length≤f∧x.low≤(encL f x b).1.low
 |0,x,b=>⟨by simp[encL],gG _⟩
 |f+1,x,b=>by
  unfold encL;split
  ·split
   ·exact⟨by simp,gG _⟩
   ·obtain⟨h1,h2⟩:=Qx f {x with low:=x.low+1,said:=F_} b;refine⟨by simp only[List.length_cons];omega,?_⟩;simp only at h2⊢;omega
  ·exact⟨by simp,gG _⟩
theorem afE(P:List oq)(x y:Nat)(b:Int):0≤(encP P x y b).low∧(encP P x y b).bs.length≤P.length*b.toNat:=by
 induction P generalizing x y with
 |nil=>exact⟨gG _,by simp[encP]⟩
 |cons q R ih=>
  obtain⟨h1,h2⟩:=ih (x/2) (y/2);obtain⟨k1,k2⟩:=Qx (b-max (q.2.at_ x y).low (encP R (x/2) (y/2) b).low).toNat {q.2.at_ x y with low:=max (q.2.at_ x y).low (encP R (x/2) (y/2) b).low} b;simp only[encP,uy];refine⟨?_,?_⟩
  ·simp only at k2;omega
  ·rw[au,List.length_cons,jW];exact Nat.add_le_add h2 (fD k1 (by omega))
theorem TQ(f:Nat)(x:dY)(b:Int)(h:¬(x.low<b∧x.said=F_)):encL f x b=(x,[]):=by
 cases f with
 |zero=>rfl
 |succ f=>unfold encL;rw[aJ h]
theorem afF(f:Nat)(x:dY)(b:Int)(h:x.low<b∧x.said=F_)(hn:x.n≤x.low)(hf:f=(b-x.low).toNat):encL f x b=({x with said:=T_},[T_]):=by
 cases f with
 |zero=>omega
 |succ f=>unfold encL;rw[aK h,aK hn]
theorem ada(f:Nat)(x:dY)(b:Int)(h:x.low<b∧x.said=F_)(hn:¬x.n≤x.low)(hf:f=(b-x.low).toNat):f=(b-(x.low+1)).toNat+1∧encL f x b=((encL (b-(x.low+1)).toNat {x with low:=x.low+1,said:=F_} b).1,false::(encL (b-(x.low+1)).toNat {x with low:=x.low+1,said:=F_} b).2):=by
 obtain⟨f',rfl⟩:∃f',f=f'+1:=⟨f-1,by omega⟩;have e:f'=(b-(x.low+1)).toNat:=by omega
 refine⟨by omega,?_⟩;rw[←e]
 conv=>lhs;unfold encL
 rw[aK h,aJ hn]
theorem flat_length{α:Type}(f:α→List Value)(n:Nat)(hf:∀x,(f x).length=n)(l:List α):(l.flatMap f).length=l.length*n:=by
 induction l with
 |nil=>simp
 |cons x l ih=>rw[dE,au,ih,hf,List.length_cons,jW,Nat.add_comm]
theorem flat_get{α:Type}(f:α→List Value)(n:Nat)(hf:∀x,(f x).length=n)(l:List α)(i:Nat)(x:α)(h:l[i]?=S_ x)(j:Nat)(hj:j<n):(l.flatMap f)[i*n+j]?=(f x)[j]?:=by
 induction l generalizing i with
 |nil=>simp at h
 |cons y l ih=>
  rw[dE];cases i with
  |zero=>simp at h;subst h;rw[df (by rw[hf];omega)];simp
  |succ i=>rw[aZ (by rw[hf,jW];omega),hf,show(i+1)*n+j-n=i*n+j from by rw[jW];omega];exact ih i (by simpa using h)
theorem jh{α:Type}(f:α→List Value)(n:Nat)(hf:∀x,(f x).length=n)(l:List α)(i:Nat)(x y:α)(h:l[i]?=S_ x)(j:Nat)(hj:j<n)(v:Value)(hv:f y=(f x).set j v):(l.flatMap f).set (i*n+j) v=(l.set i y).flatMap f:=by
 induction l generalizing i with
 |nil=>simp at h
 |cons z l ih=>
  cases i with
  |zero=>simp at h;subst h;rw[List.set_cons_zero,dE,dE,hv,rU _ _ (by rw[hf];omega)];simp
  |succ i=>rw[List.set_cons_succ,dE,dE,dZ _ _ (by rw[hf,jW];omega),hf,show(i+1)*n+j-n=i*n+j from by rw[jW];omega,ih i (by simpa using h)]
structure og where
 pl:Int
 ps:List (Int×Bool)
 bs:List UInt8
 said:Int
 lb:Int
def Nz(p:Int×Bool):List Value:=[i_ l_ p.1,b_ p.2]
def jd(l:List (Int×Bool)):List Value:=l.flatMap Nz
theorem J6(p:Int×Bool):(Nz p).length=2:=rfl
structure gu where
 m:og
 vp:Value
 vb:Value
 Hp:List HB
 Hb:List HB
structure og.Fits(m:og):Prop where
 np:m.ps.length≤1000
 nb:m.bs.length≤10000000
 pl: -1000≤m.pl∧m.pl≤1000
 said:0≤m.said∧m.said≤m.ps.length
 lb:0≤m.lb∧m.lb≤1000
 ends:∀p∈m.ps,0≤p.1∧p.1≤100000000
def gu.ok(s:gu):Prop:=dh 142 2 s.vp s.m.ps.length (jd s.m.ps) s.Hp∧dR s.vb s.m.bs s.Hb∧s.m.Fits
def gu.v(s:gu):List Value:=[i_ l_ s.m.pl,s.vp,s.vb,i_ l_ s.m.said,i_ l_ s.m.lb]
def gu.heap(s:gu):List HB:=s.Hp++s.Hb
theorem gu.jw(s:gu):s.v.length=5:=rfl
def Nl(P:List oq)(w h:Nat):Prop:=P.length≤20∧uJ P∧(0<w*h→∃p0,P[0]?=S_ p0∧p0.2.w=w∧p0.2.h=h)
theorem Nl.congr{P Q:List oq}{w h:Nat}(k:Nl P w h)(e:Q.map (fun p=>dM p.2)=P.map (fun p=>dM p.2)):Nl Q w h:=by
 have hl:Q.length=P.length:=by simpa using fM List.length e
 refine⟨by rw[hl];exact k.1,k.2.1.congr e,fun h0=>?_⟩;obtain⟨p0,h1,h2,h3⟩:=k.2.2 h0;have h4:=fM (fun l=>l[0]?) e;simp only[aV,h1,Option.map_some]at h4;obtain⟨q,hq,h5⟩:=iU.1 h4;simp only[dM,fK]at h5;exact⟨q,hq,by omega,by omega⟩
theorem Xy:∀(k w h:Nat),1≤w→1≤h→w≤2^k→h≤2^k→Dims (treeNew (k+1) w h)∧(∃T,treeNew (k+1) w h=jE w h::T)∧(treeNew (k+1) w h).length≤k+1∧∀L∈treeNew (k+1) w h,1≤L.w∧L.w≤w∧1≤L.h∧L.h≤h:=by
 intro k
 induction k with
 |zero=>
  intro w h h1 h2 h3 h4;obtain rfl:w=1:=by omega
  obtain rfl:h=1:=by omega
  refine⟨?_,⟨[],by simp[treeNew]⟩,by simp[treeNew],?_⟩
  ·simp[treeNew,Dims,jE]
  ·intro L hL;simp[treeNew]at hL;subst hL;simp[jE]
 |succ k ih=>
  intro w h h1 h2 h3 h4;by_cases hb:w=1∧h=1
  ·obtain⟨rfl,rfl⟩:=hb;refine⟨?_,⟨[],by simp[treeNew]⟩,by simp[treeNew],?_⟩
   ·simp[treeNew,Dims,jE]
   ·intro L hL;simp[treeNew]at hL;subst hL;simp[jE]
  ·have e:treeNew (k+1+1) w h=jE w h::treeNew (k+1) ((w+1)/2) ((h+1)/2):=by
    conv=>lhs;unfold treeNew
    rw[aJ hb]
   have hp:2^(k+1)=2*2^k:=by rw[Nat.pow_succ,dX]
   obtain⟨i1,⟨T,i2⟩,i3,i4⟩:=ih ((w+1)/2) ((h+1)/2) (by omega) (by omega) (by omega) (by omega);rw[e];refine⟨?_,⟨_,rfl⟩,by simp;omega,?_⟩
   ·rw[i2]at i1⊢;exact⟨h1,h2,by simp[jE],rfl,rfl,i1⟩
   ·intro L hL;rcases aC.1 hL with rfl|hL
    ·exact⟨h1,aN _,h2,aN _⟩
    ·have:=i4 L hL;omega
theorem OH(P:List oq)(w h:Nat)(hw:w≤64)(hh:h≤64)(e:P.map (·.2)=jr w h):Nl P w h:=by
 by_cases hb:(w:Int)<1∨(h:Int)<1∨64<(w:Int)∨64<(h:Int)
 ·have e0:jr w h=[]:=by unfold jr;rw[aK hb]
  rw[e0]at e;obtain rfl:=List.map_eq_nil_iff.1 e;refine⟨by simp,⟨by simp[Dims],by simp⟩,fun h0=>?_⟩;have h1:=Nat.pos_of_mul_pos_left h0;have h2:=Nat.pos_of_mul_pos_right h0;omega
 ·have e0:jr w h=treeNew 7 w h:=by unfold jr;rw[aJ hb];simp
  rw[e0]at e;obtain⟨i1,⟨T,i2⟩,i3,i4⟩:=Xy 6 w h (by omega) (by omega) (by omega) (by omega);rw[←e]at i1 i2 i3 i4;refine⟨by simp at i3;omega,⟨i1,fun p hp=>?_⟩,fun _=>?_⟩
  ·have:=i4 p.2 (bW.2 ⟨p,hp,rfl⟩);omega
  ·have h4:=fM (fun l=>l[0]?) i2;simp only[aV,List.getElem?_cons_zero]at h4;obtain⟨q,hq,h5⟩:=iU.1 h4;exact⟨q,hq,by rw[h5];rfl,by rw[h5];rfl⟩
structure aT where
 w:Nat
 h:Nat
 aH:Int
 first:List bV
 dA:List bV
 set:Bool
 ss:List og
structure di where
 ft:Nat
 zt:Nat
 Pf:List oq
 Pz:List oq
 Hf:List HB
 Hz:List HB
 G:List gu
 aH:Int
 set:Bool
 w:Nat
 h:Nat
def di.model(b:di):aT:=⟨b.w,b.h,b.aH,b.Pf.map (·.2),b.Pz.map (·.2),b.set,b.G.map (·.m)⟩
structure di.ok(b:di)(d:bu):Prop where
 tf:tH b.ft b.Pf b.Hf
 tz:tH b.zt b.Pz b.Hz
 kf:Nl b.Pf b.w b.h
 kz:Nl b.Pz b.w b.h
 st:∀s∈b.G,s.ok
 len:b.G.length=d.n
 n:d.n=b.w*b.h
 pl: -1000≤b.aH∧b.aH≤1000
 hw:b.w≤64
 hh:b.h≤64
def jU(b:di)(d:bu):HB:=⟨d.bb,118,#[s_ (S_ ⟨d.lb,0,N_⟩) d.n d.n,i_ l_ b.aH,p_ (S_ ⟨b.ft,0,N_⟩),p_ (S_ ⟨b.zt,0,N_⟩),b_ b.set]⟩
def jY(b:di)(d:bu):HB:=⟨d.lb,69,(b.G.flatMap gu.v).toArray⟩
def di.heap(b:di)(d:bu):List HB:=jU b d::jY b d::(b.Hf++(b.Hz++b.G.flatMap gu.heap))
def sH(d:bu)(m:aT)(H:List HB):Prop:=∃b:di,b.model=m∧b.ok d∧H=b.heap d
theorem di.ok.small{b:di}{d:bu}(h:b.ok d):d.n≤4096:=by rw[h.n];exact bZ h.hw h.hh
theorem dh.types{e:TypeId}{size n:Nat}{v:Value}{xs:List Value}{H:List HB}(h:dh e size v n xs H):∀b∈H,b.t=e:=by
 rcases h.2 with⟨-,-,rfl⟩|⟨g,cap,cur,-,-,-,-,-,rfl⟩
 ·intro b hb;cases hb
 ·intro b hb;simp only[fJ]at hb;subst hb;rfl
theorem tH.types{tb:Nat}{P:List oq}{H:List HB}(h:tH tb P H):∀b∈H,b.t=178∨b.t=181∨b.t=184:=by
 obtain⟨v,Hl,rfl,hr⟩:=h;intro b hb;rcases aC.1 hb with rfl|hb
 ·exact .inl rfl
 ·rcases ay.1 hb with hb|hb
  ·exact .inr (.inl (hr.types b hb))
  ·obtain⟨p,-,rfl⟩:=bW.1 hb;exact .inr (.inr rfl)
def jQ(H:List HB):Prop:=∀b∈H,b.t≠66
theorem jQ.append{A B:List HB}(h:jQ A)(k:jQ B):jQ (A++B):=fun b hb=>(ay.1 hb).elim (h b) (k b)
theorem jQ.cons{a:HB}{B:List HB}(h:a.t≠66)(k:jQ B):jQ (a::B):=fun b hb=>by
 rcases aC.1 hb with rfl|hb
 ·exact h
 ·exact k b hb
theorem jQ.nil:jQ []:=fun b hb=>by cases hb
theorem jQ.tree{tb:Nat}{P:List oq}{H:List HB}(h:tH tb P H):jQ H:=fun b hb=>by rcases h.types b hb with e|e|e<;>rw[e]<;>decide
theorem jQ.row{e:TypeId}{size n:Nat}{v:Value}{xs:List Value}{H:List HB}(h:dh e size v n xs H)(he:e≠66):jQ H:=fun b hb=>by rw[h.types b hb];exact he
theorem jQ.states{G:List gu}(h:∀s∈G,s.ok):jQ (G.flatMap gu.heap):=by intro b hb;obtain⟨s,hs,hb⟩:=iw.1 hb;have:=h s hs;exact(jQ.row this.1 (by decide)).append (jQ.row this.2.1 (by decide)) b hb
theorem sH.PQ{d:bu}{m:aT}{H:List HB}(h:sH d m H):jQ H:=by obtain⟨b,-,hk,rfl⟩:=h;exact jQ.cons (show 118≠66 by decide) (jQ.cons (show 69≠66 by decide) ((jQ.tree hk.tf).append ((jQ.tree hk.tz).append (jQ.states hk.st))))
def ou(M:Nat→aT)(b:Nat)(m:aT):Nat→aT:=fun k=>if k=b then m else M k
theorem jX(M:Nat→aT)(b:Nat)(m:aT):ou M b m b=m:=by simp[ou]
theorem kQ(M:Nat→aT){b k:Nat}(m:aT)(h:k≠b):ou M b m k=M k:=by simp[ou,h]
theorem LM(M:Nat→aT)(b:Nat)(m m':aT):ou (ou M b m) b m'=ou M b m':=by funext k;simp only[ou];split<;>rfl
theorem LQ(M:Nat→aT)(b:Nat):ou M b (M b)=M:=by funext k;simp only[ou];split<;>simp_all
def iK:List bu→(Nat→aT)→List HB→Prop
 | [],_,H=>H=[]
 |d::D,M,H=>∃H1 H2,H=H1++H2∧sH d (M d.bb) H1∧iK D M H2
theorem sH.key{d:bu}{m:aT}{H:List HB}(h:sH d m H):d.bb∈keys H:=by obtain⟨b,-,-,rfl⟩:=h;simp[di.heap,jU,keys]
theorem iK.PQ{D:List bu}{M:Nat→aT}{H:List HB}(h:iK D M H):jQ H:=by
 induction D generalizing H with
 |nil=>cases h;exact jQ.nil
 |cons d D ih=>obtain⟨H1,H2,rfl,h1,h2⟩:=h;exact h1.PQ.append (ih h2)
theorem iK.key{D:List bu}{M:Nat→aT}{H:List HB}(h:iK D M H){d:bu}(hd:d∈D):d.bb∈keys H:=by
 induction D generalizing H with
 |nil=>cases hd
 |cons e D ih=>
  obtain⟨H1,H2,rfl,h1,h2⟩:=h;rw[mM,ay];rcases aC.1 hd with rfl|hd
  ·exact .inl h1.key
  ·exact .inr (ih h2 hd)
theorem iK.congr{D:List bu}{M M':Nat→aT}{H:List HB}(h:iK D M H)(e:∀d∈D,M' d.bb=M d.bb):iK D M' H:=by
 induction D generalizing H with
 |nil=>exact h
 |cons d D ih=>obtain⟨H1,H2,rfl,h1,h2⟩:=h;exact⟨H1,H2,rfl,by rw[e d aG];exact h1,ih h2 fun x hx=>e x (aU _ hx)⟩
def Same(A B:List HB):Prop:=(∀g,cnt g A=cnt g B)∧∀b,b∈A↔b∈B
theorem Same.mv{w0 w:World}{H0 A B:List HB}(h:Same A B)(m:Mv w0 H0 w A):Mv w0 H0 w B:=m.sub (fun g=>by rw[h.1 g];exact aN _) (fun b hb=>(h.2 b).2 hb)
theorem Same.symm{A B:List HB}(h:Same A B):Same B A:=⟨fun g=>(h.1 g).symm,fun b=>(h.2 b).symm⟩
theorem iK.split{D:List bu}{M:Nat→aT}{H:List HB}(h:iK D M H)(hk:(keys H).Nodup){d:bu}(hd:d∈D):∃H1 R,sH d (M d.bb) H1∧Same H (H1++R)∧∀m' DX,sH d m' DX→∃H',iK D (ou M d.bb m') H'∧Same (DX++R) H':=by
 induction D generalizing H with
 |nil=>cases hd
 |cons e D ih=>
  obtain⟨H1,H2,rfl,h1,h2⟩:=h;rw[mM]at hk;obtain⟨k1,k2,k3⟩:=lQ.1 hk;by_cases he:e=d
  ·subst he;refine⟨H1,H2,h1,⟨fun _=>rfl,fun _=>Iff.rfl⟩,fun m' DX h'=>⟨DX++H2,⟨DX,H2,rfl,by rw[jX];exact h',h2.congr fun x hx=>?_⟩,⟨fun _=>rfl,fun _=>Iff.rfl⟩⟩⟩;exact kQ _ _ fun e2=>k3 _ h1.key _ (h2.key hx) e2.symm
  ·have hd':d∈D:=by
    rcases aC.1 hd with e2|e2
    ·exact absurd e2.symm he
    ·exact e2
   obtain⟨A,R,i1,i2,i3⟩:=ih h2 k2 hd';refine⟨A,H1++R,i1,⟨fun g=>?_,fun b=>?_⟩,fun m' DX h'=>?_⟩
   ·have:=i2.1 g;simp only[aP]at this⊢;omega
   ·have:=i2.2 b;simp only[ay]at this⊢;grind
   ·obtain⟨H',j1,j2⟩:=i3 m' DX h';refine⟨H1++H',⟨H1,H',rfl,?_,j1⟩,⟨fun g=>?_,fun b=>?_⟩⟩
    ·rw[kQ]
     ·exact h1
     ·intro e2;exact k3 _ h1.key _ (h2.key hd') e2
    ·have:=j2.1 g;simp only[aP]at this⊢;omega
    ·have:=j2.2 b;simp only[ay]at this⊢;grind
def jg(total layers l:Int):Int:=if l<1 then 0 else if layers<1 then 0 else if layers<l then min (max total 0) 100 else min (max total 0) 100*min l 100/min layers 100
theorem ZI(layers l:Int):jg 0 layers l=0:=by
 unfold jg;split
 ·rfl
 ·split
  ·rfl
  ·have e:min (max (0:Int) 0) 100=0:=by omega
   rw[e];split
   ·rfl
   ·rw[Int.zero_mul,Int.zero_ediv]
theorem Ef(total layers l:Int):0≤jg total layers l∧jg total layers l≤100:=by
 unfold jg;split
 ·omega
 ·split
  ·omega
  ·split
   ·omega
   ·have h1:1≤min layers 100:=by omega
    have h2:0≤min (max total 0) 100∧min (max total 0) 100≤100:=by omega
    have h3:1≤min l 100∧min l 100≤min layers 100:=by omega
    generalize min layers 100=a at*;generalize min (max total 0) 100=b at*;generalize min l 100=c at*;constructor
    ·exact Int.ediv_nonneg (lT h2.1 (by omega)) (by omega)
    ·have:b*c≤100*a:=Int.mul_le_mul h2.2 h3.2 (by omega) (by omega);exact Int.ediv_le_of_le_mul (by omega) this
theorem WA(t n l a b c:Int)(h1:1≤l)(h2:1≤n)(h3:l≤n)(ha:a=min (max t 0) 100)(hb:b=min l 100)(hc:c=min n 100):wrap64 ((wrap64 (a*b)).tdiv c)=jg t n l:=by
 have e:jg t n l=a*b/c:=by unfold jg;rw[aJ (by omega),aJ (by omega),aJ (by omega),ha,hb,hc]
 have k:=Ef t n l;have ha1:0≤a∧a≤100:=by omega
 have hb1:0≤b∧b≤100:=by omega
 have h4:0≤a*b:=lT ha1.1 hb1.1;have h5:a*b≤100*100:=Int.mul_le_mul ha1.2 hb1.2 hb1.1 (by omega);rw[e]at k⊢;rw[←IntWalk.i64_left (a*b),fF _ (by omega),Int.tdiv_eq_ediv_of_nonneg h4,←IntWalk.i64_left (a*b/c),fF _ (by omega)]
theorem ZH(t n l:Int)(w:World)(ht:0≤t∧t≤1000000)(hn: -1000000≤n∧n≤1000000)(hl: -1000000≤l∧l≤1000000):Calls P_ 70 #[i_ l_ t,i_ l_ n,i_ l_ l] w fun e w'=>e=r_ (i_ l_ (jg t n l))∧Mv w [] w' []:=by
 go_enter Tryz.func70,Tryz.ntmps70;go_wp2_with fail
 all_goals
  go_ret;refine⟨?_,Mv.refl (Sat.nil _)⟩;refine fM Ending.returned (fM (Value.int l_) ?_)
  first
  |(unfold jg;omega)
  |exact WA t n l 100 100 100 (by omega) (by omega) (by omega) (by omega) (by omega) (by omega)
  |exact WA t n l _ _ _ (by omega) (by omega) (by omega) (by omega) (by omega) (by omega)
theorem afw(b:Bool)(w:World):Calls P_ 27 #[b_ b] w fun e w'=>e=r_ (i_ l_ (if b then 1 else 0))∧w'=w:=by
 cases b
 all_goals go_enter Tryz.func27,Tryz.ntmps27;go_wp2_with fail;go_ret;exact⟨rfl,rfl⟩
theorem MP(x:dF)(count aB:Int)(w:World)(A:Option Addr)(n c:Nat)(hc:w.cell? ⟨x.d.lb,x.k*5+1,N_⟩=S_ (s_ A n c))(_hx:x.k≤100000)(hn:n≤1000000)(hct:0≤count∧count≤100000)(hl: -1≤aB∧aB≤100000):Calls P_ 24 #[x.v,i_ l_ count,i_ l_ aB] w fun e w'=>e=r_ (i_ l_ (jg n count (aB+1)))∧Mv w [] w' []:=by have C:=af fun W=>ZH n count (aB+1) W ⟨by omega,by omega⟩ ⟨by omega,by omega⟩ ⟨by omega,by omega⟩;have M:=(iF w 66 x.cells).drop1;have c1:=((Below.refl w.heap.size w).alloc (aN _) (.cells x.cells 66)).cell (p:=⟨x.d.lb,x.k*5+1,N_⟩) (gZ w _ hc);rw[hc]at c1;have b0:=(zh.new w 66 x.cells).cell 0;unfold dF.v;unfold dF.cells at M c1 b0;have K:=af M;clear M;go_enter Tryz.func24,Tryz.ntmps24;go_wp2_with (go_at_call 70;with_reducible refine(C.out _).mono ?_;rintro e w2 ⟨rfl,m2⟩;have K2:=af m2;clear m2);go_ret;exact⟨rfl,K.trans K2.out⟩
theorem Xj(tb lb n c:Nat)(k:Int)(w:World)(hc:w.cell? ⟨tb,0,N_⟩=S_ (s_ (S_ ⟨lb,0,N_⟩) n c))(_hn:n≤100000):Calls P_ 66 #[p_ (S_ ⟨tb,0,N_⟩),i_ l_ k] w fun e w'=>w'=w∧e=r_ (if k<0∨(n:Int)≤k then t_ #[.pointer N_,b_ F_]else t_ #[p_ (S_ ⟨lb,k.toNat*5,N_⟩),b_ T_]):=by
 by_cases h:k<0∨(n:Int)≤k
 ·rw[aK h];go_enter Tryz.func66,Tryz.ntmps66;go_wp2_with fail
  all_goals first
  |omega
  |(go_ret2;exact⟨rfl,rfl⟩)
 ·rw[aJ h];obtain⟨j,rfl⟩:∃j:Nat,k=(j:Int):=⟨k.toNat,by omega⟩;have hj:j<n:=by omega
  have d1:decide ((j:Int)<0)=F_:=by simp
  have d2:decide ((n:Int)≤j)=F_:=by simp;omega
  rw[Int.toNat_natCast];go_enter Tryz.func66,Tryz.ntmps66;go_wp2_with fail
  all_goals first
  |omega
  |(go_ret2;exact⟨rfl,rfl⟩)
def Yw:bV→List bV→Nat→Nat→List bV
 |_,[],_,_=>[]
 |B,L::R,x,y=>L.Eb (x/2) (y/2) (zI B (x/2) (y/2))::Yw (L.Eb (x/2) (y/2) (zI B (x/2) (y/2))) R (x/2) (y/2)
def JP(T:List bV)(k:Nat)(n:Int):List bV:=
 match T with
 | []=>[]
 |L::R=>L.Eb (k%L.w) (k/L.w) n::Yw (L.Eb (k%L.w) (k/L.w) n) R (k%L.w) (k/L.w)
theorem Yu(B:bV)(R:List oq)(x y:Nat):(setUpP B R x y).map (·.2)=Yw B (R.map (·.2)) x y:=by
 induction R generalizing B x y with
 |nil=>rfl
 |cons p R ih=>show _::_=_::_;rw[ih]
theorem VJ(P:List oq)(k:Nat)(n:Int)(p0:oq)(h:P[0]?=S_ p0):(setP P (k%p0.2.w) (k/p0.2.w) n).map (·.2)=JP (P.map (·.2)) k n:=by
 cases P with
 |nil=>simp at h
 |cons p R=>simp at h;subst h;show _::_=_::_;rw[Yu]
def frGo(count np:Int):Nat→Nat→Nat
 |0,n=>n
 |f+1,n=>if jg np count ((n:Int)+1)=0 then frGo count np f (n+1)else n
def frN(count:Nat)(np:Nat):Nat:=frGo count np count 0
def plantStep(count:Nat)(m:aT)(k:Nat):aT:=
 match m.ss[k]? with
 |none=>m
 |some s=>{m with first:=JP m.first k (frN count s.ps.length),dA:=JP m.dA k (max (m.aH-s.pl) 0)}
def kF(count:Nat)(m:aT):aT:=if m.set then m else(List.range m.ss.length).foldl (plantStep count) {m with set:=T_}
theorem uZ{w:World}{lb:Nat}{G:List gu}(h:zh w lb 69 (G.flatMap gu.v).toArray){k:Nat}{s:gu}(hs:G[k]?=S_ s):w.cell? ⟨lb,k*5,N_⟩=S_ (i_ l_ s.m.pl)∧w.cell? ⟨lb,k*5+1,N_⟩=S_ s.vp∧w.cell? ⟨lb,k*5+2,N_⟩=S_ s.vb∧w.cell? ⟨lb,k*5+3,N_⟩=S_ (i_ l_ s.m.said)∧w.cell? ⟨lb,k*5+4,N_⟩=S_ (i_ l_ s.m.lb)∧∀i,w.frozen? ⟨lb,i,N_⟩=F_:=by
 have g:=fun j (hj:j<5)=>flat_get gu.v 5 gu.jw G k s hs j hj;have c:=fun i=>h.cell i;simp only[iy]at c;refine⟨?_,?_,?_,?_,?_,fun i=>h.frozen i⟩
 ·rw[c];exact g 0 (by omega)
 ·rw[c];exact g 1 (by omega)
 ·rw[c];exact g 2 (by omega)
 ·rw[c];exact g 3 (by omega)
 ·rw[c];exact g 4 (by omega)
theorem di.sF(b:di)(d:bu):jU b d∈b.heap d:=aG
theorem di.zH(b:di)(d:bu):jY b d∈b.heap d:=aU _ aG
theorem Mv.kT{w0 w:World}{H0 H:List HB}(h:Mv w0 H0 w H){x:HB}(hx:x∈H):zh w x.g x.t x.cs:=h.sat.2 x hx
theorem aaV{R:Array Value}(h:R.size=188)(h1:∀v∈R.toList,v.oneCell'=T_)(W:World):(storeCells ⟨W.heap.size,0,N_⟩ R.toList).run P_ (W.alloc (.cells Tryz.zeroCells225 225))=.ok () ((W.alloc (.cells Tryz.zeroCells225 225)).setRow W.heap.size R):=by have:=run_storeCells_from (P:=P_) W.heap.size 225 R.toList 0 Tryz.zeroCells225 (W.alloc (.cells Tryz.zeroCells225 225)) (zh.new W _ _) (by rw[dH,Array.length_toList,h];kernel_rfl) h1;rw[this];simp
theorem ZT(W:World)(R:Array Value):Mv W [] ((W.alloc (.cells Tryz.zeroCells225 225)).setRow W.heap.size R) [⟨W.heap.size,225,R⟩]:=(iF W _ _).trans (zx (zh.new W _ _))
theorem Zj:F8.toArray.size=188:=by kernel_rfl
theorem ab1:∀v∈F8.toArray.toList,v.oneCell'=T_:=by intro v hv;simp only[F8,iw,aC,bP,gQ]at hv;obtain⟨s,-,rfl|rfl|rfl|rfl⟩:=hv<;>rfl
theorem aen(i:Nat)(hi:i<47):F8.toArray[i*4]?=S_ (i_ l_ (Fe i).qe)∧F8.toArray[i*4+1]?=S_ (i_ l_ (Fe i).Fj)∧F8.toArray[i*4+2]?=S_ (i_ l_ (Fe i).Tn)∧F8.toArray[i*4+3]?=S_ (i_ l_ (if(Fe i).swap then 1 else 0)):=by
 have hl:qeT.length=47:=rfl;have hg:qeT[i]?=S_ (Fe i):=by unfold Fe;rw[ax,ai (by omega)];rfl
 have g:=fun j (hj:j<4)=>flat_get (fun s:QeM=>[i_ l_ s.qe,i_ l_ s.Fj,i_ l_ s.Tn,i_ l_ (if s.swap then 1 else 0)]) 4 (fun _=>rfl) qeT i (Fe i) hg j hj;simp only[iy];exact⟨g 0 (by omega),g 1 (by omega),g 2 (by omega),g 3 (by omega)⟩
theorem aa3(i:Nat)(hi:i<47)(w:World):Calls P_ 139 #[i_ l_ i] w fun e w'=>e=r_ (g_ #[i_ l_ (Fe i).qe,i_ l_ (Fe i).Fj,i_ l_ (Fe i).Tn,b_ (Fe i).swap])∧Mv w [] w' []:=by
 have RW:=af fun W=>ab2 W;obtain⟨R,hR⟩:=X_ (F8.toArray);obtain⟨q,hq⟩:=X_ (Fe i);obtain⟨r0,r1,r2,r3⟩:=aen i hi;have hz:=Zj;have ho:=ab1;rw[hq]at r0 r1 r2 r3⊢;rw[hR]at RW r0 r1 r2 r3 hz ho;clear hR hq;have M0:=af (iF w 218 #[i_ l_ 0,i_ l_ 0,i_ l_ 0,b_ F_]);have ST:=af (fun W=>aaV hz ho W);clear ho;have d1:decide ((i:Int)<0)=F_:=by simp
 have d2:decide ((46:Int)<i)=F_:=by simp;omega
 have d3:(i:Int)<47:=by omega
 go_enter Tryz.func139,Tryz.ntmps139;go_upto_region 4 with(go_at_call 141;refine(RW.out _).mono ?_;rintro e w1 ⟨rfl,m1⟩;have hst:=ST.out w1;have K1:=af (Mv.call (H:=[]) (H':=[]) M0.out m1);clear m1);obtain⟨w2,hw2⟩:=Y_ (((w1.alloc (.cells Tryz.zeroCells225 225)).setRow w1.heap.size R));have M2:Mv w [] w2.drew ([⟨w1.heap.size,225,R⟩]++[⟨w.heap.size,218,#[i_ l_ 0,i_ l_ 0,i_ l_ 0,b_ F_]⟩]):=by rw[hw2];exact(Mv.call (H:=[]) K1 (ZT w1 R)).drew
 rw[←hw2];clear hst hw2 K1 RW ST M0;have B:=Mv.kT M2 (x:=⟨w1.heap.size,225,R⟩) aG;have l0:=(B.cell (i*4)).trans r0;have l1:=(B.cell (i*4+1)).trans r1;have l2:=(B.cell (i*4+2)).trans r2;have l3:=(B.cell (i*4+3)).trans r3;simp only at l0 l1 l2 l3;have S:=Mv.kT M2 (x:=⟨w.heap.size,218,#[i_ l_ 0,i_ l_ 0,i_ l_ 0,b_ F_]⟩) (aS _ aG);have s0:=S.cell 0;have s1:=S.cell 1;have s2:=S.cell 2;have s3:=S.cell 3;have z0:=S.frozen 0;have z1:=S.frozen 1;have z2:=S.frozen 2;have z3:=S.frozen 3;simp only at s0 s1 s2 s3 z0 z1 z2 z3;have M3:Mv w [] w2.drew (⟨w.heap.size,218,#[i_ l_ 0,i_ l_ 0,i_ l_ 0,b_ F_]⟩::[]):=M2.drop;have K3:=af M3;clear M2 M3 B S r0 r1 r2 r3 hz;go_still_tail 18,(by kernel_rfl);change wpList _ _ _ _ _ w2.drew;generalize w2.drew=w4 at*;go_wp2_with fail
 case inl=>have M9:=(((K3.out.set 0 (i_ l_ q.qe)).set 1 (i_ l_ q.Fj)).set 2 (i_ l_ q.Tn)).set 3 (b_ T_);exact dU (v:=g_ #[i_ l_ q.qe,i_ l_ q.Fj,i_ l_ q.Tn,b_ T_]) (iT Tryz.results139 _ _ w.heap.size 218 _ (0,0) _ rfl (Mv.kT M9 aG) Tryz.underlying218 rfl (by kernel_rfl)) rfl ⟨rfl,M9.drop1⟩
 case inr=>have M9:=(((K3.out.set 0 (i_ l_ q.qe)).set 1 (i_ l_ q.Fj)).set 2 (i_ l_ q.Tn)).set 3 (b_ F_);exact dU (v:=g_ #[i_ l_ q.qe,i_ l_ q.Fj,i_ l_ q.Tn,b_ F_]) (iT Tryz.results139 _ _ w.heap.size 218 _ (0,0) _ rfl (Mv.kT M9 aG) Tryz.underlying218 rfl (by kernel_rfl)) rfl ⟨rfl,M9.drop1⟩
def Ag(cs:Array Value)(j i m:Nat):Array Value:=(cs.setIfInBounds j (i_ l_ i)).setIfInBounds (j+1) (i_ l_ m)
theorem Λ{cs:Array Value}{j i m:Nat}(h1:cs[j]?=S_ (i_ l_ i))(h2:cs[j+1]?=S_ (i_ l_ m)):Ag cs j i m=cs:=by
 apply Array.ext_getElem?;intro k;simp only[Ag,pW,sQ];have k1:=(jf.1 h1).1;have k2:=(jf.1 h2).1;by_cases e1:j+1=k
 ·subst e1;rw[aK rfl,aK k2,h2]
 ·rw[aJ e1];by_cases e2:j=k
  ·subst e2;rw[aK rfl,aK k1,h1]
  ·rw[aJ e2]
theorem aie(cs:Array Value)(j i m i':Nat):(Ag cs j i m).setIfInBounds j (i_ l_ i')=Ag cs j i' m:=by apply Array.ext_getElem?;intro k;simp only[Ag,pW,sQ];grind
theorem aid(cs:Array Value)(j i m m':Nat):(Ag cs j i m).setIfInBounds (j+1) (i_ l_ m')=Ag cs j i m':=by apply Array.ext_getElem?;intro k;simp only[Ag,pW,sQ];grind
theorem ade{cs:Array Value}{j:Nat}(h:j+1<cs.size)(i m:Nat):(Ag cs j i m)[j]?=S_ (i_ l_ i)∧(Ag cs j i m)[j+1]?=S_ (i_ l_ m):=by
 simp only[Ag,pW,sQ];constructor
 ·rw[aJ (by omega),aK trivial,aK (by omega)]
 ·rw[aK trivial,aK (by omega)]
def stB(sb:Nat)(q:QeM):HB:=⟨sb,218,#[i_ l_ q.qe,i_ l_ q.Fj,i_ l_ q.Tn,b_ q.swap]⟩
def XY(eg cb sb:Nat)(t:TypeId)(cs:Array Value)(j:Nat)(v:Value)(q:QeM)(a c ct i m:Nat)(R:List HB):List HB:=y8 eg a c ct v::⟨cb,t,Ag cs j i m⟩::stB sb q::R
section
variable{w0 w:World}{H0 R:List HB}{eg cb sb:Nat}{t:TypeId}{cs:Array Value}{j:Nat}{v:Value}{q:QeM}{a c ct i m:Nat}
theorem aeR(h:Mv w0 H0 w (XY eg cb sb t cs j v q a c ct i m R))(a':Nat):Mv w0 H0 (w.setCell ⟨eg,0,N_⟩ (i_ l_ a')) (XY eg cb sb t cs j v q a' c ct i m R):=h.set 0 _
theorem aeQ(h:Mv w0 H0 w (XY eg cb sb t cs j v q a c ct i m R))(c':Nat):Mv w0 H0 (w.setCell ⟨eg,1,N_⟩ (i_ l_ c')) (XY eg cb sb t cs j v q a c' ct i m R):=h.set 1 _
theorem Tc(h:Mv w0 H0 w (XY eg cb sb t cs j v q a c ct i m R))(i':Nat):Mv w0 H0 (w.setCell ⟨cb,j,N_⟩ (i_ l_ i')) (XY eg cb sb t cs j v q a c ct i' m R):=by have:=Mv.setAt (A:=[_]) h j (i_ l_ i');rw[aie]at this;exact this
theorem aiE(h:Mv w0 H0 w (XY eg cb sb t cs j v q a c ct i m R))(m':Nat):Mv w0 H0 (w.setCell ⟨cb,j+1,N_⟩ (i_ l_ m')) (XY eg cb sb t cs j v q a c ct i m' R):=by have:=Mv.setAt (A:=[_]) h (j+1) (i_ l_ m');rw[aid]at this;exact this
structure MqF(w:World)(eg cb sb j:Nat)(q:QeM)(a c i m:Nat):Prop where
 a:w.cell? ⟨eg,0,N_⟩=S_ (i_ l_ a)
 c:w.cell? ⟨eg,1,N_⟩=S_ (i_ l_ c)
 i:w.cell? ⟨cb,j,N_⟩=S_ (i_ l_ i)
 m:w.cell? ⟨cb,j+1,N_⟩=S_ (i_ l_ m)
 qe:w.cell? ⟨sb,0,N_⟩=S_ (i_ l_ q.qe)
 Fj:w.cell? ⟨sb,1,N_⟩=S_ (i_ l_ q.Fj)
 Tn:w.cell? ⟨sb,2,N_⟩=S_ (i_ l_ q.Tn)
 sw:w.cell? ⟨sb,3,N_⟩=S_ (b_ q.swap)
 fa:w.frozen? ⟨eg,0,N_⟩=F_
 fc:w.frozen? ⟨eg,1,N_⟩=F_
 fi:w.frozen? ⟨cb,j,N_⟩=F_
 fm:w.frozen? ⟨cb,j+1,N_⟩=F_
theorem yX(h:Mv w0 H0 w (XY eg cb sb t cs j v q a c ct i m R))(hj:j+1<cs.size):MqF w eg cb sb j q a c i m:=by have b1:=Mv.kT h (x:=y8 eg a c ct v) aG;have b2:=Mv.kT h (x:=⟨cb,t,Ag cs j i m⟩) (aU _ aG);have b3:=Mv.kT h (x:=stB sb q) (aU _ (aU _ aG));have g:=ade hj i m;exact⟨b1.cell 0,b1.cell 1,(b2.cell j).trans g.1,(b2.cell (j+1)).trans g.2,b3.cell 0,b3.cell 1,b3.cell 2,b3.cell 3,b1.frozen 0,b1.frozen 1,b2.frozen j,b2.frozen (j+1)⟩
end
theorem af5(b:Nat)(h:b≤1):bits .and l_ (b:Int) 1=(b:Int):=by rw[yY];omega
theorem aje(eg cb k bit:Nat)(t:TypeId)(cs:Array Value)(e:kV)(x:CG)(w:World)(H:List HB)(hk:k<19)(h:Ou eg e H)(hs:Sat w (⟨cb,t,cs⟩::H))(hc1:cs[9+k*2]?=S_ (i_ l_ x.i))(hc2:cs[9+k*2+1]?=S_ (i_ l_ x.Fj))
 (he:e.Ok) (hx:x.Ok) (hl:e.b.length≤80000000) (hbit:bit≤1):
 Calls P_ 136 #[p_ (S_ ⟨eg,0,N_⟩),p_ (S_ ⟨cb,9,N_⟩),i_ l_ k,i_ l_ bit] w fun r w'=>r=r_ (t_ #[])∧ ∃H',Ou eg (Ia e x bit).1 H'∧Mv w (⟨cb,t,cs⟩::H) w' (⟨cb,t,Ag cs (9+k*2) (Ia e x bit).2.i (Ia e x bit).2.Fj⟩::H'):=by
 obtain⟨hw1,hx2⟩:=QM (bit:=bit) he hx;have hbl:(QN e x bit).1.b=e.b:=Va e x bit;have hcs:9+k*2+1<cs.size:=(jf.1 hc2).1;obtain⟨⟨a1,a2,a3,a4,a5,a6⟩,a7⟩:=he;obtain⟨x1,x2⟩:=hx;obtain⟨a,c,ct,b⟩:=e;obtain⟨xi,xm⟩:=x;simp only at a1 a2 a3 a4 a5 a6 a7 x1 x2 hl hc1 hc2;obtain⟨q1,q2,q3,q4⟩:=aez xi x1;obtain⟨q,hq⟩:=X_ (Fe xi);rw[hq]at q1 q2 q3 q4;have hcb:c≤150994944:=by have:c+a≤(c+a)*2^ct:=Nat.le_mul_of_pos_right _ (rF _);omega
 have AT:=af fun W=>aa3 xi x1 W;rw[hq]at AT;have BE:Hid (QN ⟨a,c,ct,b⟩ ⟨xi,xm⟩ bit=if bit=xm then(if 0x8000≤a-q.qe then(⟨a-q.qe,c+q.qe,ct,b⟩,⟨xi,xm⟩)else(if a-q.qe<q.qe then⟨q.qe,c,ct,b⟩else⟨a-q.qe,c+q.qe,ct,b⟩,⟨q.Fj,xm⟩))else(if a-q.qe<q.qe then⟨a-q.qe,c+q.qe,ct,b⟩else⟨q.qe,c,ct,b⟩,⟨q.Tn,if q.swap then 1-xm else xm⟩)):=af (by unfold QN;simp only[hq]);clear hq a5;obtain⟨vb,Hb,rfl,hr⟩:=h;simp only at hr;obtain⟨va,vc,rfl⟩:=hr.slice;obtain⟨v,hv⟩:=Y_ (Value.slice va b.length vc);have HR:=af hr;rw[←hv]at HR hs⊢;have HV:=af hv;clear hv hr;have M0:Mv w (⟨cb,t,cs⟩::(y8 eg a c ct v::Hb)) w (⟨cb,t,cs⟩::(y8 eg a c ct v::Hb)):=Mv.refl hs;have k0:=((M0.blk 0 rfl).cell (9+k*2)).trans hc1;have K0:=af M0;have hcx:=Λ hc1 hc2;have HC:=dS hcx hcs;have HE:=nY hw1 hx2 hbl;clear M0 hs hc1 hc2 hcx hcs hw1 hx2 hbl;have d1:decide ((k:Int)<0)=F_:=by simp
 have d2:decide ((19:Int)≤k)=F_:=by simp;omega
 have d3:(k:Int)<19:=by omega
 go_enter Tryz.func136,Tryz.ntmps136;go_upto_region 2 with(go_at_call 139;refine(AT.out _).mono ?_;rintro r w1 ⟨rfl,m1⟩;have K1:=af (Mv.call (H:=[]) (H':=[]) (R:=⟨cb,t,cs⟩::(y8 eg a c ct v::Hb)) K0.out m1);clear m1);have M2:=K1.alloc 218 #[i_ l_ q.qe,i_ l_ q.Fj,i_ l_ q.Tn,b_ q.swap];obtain⟨sb,hsb⟩:=X_ (w1.heap.size);obtain⟨w2,hw2⟩:=Y_ (w1.alloc (.cells #[i_ l_ q.qe,i_ l_ q.Fj,i_ l_ q.Tn,b_ q.swap] 218));rw[←hw2,hsb]at M2;rw[←hw2,hsb];obtain⟨H0,hH0⟩:=X_ (((⟨cb,t,cs⟩:HB)::(y8 eg a c ct v::Hb)));have M3:Mv w H0 w2.drew (XY eg cb sb t cs (9+k*2) v q a c ct xi xm Hb):=by unfold XY;rw[HC.1,←hH0];exact(M2.sub (fun g=>by simp only[aP,bK,gI,stB];omega) (fun c hc=>by simp only[ay,aC,stB]at hc⊢;grind)).drew
 have KH:=af hH0;clear hw2 hsb hH0 M2 K1 k0 K0 AT;obtain⟨f1,-,-,-,f5,-,-,-,f9,-,-,-⟩:=yX M3 HC.2;obtain⟨a',ha'⟩:∃a',a-q.qe=a':=⟨_,rfl⟩;obtain⟨c',hc'⟩:∃c',c+q.qe=c':=⟨_,rfl⟩;rw[ha',hc']at BE;have CQ:Hid ((c:Int)+q.qe=c'):=af (by omega);have c'1:(c':Int)≤150994944+22017:=by omega
 have aq:(a:Int)-q.qe=a':=by omega
 have a'1:(a':Int)≤65535:=by omega
 have a'0:(1:Int)≤a':=by omega
 have K3:=af M3;clear M3 ha' hc';go_still_tail 10,(by kernel_rfl);change wpList _ _ _ _ _ w2.drew;generalize w2.drew=w3 at*;go_upto_region 3 with fail;obtain⟨w4,hw4⟩:=Y_ (w3.setCell ⟨eg,0,N_⟩ (i_ l_ a'));have M4:=aeR K3 a';rw[←hw4]at M4⊢;have K4:=af M4;clear hw4 M4;clear f1 f5 f9 aq;obtain⟨fa,fc,fi,fm,Jd,xN,xO,Gs,ga,gc,gi,gm⟩:=yX K4 HC.2;have e1:=af5 bit hbit;go_upto_if 40 with fail;go_cut [40]from 41 (fun _ wx=>∃ar cr ir mr,QN ⟨a,c,ct,b⟩ ⟨xi,xm⟩ bit=(⟨ar,cr,ct,b⟩,⟨ir,mr⟩)∧Mv w H0 wx (XY eg cb sb t cs (9+k*2) v q ar cr ct ir mr Hb))
 case first=>
  by_cases hm:bit=xm
  ·have d4:((bit:Int)==(xm:Int))=T_:=by rw[hm];simp
   have HM:=af hm;clear hm;by_cases hA:32768≤a'
   ·have d5:decide ((32768:Int)≤a')=T_:=by simp;omega
    have cq:=CQ.out;have HA:=af hA;clear hA;go_upto_region 5 with fail;clear fa fc fi fm Jd xN xO Gs ga gc gi gm;have MD:=K4.drew;obtain⟨fa,fc,fi,fm,Jd,xN,xO,Gs,ga,gc,gi,gm⟩:=yX MD HC.2;have K5:=af MD;clear MD;go_still_tail 10,(by kernel_rfl);change wpList _ _ _ _ _ w4.drew;generalize w4.drew=w5 at*;go_wp2_with fail;have M9:=aeQ K5 c';have EE:Ia ⟨a,c,ct,b⟩ ⟨xi,xm⟩ bit=(⟨a',c',ct,b⟩,⟨xi,xm⟩):=by
     unfold Ia;rw[BE.out,aK HM.out,aK HA.out];have:normE 16 ⟨a',c',ct,b⟩=⟨a',c',ct,b⟩:=by unfold normE;rw[aJ (by simp only;have:=HA.out;omega)]
     simp only[this]
    rw[EE];exact dU (bH rfl _ _ _) rfl ⟨rfl,_,⟨v,Hb,rfl,HR.out⟩,by rw[KH.out];exact M9.sub (fun g=>by simp only[XY,bK];omega) (fun c hc=>by simp only[XY,aC]at hc⊢;grind)⟩
   ·have d5:decide ((32768:Int)≤a')=F_:=by simp;omega
    have HA:=af hA;clear hA;go_upto_region 6 with fail;by_cases hq:a'<q.qe
    ·have d6:decide ((a':Int)<q.qe)=T_:=by simp;omega
     have HQ:=af hq;clear hq;go_quiet (fail);have K7:=af (K4.drewN nq);clear fa fc fi fm Jd xN xO Gs ga gc gi gm;generalize w4.drewN nq=w7 at*;obtain⟨fa,fc,fi,fm,Jd,xN,xO,Gs,ga,gc,gi,gm⟩:=yX K7 HC.2;go_upto_region 9 with fail;clear fa fc fi fm Jd xN xO Gs ga gc gi gm;obtain⟨w8,hw8⟩:=Y_ (w7.setCell ⟨eg,0,N_⟩ (i_ l_ q.qe));have M8:=aeR K7 q.qe;rw[←hw8]at M8⊢;have K8:=af M8;clear hw8 M8;have MD:=K8.drew;obtain⟨fa,fc,fi,fm,Jd,xN,xO,Gs,ga,gc,gi,gm⟩:=yX MD HC.2;have K9:=af MD;clear MD;go_still_tail 7,(by kernel_rfl);change wpList _ _ _ _ _ w8.drew;generalize w8.drew=w9 at*;go_wp2_with fail;go_meet;exact⟨_,_,_,_,(by rw[BE.out,aK HM.out,aJ HA.out,aK HQ.out]),Tc K9 q.Fj⟩
    ·have d6:decide ((a':Int)<q.qe)=F_:=by simp;omega
     have HQ:=af hq;clear hq;go_quiet (fail);have K7:=af (K4.drewN nq);clear fa fc fi fm Jd xN xO Gs ga gc gi gm;generalize w4.drewN nq=w7 at*;have cq:=CQ.out;go_upto_region 8 with fail;have MD:=K7.drew;obtain⟨fa,fc,fi,fm,Jd,xN,xO,Gs,ga,gc,gi,gm⟩:=yX MD HC.2;have K10:=af MD;clear MD;go_still_tail 10,(by kernel_rfl);change wpList _ _ _ _ _ w7.drew;generalize w7.drew=w10 at*;go_upto_region 9 with fail;clear fa fc fi fm Jd xN xO Gs ga gc gi gm;clear cq;obtain⟨w11,akG⟩:=Y_ (w10.setCell ⟨eg,1,N_⟩ (i_ l_ c'));have M11:=aeQ K10 c';rw[←akG]at M11⊢;have XP:=af M11;clear akG M11;have MD:=XP.drew;obtain⟨fa,fc,fi,fm,Jd,xN,xO,Gs,ga,gc,gi,gm⟩:=yX MD HC.2;have y!:=af MD;clear MD;go_still_tail 7,(by kernel_rfl);change wpList _ _ _ _ _ w11.drew;generalize w11.drew=w12 at*;go_wp2_with fail;go_meet;exact⟨_,_,_,_,(by rw[BE.out,aK HM.out,aJ HA.out,aJ HQ.out]),Tc y! q.Fj⟩
  ·have d4:((bit:Int)==(xm:Int))=F_:=bF.2 (by omega);have HM:=af hm;clear hm;go_upto_region 10 with fail;obtain⟨m',hm'⟩:∃m',1-xm=m':=⟨_,rfl⟩;have MQ:Hid ((1:Int)-xm=m'):=af (by omega);have ME:=af hm';clear hm';by_cases hq:a'<q.qe
   ·have d6:decide ((a':Int)<q.qe)=T_:=by simp;omega
    have HQ:=af hq;clear hq;go_quiet (fail);have K7:=af (K4.drewN nq);clear fa fc fi fm Jd xN xO Gs ga gc gi gm;generalize w4.drewN nq=w7 at*;have cq:=CQ.out;go_upto_region 11 with fail;have MD:=K7.drew;obtain⟨fa,fc,fi,fm,Jd,xN,xO,Gs,ga,gc,gi,gm⟩:=yX MD HC.2;have K13:=af MD;clear MD;go_still_tail 10,(by kernel_rfl);change wpList _ _ _ _ _ w7.drew;generalize w7.drew=w13 at*;go_upto_region 13 with fail;clear fa fc fi fm Jd xN xO Gs ga gc gi gm;clear cq;obtain⟨w14,akF⟩:=Y_ (w13.setCell ⟨eg,1,N_⟩ (i_ l_ c'));have M14:=aeQ K13 c';rw[←akF]at M14⊢;have K14:=af M14;clear akF M14;rcases(dB q.swap).symm with hsw|hsw
    ·obtain⟨fa,fc,fi,fm,Jd,xN,xO,Gs,ga,gc,gi,gm⟩:=yX K14 HC.2;rw[hsw]at Gs;have HS:=af hsw;clear hsw;go_upto_region 15 with fail;clear fa fc fi fm Jd xN xO Gs ga gc gi gm;have MD:=K14.drew;obtain⟨fa,fc,fi,fm,Jd,xN,xO,Gs,ga,gc,gi,gm⟩:=yX MD HC.2;have x!:=af MD;clear MD;go_still_tail 7,(by kernel_rfl);change wpList _ _ _ _ _ w14.drew;generalize w14.drew=w15 at*;go_wp2_with fail;go_meet;exact⟨_,_,_,_,(by rw[BE.out,aJ HM.out,aK HQ.out,aJ (by rw[HS.out];decide)]),Tc x! q.Tn⟩
    ·obtain⟨fa,fc,fi,fm,Jd,xN,xO,Gs,ga,gc,gi,gm⟩:=yX K14 HC.2;rw[hsw]at Gs;have HS:=af hsw;clear hsw;go_upto_region 14 with fail;clear fa fc fi fm Jd xN xO Gs ga gc gi gm;have mq:=MQ.out;have MD:=K14.drew;obtain⟨fa,fc,fi,fm,Jd,xN,xO,Gs,ga,gc,gi,gm⟩:=yX MD HC.2;have K16:=af MD;clear MD;go_still_tail 12,(by kernel_rfl);change wpList _ _ _ _ _ w14.drew;generalize w14.drew=w16 at*;go_upto_region 15 with fail;clear fa fc fi fm Jd xN xO Gs ga gc gi gm;clear mq;obtain⟨w17,akE⟩:=Y_ (w16.setCell ⟨cb,9+k*2+1,N_⟩ (i_ l_ m'));have M17:=aiE K16 m';rw[←akE]at M17⊢;have K17:=af M17;clear akE M17;have MD:=K17.drew;obtain⟨fa,fc,fi,fm,Jd,xN,xO,Gs,ga,gc,gi,gm⟩:=yX MD HC.2;have K18:=af MD;clear MD;go_still_tail 7,(by kernel_rfl);change wpList _ _ _ _ _ w17.drew;generalize w17.drew=w18 at*;go_wp2_with fail;go_meet;exact⟨_,_,_,_,(by rw[BE.out,aJ HM.out,aK HQ.out,aK HS.out,←ME.out]),Tc K18 q.Tn⟩
   ·have d6:decide ((a':Int)<q.qe)=F_:=by simp;omega
    have HQ:=af hq;clear hq;go_quiet (fail);have K7:=af (K4.drewN nq);clear fa fc fi fm Jd xN xO Gs ga gc gi gm;generalize w4.drewN nq=w7 at*;obtain⟨fa,fc,fi,fm,Jd,xN,xO,Gs,ga,gc,gi,gm⟩:=yX K7 HC.2;go_upto_region 13 with fail;clear fa fc fi fm Jd xN xO Gs ga gc gi gm;obtain⟨w19,akD⟩:=Y_ (w7.setCell ⟨eg,0,N_⟩ (i_ l_ q.qe));have M19:=aeR K7 q.qe;rw[←akD]at M19⊢;have K19:=af M19;clear akD M19;rcases(dB q.swap).symm with hsw|hsw
    ·obtain⟨fa,fc,fi,fm,Jd,xN,xO,Gs,ga,gc,gi,gm⟩:=yX K19 HC.2;rw[hsw]at Gs;have HS:=af hsw;clear hsw;go_upto_region 15 with fail;clear fa fc fi fm Jd xN xO Gs ga gc gi gm;have MD:=K19.drew;obtain⟨fa,fc,fi,fm,Jd,xN,xO,Gs,ga,gc,gi,gm⟩:=yX MD HC.2;have K20:=af MD;clear MD;go_still_tail 7,(by kernel_rfl);change wpList _ _ _ _ _ w19.drew;generalize w19.drew=w20 at*;go_wp2_with fail;go_meet;exact⟨_,_,_,_,(by rw[BE.out,aJ HM.out,aJ HQ.out,aJ (by rw[HS.out];decide)]),Tc K20 q.Tn⟩
    ·obtain⟨fa,fc,fi,fm,Jd,xN,xO,Gs,ga,gc,gi,gm⟩:=yX K19 HC.2;rw[hsw]at Gs;have HS:=af hsw;clear hsw;go_upto_region 14 with fail;clear fa fc fi fm Jd xN xO Gs ga gc gi gm;have mq:=MQ.out;have MD:=K19.drew;obtain⟨fa,fc,fi,fm,Jd,xN,xO,Gs,ga,gc,gi,gm⟩:=yX MD HC.2;have K21:=af MD;clear MD;go_still_tail 12,(by kernel_rfl);change wpList _ _ _ _ _ w19.drew;generalize w19.drew=w21 at*;go_upto_region 15 with fail;clear fa fc fi fm Jd xN xO Gs ga gc gi gm;clear mq;obtain⟨w22,akC⟩:=Y_ (w21.setCell ⟨cb,9+k*2+1,N_⟩ (i_ l_ m'));have M22:=aiE K21 m';rw[←akC]at M22⊢;have K22:=af M22;clear akC M22;have MD:=K22.drew;obtain⟨fa,fc,fi,fm,Jd,xN,xO,Gs,ga,gc,gi,gm⟩:=yX MD HC.2;have K23:=af MD;clear MD;go_still_tail 7,(by kernel_rfl);change wpList _ _ _ _ _ w22.drew;generalize w22.drew=w23 at*;go_wp2_with fail;go_meet;exact⟨_,_,_,_,(by rw[BE.out,aJ HM.out,aJ HQ.out,aK HS.out,←ME.out]),Tc K23 q.Tn⟩
 obtain⟨ar,cr,ir,mr,hbe,m1⟩:=hcut;obtain⟨W1,X1,B1⟩:=HE.out;rw[hbe]at W1 X1;obtain⟨R,hR⟩:=X_ (normE 16 ⟨ar,cr,ct,b⟩);have EE:Hid (Ia ⟨a,c,ct,b⟩ ⟨xi,xm⟩ bit=(R,⟨ir,mr⟩)):=af (by unfold Ia;rw[hbe];simp only[hR]);obtain⟨CX,hCX⟩:∃CX:HB,CX=⟨cb,t,Ag cs (9+k*2) ir mr⟩:=⟨_,rfl⟩;have m2:Mv w H0 wc ((y8 eg ar cr ct v::Hb)++[CX]):=by rw[hCX];exact m1.sub (fun g=>by simp only[XY,aP,bK,gI];omega) (fun c hc=>by simp only[XY,ay,aC]at hc⊢;grind)
 have KL:=nY W1 hR m2;have HX:=af hCX;have r0:1≤ar:=W1.1;have r1:32768≤ar*2^16:=by omega
 have HB1:=dS r1 hl;clear hbe m1 W1 X1 B1 hR hCX m2 r1 r0 HE BE K3 K4 CQ HC e1 a1 a2 a3 a4 a6 a7 hl c'1 a'1 a'0;go_wp2_with fail;go_loopg [] 16 (fun m wx=>∃(f:Nat) (e1:kV) (H1:List HB),m=f∧f≤16∧Ou eg e1 H1∧Mv w H0 wx (H1++[CX])∧e1.W∧32768≤e1.a*2^f∧normE f e1=R∧e1.b.length+f≤80000016)
 case atStart=>exact⟨16,⟨ar,cr,ct,b⟩,_,rfl,aN _,⟨v,Hb,rfl,HR.out⟩,KL.2.2,KL.1,HB1.1,KL.2.1,by have:=HB1.2;simp only;omega⟩
 case round=>
  obtain⟨f,⟨ae,ce,X3,be⟩,H1,rfl,hf,⟨ve,Hbe,rfl,hre⟩,mE,wE,hE,nE,lE⟩:=hrel;obtain⟨g1,g2,g3,g4,g5,g6⟩:=wE;simp only at g1 g2 g3 g4 g5 g6 hE lE hre mE;have b0:=(mE.blk 0 rfl);have y0:=b0.cell 0;have KE:=LH hre mE (show kV.W ⟨ae,ce,X3,be⟩from⟨g1,g2,g3,g4,g5,g6⟩) hE nE;by_cases hlt:ae<32768
  ·have d1:decide ((ae:Int)<32768)=T_:=by simp;omega
   obtain⟨f',rfl⟩:∃f',gk=f'+1:=⟨gk-1,by
    rcases gk with _|gk
    ·simp at hE;omega
    ·omega⟩
   have hc2:(ce+ae)*2≤150994944:=fD (l7 _ (show 2≤2^X3 from fD (by decide) (fB (by decide) g3))) g5;obtain⟨a2,ha2⟩:=X_ (2*ae);obtain⟨c2,hc2'⟩:∃c2,2*ce=c2:=⟨_,rfl⟩;obtain⟨ct1,ajI⟩:=X_ (X3-1);have EA:Hid ((2:Int)*ae=a2):=af (by omega);have EC:Hid ((2:Int)*ce=c2):=af (by omega);have ET:Hid ((X3:Int)-1=(ct1:Int)):=af (by omega);have ba:(a2:Int)≤65536:=by omega
   have bc:(c2:Int)≤150994944:=by omega
   have bcn:c2≤1000000000000:=by omega
   have bt:(ct1:Int)≤12:=by omega
   have DB:Hid (Gp ⟨ae,ce,X3,be⟩=if X3=1 then yc ⟨a2,c2,0,be⟩else⟨a2,c2,ct1,be⟩):=af (by unfold Gp;simp only[ha2,hc2',ajI]);have HCT:=af ajI;obtain⟨DW,DA⟩:=QF KE.2.2.1 hlt;have DL:(Gp ⟨ae,ce,X3,be⟩).b.length≤be.length+1:=by
    unfold Gp;split
    ·have:=Eg ⟨2*ae,2*ce,0,be⟩ g6;simp only at this;simp only;omega
    ·simp
   have NE:normE f' (Gp ⟨ae,ce,X3,be⟩)=R:=by have h1:=KE.2.2.2.2;unfold normE at h1;rw[aK (show(⟨ae,ce,X3,be⟩:kV).a<0x8000 from hlt)]at h1;exact h1
   have HE2:32768≤(Gp ⟨ae,ce,X3,be⟩).a*2^f':=by
    rw[DA];have h1:=KE.2.2.2.1;rw[Nat.pow_succ]at h1;have h2:2*ae*2^f'=ae*(2^f'*2):=by rw[dX 2 ae,qF,dX 2 (2^f')]
    simp only;omega
   have KD:=zO DW DL NE HE2;clear b0 g5 hE nE hc2 ha2 hc2' ajI DW DA DL NE HE2;go_upto_region 17 with fail;have MD:=mE;have z0:=(MD.blk 0 rfl);have z1:=z0.cell 0;have z2:=z0.cell 1;have z3:=z0.frozen 0;have z4:=z0.frozen 1;have ea:=EA.out;have ec:=EC.out;have KM:=af MD;clear MD z0 mE y0;go_cut []from 133 to 162 (fun wx=>Mv w H0 wx (y8 eg a2 c2 X3 ve::(Hbe++[CX])))
   case first=>
    go_region
    all_goals go_wp2_with fail;go_meet;exact((KM.out.set 0 (i_ l_ a2)).set 1 (i_ l_ c2)).drew
   clear ea ec z1 z2 z3 z4 KM;obtain⟨v2,rfl⟩:∃v2:World,v2=wc:=⟨_,rfl⟩;have M2:=hcut;have t1:=(M2.blk 0 rfl).cell 2;have t2:=(M2.blk 0 rfl).frozen 2;have K2:=af M2;have et:=ET.out;clear M2 hcut;go_upto_region 19 with fail;clear et t1 t2;have M3:Mv w H0 (v2.setCell ⟨eg,2,N_⟩ (i_ l_ ct1)) (y8 eg a2 c2 ct1 ve::(Hbe++[CX])):=K2.out.set 2 (i_ l_ ct1);obtain⟨v3,hv3⟩:=Y_ (v2.setCell ⟨eg,2,N_⟩ (i_ l_ ct1));rw[←hv3]at M3⊢;have t1:=(M3.blk 0 rfl).cell 2;have K3:=af M3;clear hv3 M3 K2;by_cases hct:ct1=0
   ·subst hct;have aj3:Hid (X3=1):=af (by have:=HCT.out;omega);have OUT:Hid (Calls P_ 104 #[p_ (S_ ⟨eg,0,N_⟩)] v3 fun r w'=>r=r_ (t_ #[])∧∃H',Ou eg (yc ⟨a2,c2,0,be⟩) H'∧Mv v3 (y8 eg a2 c2 0 ve::Hbe) w' H'):=af (aaf eg ⟨a2,c2,0,be⟩ v3 _ ⟨ve,Hbe,rfl,KE.1⟩ (K3.sat.left (A:=y8 eg a2 c2 0 ve::Hbe)) g6 (by simp only;omega) bcn);go_wp2_with (go_at_call 104;refine OUT.out.mono ?_;rintro r v4 ⟨rfl,H4,h4,m4⟩;have K4:=dS h4 (Mv.call (H:=y8 eg a2 c2 0 ve::Hbe) (R:=[CX]) K3.out m4);clear h4 m4);go_roundg f'
    case measure=>omega
    case rel=>
     have e2:Gp ⟨ae,ce,X3,be⟩=yc ⟨a2,c2,0,be⟩:=by rw[DB.out,aK aj3.out]
     obtain⟨k1,k2,k3,k4⟩:=KD.out;rw[e2]at k1 k2 k3 k4;exact⟨f',_,H4,rfl,by omega,K4.1,K4.2,k1,k4,k3,by omega⟩
   ·have d4:((ct1:Int)==0)=F_:=bF.2 (by omega);have aj3:Hid (¬X3=1):=af (by have:=HCT.out;omega);go_wp2_with fail;go_roundg f'
    case measure=>omega
    case rel=>
     have e2:Gp ⟨ae,ce,X3,be⟩=⟨a2,c2,ct1,be⟩:=by rw[DB.out,aJ aj3.out]
     obtain⟨k1,k2,k3,k4⟩:=KD.out;rw[e2]at k1 k2 k3 k4;exact⟨f',⟨a2,c2,ct1,be⟩,_,rfl,by omega,⟨ve,Hbe,rfl,KE.1⟩,K3.out,k1,k4,k3,by simp only at k2⊢;omega⟩
  ·have d1:decide ((ae:Int)<32768)=F_:=by simp;omega
   clear b0 mE g5 hE nE;go_wp2_with fail;have eR:R=⟨ae,ce,X3,be⟩:=by
    rw[←KE.2.2.2.2];cases gk with
    |zero=>rfl
    |succ gk=>unfold normE;rw[aJ (by simp only;omega)]
   refine dm (bH rfl _ _ _) rfl ?_;rw[EE.out];refine⟨rfl,_,⟨ve,Hbe,by rw[eR],by rw[eR];exact KE.1⟩,?_⟩;rw[KH.out,←HX.out];exact KE.2.1.Z_
def Mc(rg cur free top:Nat)(v:Value):HB:=⟨rg,189,#[v,i_ l_ cur,i_ l_ free,i_ l_ top]⟩
def Vg(rg:Nat)(r:FU)(H:List HB):Prop:=∃vb Hb,H=Mc rg r.cur r.free r.top vb::Hb∧dR vb r.b Hb
theorem ahz(w:World):Calls P_ 58 #[] w fun e w'=>∃rg H,e=r_ (p_ (S_ ⟨rg,0,N_⟩))∧Vg rg Aj H∧Mv w [] w' H:=by go_enter Tryz.func58,Tryz.ntmps58;go_wp2_with fail;go_ret;exact⟨_,_,rfl,⟨_,_,rfl,dh.nil _ _⟩,iF w _ _⟩
theorem agO(b k:Nat)(hk:k≤8):IntKind.i64.wrap (((b%2:Nat):Int)*2^k)=((b%2*2^k:Nat):Int):=by
 have h1:2^k≤2^8:=fB (by omega) hk;have h2:b%2*2^k≤1*2^k:=dK _ (by omega);have e:((b%2:Nat):Int)*2^k=((b%2*2^k:Nat):Int):=by push_cast;rfl
 rw[e,fF _ (by omega)]
theorem ai4(cur b k:Nat)(hk:k≤8)(hc:cur<256):bits .or l_ (cur:Int) (IntKind.i64.wrap (bits .and l_ (b:Int) 1*2^min (IntKind.u64.wrap (k:Int)).toNat 64))=((cur|||b%2*2^k:Nat):Int):=by
 have e1:bits .and l_ (b:Int) 1=((b%2:Nat):Int):=by rw[yY];omega
 have e2:IntKind.u64.wrap (k:Int)=k:=IntWalk.u64_in _ (by omega);have e3:min (k:Int).toNat 64=k:=by omega
 have h1:2^k≤2^8:=fB (by omega) hk;have h2:b%2*2^k≤1*2^k:=dK _ (by omega);rw[e1,e2,e3,agO b k hk,Fq cur _ (by omega) (by omega)]
theorem ahg(rg:Nat)(r:FU)(b:Nat)(w:World)(H:List HB)(h:Vg rg r H)(hs:Sat w H)(hok:r.Ok)(hl:r.b.length≤90000000)(_hb:b≤1):Calls P_ 135 #[p_ (S_ ⟨rg,0,N_⟩),i_ l_ b] w fun e w'=>e=r_ (t_ #[])∧∃H',Vg rg (zA r b) H'∧Mv w H w' H':=by
 obtain⟨o1,o2,o3,o4⟩:=hok;have hcl:=Sv ⟨o1,o2,o3,o4⟩ b;obtain⟨bs,cur,free,top⟩:=r;simp only at o1 o2 o3 o4 hcl hl;obtain⟨vb,Hb,rfl,hr⟩:=h;simp only at hr;obtain⟨k,rfl⟩:∃k,free=k+1:=⟨free-1,by omega⟩;simp only[gV]at hcl;have EO:zA ⟨bs,cur,k+1,top⟩ b=if k=0 then(if cur|||b%2*2^k=255 then⟨bs++[UInt8.ofNat (cur|||b%2*2^k)],0,7,7⟩else⟨bs++[UInt8.ofNat (cur|||b%2*2^k)],0,8,8⟩)else⟨bs,cur|||b%2*2^k,k,top⟩:=by
  unfold zA;simp only[gV];by_cases hk:k=0
  ·rw[aK hk,aK (by omega)]
  ·rw[aJ hk,aJ (by omega)]
 have VOR:=ai4 cur b k (by omega) o4;obtain⟨c,hc⟩:=X_ (cur|||b%2*2^k);rw[hc]at EO hcl VOR;clear hc;rw[EO];have VO:=af VOR;clear VOR EO;obtain⟨n,hn⟩:=X_ (bs.length);obtain⟨va,vc,rfl⟩:=hr.slice;have M0:=Mv.refl hs;rw[hn]at hr M0⊢;simp only at M0;have c2:w.cell? ⟨rg,2,N_⟩=S_ (i_ l_ (k+1:Nat)):=M0.cell 0 rfl 2;have f2:w.frozen? ⟨rg,2,N_⟩=F_:=M0.frozen 0 rfl 2;have M1:=M0.set 2 (i_ l_ k);obtain⟨w1,hw1⟩:=Y_ (w.setCell ⟨rg,2,N_⟩ (i_ l_ k));rw[←hw1]at M1;have HW:=af hw1;have K1:=dS hr M1;have d1:((k+1:Nat):Int)-1=(k:Int):=by omega
 have kb:(k:Int)≤7:=by omega
 clear hw1 hr M0 M1 hs;go_enter Tryz.func135,Tryz.ntmps135;go_upto_region 1 with fail;rw[←HW.out];clear HW c2 f2 d1;have e1:=K1.2.drew.cell 0 rfl 1;have e2:=K1.2.drew.cell 0 rfl 2;have g1:=K1.2.drew.frozen 0 rfl 1;go_still_tail 16,(by kernel_rfl);change wpList _ _ _ _ _ w1.drew;simp only[VO.out];have M2:=K1.2.drew.set 1 (i_ l_ c);generalize w1.drew=w2 at*;obtain⟨w3,hw3⟩:=Y_ (w2.setCell ⟨rg,1,N_⟩ (i_ l_ c));rw[←hw3]at M2;replace M2:Mv w (Mc rg cur (k+1) top (s_ va n vc)::Hb) w3 (Mc rg c k top (s_ va n vc)::Hb):=M2;have K2:=nY K1.1 M2 hn;have HW:=af hw3;clear M2 K1 VO hn hw3;by_cases hk:k=0
 case neg=>
  have d1:decide ((0:Int)<k)=T_:=by simp;omega
  have y2:=K2.2.1.cell 0 rfl 2;go_upto_region 2 with fail;rw[←HW.out];clear e1 e2 g1 HW;go_wp2_with fail;refine dU (bH rfl _ _ _) rfl ⟨rfl,_,?_,K2.2.1⟩;exact⟨_,Hb,rfl,K2.1⟩
 case pos=>
  subst hk;have y2:=K2.2.1.cell 0 rfl 2;go_upto_region 2 with fail;rw[←HW.out];clear e1 e2 g1 HW;obtain⟨x,hx⟩:=X_ (UInt8.ofNat c);have XZ:IntKind.u8.wrap (c:Int)=x.toNat:=by rw[xQ,←hx,←LU]
  go_upto_region 3 with fail;have e0:=K2.2.1.cell 0 rfl 0;have e1:=K2.2.1.cell 0 rfl 1;have JI:=K2.2.1.alloc 5 #[i_ .u8 (x.toNat:Int)];have y7:=JI.cell 1 rfl 0;have A1:Hid (BV (w3.alloc (.cells #[i_ .u8 (x.toNat:Int)] 5)).drew (s_ (S_ ⟨w3.heap.size,0,N_⟩) 1 1) [x]):=af (BU w3 x _ rfl);have K3:=af (Mv.behind JI.drew);have HX:=af hx;clear JI hx;go_region_law (first|((with_reducible refine vU (o:=⟨S_ 43,_,_,_,_,_⟩) (v:=s_ va n vc) (u:=s_ (S_ ⟨w3.heap.size,0,N_⟩) 1 1) (l:=bs) (r:=[x]) (H:=Hb) rfl (.tmp 36) (.tmp 42) rfl ?_ ?_ K2.out.1 K3.out.sat.left A1.out ?_ ?_);simp[Act.eval];simp[Act.eval];(simp;omega);intro v6 w6 H6 yN m6;obtain⟨a6,c6,rfl⟩:=yN.slice;have M6:=Mv.second (Mv.call K3 m6);have y3:=M6.cell 0 rfl 0;have z3:=M6.frozen 0 rfl 0;have K6:=dS yN M6;clear yN m6 M6))
  all_goals
   have M7:=K6.2.set 0 (s_ a6 (bs.length+1) c6);obtain⟨w7,hw7⟩:=Y_ (w6.setCell ⟨rg,0,N_⟩ (s_ a6 (bs.length+1) c6));rw[←hw7]at M7⊢;replace M7:Mv w (Mc rg cur (0+1) top (s_ va n vc)::Hb) w7 (Mc rg c 0 top (s_ a6 (bs.length+1) c6)::H6):=M7;have m1:=M7.cell 0 rfl 1;have m2:=M7.cell 0 rfl 2;have m3:=M7.cell 0 rfl 3;have n1:=M7.frozen 0 rfl 1;have n2:=M7.frozen 0 rfl 2;have n3:=M7.frozen 0 rfl 3;have K7:=af M7;have h6:dR (s_ a6 (bs.length+1) c6) (bs++[x]) H6:=by have:=K6.1;simp only[au,List.length_cons,List.length_nil,dH]at this;exact this
   have HR:=af h6;clear hw7 M7 y3 z3 y2 e0 e1 y7 K6 h6 XZ;by_cases ig:c=255
   ·have d3:((c:Int)==255)=T_:=by rw[ig];rfl
    have HC:=af ig;clear ig;go_wp2_with fail;have M9:Mv w (Mc rg cur (0+1) top (s_ va n vc)::Hb) _ (Mc rg 0 7 7 (s_ a6 (bs.length+1) c6)::H6):=((((K7.out.set 2 (i_ l_ 8)).set 3 (i_ l_ 8)).set 2 (i_ l_ 7)).set 3 (i_ l_ 7)).set 1 (i_ l_ 0);refine dm (bH rfl _ _ _) rfl ⟨rfl,_,?_,M9⟩
    (try rw[aK rfl])
    (try rw[aK HC.out])
    have hx255:x=255:=by rw[←HX.out,HC.out];rfl
    exact⟨_,H6,rfl,by have:=HR.out;rw[hx255]at this;exact this⟩
   ·have d3:((c:Int)==255)=F_:=bF.2 (by omega);have d4:¬((c:Int)=255):=by omega
    have HC:=af ig;clear ig;go_wp2_with fail;have M9:Mv w (Mc rg cur (0+1) top (s_ va n vc)::Hb) _ (Mc rg 0 8 8 (s_ a6 (bs.length+1) c6)::H6):=((K7.out.set 2 (i_ l_ 8)).set 3 (i_ l_ 8)).set 1 (i_ l_ 0);refine dm (bH rfl _ _ _) rfl ⟨rfl,_,?_,M9⟩
    (try rw[aK rfl])
    (try rw[aJ HC.out])
    (try rw[HX.out])
    exact⟨_,H6,rfl,HR.out⟩
theorem zero3(h v d:Nat)(w:World)(h1:h≤2)(h2:v≤2)(h3:d≤4):Calls P_ 130 #[i_ l_ 3,i_ l_ h,i_ l_ v,i_ l_ d] w fun e w'=>e=r_ (i_ l_ (Ox 3 h v d:Nat))∧w'=w:=by
 rcases(show h=0∨h=1∨h=2 by omega)with rfl|rfl|rfl<;>rcases(show v=0∨v=1∨v=2 by omega)with rfl|rfl|rfl<;>rcases(show d=0∨d=1∨d=2∨d=3∨d=4 by omega)with rfl|rfl|rfl|rfl|rfl
 all_goals clear h1 h2 h3;go_enter Tryz.func130,Tryz.ntmps130;go_wp2_with fail;go_ret;exact⟨rfl,rfl⟩
theorem aka(h v d:Nat)(w:World)(h1:h≤2)(h2:v≤2)(h3:d≤4):Calls P_ 130 #[i_ l_ 1,i_ l_ h,i_ l_ v,i_ l_ d] w fun e w'=>e=r_ (i_ l_ (Ox 1 h v d:Nat))∧w'=w:=by
 rcases(show h=0∨h=1∨h=2 by omega)with rfl|rfl|rfl<;>rcases(show v=0∨v=1∨v=2 by omega)with rfl|rfl|rfl<;>rcases(show d=0∨d=1∨d=2∨d=3∨d=4 by omega)with rfl|rfl|rfl|rfl|rfl
 all_goals clear h1 h2 h3;go_enter Tryz.func130,Tryz.ntmps130;go_wp2_with fail;go_ret;exact⟨rfl,rfl⟩
theorem akb(band:Nat)(h v d:Nat)(w:World)(h1:h≤2)(h2:v≤2)(h3:d≤4)(n3:band≠3)(n1:band≠1):Calls P_ 130 #[i_ l_ band,i_ l_ h,i_ l_ v,i_ l_ d] w fun e w'=>e=r_ (i_ l_ (Ox band h v d:Nat))∧w'=w:=by
 have c3:((band:Int)==3)=F_:=bF.2 (by omega);have c1:((band:Int)==1)=F_:=bF.2 (by omega);have e:Ox band h v d=Ox 0 h v d:=by unfold Ox;rw[aJ n3,aJ n1];rfl
 rw[e];clear e n3 n1;rcases(show h=0∨h=1∨h=2 by omega)with rfl|rfl|rfl<;>rcases(show v=0∨v=1∨v=2 by omega)with rfl|rfl|rfl<;>rcases(show d=0∨d=1∨d=2∨d=3∨d=4 by omega)with rfl|rfl|rfl|rfl|rfl
 all_goals clear h1 h2 h3;go_enter Tryz.func130,Tryz.ntmps130;go_wp2_with fail;go_ret;exact⟨rfl,rfl⟩
theorem adA(band h v d:Nat)(w:World)(h1:h≤2)(h2:v≤2)(h3:d≤4):Calls P_ 130 #[i_ l_ band,i_ l_ h,i_ l_ v,i_ l_ d] w fun e w'=>e=r_ (i_ l_ (Ox band h v d:Nat))∧w'=w:=by
 by_cases n3:band=3
 ·subst n3;exact zero3 h v d w h1 h2 h3
 ·by_cases n1:band=1
  ·subst n1;exact aka h v d w h1 h2 h3
  ·exact akb band h v d w h1 h2 h3 n3 n1
theorem ad4(h v:Int)(w:World)(h1: -1≤h∧h≤1)(h2: -1≤v∧v≤1):Calls P_ 132 #[i_ l_ h,i_ l_ v] w fun e w'=>e=r_ (t_ #[i_ l_ (((sctx h v).k:Nat):Int),i_ l_ (((sctx h v).turn:Nat):Int)])∧w'=w:=by
 rcases(show h= -1∨h=0∨h=1 by omega)with rfl|rfl|rfl<;>rcases(show v= -1∨v=0∨v=1 by omega)with rfl|rfl|rfl
 all_goals clear h1 h2;go_enter Tryz.func132,Tryz.ntmps132;go_wp2_with fail;go_ret2;exact⟨rfl,rfl⟩
theorem Zn(first:Bool)(n:Nat)(w:World):Calls P_ 125 #[b_ first,i_ l_ n] w fun e w'=>e=r_ (i_ l_ (Uz first n:Nat))∧w'=w:=by
 by_cases hn:0<n
 ·have d1:decide ((0:Int)<n)=T_:=by simp;omega
  have e:Uz first n=if first then 15 else 16:=by unfold Uz;rw[aK hn]
  rw[e];clear e;cases first<;>(go_enter Tryz.func125,Tryz.ntmps125;go_wp2_with fail;go_ret;exact⟨rfl,rfl⟩)
 ·have d1:decide ((0:Int)<n)=F_:=by simp;omega
  have e:Uz first n=if first then 14 else 16:=by unfold Uz;rw[aJ hn]
  rw[e];clear e;cases first<;>(go_enter Tryz.func125,Tryz.ntmps125;go_wp2_with fail;go_ret;exact⟨rfl,rfl⟩)
theorem count_any(p:Nat)(w:World)(hp:p≤1000):Calls P_ 55 #[i_ l_ p] w fun e w'=>e=r_ (i_ l_ (oM p:Nat))∧w'=w:=by
 go_enter Tryz.func55,Tryz.ntmps55;go_wp2_with fail
 all_goals go_ret;refine⟨fM (fun z=>Ending.returned (i_ l_ z)) ?_,rfl⟩;unfold oM;omega
theorem Qd(k:Nat)(w:World)(hp:k≤1000):Calls P_ 100 #[i_ l_ k] w fun e w'=>e=r_ (i_ l_ (wS k:Nat))∧w'=w:=by
 by_cases h0:k=0
 ·subst h0;go_enter Tryz.func100,Tryz.ntmps100;go_wp2_with fail;go_ret;exact⟨rfl,rfl⟩
 ·obtain⟨j,rfl⟩:∃j,k=j+1:=⟨k-1,by omega⟩;have d1:(((j+1:Nat):Int)==0)=F_:=bF.2 (by omega);have e:wS (j+1)=j%3:=by unfold wS;rw[aJ h0,gV]
  rw[e];have d2:((j+1:Nat):Int)-1=(j:Int):=by omega
  clear h0 e;go_enter Tryz.func100,Tryz.ntmps100;go_wp2_with fail;go_ret;refine⟨fM (fun z=>Ending.returned (i_ l_ z)) ?_,rfl⟩;omega
theorem one_any(b:Bool)(w:World):Calls P_ 54 #[b_ b] w fun e w'=>e=r_ (i_ l_ (yh b:Nat))∧w'=w:=by cases b<;>(go_enter Tryz.func54,Tryz.ntmps54;go_wp2_with fail;go_ret;exact⟨rfl,rfl⟩)
structure oP where
 cb:Nat
 gm:Nat
 gn:Nat
 gs:Nat
 ge:Nat
 ga:Nat
def Ci(g n:Nat):Value:=s_ (S_ ⟨g,0,N_⟩) n n
def Di(l:List CG):List Value:=l.flatMap fun c=>[i_ l_ c.i,i_ l_ c.Fj]
def FC(A:oP)(G:GeoM)(cx:List CG)(raw:Bool)(eg rg:Nat):List Value:= [i_ l_ G.w,i_ l_ G.h,i_ l_ G.band,i_ l_ G.ah,Ci A.gm (G.w*G.h),Ci A.gn (G.w*G.h),Ci A.gs (G.w*G.h),Ci A.ge (G.w*G.h),Ci A.ga (G.w*G.h)]++(Di cx++[b_ T_,b_ raw,p_ (S_ ⟨eg,0,N_⟩),p_ (S_ ⟨rg,0,N_⟩),.pointer N_,.pointer N_])
def XG(A:oP)(G:GeoM)(cx:List CG)(raw:Bool)(eg rg:Nat):HB:=⟨A.cb,133,(FC A G cx raw eg rg).toArray⟩
def vk(g:Nat)(l:List Nat):HB:=⟨g,3,(l.map fun(n:Nat)=>Value.int l_ n).toArray⟩
def yT(g:Nat)(l:List Bool):HB:=⟨g,4,(l.map Value.bool).toArray⟩
def je(A:oP)(G:GeoM)(q:CS)(raw:Bool)(eg rg:Nat)(H:List HB):Prop:= ∃He Hr,Ou eg q.s.e He∧Vg rg q.s.r Hr∧H=XG A G q.s.cx raw eg rg::vk A.gm G.yl::vk A.gn G.neg::yT A.gs q.c.sig::yT A.ge q.c.seen::yT A.ga q.c.again::(He++Hr)
structure Cf(w:World)(A:oP)(G:GeoM)(c:vO):Prop where
 w_:w.cell? ⟨A.cb,0,N_⟩=S_ (i_ l_ G.w)
 h_:w.cell? ⟨A.cb,1,N_⟩=S_ (i_ l_ G.h)
 band:w.cell? ⟨A.cb,2,N_⟩=S_ (i_ l_ G.band)
 ah:w.cell? ⟨A.cb,3,N_⟩=S_ (i_ l_ G.ah)
 m_:w.cell? ⟨A.cb,4,N_⟩=S_ (Ci A.gm (G.w*G.h))
 n_:w.cell? ⟨A.cb,5,N_⟩=S_ (Ci A.gn (G.w*G.h))
 s_:w.cell? ⟨A.cb,6,N_⟩=S_ (Ci A.gs (G.w*G.h))
 e_:w.cell? ⟨A.cb,7,N_⟩=S_ (Ci A.ge (G.w*G.h))
 a_:w.cell? ⟨A.cb,8,N_⟩=S_ (Ci A.ga (G.w*G.h))
 yl:∀i,i<G.w*G.h→w.cell? ⟨A.gm,i,N_⟩=S_ (i_ l_ (G.yl.getD i 0:Nat))
 neg:∀i,i<G.w*G.h→w.cell? ⟨A.gn,i,N_⟩=S_ (i_ l_ (G.neg.getD i 0:Nat))
 sig:∀i,i<G.w*G.h→w.cell? ⟨A.gs,i,N_⟩=S_ (b_ (c.sig.getD i F_))
 seen:∀i,i<G.w*G.h→w.cell? ⟨A.ge,i,N_⟩=S_ (b_ (c.seen.getD i F_))
 again:∀i,i<G.w*G.h→w.cell? ⟨A.ga,i,N_⟩=S_ (b_ (c.again.getD i F_))
theorem Cf.drewN{w:World}{A:oP}{G:GeoM}{c:vO}(h:Cf w A G c)(n:Nat):Cf (w.drewN n) A G c:=⟨h.w_,h.h_,h.band,h.ah,h.m_,h.n_,h.s_,h.e_,h.a_,h.yl,h.neg,h.sig,h.seen,h.again⟩
theorem GN{w:World}{g:Nat}{l:List Nat}(h:zh w (vk g l).g (vk g l).t (vk g l).cs){n:Nat}(hl:l.length=n)(i:Nat)(hi:i<n):w.cell? ⟨g,i,N_⟩=S_ (i_ l_ (l.getD i 0:Nat)):=by
 have h1:w.cell? ⟨g,i,N_⟩=(l.map fun(n:Nat)=>Value.int l_ n).toArray[i]?:=h.cell i;have h2:l[i]?=S_ (l.getD i 0):=by rw[ax,ai (by omega)];rfl
 rw[h1,iy,aV,h2];rfl
theorem Pj{w:World}{g:Nat}{l:List Bool}(h:zh w (yT g l).g (yT g l).t (yT g l).cs){n:Nat}(hl:l.length=n)(i:Nat)(hi:i<n):w.cell? ⟨g,i,N_⟩=S_ (b_ (l.getD i F_)):=by
 have h1:w.cell? ⟨g,i,N_⟩=(l.map Value.bool).toArray[i]?:=h.cell i;have h2:l[i]?=S_ (l.getD i F_):=by rw[ax,ai (by omega)];rfl
 rw[h1,iy,aV,h2];rfl
theorem je.see{A:oP}{G:GeoM}{q:CS}{raw:Bool}{eg rg:Nat}{H:List HB}{w:World}(h:je A G q raw eg rg H)(hg:G.Ok)(hc:q.c.Ok G)(hs:Sat w H):Cf w A G q.c:=by obtain⟨He,Hr,-,-,rfl⟩:=h;have b0:=hs.at_ 0 (by rfl);have c:=fun i=>b0.cell i;simp only[FC,List.cons_append,List.nil_append]at c;exact⟨c 0,c 1,c 2,c 3,c 4,c 5,c 6,c 7,c 8,GN (hs.at_ 1 (by rfl)) hg.yl,GN (hs.at_ 2 (by rfl)) hg.neg,Pj (hs.at_ 3 (by rfl)) hc.sig,Pj (hs.at_ 4 (by rfl)) hc.seen,Pj (hs.at_ 5 (by rfl)) hc.again⟩
theorem ams:∀s,s<64→(s &&& 8)=if s.testBit 3 then 8 else 0:=by decide
theorem aiR(s:Nat)(h:s≤63):bits .and l_ (s:Int) 8=if s.testBit 3 then 8 else 0:=by have h1:=Ac s 8 (by omega) (by omega);rw[ams s (by omega)]at h1;rw[show((8:Nat):Int)=8 from rfl]at h1;rw[h1];split<;>rfl
theorem Q!(A:oP)(G:GeoM)(c:vO)(x y:Nat)(dx dy:Int)(w:World)(hg:G.Ok)(hv:Cf w A G c)(hx:x<G.w)(hy:y<G.h)(h1: -1≤dx∧dx≤1)(h2: -1≤dy∧dy≤1):Calls P_ 133 #[p_ (S_ ⟨A.cb,0,N_⟩),i_ l_ x,i_ l_ y,i_ l_ dx,i_ l_ dy] w fun e w'=>e=r_ (b_ (x8 G c x y dx dy))∧∃n,w'=w.drewN n:=by
 have c0:=hv.w_;have c1:=hv.h_;have c3:=hv.ah;have c6:=hv.s_;unfold Ci at c6;have e8:=aiR G.ah hg.ah;have hw1:=hg.w1;have hw2:=hg.w2;have hh1:=hg.h1;have hh2:=hg.h2;have HS:=af hv.sig;clear hv hg;obtain⟨W,hW⟩:=X_ (G.w);obtain⟨Hh,hH⟩:=X_ (G.h);obtain⟨S,hS⟩:=X_ (G.ah);obtain⟨B,hB⟩:=X_ (x8 G c x y dx dy);have SM:Hid (B=(inM G x y dx dy && c.sig.getD (atM G x y dx dy) F_)):=af hB.symm;obtain⟨I,hI⟩:=X_ (inM G x y dx dy);have IM:Hid (I=(decide (0≤(x:Int)+dx) && (decide ((x:Int)+dx<W) && (decide (0≤(y:Int)+dy) && (decide ((y:Int)+dy<Hh) && !(S.testBit 3 && (decide (0<dy) && decide (y%4=3)))))))):=af (by rw[←hI,←hW,←hH,←hS];rfl);have AM:Hid (atM G x y dx dy=((y:Int)+dy).toNat*W+((x:Int)+dx).toNat):=af (by rw[←hW];rfl);rw[hI]at SM;rw[hW,hH]at HS;rw[hW]at c0 hx hw1 hw2;rw[hH]at c1 hy hh1 hh2;rw[hS]at c3 e8;rw[hW,hH]at c6;rw[hB];have NN:W*Hh≤4096:=bZ hw2 hh2;clear hW hH hS hB hI;by_cases k1:(x:Int)+dx<0
 ·have d1:decide ((x:Int)+dx<0)=T_:=by simpa using k1
  have r:B=F_:=by rw[SM.out,IM.out,aW (by omega)];rfl
  rw[r];clear r;go_enter Tryz.func133,Tryz.ntmps133;go_wp2_with fail;go_ret;exact⟨rfl,0,rfl⟩
 obtain⟨p,hp⟩:∃p:Nat,(x:Int)+dx=p:=⟨((x:Int)+dx).toNat,by omega⟩;have d1:decide ((p:Int)<0)=F_:=by simp
 by_cases k2:(W:Int)≤p
 ·have d2:decide ((W:Int)≤p)=T_:=by simpa using k2
  have r:B=F_:=by rw[SM.out,IM.out,hp,aQ (by omega),aW (show¬((p:Int)<W) by omega)];rfl
  rw[r];clear r;go_enter Tryz.func133,Tryz.ntmps133;go_wp2_with fail;go_ret;exact⟨rfl,0,rfl⟩
 have d2:decide ((W:Int)≤p)=F_:=by simpa using k2
 by_cases k3:(y:Int)+dy<0
 ·have d3:decide ((y:Int)+dy<0)=T_:=by simpa using k3
  have r:B=F_:=by rw[SM.out,IM.out,hp,aQ (by omega),aQ (show((p:Int)<W) by omega),aW (show¬(0≤(y:Int)+dy) by omega)];rfl
  rw[r];clear r;go_enter Tryz.func133,Tryz.ntmps133;go_wp2_with fail;go_ret;exact⟨rfl,0,rfl⟩
 obtain⟨q,hq⟩:∃q:Nat,(y:Int)+dy=q:=⟨((y:Int)+dy).toNat,by omega⟩;have d3:decide ((q:Int)<0)=F_:=by simp
 by_cases k4:(Hh:Int)≤q
 ·have d4:decide ((Hh:Int)≤q)=T_:=by simpa using k4
  have r:B=F_:=by rw[SM.out,IM.out,hp,hq,aQ (show(0:Int)≤p by omega),aQ (show((p:Int)<W) by omega),aQ (show(0:Int)≤q by omega),aW (show¬((q:Int)<Hh) by omega)];rfl
  rw[r];clear r;go_enter Tryz.func133,Tryz.ntmps133;go_wp2_with fail;go_ret;exact⟨rfl,0,rfl⟩
 have d4:decide ((Hh:Int)≤q)=F_:=by simpa using k4
 have IM2:Hid (I=!(S.testBit 3 && (decide (0<dy) && decide (y%4=3)))):=af (by rw[IM.out,hp,hq,aQ (show(0:Int)≤p by omega),aQ (show((p:Int)<W) by omega),aQ (show(0:Int)≤q by omega),aQ (show((q:Int)<Hh) by omega)];rfl);have AM2:Hid (atM G x y dx dy=q*W+p):=af (by rw[AM.out,hp,hq,Int.toNat_natCast,Int.toNat_natCast]);clear IM AM k1 k2 k3 k4;have hpW:p<W:=by simp at d2;omega
 have hqH:q<Hh:=by simp at d4;omega
 have hI0:q*W+p<W*Hh:=by have h1:(q+1)*W≤Hh*W:=dK _ hqH;rw[jW,dX Hh W]at h1;omega
 have cs:=HS (q*W+p) hI0;have i0:(0:Int)≤q*W+p:=by have:(0:Int)≤q*W:=lT (by omega) (by omega);omega
 have i1:(q:Int)*W+p<((W*Hh:Nat):Int):=by
  have:((q*W+p:Nat):Int)<((W*Hh:Nat):Int):=by omega
  push_cast at this⊢;exact this
 have i2:(q:Int)*W≤4096:=by omega
 have i3:(0:Int)≤q*W:=lT (by omega) (by omega);rcases(dB (S.testBit 3)).symm with ht|ht
 ·rw[ht]at e8 IM2;simp only[aI,iJ]at e8;clear ht;have r:B=c.sig.getD (q*W+p) F_:=by rw[SM.out,AM2.out,IM2.out];simp
  rw[r];clear r;generalize c.sig.getD (q*W+p) F_=bb at*;go_enter Tryz.func133,Tryz.ntmps133;go_upto_region 4 with fail;go_quiet (fail);go_wp2_with fail;go_ret;exact⟨rfl,_,rfl⟩
 ·rw[ht]at e8 IM2;simp only[ji]at e8;clear ht;by_cases hd:0<dy
  ·have d5:decide ((0:Int)<dy)=T_:=by simpa using hd
   have IM3:Hid (I=!(decide (y%4=3))):=af (by rw[IM2.out,aQ hd];simp);clear hd IM2;by_cases hy3:y%4=3
   ·have d6:(((y:Int)%4)==3)=T_:=by simp;omega
    have r:B=F_:=by rw[SM.out,IM3.out,aQ hy3];rfl
    rw[r];clear r hy3;go_enter Tryz.func133,Tryz.ntmps133;go_wp2_with fail;go_ret;exact⟨rfl,0,rfl⟩
   ·have d6:(((y:Int)%4)==3)=F_:=bF.2 (by omega);have IM2:Hid (I=T_):=af (by rw[IM3.out,aW hy3];rfl);clear hy3 IM3;have r:B=c.sig.getD (q*W+p) F_:=by rw[SM.out,AM2.out,IM2.out];simp
    rw[r];clear r;generalize c.sig.getD (q*W+p) F_=bb at*;go_enter Tryz.func133,Tryz.ntmps133;go_upto_region 4 with fail;go_quiet (fail);go_wp2_with fail;go_ret;exact⟨rfl,_,rfl⟩
  ·have d5:decide ((0:Int)<dy)=F_:=by simpa using hd
   have IM3:Hid (I=T_):=af (by rw[IM2.out,aW hd];simp);clear hd IM2;have IM2:=IM3;clear IM3;have r:B=c.sig.getD (q*W+p) F_:=by rw[SM.out,AM2.out,IM2.out];simp
   rw[r];clear r;generalize c.sig.getD (q*W+p) F_=bb at*;go_enter Tryz.func133,Tryz.ntmps133;go_upto_region 4 with fail;go_quiet (fail);go_wp2_with fail;go_ret;exact⟨rfl,_,rfl⟩
def oO(w w':World):Prop:=∃n,w'=w.drewN n
theorem oO.refl(w:World):oO w w:=⟨0,rfl⟩
theorem oO.trans{a b c:World}(h:oO a b)(k:oO b c):oO a c:=by obtain⟨n,rfl⟩:=h;obtain⟨m,rfl⟩:=k;refine⟨n+m,?_⟩;show({a with drawn:=a.drawn+n+m}:World)={a with drawn:=a.drawn+(n+m)};rw[kK]
theorem oO.see{w w':World}{A:oP}{G:GeoM}{c:vO}(h:oO w w')(k:Cf w A G c):Cf w' A G c:=by obtain⟨n,rfl⟩:=h;exact k.drewN n
theorem oO.mv{w0 w w':World}{H0 H:List HB}(h:oO w w')(k:Mv w0 H0 w H):Mv w0 H0 w' H:=by obtain⟨n,rfl⟩:=h;exact k.drewN n
theorem QT(A:oP)(G:GeoM)(c:vO)(x y:Nat)(w:World)(hg:G.Ok)(hv:Cf w A G c)(hx:x<G.w)(hy:y<G.h):Calls P_ 124 #[p_ (S_ ⟨A.cb,0,N_⟩),i_ l_ x,i_ l_ y] w fun e w'=>e=r_ (t_ #[i_ l_ (((FP G c x y).h:Nat):Int),i_ l_ (((FP G c x y).v:Nat):Int),i_ l_ (((FP G c x y).d:Nat):Int)])∧oO w w':=by
 have SG:∀dx dy:Int,-1≤dx∧dx≤1→ -1≤dy∧dy≤1→∀W,oO w W→Calls P_ 133 #[p_ (S_ ⟨A.cb,0,N_⟩),i_ l_ x,i_ l_ y,i_ l_ dx,i_ l_ dy] W fun e w'=>e=r_ (b_ (x8 G c x y dx dy))∧oO w w':=fun dx dy h1 h2 W hW=>(Q! A G c x y dx dy W hg (hW.see hv) hx hy h1 h2).mono fun _e _w' q=>⟨q.1,hW.trans q.2⟩;obtain⟨s0,S0,h0⟩:∃s,Hid (∀W,oO w W→Calls P_ 133 #[p_ (S_ ⟨A.cb,0,N_⟩),i_ l_ x,i_ l_ y,i_ l_ (-1),i_ l_ 0] W fun e w'=>e=r_ (b_ s)∧oO w w')∧x8 G c x y (-1) 0=s:=⟨_,af (SG (-1) 0 (by decide) (by decide)),rfl⟩;obtain⟨s1,S1,h1⟩:∃s,Hid (∀W,oO w W→Calls P_ 133 #[p_ (S_ ⟨A.cb,0,N_⟩),i_ l_ x,i_ l_ y,i_ l_ 1,i_ l_ 0] W fun e w'=>e=r_ (b_ s)∧oO w w')∧x8 G c x y 1 0=s:=⟨_,af (SG 1 0 (by decide) (by decide)),rfl⟩;obtain⟨s2,S2,h2⟩:∃s,Hid (∀W,oO w W→Calls P_ 133 #[p_ (S_ ⟨A.cb,0,N_⟩),i_ l_ x,i_ l_ y,i_ l_ 0,i_ l_ (-1)] W fun e w'=>e=r_ (b_ s)∧oO w w')∧x8 G c x y 0 (-1)=s:=⟨_,af (SG 0 (-1) (by decide) (by decide)),rfl⟩;obtain⟨s3,S3,h3⟩:∃s,Hid (∀W,oO w W→Calls P_ 133 #[p_ (S_ ⟨A.cb,0,N_⟩),i_ l_ x,i_ l_ y,i_ l_ 0,i_ l_ 1] W fun e w'=>e=r_ (b_ s)∧oO w w')∧x8 G c x y 0 1=s:=⟨_,af (SG 0 1 (by decide) (by decide)),rfl⟩;obtain⟨s4,S4,h4⟩:∃s,Hid (∀W,oO w W→Calls P_ 133 #[p_ (S_ ⟨A.cb,0,N_⟩),i_ l_ x,i_ l_ y,i_ l_ (-1),i_ l_ (-1)] W fun e w'=>e=r_ (b_ s)∧oO w w')∧x8 G c x y (-1) (-1)=s:=⟨_,af (SG (-1) (-1) (by decide) (by decide)),rfl⟩;obtain⟨s5,S5,h5⟩:∃s,Hid (∀W,oO w W→Calls P_ 133 #[p_ (S_ ⟨A.cb,0,N_⟩),i_ l_ x,i_ l_ y,i_ l_ 1,i_ l_ (-1)] W fun e w'=>e=r_ (b_ s)∧oO w w')∧x8 G c x y 1 (-1)=s:=⟨_,af (SG 1 (-1) (by decide) (by decide)),rfl⟩;obtain⟨s6,S6,h6⟩:∃s,Hid (∀W,oO w W→Calls P_ 133 #[p_ (S_ ⟨A.cb,0,N_⟩),i_ l_ x,i_ l_ y,i_ l_ (-1),i_ l_ 1] W fun e w'=>e=r_ (b_ s)∧oO w w')∧x8 G c x y (-1) 1=s:=⟨_,af (SG (-1) 1 (by decide) (by decide)),rfl⟩;obtain⟨s7,S7,h7⟩:∃s,Hid (∀W,oO w W→Calls P_ 133 #[p_ (S_ ⟨A.cb,0,N_⟩),i_ l_ x,i_ l_ y,i_ l_ 1,i_ l_ 1] W fun e w'=>e=r_ (b_ s)∧oO w w')∧x8 G c x y 1 1=s:=⟨_,af (SG 1 1 (by decide) (by decide)),rfl⟩;have EA:FP G c x y=⟨yh s0+yh s1,yh s2+yh s3,yh s4+yh s5+yh s6+yh s7⟩:=by unfold FP;rw[h0,h1,h2,h3,h4,h5,h6,h7]
 rw[EA];clear EA SG h0 h1 h2 h3 h4 h5 h6 h7 hv hg hx hy;obtain⟨n0,N0,b0,e0⟩:∃n:Nat,Hid (∀W,Calls P_ 54 #[b_ s0] W fun e w'=>e=r_ (i_ l_ n)∧w'=W)∧n≤1∧yh s0=n:=⟨_,af fun W=>one_any s0 W,zT _,rfl⟩;obtain⟨n1,N1,b1,e1⟩:∃n:Nat,Hid (∀W,Calls P_ 54 #[b_ s1] W fun e w'=>e=r_ (i_ l_ n)∧w'=W)∧n≤1∧yh s1=n:=⟨_,af fun W=>one_any s1 W,zT _,rfl⟩;obtain⟨n2,N2,b2,e2⟩:∃n:Nat,Hid (∀W,Calls P_ 54 #[b_ s2] W fun e w'=>e=r_ (i_ l_ n)∧w'=W)∧n≤1∧yh s2=n:=⟨_,af fun W=>one_any s2 W,zT _,rfl⟩;obtain⟨n3,N3,b3,e3⟩:∃n:Nat,Hid (∀W,Calls P_ 54 #[b_ s3] W fun e w'=>e=r_ (i_ l_ n)∧w'=W)∧n≤1∧yh s3=n:=⟨_,af fun W=>one_any s3 W,zT _,rfl⟩;obtain⟨n4,N4,b4,e4⟩:∃n:Nat,Hid (∀W,Calls P_ 54 #[b_ s4] W fun e w'=>e=r_ (i_ l_ n)∧w'=W)∧n≤1∧yh s4=n:=⟨_,af fun W=>one_any s4 W,zT _,rfl⟩;obtain⟨n5,N5,b5,e5⟩:∃n:Nat,Hid (∀W,Calls P_ 54 #[b_ s5] W fun e w'=>e=r_ (i_ l_ n)∧w'=W)∧n≤1∧yh s5=n:=⟨_,af fun W=>one_any s5 W,zT _,rfl⟩;obtain⟨n6,N6,b6,e6⟩:∃n:Nat,Hid (∀W,Calls P_ 54 #[b_ s6] W fun e w'=>e=r_ (i_ l_ n)∧w'=W)∧n≤1∧yh s6=n:=⟨_,af fun W=>one_any s6 W,zT _,rfl⟩;obtain⟨n7,N7,b7,e7⟩:∃n:Nat,Hid (∀W,Calls P_ 54 #[b_ s7] W fun e w'=>e=r_ (i_ l_ n)∧w'=W)∧n≤1∧yh s7=n:=⟨_,af fun W=>one_any s7 W,zT _,rfl⟩;rw[e0,e1,e2,e3,e4,e5,e6,e7];clear e0 e1 e2 e3 e4 e5 e6 e7;have D:Hid (oO w w):=af (oO.refl w);go_enter Tryz.func124,Tryz.ntmps124;go_wp2_with (first
  |(go_at_call 133;(with_reducible refine(S0.out _ D.out).mono ?_);rintro e v0 ⟨rfl,D0⟩;replace D:=af D0;clear D0)
  |(go_at_call 54;(with_reducible refine(N0.out _).mono ?_);rintro e v ⟨rfl,rfl⟩)
  |(go_at_call 133;(with_reducible refine(S1.out _ D.out).mono ?_);rintro e v1 ⟨rfl,D1⟩;replace D:=af D1;clear D1)
  |(go_at_call 54;(with_reducible refine(N1.out _).mono ?_);rintro e v ⟨rfl,rfl⟩)
  |(go_at_call 133;(with_reducible refine(S2.out _ D.out).mono ?_);rintro e v2 ⟨rfl,D2⟩;replace D:=af D2;clear D2)
  |(go_at_call 54;(with_reducible refine(N2.out _).mono ?_);rintro e v ⟨rfl,rfl⟩)
  |(go_at_call 133;(with_reducible refine(S3.out _ D.out).mono ?_);rintro e v3 ⟨rfl,D3⟩;replace D:=af D3;clear D3)
  |(go_at_call 54;(with_reducible refine(N3.out _).mono ?_);rintro e v ⟨rfl,rfl⟩)
  |(go_at_call 133;(with_reducible refine(S4.out _ D.out).mono ?_);rintro e v4 ⟨rfl,D4⟩;replace D:=af D4;clear D4)
  |(go_at_call 54;(with_reducible refine(N4.out _).mono ?_);rintro e v ⟨rfl,rfl⟩)
  |(go_at_call 133;(with_reducible refine(S5.out _ D.out).mono ?_);rintro e v5 ⟨rfl,D5⟩;replace D:=af D5;clear D5)
  |(go_at_call 54;(with_reducible refine(N5.out _).mono ?_);rintro e v ⟨rfl,rfl⟩)
  |(go_at_call 133;(with_reducible refine(S6.out _ D.out).mono ?_);rintro e v6 ⟨rfl,D6⟩;replace D:=af D6;clear D6)
  |(go_at_call 54;(with_reducible refine(N6.out _).mono ?_);rintro e v ⟨rfl,rfl⟩)
  |(go_at_call 133;(with_reducible refine(S7.out _ D.out).mono ?_);rintro e v7 ⟨rfl,D7⟩;replace D:=af D7;clear D7)
  |(go_at_call 54;(with_reducible refine(N7.out _).mono ?_);rintro e v ⟨rfl,rfl⟩))
 go_ret3;exact⟨rfl,D.out⟩
theorem Ov(A:oP)(G:GeoM)(c:vO)(x y:Nat)(w:World)(hg:G.Ok)(hv:Cf w A G c)(hx:x<G.w)(hy:y<G.h):Calls P_ 121 #[p_ (S_ ⟨A.cb,0,N_⟩),i_ l_ x,i_ l_ y] w fun e w'=>e=r_ (i_ l_ (Bo G c x y:Nat))∧oO w w':=by
 have AR:=af (QT A G c x y w hg hv hx hy);obtain⟨l1,l2,l3⟩:=Ot G c x y;obtain⟨a,ha⟩:=X_ (FP G c x y);have e:Bo G c x y=Ox G.band a.h a.v a.d:=by unfold Bo;rw[ha]
 rw[e];rw[ha]at AR l1 l2 l3;have V:=af hv;have ZC:=af fun W=>adA G.band a.h a.v a.d W l1 l2 l3;clear e ha hv hg;go_enter Tryz.func121,Tryz.ntmps121;go_wp2_with (first
  |(go_at_call 124;refine AR.out.mono ?_;rintro e w1 ⟨rfl,d1⟩;have c2:=(d1.see V.out).band;have D:=af d1;clear d1)
  |(go_at_call 130;refine(ZC.out _).mono ?_;rintro e w2 ⟨rfl,rfl⟩))
 go_ret;exact⟨rfl,D.out⟩
theorem aff{G:GeoM}{x y:Nat}{dx dy:Int}(h:inM G x y dx dy=T_):∃p q:Nat,(x:Int)+dx=p∧(y:Int)+dy=q∧p<G.w∧q<G.h:=by unfold inM at h;simp only[dO,jF]at h;obtain⟨h1,h2,h3,h4,-⟩:=h;exact⟨((x:Int)+dx).toNat,((y:Int)+dy).toNat,by omega,by omega,by omega,by omega⟩
theorem aea(A:oP)(G:GeoM)(c:vO)(x y:Nat)(dx dy:Int)(w:World)(hg:G.Ok)(hv:Cf w A G c)(hx:x<G.w)(hy:y<G.h)(h1: -1≤dx∧dx≤1)(h2: -1≤dy∧dy≤1):Calls P_ 131 #[p_ (S_ ⟨A.cb,0,N_⟩),i_ l_ x,i_ l_ y,i_ l_ dx,i_ l_ dy] w fun e w'=>e=r_ (i_ l_ (zY G c x y dx dy))∧oO w w':=by
 have SG:Hid (Calls P_ 133 #[p_ (S_ ⟨A.cb,0,N_⟩),i_ l_ x,i_ l_ y,i_ l_ dx,i_ l_ dy] w fun e w'=>e=r_ (b_ (x8 G c x y dx dy))∧oO w w'):=af (Q! A G c x y dx dy w hg hv hx hy h1 h2);rcases(dB (x8 G c x y dx dy)).symm with hs|hs
 ·have e:zY G c x y dx dy=0:=by unfold zY;rw[hs];rfl
  rw[e];rw[hs]at SG;clear hs e hv hg;go_enter Tryz.func131,Tryz.ntmps131;go_wp2_with (go_at_call 133;refine SG.out.mono ?_;rintro e w1 ⟨rfl,d1⟩;have D:=af d1;clear d1);go_ret;exact⟨rfl,D.out⟩
 ·have hin:inM G x y dx dy=T_:=by unfold x8 at hs;simp only[dO]at hs;exact hs.1
  obtain⟨p,q,hp,hq,hpW,hqH⟩:=aff hin;have e:zY G c x y dx dy=1-2*((G.neg.getD (q*G.w+p) 0:Nat):Int):=by unfold zY atM;rw[hs,hp,hq,Int.toNat_natCast,Int.toNat_natCast];rfl
  rw[e];rw[hs]at SG;have hw2:=hg.w2;have hh2:=hg.h2;have hI0:q*G.w+p<G.w*G.h:=by have h1:(q+1)*G.w≤G.h*G.w:=dK _ hqH;rw[jW,dX G.h G.w]at h1;omega
  have NN:G.w*G.h≤4096:=bZ hw2 hh2;obtain⟨ng,hng⟩:=X_ (G.neg.getD (q*G.w+p) 0);have hnb:ng≤1:=by rw[←hng,ax,ai (by rw[hg.neg];exact hI0)];exact hg.aks _ (kX _)
  rw[hng];have V:=af hv;have HG:=dS hI0 hng;clear hs e hv hg hin hng;obtain⟨W,hW⟩:=X_ (G.w);obtain⟨Hh,hH⟩:=X_ (G.h);rw[hW]at hx hw2 hpW hI0;rw[hH]at hy hh2 hqH;rw[hW,hH]at NN;rw[hH]at hI0;have HWH:=dS hW hH;clear hW hH;have i0:(0:Int)≤q*W+p:=by have:(0:Int)≤q*W:=lT (by omega) (by omega);omega
  have i1:(q:Int)*W+p<((W*Hh:Nat):Int):=by
   have:((q*W+p:Nat):Int)<((W*Hh:Nat):Int):=by omega
   push_cast at this⊢;exact this
  have i2:(q:Int)*W≤4096:=by omega
  have i3:(0:Int)≤q*W:=lT (by omega) (by omega);have ea:(q:Int)*W+x+dx=q*W+p:=by omega
  clear hI0;go_enter Tryz.func131,Tryz.ntmps131;go_upto_region 3 with(go_at_call 133;refine SG.out.mono ?_;rintro e w1 ⟨rfl,d1⟩;have D:=af d1;clear d1);have hv1:=D.see V.out;have c0:=hv1.w_;have c5:=hv1.n_;unfold Ci at c5;rw[HWH.1]at c0 c5;rw[HWH.2]at c5;have cn:=hv1.neg (q*G.w+p) HG.1;rw[HG.2,HWH.1]at cn;clear hv1;go_quiet (fail);go_wp2_with fail;go_ret;exact⟨rfl,D.trans ⟨_,rfl⟩⟩
theorem aau{l:List CG}{k:Nat}{x:CG}(h:l[k]?=S_ x):(Di l)[k*2]?=S_ (i_ l_ x.i)∧(Di l)[k*2+1]?=S_ (i_ l_ x.Fj):=by have g:=fun j (hj:j<2)=>flat_get (fun c:CG=>[Value.int l_ c.i,i_ l_ c.Fj]) 2 (fun _=>rfl) l k x h j hj;exact⟨g 0 (by omega),g 1 (by omega)⟩
theorem vJ(l:List CG):(Di l).length=l.length*2:=flat_length _ 2 (fun _=>rfl) l
theorem aia{l:List CG}{k:Nat}{x:CG}(h:l[k]?=S_ x)(x':CG):((Di l).set (k*2) (i_ l_ x'.i)).set (k*2+1) (i_ l_ x'.Fj)=Di (l.set k x'):=by have e1:=jh (fun c:CG=>[Value.int l_ c.i,i_ l_ c.Fj]) 2 (fun _=>rfl) l k x ⟨x'.i,x.Fj⟩ h 0 (by omega) (i_ l_ x'.i) rfl;have hk:=(aj.1 h).1;have e2:=jh (fun c:CG=>[Value.int l_ c.i,i_ l_ c.Fj]) 2 (fun _=>rfl) (l.set k ⟨x'.i,x.Fj⟩) k ⟨x'.i,x.Fj⟩ x' (by rw[dJ hk]) 1 (by omega) (i_ l_ x'.Fj) rfl;unfold Di;rw[show k*2+0=k*2 from rfl]at e1;rw[e1,e2];simp
theorem afQ{A:oP}{G:GeoM}{cx:List CG}{raw:Bool}{eg rg k:Nat}{x:CG}(h:cx[k]?=S_ x):(FC A G cx raw eg rg).toArray[9+k*2]?=S_ (i_ l_ x.i)∧(FC A G cx raw eg rg).toArray[9+k*2+1]?=S_ (i_ l_ x.Fj):=by
 have hk:=(aj.1 h).1;have hl:=vJ cx;obtain⟨g0,g1⟩:=aau h;simp only[iy,FC];constructor
 ·rw[aZ (by simp only[List.length_cons,List.length_nil];omega),df (by simp only[List.length_cons,List.length_nil];omega)];rw[←g0];congr 1;simp only[List.length_cons,List.length_nil];omega
 ·rw[aZ (by simp only[List.length_cons,List.length_nil];omega),df (by simp only[List.length_cons,List.length_nil];omega)];rw[←g1];congr 1;simp only[List.length_cons,List.length_nil];omega
theorem afP{A:oP}{G:GeoM}{cx:List CG}{raw:Bool}{eg rg k:Nat}{x:CG}(h:cx[k]?=S_ x)(x':CG):Ag (FC A G cx raw eg rg).toArray (9+k*2) x'.i x'.Fj=(FC A G (cx.set k x') raw eg rg).toArray:=by have hk:=(aj.1 h).1;have hl:=vJ cx;unfold Ag FC;rw[←aia h x'];simp only[bf];congr 1;rw[dZ _ _ (by simp only[List.length_cons,List.length_nil];omega),dZ _ _ (by simp only[List.length_cons,List.length_nil];omega)];congr 1;rw[rU _ _ (by simp only[List.length_cons,List.length_nil];omega),rU _ _ (by simp only[List.length_cons,List.length_nil,fC];omega)];congr 1;simp only[List.length_cons,List.length_nil];rw[show 9+k*2-(0+1+1+1+1+1+1+1+1+1)=k*2 by omega,show 9+k*2+1-(0+1+1+1+1+1+1+1+1+1)=k*2+1 by omega]
theorem TY{w:World}{A:oP}{G:GeoM}{cx:List CG}{raw:Bool}{eg rg:Nat}(h:zh w A.cb 133 (FC A G cx raw eg rg).toArray)(hl:cx.length=19):w.cell? ⟨A.cb,47,N_⟩=S_ (b_ T_)∧w.cell? ⟨A.cb,48,N_⟩=S_ (b_ raw)∧w.cell? ⟨A.cb,49,N_⟩=S_ (p_ (S_ ⟨eg,0,N_⟩))∧w.cell? ⟨A.cb,50,N_⟩=S_ (p_ (S_ ⟨rg,0,N_⟩)):=by
 have hc:=vJ cx;have c:=fun i=>h.cell i;have e:∀i v,i<4→[Value.bool T_,b_ raw,p_ (S_ ⟨eg,0,N_⟩),p_ (S_ ⟨rg,0,N_⟩),.pointer N_,.pointer N_][i]?=S_ v→w.cell? ⟨A.cb,47+i,N_⟩=S_ v:=by intro i v hi hv;rw[c,iy,←hv];unfold FC;rw[aZ (by simp only[List.length_cons,List.length_nil];omega),aZ (by simp only[List.length_cons,List.length_nil];omega)];congr 1;simp only[List.length_cons,List.length_nil];omega
 exact⟨e 0 _ (by omega) rfl,e 1 _ (by omega) rfl,e 2 _ (by omega) rfl,e 3 _ (by omega) rfl⟩
def Ed(A:oP)(G:GeoM)(c:vO):List HB:=[vk A.gm G.yl,vk A.gn G.neg,yT A.gs c.sig,yT A.ge c.seen,yT A.ga c.again]
theorem Dk(A:oP)(G:GeoM)(q:CS)(raw:Bool)(eg rg k b:Nat)(H:List HB)(w:World)(h:je A G q raw eg rg H)(hs:Sat w H)(hq:q.s.Ok)(hz:q.s.size≤80000000)(hk:k<19)(hb:b≤1):Calls P_ 127 #[p_ (S_ ⟨A.cb,0,N_⟩),i_ l_ k,i_ l_ b] w fun e w'=>e=r_ (i_ l_ b)∧∃H',je A G ⟨q.c,kL raw q.s k b⟩ raw eg rg H'∧Mv w H w' H':=by
 obtain⟨He,Hr,hme,hmr,rfl⟩:=h;have bb:zh w A.cb 133 (FC A G q.s.cx raw eg rg).toArray:=hs.at_ 0 (by rfl);obtain⟨t0,t1,t2,t3⟩:=TY bb hq.len;unfold Eo.size at hz;cases raw with
 |true=>
  have M0:Mv w (XG A G q.s.cx T_ eg rg::(Ed A G q.c++(He++Hr))) w (Hr++(XG A G q.s.cx T_ eg rg::(Ed A G q.c++He))):=(Mv.refl hs).sub (fun g=>by simp only[Ed,aP,bK,gI];omega) (fun c hc=>by simp only[Ed,ay,aC]at hc⊢;grind);have RB:=af (ahg rg q.s.r b w Hr hmr M0.sat.left hq.r (by omega) hb);have K0:=af M0;have HE:=af hme;clear hme hmr hs bb M0 hq;go_enter Tryz.func127,Tryz.ntmps127;go_wp2_with (go_at_call 135;refine RB.out.mono ?_;rintro e w1 ⟨rfl,H1,h1,m1⟩;have K1:=dS h1 (Mv.call (H:=Hr) K0.out m1);clear h1 m1);go_ret;refine⟨rfl,_,⟨He,H1,HE.out,K1.1,rfl⟩,K1.2.sub (fun g=>?_) (fun c hc=>?_)⟩
  ·simp only[Ed,kL,ji,aP,bK,gI];omega
  ·simp only[Ed,kL,ji,ay,aC]at hc⊢;grind
 |false=>
  have hkl:k<q.s.cx.length:=by rw[hq.len];exact hk
  obtain⟨x,hx⟩:∃x,q.s.cx[k]?=S_ x:=⟨_,ai hkl⟩;have hxd:q.s.cx.getD k ⟨0,0⟩=x:=by rw[ax,hx];rfl
  obtain⟨g0,g1⟩:=afQ (A:=A) (G:=G) (raw:=F_) (eg:=eg) (rg:=rg) hx;have M0:Mv w (XG A G q.s.cx F_ eg rg::(Ed A G q.c++(He++Hr))) w ((⟨A.cb,133,(FC A G q.s.cx F_ eg rg).toArray⟩::He)++(Ed A G q.c++Hr)):=(Mv.refl hs).sub (fun g=>by simp only[Ed,XG,aP,bK,gI];omega) (fun c hc=>by simp only[Ed,XG,ay,aC]at hc⊢;grind);have EB:=af (aje eg A.cb k b 133 (FC A G q.s.cx F_ eg rg).toArray q.s.e x w.drew He hk hme M0.drew.sat.left g0 g1 hq.e (hq.cx x (aF hx)) (by omega) hb);rw[afP hx]at EB;have BW:Hid (kL F_ q.s k b={q.s with e:=(Ia q.s.e x b).1,cx:=q.s.cx.set k (Ia q.s.e x b).2}):=af (by unfold kL;rw[hxd];rfl);have K0:=af M0.drew;have HR:=af hmr;clear hme hmr hs bb M0 hq hx hxd g0 g1;go_enter Tryz.func127,Tryz.ntmps127;go_upto_region 5 with fail;go_still_tail 9,(by kernel_rfl);change wpList _ _ _ _ _ w.drew;generalize w.drew=w0 at*;go_wp2_with (go_at_call 136;refine EB.out.mono ?_;rintro e w1 ⟨rfl,H1,h1,m1⟩;have K1:=dS h1 m1;clear h1 m1);have M1:Mv w _ w1 _:=Mv.call (H:=⟨A.cb,133,(FC A G q.s.cx F_ eg rg).toArray⟩::He) (R:=Ed A G q.c++Hr) K0 K1.2;go_ret;rw[BW.out];refine⟨rfl,_,⟨H1,Hr,K1.1,HR.out,rfl⟩,M1.sub (fun g=>?_) (fun c hc=>?_)⟩
  ·simp only[Ed,XG,aP,bK,gI];omega
  ·simp only[Ed,XG,ay,aC]at hc⊢;grind
end
end Go.Proofs.YtjngfhgakokejaaGreat
