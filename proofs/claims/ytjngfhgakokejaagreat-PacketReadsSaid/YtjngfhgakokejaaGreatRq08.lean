/- PacketReads: part 8. -/
import Derived.Test.YtjngfhgakokejaaGreatRq07
set_option maxRecDepth 100000
set_option maxHeartbeats 8000000
set_option linter.all false
namespace Go.Proofs.YtjngfhgakokejaaGreat
open Value renaming int→i_,slice→s_,pointer→p_,bool→b_,agg→g_,tuple→t_
open IntKind renaming i64→l_
open Ending renaming returned→r_
open Tryz renaming prog→P_
open Option renaming some→S_,none→N_
open Bool renaming true→T_,false→F_
variable{s1 s2 s3 s4 s5 s6 s7 s9 s11 s12 s13 s14 s15 s16 l9 kH kS s20 lF lC s23 s24 kZ s26 kW kR kY lu lJ lK lI lL lD s36 lY lX mG ni mZ mY s43 s44 nI mF nH nK s49 mD mg lW s53 mX mQ mP mO nX nJ oU oQ pO qW qN qV rD rC s68 rM rJ sN s72 sK sJ ry ru rf s78 qZ rH rG s82 s0 s8 s10:Value}
section
open Go.RowKit
def JZ(a w h k:Nat):Int:=if 1<w*h then((a+w*h+k/w/2*((w+1)/2)+k%w/2:Nat):Int)else-1
def uu(a:Nat)(L:bV):List (Int×dY):=L.l.mapIdx fun k x=>(JZ a L.w L.h k,x)
def rnodes:Nat→List bV→List (Int×dY)
 |_,[]=>[]
 |a,L::T=>uu a L++rnodes (a+L.l.length) T
def GU(p:Int×dY):List Value:=[i_ l_ p.2.n,i_ l_ p.2.low,b_ p.2.said,i_ l_ p.1]
def kM(l:List (Int×dY)):List Value:=l.flatMap GU
theorem Dw(p:Int×dY):(GU p).length=4:=rfl
theorem vz(l:List (Int×dY)):(kM l).length=l.length*4:=flat_length GU 4 Dw l
theorem GR(a b:List (Int×dY)):kM (a++b)=kM a++kM b:=by simp[kM]
theorem Nv(l:List (Int×dY)):∀u∈kM l,u.oneCell'=T_:=by intro u hu;simp only[kM,GU,iw,aC,bP,gQ]at hu;obtain⟨q,-,rfl|rfl|rfl|rfl⟩:=hu<;>rfl
theorem vC{l:List (Int×dY)}{k:Nat}{p:Int×dY}(h:l[k]?=S_ p):(kM l)[k*4]?=S_ (i_ l_ p.2.n)∧(kM l)[k*4+1]?=S_ (i_ l_ p.2.low)∧(kM l)[k*4+2]?=S_ (b_ p.2.said)∧(kM l)[k*4+3]?=S_ (i_ l_ p.1):=by have g:=fun j (hj:j<4)=>flat_get GU 4 Dw l k p h j hj;exact⟨g 0 (by omega),g 1 (by omega),g 2 (by omega),g 3 (by omega)⟩
theorem fV(a:Nat)(L:bV):(uu a L).length=L.l.length:=by simp[uu]
theorem Ee{a:Nat}{L:bV}{k:Nat}{x:dY}(h:L.l[k]?=S_ x):(uu a L)[k]?=S_ (JZ a L.w L.h k,x):=by simp[uu,h]
def leavesM:List bV→Nat
 | []=>0
 |L::_=>L.l.length
def ku(tb:Nat)(T:List bV)(fresh:Bool)(H:List HB):Prop:= ∃v Hl,H=⟨tb,159,#[v,i_ l_ (leavesM T:Int),b_ fresh]⟩::Hl∧dh 162 4 v (rnodes 0 T).length (kM (rnodes 0 T)) Hl
theorem ae7:(Tryz.prog.info? 162).map (fun i=>(i.zero,i.size,i.bytes))=S_ (S_ (g_ #[i_ l_ 0,i_ l_ 0,b_ F_,i_ l_ 0]),4,32):=by kernel_rfl
def offT:List bV→Nat→Nat
 |_,0=>0
 | [],_+1=>0
 |L::T,j+1=>L.l.length+offT T j
theorem Bv{T:List bV}{j:Nat}{L:bV}(a:Nat)(hL:T[j]?=S_ L){p:Nat}{x:dY}(hp:L.l[p]?=S_ x):(rnodes a T)[offT T j+p]?=S_ (JZ (a+offT T j) L.w L.h p,x):=by
 induction T generalizing a j with
 |nil=>simp at hL
 |cons M T ih=>
  cases j with
  |zero=>simp at hL;subst hL;have hpl:=(aj.1 hp).1;simp only[rnodes,offT,dH,Nat.add_zero];rw[df (by rw[fV];exact hpl)];exact Ee hp
  |succ j=>simp only[rnodes,offT];rw[aZ (by rw[fV];omega),fV,show M.l.length+offT T j+p-M.l.length=offT T j+p by omega,ih (a+M.l.length) (by simpa using hL),kK]
theorem V7{a:Nat}{L:bV}{p:Nat}(y:dY):(uu a L).set p (JZ a L.w L.h p,y)=uu a {L with l:=L.l.set p y}:=by
 apply fU;intro i;simp only[uu,fQ,jO,List.length_mapIdx];split
 ·rename_i e;subst e;split<;>simp_all
 ·rfl
theorem Jo{T:List bV}{j:Nat}{L:bV}(a:Nat)(hL:T[j]?=S_ L){p:Nat}(hp:p<L.l.length)(y:dY):(rnodes a T).set (offT T j+p) (JZ (a+offT T j) L.w L.h p,y)=rnodes a (T.set j {L with l:=L.l.set p y}):=by
 induction T generalizing a j with
 |nil=>simp at hL
 |cons M T ih=>
  cases j with
  |zero=>simp at hL;subst hL;simp only[rnodes,offT,dH,Nat.add_zero,List.set_cons_zero,fC];rw[rU _ _ (by rw[fV];exact hp),V7]
  |succ j=>simp only[rnodes,offT,List.set_cons_succ];rw[dZ _ _ (by rw[fV];omega),fV,show M.l.length+offT T j+p-M.l.length=offT T j+p by omega,show a+(M.l.length+offT T j)=a+M.l.length+offT T j by omega,ih (a+M.l.length) (by simpa using hL)]
theorem sS(a:Nat)(T:List bV):(rnodes a T).length=offT T T.length:=by
 induction T generalizing a with
 |nil=>rfl
 |cons L T ih=>simp only[rnodes,au,fV,ih,List.length_cons,offT]
theorem J8{T:List bV}{j:Nat}{L:bV}(hL:T[j]?=S_ L):offT T j+L.l.length≤offT T T.length:=by
 induction T generalizing j with
 |nil=>simp at hL
 |cons M T ih=>
  cases j with
  |zero=>simp at hL;subst hL;simp only[offT,List.length_cons];omega
  |succ j=>have:=ih (j:=j) (by simpa using hL);simp only[offT,List.length_cons];omega
theorem Fh{T U:List bV}(h:T.map (fun L=>L.l.length)=U.map (fun L=>L.l.length))(j:Nat):offT T j=offT U j:=by
 induction T generalizing U j with
 |nil=>
  obtain rfl:U=[]:=by simpa using h.symm
  rfl
 |cons L T ih=>
  cases U with
  |nil=>simp at h
  |cons M U=>
   simp only[bJ,iM]at h;cases j with
   |zero=>rfl
   |succ j=>simp only[offT,h.1,ih h.2 j]
theorem vw{l:List (Int×dY)}{k:Nat}{p:Int×dY}(h:l[k]?=S_ p)(y:Int×dY)(j:Nat)(hj:j<4)(v:Value)(hv:GU y=(GU p).set j v):(kM l).set (k*4+j) v=kM (l.set k y):=jh GU 4 Dw l k p y h j hj v hv
def yw(tb:Nat)(v:Value)(n:Int)(fr:Bool):HB:=⟨tb,159,#[v,i_ l_ n,b_ fr]⟩
theorem ael(tb:Nat)(T:List bV)(fr:Bool)(H:List HB)(W:World)(k:Nat)(n:Int)(L:bV)(x:dY)(h:ku tb T fr H)(hs:Sat W H)(hT:T[0]?=S_ L)(hx:L.l[k]?=S_ x)(hN:offT T T.length≤100000):Calls P_ 79 #[p_ (S_ ⟨tb,0,N_⟩),i_ l_ k,i_ l_ n] W fun e w'=>e=r_ (t_ #[])∧∃H',ku tb (T.set 0 {L with l:=L.l.set k {x with n:=n}}) F_ H'∧Mv W H w' H':=by
 obtain⟨v,Hl,rfl,hr⟩:=h;have hk:=(aj.1 hx).1;have hg:=Bv 0 hT hx;have hst:=Jo 0 hT hk {x with n:=n};simp only[offT,dH,Nat.add_zero]at hg hst;have hlen:=sS 0 T;have hle:=J8 hT;simp only[offT,dH]at hle;obtain⟨N,hNN⟩:=X_ ((rnodes 0 T).length);rw[hNN]at hr;have hkN:k<N:=by omega
 obtain⟨g,cap,cur,rfl,-⟩:=hr.form (by omega);have hlv:leavesM T=L.l.length:=by
  cases T with
  |nil=>simp at hT
  |cons M T=>simp at hT;subst hT;rfl
 rw[hlv]at hs⊢;have M0:Mv W (yw tb (s_ (S_ ⟨g,0,N_⟩) N cap) (L.l.length:Int) fr::Hl) W (yw tb (s_ (S_ ⟨g,0,N_⟩) N cap) (L.l.length:Int) fr::Hl):=Mv.refl hs;have c0:W.cell? ⟨tb,0,N_⟩=S_ (s_ (S_ ⟨g,0,N_⟩) N cap):=M0.cell 0 rfl 0;have c1:W.cell? ⟨tb,1,N_⟩=S_ (i_ l_ L.l.length):=M0.cell 0 rfl 1;obtain⟨z0,zf⟩:=hr.cell (Sat.right (A:=[_]) hs) rfl (k*4) (by omega);rw[(vC hg).1]at z0;have d1:decide ((k:Int)<0)=F_:=by simp
 have d2:decide ((L.l.length:Int)≤k)=F_:=by simp;omega
 have anb:(k:Int)<N:=by omega
 obtain⟨H2,r2,m2⟩:=hr.set (Sat.right (A:=[_]) hs) rfl (k*4) (i_ l_ n) (by omega);have M1:Mv W (yw tb (s_ (S_ ⟨g,0,N_⟩) N cap) (L.l.length:Int) fr::Hl) (W.setCell ⟨g,k*4,N_⟩ (i_ l_ n)) (yw tb (s_ (S_ ⟨g,0,N_⟩) N cap) (L.l.length:Int) fr::H2):=by have h1:Mv W (yw tb (s_ (S_ ⟨g,0,N_⟩) N cap) (L.l.length:Int) fr::Hl) W (Hl++[yw tb (s_ (S_ ⟨g,0,N_⟩) N cap) (L.l.length:Int) fr]):=M0.Z_;exact(Mv.call h1 m2).Z_
 have r3:dh 162 4 (s_ (S_ ⟨g,0,N_⟩) N cap) N (kM (rnodes 0 (T.set 0 {L with l:=L.l.set k {x with n:=n}}))) H2:=by rw[←hst];have e:=vw hg (JZ 0 L.w L.h k,{x with n:=n}) 0 (by omega) (i_ l_ n) rfl;rw[Nat.add_zero]at e;rw[←e];exact r2
 have hlen2:(rnodes 0 (T.set 0 {L with l:=L.l.set k {x with n:=n}})).length=N:=by rw[←hst,fC];exact hNN
 have hlv2:leavesM (T.set 0 {L with l:=L.l.set k {x with n:=n}})=L.l.length:=by
  cases T with
  |nil=>simp at hT
  |cons M T=>simp[leavesM]
 have f2:(W.setCell ⟨g,k*4,N_⟩ (i_ l_ n)).frozen? ⟨tb,2,N_⟩=F_:=M1.frozen 0 rfl 2;have c2:(W.setCell ⟨g,k*4,N_⟩ (i_ l_ n)).cell? ⟨tb,2,N_⟩=S_ (b_ fr):=M1.cell 0 rfl 2;have K:=zO r3 hlen2 hlv2 (M1.set 2 (b_ F_));have hk1:k<100000:=by omega
 have HLL:=af hk;generalize L.l.length=ln at*;clear hr hg hst hlen hle hNN hlv M0 M1 r2 m2 r3 hlen2 hlv2 hs hN hT hx;show Calls P_ _ _ W fun e w'=>e=r_ (t_ #[])∧∃H',ku tb (T.set 0 {L with l:=L.l.set k {x with n:=n}}) F_ H'∧Mv W (yw tb (s_ (S_ ⟨g,0,N_⟩) N cap) (ln:Int) fr::Hl) w' H';go_enter Tryz.func79,Tryz.ntmps79;go_wp2_with fail;refine dm (bH rfl _ _ _) rfl ⟨rfl,_,⟨s_ (S_ ⟨g,0,N_⟩) N cap,H2,?_,?_⟩,K.2.2.2⟩
 ·rw[K.2.2.1];rfl
 ·rw[K.2.1];exact K.1
def wayI:Nat→List bV→Nat→Nat→List Nat
 |_,[],_,_=>[]
 |a,L::T,x,y=>wayI (a+L.l.length) T (x/2) (y/2)++[a+(y*L.w+x)]
theorem yz(a:Nat)(T:List bV)(x y:Nat):(wayI a T x y).length=T.length:=by
 induction T generalizing a x y with
 |nil=>rfl
 |cons L T ih=>simp[wayI,ih]
theorem adJ{a w h x y:Nat}(hx:x<w)(_hy:y<h):JZ a w h (y*w+x)=if 1<w*h then((a+w*h+(y/2*((w+1)/2)+x/2):Nat):Int)else-1:=by
 unfold JZ;have e1:(y*w+x)/w=y:=by rw[dX,Nat.mul_add_div (by omega),Nat.div_eq_of_lt hx,Nat.add_zero]
 have e2:(y*w+x)%w=x:=by rw[dX,Nat.mul_add_mod];exact Nat.mod_eq_of_lt hx
 rw[e1,e2,kK (a+w*h)]
theorem Dims.tail{L:bV}{T:List bV}(h:Dims (L::T)):Dims T:=by
 cases T with
 |nil=>trivial
 |cons M T=>exact h.2.2.2.2.2
theorem Dims.len0{L:bV}{T:List bV}(h:Dims (L::T)):L.l.length=L.w*L.h:=h.len (i:=0) rfl
theorem Dims.ai7{L:bV}{T:List bV}(h:Dims (L::T)):1≤L.w∧1≤L.h:=by
 cases T with
 |nil=>exact⟨by rw[h.1];decide,by rw[h.2.1];decide⟩
 |cons M T=>exact⟨h.1,h.2.1⟩
theorem Dims.next{L M:bV}{T:List bV}(h:Dims (L::M::T))(anq:1<L.w*L.h):M.w=(L.w+1)/2∧M.h=(L.h+1)/2:=⟨h.2.2.2.1,h.2.2.2.2.1⟩
theorem VT(tb:Nat)(T:List bV)(fr:Bool)(H:List HB)(W:World)(L0:bV)(x y:Nat)(h:ku tb T fr H)(hs:Sat W H)(hT:T[0]?=S_ L0)(hd:Dims T)(h1:∀L M T',L::M::T'<:+T→1<L.w*L.h)(hx:x<L0.w)(hy:y<L0.h)(hN:offT T T.length≤100000)(hl:T.length≤20):Calls P_ 81 #[p_ (S_ ⟨tb,0,N_⟩),i_ l_ (y*L0.w+x:Nat)] W fun e w'=>∃v Hn,e=r_ v∧jy v ((wayI 0 T x y).map fun(k:Nat)=>(k:Int)) Hn∧Mv W H w' (Hn++H):=by
 obtain⟨v,Hl,rfl,hr⟩:=h;have hlen:=sS 0 T;obtain⟨N,hNN⟩:=X_ ((rnodes 0 T).length);rw[hNN]at hr;have hpl0:y*L0.w+x<L0.l.length:=by rw[hd.len hT];exact nU hx hy
 have hle0:=J8 hT;simp only[offT,dH]at hle0;obtain⟨g,vc,cur,rfl,-⟩:=hr.form (by omega);obtain⟨va,hva⟩:∃va:Option Addr,va=S_ ⟨g,0,N_⟩:=⟨_,rfl⟩;rw[←hva]at hr hs⊢;have hdr:=hd;obtain⟨X,hX⟩:∃X:HB,X=⟨tb,159,#[s_ va N vc,i_ l_ (leavesM T:Int),b_ fr]⟩:=⟨_,rfl⟩;rw[←hX]at hs⊢;have KT:=H8_ hr hX hd h1 hT hx hy hNN;have KS:=af hs;have hN2:N≤100000:=by omega
 obtain⟨k0,hk0⟩:=X_ (y*L0.w+x);rw[hk0];have HK0:=af hk0;clear hr hX hd h1 hT hx hy hNN hs hlen hN hk0 hpl0 hle0 hdr;subst hva;go_enter Tryz.func81,Tryz.ntmps81;go_wp2_with fail;go_loopg [1,5] (T.length+1) (fun mm s1 s5 wx=>∃(U:List bV) (a xx yy:Nat) (l:List Nat) (Hn:List YtjngfhgakokejaaGreat.HB),U<:+T∧mm=U.length+1∧a+offT U U.length=offT T T.length∧(∀b p,(rnodes a U)[p]?=S_ b→(rnodes 0 T)[a+p]?=S_ b)∧(∀L U',U=L::U'→xx<L.w∧yy<L.h∧s1=i_ l_ ((a+(yy*L.w+xx):Nat):Int))∧(U=[]→s1=i_ l_ (-1))∧wayI 0 T x y=wayI a U xx yy++l∧jy s5 (l.map fun(k:Nat)=>(k:Int)) Hn∧Mv W (X::Hl) wx (Hn++(X::Hl)))
 case atStart=>
  refine⟨T,0,x,y,[],[],List.suffix_refl _,rfl,by omega,fun b p hp=>by rw[dH];exact hp,?_,?_,by simp,dh.nil _ _,Mv.refl KS.out⟩
  ·intro L U' e;have hT:=KT.2.2.2.2.1;rw[e]at hT;simp at hT;subst hT;exact⟨KT.2.2.2.2.2.1,KT.2.2.2.2.2.2.1,by rw[HK0.out,dH]⟩
  ·intro e;have hT:=KT.2.2.2.2.1;rw[e]at hT;simp at hT
 case round=>
  obtain⟨U,a,xx,yy,l,Hn,hU,rfl,ha,hnd,hc1,hc0,hw,Ob,m⟩:=hrel;cases U with
  |nil=>obtain rfl:=hc0 rfl;rw[wayI,List.nil_append]at hw;have K:=nY hw Ob m;clear ha hnd hc1 hc0 hw Ob m;go_wp2_with fail;go_ret;refine⟨_,Hn,rfl,?_,K.2.2⟩;rw[K.1];exact K.2.1
  |cons L U'=>
   obtain⟨hxx,hyy,rfl⟩:=hc1 L U' rfl;obtain⟨kk,hkk⟩:=X_ (yy*L.w+xx);rw[hkk];obtain⟨r1,r2,r3,r4,r5,r6,r7,r8⟩:=KT.out;obtain⟨A,hA⟩:=hU;have hdU:Dims (L::U'):=by
    have:∀(A:List bV) (B:List bV),Dims (A++B)→Dims B:=by
     intro A
     induction A with
     |nil=>intro B h;exact h
     |cons M A ih=>intro B h;exact ih B (Dims.tail h)
    exact this A _ (by rw[hA];exact r3)
   have hLlen:=hdU.len0;have hkl:kk<L.l.length:=by rw[←hkk,hLlen];exact nU hxx hyy
   obtain⟨x0,hx0⟩:∃x0,L.l[kk]?=S_ x0:=⟨_,ai hkl⟩;have hg0:(rnodes a (L::U'))[kk]?=S_ (JZ a L.w L.h kk,x0):=by have h:=Bv (T:=L::U') (j:=0) a rfl hx0;simpa[offT]using h
   have hg:=hnd _ _ hg0;have hkN:a+kk<N:=by have:=(aj.1 hg).1;omega
   have hup:=adJ (a:=a) hxx hyy;rw[hkk]at hup;have M4:=m.alloc 3 #[i_ l_ (a+kk:Nat)];have R4:jy (s_ (S_ ⟨wr.heap.size,0,N_⟩) 1 1) [((a+kk:Nat):Int)] [⟨wr.heap.size,3,#[i_ l_ (a+kk:Nat)]⟩]:=dh.new 3 wr.heap.size 1 #[i_ l_ (a+kk:Nat)] rfl (by decide);have I5:=Ob.iv (M4.drop1.sat.left);have HL:Hid ([((a+kk:Nat):Int)].length+(l.map fun(k:Nat)=>(k:Int)).length≤100000000):=af (by have h1:=fM List.length hw;rw[yz,au]at h1;rw[aO,List.length_singleton];omega);have K4:=nY R4 I5 (show Mv W (X::Hl) _ ([⟨wr.heap.size,3,#[i_ l_ (a+kk:Nat)]⟩]++(Hn++(X::Hl)))from M4);have GC:Hid (∀V,Sat V (X::Hl)→V.cell? ⟨tb,0,N_⟩=S_ (s_ (S_ ⟨g,0,N_⟩) N vc)∧V.cell? ⟨g,(a+kk)*4+3,N_⟩=S_ (i_ l_ (JZ a L.w L.h kk))):=af (fun V hV=>by
    refine⟨?_,?_⟩
    ·have hb:=hV.at_ 0 (g:=tb) (t:=X.t) (cs:=X.cs) (by rw[r2];rfl);rw[r2]at hb;exact hb.cell 0
    ·rw[(r1.cell (Sat.right (A:=[_]) hV) rfl ((a+kk)*4+3) (by omega)).1];exact(vC hg).2.2.2)
   obtain⟨va5,vc5,rfl⟩:=Ob.slice;rw[aO]at*;obtain⟨nl,hnl⟩:=X_ (l.length);rw[hnl]at K4⊢;obtain⟨ak,hak⟩:=X_ (a+kk);rw[hak]at K4 GC HL hkN⊢;obtain⟨u,hu⟩:=X_ (JZ a L.w L.h kk);rw[hu]at GC hup;have d1:decide (0≤(ak:Int))=T_:=by simp
   have ank:(ak:Int)<N:=by omega
   have REL:Hid (∀(wx:World) (s5:Value) (H6:List YtjngfhgakokejaaGreat.HB),jy s5 ([(ak:Int)]++l.map fun(k:Nat)=>(k:Int)) H6→Mv W (X::Hl) wx (H6++(X::Hl))→ ∃(U:List bV) (a' xx' yy':Nat) (l':List Nat) (Hn':List YtjngfhgakokejaaGreat.HB),U<:+T∧U'.length+1=U.length+1∧a'+offT U U.length=offT T T.length∧(∀b p,(rnodes a' U)[p]?=S_ b→(rnodes 0 T)[a'+p]?=S_ b)∧(∀L2 U2,U=L2::U2→xx'<L2.w∧yy'<L2.h∧Value.int l_ u=i_ l_ ((a'+(yy'*L2.w+xx'):Nat):Int))∧(U=[]→Value.int l_ u=i_ l_ (-1))∧wayI 0 T x y=wayI a' U xx' yy'++l'∧jy s5 (l'.map fun(k:Nat)=>(k:Int)) Hn'∧Mv W (X::Hl) wx (Hn'++(X::Hl))):=af (by
    intro wx s5 H6 q1 q2;refine⟨U',a+L.l.length,xx/2,yy/2,ak::l,H6,⟨A++[L],by rw[←hA];simp⟩,rfl,?_,?_,?_,?_,?_,?_,q2⟩
    ·simp only[offT,List.length_cons]at ha;omega
    ·intro b p hp;rw[kK];refine hnd b (L.l.length+p) ?_;simp only[rnodes];rw[aZ (by rw[fV];omega),fV,show L.l.length+p-L.l.length=p by omega];exact hp
    ·intro L2 U2 e;subst e;have hne:=r4 L L2 U2 ⟨A,hA⟩;obtain⟨hw2,hh2⟩:=hdU.next hne;rw[aK hne]at hup;refine⟨by rw[hw2];omega,by rw[hh2];omega,?_⟩;rw[hup,hLlen,hw2]
    ·intro e;subst e;obtain⟨e1,e2,-⟩:=hdU;rw[hup,e1,e2];rfl
    ·rw[hw];simp only[wayI,az];rw[hkk,hak];rfl
    ·exact q1)
   clear ha hnd hc1 hc0 hw hup hu hg hg0 hx0 hkl hLlen hdU hA r1 r2 r3 r4 r5 r6 r7 r8 m M4 R4 I5 Ob hak hkk hxx hyy;go_upto_region 4 with(at_builtin;refine Gt rfl (.tmp 9) (.tmp 10) rfl _ _ [(ak:Int)] (l.map fun(k:Nat)=>(k:Int)) _ rfl rfl K4.out.1 K4.out.2.2.sat.left K4.out.2.1 (by rw[aO];exact HL.out) ?_;intro v6 w6 H6 yN m6;have K6:=dS yN (Mv.call K4.out.2.2 m6);clear yN m6);have hm6:Mv W (X::Hl) w6 (H6++(X::Hl)):=(show Mv W (X::Hl) w6 (H6++(Hn++(X::Hl)))from K6.2).Z_;obtain⟨g0,g1⟩:=GC w6 hm6.sat.right;have K7:=dS K6.1 hm6;have anl:ak*4+3<1000000:=by omega
   clear hm6 K6;go_wp2_with fail;go_roundg (U'.length+1)
   case measure=>simp
   case rel=>exact REL _ _ _ K7.1 K7.2
def rE(T:List bV):Prop:=∀L M T',L::M::T'<:+T→1<L.w*L.h
theorem rE.tail{L:bV}{T:List bV}(h:rE (L::T)):rE T:=fun A B C hs=>h A B C (hs.trans (List.suffix_cons L T))
theorem rE.head{L M:bV}{T:List bV}(h:rE (L::M::T)):1<L.w*L.h:=h L M T (List.suffix_refl _)
def par(w k:Nat):Nat:=k/w/2*((w+1)/2)+k%w/2
def ahC(M:bV)(p:Nat)(n:Int):bV:={M with l:=M.l.set p {M.l.getD p Eh with n:=min (M.l.getD p Eh).n n}}
def pullK(L M:bV):Nat→bV
 |0=>M
 |k+1=>ahC (pullK L M k) (par L.w k) (L.l.getD k Eh).n
theorem GZ(L M:bV)(k:Nat):(pullK L M k).w=M.w∧(pullK L M k).h=M.h∧(pullK L M k).l.length=M.l.length:=by
 induction k with
 |zero=>exact⟨rfl,rfl,rfl⟩
 |succ k ih=>exact⟨ih.1,ih.2.1,by simp only[pullK,ahC,fC];exact ih.2.2⟩
def fillUp:bV→List bV→List bV
 |_,[]=>[]
 |L,M::R=>pullK L M L.l.length::fillUp (pullK L M L.l.length) R
def big:Int:=4611686018427387904
def zV(L:bV):bV:={L with l:=L.l.map fun x=>{x with n:=big}}
def fillT:List bV→List bV
 | []=>[]
 |L::R=>L::fillUp L (R.map zV)
def fstep(l:List (Int×dY))(i:Nat):List (Int×dY):=
 match l[i]? with
 |none=>l
 |some p=>if 0≤p.1 then(match l[p.1.toNat]? with
  |none=>l
  |some q=>l.set p.1.toNat (q.1,{q.2 with n:=min q.2.n p.2.n}))else l
theorem aeG{w h k:Nat}(hw:1≤w)(hk:k<w*h):par w k<(w+1)/2*((h+1)/2):=by
 have h1:k/w<h:=oz hk;have h2:k%w<w:=kP _ (by omega);unfold par;rw[dX (k/w/2)];have h3:(w+1)/2*(k/w/2+1)≤(w+1)/2*((h+1)/2):=l7 _ (by omega);rw[Nat.mul_add,um]at h3;have h4:k%w/2<(w+1)/2:=by omega
 omega
theorem acU{pre rest:List (Int×dY)}{a:Nat}{L M:bV}(ha:pre.length=a)(hL:L.l.length=L.w*L.h)(hM:M.l.length=M.w*M.h)(hw:1≤L.w)(hmw:M.w=(L.w+1)/2)(hmh:M.h=(L.h+1)/2)(hne:1<L.w*L.h){k:Nat}(hk:k<L.l.length)(M1:bV)(h1:M1.w=M.w∧M1.h=M.h∧M1.l.length=M.l.length):fstep (pre++(uu a L++(uu (a+L.l.length) M1++rest))) (a+k)=pre++(uu a L++(uu (a+L.l.length) (ahC M1 (par L.w k) (L.l.getD k Eh).n)++rest)):=by
 obtain⟨x,hx⟩:∃x,L.l[k]?=S_ x:=⟨_,ai hk⟩;have hp:par L.w k<M1.l.length:=by rw[h1.2.2,hM,hmw,hmh];exact aeG hw (by rw[←hL];exact hk)
 obtain⟨q,hq⟩:∃q,M1.l[par L.w k]?=S_ q:=⟨_,ai hp⟩;have e1:(pre++(uu a L++(uu (a+L.l.length) M1++rest)))[a+k]?=S_ (JZ a L.w L.h k,x):=by rw[aZ (by omega),ha,Nat.add_sub_cancel_left,df (by rw[fV];exact hk)];exact Ee hx
 have eu:JZ a L.w L.h k=((a+L.l.length+par L.w k:Nat):Int):=by unfold JZ par;rw[aK hne,hL];congr 1;omega
 have e2:(pre++(uu a L++(uu (a+L.l.length) M1++rest)))[a+L.l.length+par L.w k]?=S_ (JZ (a+L.l.length) M1.w M1.h (par L.w k),q):=by rw[aZ (by omega),ha,aZ (by rw[fV];omega),fV,show a+L.l.length+par L.w k-a-L.l.length=par L.w k by omega,df (by rw[fV];exact hp)];exact Ee hq
 unfold fstep;rw[e1];simp only;rw[eu,aK (by omega),Int.toNat_natCast,e2];simp only;rw[dZ _ _ (by omega),ha,dZ _ _ (by rw[fV];omega),fV,show a+L.l.length+par L.w k-a-L.l.length=par L.w k by omega,rU _ _ (by rw[fV];exact hp),V7];have d1:L.l.getD k Eh=x:=by rw[ax,hx];rfl
 have d2:M1.l.getD (par L.w k) Eh=q:=by rw[ax,hq];rfl
 unfold ahC;rw[d1,d2]
theorem NI{pre rest:List (Int×dY)}{a:Nat}{L M:bV}(ha:pre.length=a)(hL:L.l.length=L.w*L.h)(hM:M.l.length=M.w*M.h)(hw:1≤L.w)(hmw:M.w=(L.w+1)/2)(hmh:M.h=(L.h+1)/2)(hne:1<L.w*L.h):∀k≤L.l.length,((List.range k).map (a+·)).foldl fstep (pre++(uu a L++(uu (a+L.l.length) M++rest)))=pre++(uu a L++(uu (a+L.l.length) (pullK L M k)++rest))
 |0,_=>rfl
 |k+1,hk=>by rw[fO,bU,dP,NI ha hL hM hw hmw hmh hne k (by omega)];exact acU ha hL hM hw hmw hmh hne (by omega) _ (GZ L M k)
theorem TC(a:Nat)(l:List (Int×dY)):∀n,(∀k,k<n→∀p,l[a+k]?=S_ p→p.1= -1)→((List.range n).map (a+·)).foldl fstep l=l
 |0,_=>rfl
 |n+1,h=>by
  rw[fO,bU,dP,TC a l n fun k hk=>h k (by omega)];simp only[bJ,gW,List.foldl_cons,List.foldl_nil];unfold fstep;split
  ·rfl
  ·rename_i p hp;have:=h n (by omega) p hp;rw[aJ (by omega)]
theorem fill_flat:∀(R:List bV) (L:bV) (pre:List (Int×dY)) (a:Nat),pre.length=a→Dims (L::R)→rE (L::R)→((List.range (rnodes a (L::R)).length).map (a+·)).foldl fstep (pre++rnodes a (L::R))=pre++rnodes a (L::fillUp L R)
 | [],L,pre,a,ha,hd,hs=>by refine TC a _ _ fun k hk p hp=>?_;rw[aZ (by omega),ha,Nat.add_sub_cancel_left]at hp;simp only[rnodes,dD]at hp hk;rw[fV]at hk;obtain⟨x,hx⟩:∃x,L.l[k]?=S_ x:=⟨_,ai hk⟩;rw[Ee hx]at hp;simp only[dG]at hp;rw[←hp];obtain⟨e1,e2,-⟩:=hd;simp only[JZ,e1,e2];rfl
 |M::R,L,pre,a,ha,hd,hs=>by
  have hne:=hs.head;have hL:=hd.len0;have hp:=hd.ai7;obtain⟨hmw,hmh⟩:=hd.next hne;have hM:=hd.tail.len0;have hlen:(rnodes a (L::M::R)).length=L.l.length+(rnodes (a+L.l.length) (M::R)).length:=by simp only[rnodes,au,fV]
  rw[hlen,List.range_add,bU,dP];have h1:=NI (rest:=rnodes (a+L.l.length+M.l.length) R) ha hL hM hp.1 hmw hmh hne L.l.length (aN _);have e0:pre++rnodes a (L::M::R)=pre++(uu a L++(uu (a+L.l.length) M++rnodes (a+L.l.length+M.l.length) R)):=by simp only[rnodes]
  rw[e0,h1];have hsh:=GZ L M L.l.length;have hd2:Dims (pullK L M L.l.length::R):=by
   have:=hd.tail;cases R with
   |nil=>exact⟨hsh.1.trans this.1,hsh.2.1.trans this.2.1,by rw[hsh.2.2,hsh.1,hsh.2.1];exact this.2.2⟩
   |cons N R=>obtain⟨k1,k2,k3,k4,k5,k6⟩:=this;exact⟨by rw[hsh.1];exact k1,by rw[hsh.2.1];exact k2,by rw[hsh.2.2,hsh.1,hsh.2.1];exact k3,by rw[hsh.1];exact k4,by rw[hsh.2.1];exact k5,k6⟩
  have hs2:rE (pullK L M L.l.length::R):=by
   intro A B C alM;rcases uX.1 alM with e|e
   ·have e1:A=pullK L M L.l.length:=(List.cons.inj e).1;have e2:B::C=R:=(List.cons.inj e).2;rw[e1,hsh.1,hsh.2.1];exact hs.tail M B C (by rw[e2];exact List.suffix_refl _)
   ·exact hs.tail.tail A B C e
  have ih:=fill_flat R (pullK L M L.l.length) (pre++uu a L) (a+L.l.length) (by rw[au,ha,fV]) hd2 hs2;have hl2:(rnodes (a+L.l.length) (pullK L M L.l.length::R)).length=(rnodes (a+L.l.length) (M::R)).length:=by simp only[rnodes,au,fV,hsh.2.2]
  rw[hl2]at ih;have e3:(((List.range (rnodes (a+L.l.length) (M::R)).length).map (L.l.length+·)).map (a+·))=(List.range (rnodes (a+L.l.length) (M::R)).length).map (a+L.l.length+·):=by rw[jc];exact wU fun k _=>by simp only[Function.comp];omega
  rw[e3];have e4:pre++(uu a L++(uu (a+L.l.length) (pullK L M L.l.length)++rnodes (a+L.l.length+M.l.length) R))=pre++uu a L++rnodes (a+L.l.length) (pullK L M L.l.length::R):=by simp only[rnodes,hsh.2.2,az]
  rw[e4,ih];simp only[rnodes,fillUp,az]
def Dh(l:List (Int×dY))(lv i:Nat):List (Int×dY):=l.mapIdx fun j p=>if lv≤j∧j<i then(p.1,{p.2 with n:=big})else p
theorem Xm(l:List (Int×dY))(lv:Nat):Dh l lv lv=l:=by
 apply fU;intro j;simp only[Dh,jO];cases l[j]? with
 |none=>rfl
 |some p=>simp only[Option.map_some,dG];rw[aJ (by omega)]
theorem ac3{l:List (Int×dY)}{lv i:Nat}{p:Int×dY}(h:l[i]?=S_ p):(Dh l lv i)[i]?=S_ p:=by simp only[Dh,jO,h,Option.map_some];rw[aJ (by omega)]
theorem υ{l:List (Int×dY)}{lv i:Nat}{p:Int×dY}(h:l[i]?=S_ p)(hl:lv≤i):(Dh l lv i).set i (p.1,{p.2 with n:=big})=Dh l lv (i+1):=by
 apply fU;intro j;rw[fQ];by_cases hj:i=j
 ·subst hj;have hil:=(aj.1 h).1;rw[aK rfl,aK (by simp only[Dh,List.length_mapIdx];exact hil)];simp only[Dh,jO,h,Option.map_some];rw[aK (by omega)]
 ·rw[aJ hj];simp only[Dh,jO];cases l[j]? with
  |none=>rfl
  |some q=>
   simp only[Option.map_some,dG];by_cases h1:lv≤j∧j<i
   ·rw[aK h1,aK (by omega)]
   ·rw[aJ h1,aJ (by omega)]
theorem UY(l:List (Int×dY))(lv i:Nat):(Dh l lv i).length=l.length:=by simp[Dh]
theorem aer(a:Nat)(L:bV):uu a (zV L)=(uu a L).map fun p=>(p.1,{p.2 with n:=big}):=by apply fU;intro j;simp only[uu,zV,jO,aV,Option.map_map];rfl
theorem Pm(a:Nat)(R:List bV):rnodes a (R.map zV)=(rnodes a R).map fun p=>(p.1,{p.2 with n:=big}):=by
 induction R generalizing a with
 |nil=>rfl
 |cons L R ih=>simp only[bJ,rnodes,bU,aer];rw[show(zV L).l.length=L.l.length by simp[zV],ih]
theorem ac4(L:bV)(R:List bV)(N:Nat)(hN:(rnodes 0 (L::R)).length=N):Dh (rnodes 0 (L::R)) L.l.length N=rnodes 0 (L::R.map zV):=by
 apply fU;intro j;have e:rnodes 0 (L::R.map zV)=uu 0 L++(rnodes (0+L.l.length) R).map fun(p:Int×dY)=>(p.1,{p.2 with n:=big}):=by simp only[rnodes,Pm]
 rw[e];simp only[Dh,jO];simp only[rnodes]at hN⊢;by_cases hj:j<L.l.length
 ·rw[df (by rw[fV];exact hj),df (by rw[fV];exact hj)];cases(uu 0 L)[j]? with
  |none=>rfl
  |some p=>simp only[Option.map_some,dG];rw[aJ (by omega)]
 ·rw[aZ (by rw[fV];omega),aZ (by rw[fV];omega),aV,fV];cases hq:(rnodes (0+L.l.length) R)[j-L.l.length]? with
  |none=>rfl
  |some p=>have h2:=(aj.1 hq).1;rw[au,fV]at hN;simp only[Option.map_some,dG];rw[aK (by omega)]
theorem aix:∀(T:List bV) (a:Nat),Dims T→rE T→∀(i:Nat) (p:Int×dY),(rnodes a T)[i]?=S_ p→p.1= -1∨(0≤p.1∧p.1<((a+offT T T.length:Nat):Int))
 | [],a,_,_,i,p,h=>by simp[rnodes]at h
 |L::R,a,hd,hs,i,p,h=>by
  simp only[rnodes]at h;by_cases hi:i<L.l.length
  ·rw[df (by rw[fV];exact hi)]at h;obtain⟨x,hx⟩:∃x,L.l[i]?=S_ x:=⟨_,ai hi⟩;rw[Ee hx]at h;simp only[dG]at h;rw[←h];simp only;by_cases hne:1<L.w*L.h
   ·right;have hL:=hd.len0;have hp:=aeG hd.ai7.1 (h:=L.h) (k:=i) (by rw[←hL];exact hi);have e:JZ a L.w L.h i=((a+L.w*L.h+par L.w i:Nat):Int):=by unfold JZ par;rw[aK hne];congr 1;omega
    cases R with
    |nil=>obtain⟨e1,e2,-⟩:=hd;rw[e1,e2]at hne;omega
    |cons M R=>obtain⟨hw,hh⟩:=hd.next hne;have hM:=hd.tail.len0;rw[hw,hh]at hM;rw[e];simp only[offT,List.length_cons];omega
   ·left;unfold JZ;rw[aJ hne]
  ·rw[aZ (by rw[fV];omega),fV]at h;have:=aix R (a+L.l.length) hd.tail hs.tail _ p h;simp only[offT,List.length_cons];rw[kK]at this;exact this
theorem Ea{α:Type}{l:List α}{i:Nat}{x:α}(h:l[i]?=S_ x):l.set i x=l:=by
 apply fU;intro j;rw[fQ];split
 ·rename_i e;subst e;rw[aK (aj.1 h).1,h]
 ·rfl
theorem acV(l:List (Int×dY))(i:Nat):(fstep l i).map (·.1)=l.map (·.1):=by
 unfold fstep;split
 ·rfl
 ·split
  ·split
   ·rfl
   ·rename_i q hq;rw[jb];exact Ea (by rw[aV,hq];rfl)
  ·rfl
theorem Ql(l:List (Int×dY)):∀i,((List.range i).foldl fstep l).map (·.1)=l.map (·.1)
 |0=>rfl
 |i+1=>by rw[fO,dP];exact(acV _ i).trans (Ql l i)
theorem afH{L:bV}{R:List bV}(h:Dims (L::R)):Dims (L::R.map zV):=by
 induction R generalizing L with
 |nil=>exact h
 |cons M R ih=>
  obtain⟨h1,h2,h3,h4,h5,h6⟩:=h;refine⟨h1,h2,h3,h4,h5,?_⟩;have:=ih h6;cases R with
  |nil=>exact⟨this.1,this.2.1,by simp only[zV,aO];exact this.2.2⟩
  |cons N R=>exact⟨this.1,this.2.1,by simp only[zV,aO];exact this.2.2.1,this.2.2.2.1,this.2.2.2.2.1,this.2.2.2.2.2⟩
theorem Yi{T:List bV}(f:bV→bV)(hf:∀L,(f L).w=L.w∧(f L).h=L.h)(h:rE T):rE (T.map f):=by intro A B C ⟨P,hP⟩;have e:=fM List.length hP;obtain⟨P',Q,e1,e2,e3⟩:=List.map_eq_append_iff.1 hP.symm;obtain⟨A',Q1,e4,e5,e6⟩:=List.map_eq_cons_iff.1 e3;obtain⟨B',Q2,e7,e8,e9⟩:=List.map_eq_cons_iff.1 e6;rw[←e5,(hf A').1,(hf A').2];exact h A' B' Q2 ⟨P',by rw[e1,e4,e7]⟩
theorem Yg{L:bV}{R:List bV}(h:rE (L::R)):rE (L::R.map zV):=by
 have h1:=Yi zV (fun _=>⟨rfl,rfl⟩) h;intro A B C hs;rcases uX.1 hs with e|e
 ·obtain⟨e1,e2⟩:=List.cons.inj e;subst e1;cases R with
  |nil=>simp at e2
  |cons M R=>exact h.head
 ·exact h1 A B C (e.trans (List.suffix_cons _ _))
theorem aaq{W w w':World}{H0 Hl Hl':List HB}{X:HB}(m:Mv W H0 w (X::Hl))(m2:Mv w Hl w' Hl'):Mv W H0 w' (X::Hl'):=by have h1:Mv W H0 w (Hl++[X]):=m.Z_;exact(Mv.call h1 m2).Z_
theorem ab7(tb:Nat)(L:bV)(R:List bV)(fr:Bool)(H:List HB)(W:World)(h:ku tb (L::R) fr H)(hs:Sat W H)(hd:Dims (L::R))(hst:rE (L::R))(hN:offT (L::R) (L::R).length≤100000):Calls P_ 80 #[p_ (S_ ⟨tb,0,N_⟩)] W fun e w'=>e=r_ (t_ #[])∧∃H',ku tb (if fr=T_ then L::R else fillT (L::R)) T_ H'∧Mv W H w' H':=by
 cases fr with
 |true=>rw[aK rfl];obtain⟨v,Hl,rfl,hr⟩:=h;have c2:W.cell? ⟨tb,2,N_⟩=S_ (b_ T_):=(Mv.refl hs).cell 0 rfl 2;have K:=dS hr (Mv.refl hs);clear hr hs hd hst hN;go_enter Tryz.func80,Tryz.ntmps80;go_wp2_with fail;exact dU (bH rfl _ _ _) rfl ⟨rfl,_,⟨v,Hl,rfl,K.1⟩,K.2⟩
 |false=>
  rw[aJ (by simp)];obtain⟨v,Hl,rfl,hr⟩:=h;obtain⟨N,hNN⟩:=X_ ((rnodes 0 (L::R)).length);have hlen:=sS 0 (L::R);rw[hNN]at hr hlen;have hpos:=hd.ai7;have hL0:=hd.len0;have hlp:1≤L.l.length:=by rw[hL0];exact Nat.mul_pos hpos.1 hpos.2
  have hle:=J8 (T:=L::R) (j:=0) rfl;simp only[offT,dH]at hle hlen hN;simp only[List.length_cons,offT]at hlen hN hle;obtain⟨g,vc,cur,rfl,-⟩:=hr.form (by omega);obtain⟨ln,hln⟩:=X_ (L.l.length);obtain⟨X,hX⟩:∃X:HB,X=yw tb (s_ (S_ ⟨g,0,N_⟩) N vc) (ln:Int) T_:=⟨_,rfl⟩;have hlv:leavesM (L::R)=ln:=hln;have M0:Mv W (yw tb (s_ (S_ ⟨g,0,N_⟩) N vc) (ln:Int) F_::Hl) W (yw tb (s_ (S_ ⟨g,0,N_⟩) N vc) (ln:Int) F_::Hl):=Mv.refl (by rw[hlv]at hs;exact hs);have hs2:(⟨tb,159,#[s_ (S_ ⟨g,0,N_⟩) N vc,i_ l_ (leavesM (L::R):Int),b_ F_]⟩:HB)=yw tb (s_ (S_ ⟨g,0,N_⟩) N vc) (ln:Int) F_:=by rw[hlv];rfl
  rw[hs2];obtain⟨H0,hH0⟩:=X_ (yw tb (s_ (S_ ⟨g,0,N_⟩) N vc) (ln:Int) F_::Hl);have c2:W.cell? ⟨tb,2,N_⟩=S_ (b_ F_):=M0.cell 0 rfl 2;have f2:W.frozen? ⟨tb,2,N_⟩=F_:=M0.frozen 0 rfl 2;have M1:=M0.set 2 (b_ T_);obtain⟨w1,hw1⟩:=Y_ (W.setCell ⟨tb,2,N_⟩ (b_ T_));rw[←hw1]at M1;replace M1:Mv W H0 w1 (X::Hl):=by rw[←hH0,hX];exact M1
  rw[hH0];have K1:=dS hr M1;have XC:Hid (∀V Y,Sat V (X::Y)→V.cell? ⟨tb,0,N_⟩=S_ (s_ (S_ ⟨g,0,N_⟩) N vc)∧V.cell? ⟨tb,1,N_⟩=S_ (i_ l_ ln)):=af (fun V Y hV=>by have hb:=hV.at_ 0 (g:=tb) (t:=X.t) (cs:=X.cs) (by rw[hX];rfl);rw[hX]at hb;exact⟨hb.cell 0,hb.cell 1⟩);have UP:=aix (L::R) 0 hd hst;have hoff:0+offT (L::R) (L::R).length=N:=by simp only[List.length_cons,offT];omega
  rw[hoff]at UP;have FA:=ac4 L R N hNN;have FF:=fill_flat (R.map zV) L [] 0 rfl;have HB1:=NU hd hst hNN UP FA hX;rw[hln]at hlp hle;have HLN:=af hln;have hN2:N≤100000:=by omega
  have Z9:ln≤N:=by omega
  clear M0 M1 hr hs hs2 hNN hlen hd hst hN hX hL0 hH0 UP FA FF hoff hlv hpos hlp hle hln;go_enter Tryz.func80,Tryz.ntmps80;go_upto_region 2 with fail;rw[←hw1];clear hw1 c2 f2;obtain⟨c0,c1⟩:=XC w1 _ K1.2.sat;go_wp2_with fail;clear c0 c1;go_loopg [2] (N-ln) (fun mm s2 wx=>∃(i:Nat) (Hl':List YtjngfhgakokejaaGreat.HB),ln≤i∧i≤N∧mm=N-i∧s2=i_ l_ i∧dh 162 4 (s_ (S_ ⟨g,0,N_⟩) N vc) N (kM (Dh (rnodes 0 (L::R)) ln i)) Hl'∧Mv W H0 wx (X::Hl'))
  case atStart=>exact⟨ln,Hl,aN _,Z9,rfl,rfl,by rw[Xm];exact K1.1,K1.2⟩
  case round=>
   clear K1;obtain⟨i,Hl1,hi1,hi2,rfl,rfl,hr,m⟩:=hrel;obtain⟨c0,c1⟩:=XC _ _ m.sat;by_cases hlt:i<N
   ·have d1:decide ((i:Int)<N)=T_:=by simp;omega
    have hiN:(i:Int)<N:=by omega
    obtain⟨p,hp⟩:∃p,(rnodes 0 (L::R))[i]?=S_ p:=⟨_,ai (by rw[HB1.2.2.1];exact hlt)⟩;have hg:=ac3 (lv:=ln) (i:=i) hp;obtain⟨z0,zf⟩:=hr.cell (Sat.right (A:=[_]) m.sat) rfl (i*4) (by omega);rw[(vC hg).1]at z0;obtain⟨H2,r2,m2⟩:=hr.set (Sat.right (A:=[_]) m.sat) rfl (i*4) (i_ l_ big) (by omega);have e:=vw hg (p.1,{p.2 with n:=big}) 0 (by omega) (i_ l_ big) rfl;rw[Nat.add_zero]at e;rw[e,υ hp hi1]at r2;have M2:Mv W H0 _ (X::H2):=aaq m m2;have K:=dS r2 M2;have hi4:i<100000:=by omega
    clear hr m hp hg e r2 m2 M2 c1;go_wp2_with fail;go_roundg (N-(i+1))
    case measure=>omega
    case rel=>exact⟨i+1,H2,by omega,hlt,rfl,by push_cast;rfl,K.1,K.2⟩
   ·obtain rfl:i=N:=by omega
    have d1:decide ((i:Int)<i)=F_:=by simp
    rw[show ln=L.l.length from HLN.symm,HB1.2.2.2.2.1]at hr;obtain⟨l0,hl0⟩:=X_ (rnodes 0 (L::R.map zV));rw[hl0]at hr;have akW:l0.length=i:=by rw[←hl0,←HB1.2.2.2.2.1,UY,HB1.2.2.1]
    have ak2:l0.map (·.1)=(rnodes 0 (L::R)).map (·.1):=by rw[←hl0];simp only[rnodes,bU,Pm,jc];rfl
    have K2:=dS hr m;have HZ:=nY hl0 akW ak2;clear hr m hl0 akW ak2 c1 hlt;go_wp2_with fail;go_loopg [3] i (fun mm s3 wx=>∃(j:Nat) (Hl':List YtjngfhgakokejaaGreat.HB),j≤i∧mm=i-j∧s3=i_ l_ j∧dh 162 4 (s_ (S_ ⟨g,0,N_⟩) i vc) i (kM ((List.range j).foldl fstep l0)) Hl'∧Mv W H0 wx (X::Hl'))
    case atStart=>exact⟨0,Hl1,aY _,rfl,rfl,K2.1,K2.2⟩
    case round=>
     clear K2 c0;obtain⟨j,Hl2,hj,rfl,rfl,hr,m⟩:=hrel;obtain⟨c0,c1⟩:=XC _ _ m.sat;by_cases hlt:j<i
     ·have d2:decide ((j:Int)<i)=T_:=by simp;omega
      have hjN:(j:Int)<i:=by omega
      obtain⟨l1,hl1⟩:=X_ ((List.range j).foldl fstep l0);have hstep:(List.range (j+1)).foldl fstep l0=fstep l1 j:=by rw[fO,dP,hl1];rfl
      have hf1:l1.map (·.1)=(rnodes 0 (L::R)).map (·.1):=by rw[←hl1,Ql,HZ.2.2]
      have akU:l1.length=i:=by have:=fM List.length hf1;rw[aO,aO,HB1.2.2.1]at this;exact this
      rw[hl1]at hr;obtain⟨p,hp⟩:∃p,l1[j]?=S_ p:=⟨_,ai (by omega)⟩;have hup:p.1= -1∨(0≤p.1∧p.1<(i:Int)):=by
       have h1:(l1.map (·.1))[j]?=S_ p.1:=by rw[aV,hp];rfl
       rw[hf1,aV]at h1;obtain⟨q,hq,hq2⟩:=iU.1 h1;rw[←hq2];exact HB1.2.2.2.1 j q hq
      have z3:=(hr.cell (Sat.right (A:=[_]) m.sat) rfl (j*4+3) (by omega)).1;have z0:=(hr.cell (Sat.right (A:=[_]) m.sat) rfl (j*4) (by omega)).1;rw[(vC hp).2.2.2]at z3;rw[(vC hp).1]at z0;have hj4:j<100000:=by omega
      rcases hup with hu|⟨hu1,hu2⟩
      ·rw[hu]at z3;have hfs:fstep l1 j=l1:=by unfold fstep;rw[hp];simp only;rw[aJ (by omega)]
       have K:=nY hr m (hstep.trans hfs);clear hr m hl1 hstep hf1 akU hp hfs hu c1;go_wp2_with fail;go_roundg (i-(j+1))
       case measure=>omega
       case rel=>exact⟨j+1,Hl2,hlt,rfl,by push_cast;rfl,by rw[K.2.2];exact K.1,K.2.1⟩
      ·obtain⟨u,hu⟩:=dW hu1;rw[hu]at z3;have hui:u<i:=by omega
       obtain⟨q,hq⟩:∃q,l1[u]?=S_ q:=⟨_,ai (by omega)⟩;obtain⟨y0,yf⟩:=hr.cell (Sat.right (A:=[_]) m.sat) rfl (u*4) (by omega);rw[(vC hq).1]at y0;have hfs:fstep l1 j=l1.set u (q.1,{q.2 with n:=min q.2.n p.2.n}):=by unfold fstep;rw[hp];simp only;rw[hu,aK (by omega),Int.toNat_natCast,hq]
       obtain⟨H2,r2,m2⟩:=hr.set (Sat.right (A:=[_]) m.sat) rfl (u*4) (i_ l_ (min q.2.n p.2.n)) (by omega);have e:=vw hq (q.1,{q.2 with n:=min q.2.n p.2.n}) 0 (by omega) (i_ l_ (min q.2.n p.2.n)) rfl;rw[Nat.add_zero]at e;rw[e,←hfs,←hstep]at r2;have M2:Mv W H0 _ (X::H2):=aaq m m2;obtain⟨nq,hnq⟩:=X_ (q.2.n);obtain⟨np,xu⟩:=X_ (p.2.n);rw[hnq]at y0 M2;rw[xu]at z0 M2;have hmin:(if np<nq then np else nq)=min nq np:=by split<;>omega
       have K:=nY r2 M2 hmin;have hu4:u<100000:=by omega
       have huN:(u:Int)<i:=by omega
       have d3:decide (0≤(u:Int))=T_:=by simp
       clear hr m hl1 hstep hf1 akU hp hfs hq e r2 m2 M2 hnq xu hmin hu hu1 hu2 c1;go_upto_region 11 with fail;go_still_tail 24,(by kernel_rfl);go_wp2_with fail
       all_goals
        have M3:=K.2.1
        first
         |rw[show min nq np=np by omega]at M3
         |rw[show min nq np=nq by omega]at M3
        have KM:=af M3;clear M3;go_roundg (i-(j+1))
        case measure=>omega
        case rel=>exact⟨j+1,H2,hlt,rfl,by push_cast;rfl,K.1,KM.drew⟩
     ·obtain rfl:j=i:=by omega
      have d2:decide ((j:Int)<j)=F_:=by simp
      have FF:=fill_flat (R.map zV) L [] 0 rfl (afH HB1.1) (Yg HB1.2.1);rw[List.nil_append,List.nil_append,HZ.1,HZ.2.1,show(List.range j).map (0+·)=List.range j by simp]at FF;rw[FF]at hr;have K:=dS hr m;have HR2:Hid ((rnodes 0 (fillT (L::R))).length=j∧leavesM (fillT (L::R))=ln∧X=yw tb (s_ (S_ ⟨g,0,N_⟩) j vc) (ln:Int) T_):=af ⟨by
       have h1:=fM List.length FF;have h2:((List.range j).foldl fstep l0).length=j:=by have h3:=fM List.length (Ql l0 j);rw[aO,aO,HZ.2.1]at h3;exact h3
       rw[h2]at h1;exact h1.symm,HLN.out,HB1.2.2.2.2.2⟩
      clear FF hr m c1 hlt;go_wp2_with fail;refine dm (bH rfl _ _ _) rfl ⟨rfl,X::Hl2,⟨s_ (S_ ⟨g,0,N_⟩) j vc,Hl2,?_,?_⟩,K.2⟩
      ·rw[HR2.2.2,HR2.2.1];rfl
      ·rw[HR2.1];exact K.1
def air(wb:Nat)(s:List UInt8×UInt8×Nat)(H:List HB):Prop:= ∃v Hr,H=⟨wb,156,#[v,i_ l_ s.2.1.toNat,i_ l_ s.2.2]⟩::Hr∧dR v s.1 Hr
def oN(wb:Nat)(bs:List Bool)(H:List HB):Prop:=air wb (F9 bs) H
theorem Sr(bs:List Bool):1≤(F9 bs).2.2∧(F9 bs).2.2≤8∧(F9 bs).1.length≤bs.length:=by
 have h:∀(l:List Bool) (s:List UInt8×UInt8×Nat),1≤s.2.2∧s.2.2≤8→(1≤(l.foldl Dy s).2.2∧(l.foldl Dy s).2.2≤8)∧(l.foldl Dy s).1.length≤s.1.length+l.length:=by
  intro l
  induction l with
  |nil=>intro s h;exact⟨h,by simp⟩
  |cons b l ih=>
   intro s h;have h2:(1≤(Dy s b).2.2∧(Dy s b).2.2≤8)∧(Dy s b).1.length≤s.1.length+1:=by
    by_cases hf:s.2.2=1
    ·have e:Dy s b=(s.1++[s.2.1|||(if b then(1:UInt8)<<<UInt8.ofNat (s.2.2-1)else 0)],0,if s.2.1|||(if b then(1:UInt8)<<<UInt8.ofNat (s.2.2-1)else 0)=255 then 7 else 8):=by unfold Dy;simp only[hf,ji]
     rw[e];refine⟨?_,by simp⟩;generalize s.2.1|||(if b then(1:UInt8)<<<UInt8.ofNat (s.2.2-1)else 0)=q
     by_cases hq:q=255
     ·simp[hq]
     ·simp[hq]
    ·have e:Dy s b=(s.1,s.2.1|||(if b then(1:UInt8)<<<UInt8.ofNat (s.2.2-1)else 0),s.2.2-1):=by unfold Dy;simp only[hf,iJ]
     rw[e];exact⟨by simp only;omega,by simp⟩
   obtain⟨k1,k2⟩:=ih (Dy s b) h2.1;refine⟨k1,?_⟩;have:=h2.2;simp only[List.foldl_cons,List.length_cons];omega
 have:=h bs ([],0,8) ⟨by decide,by decide⟩;exact⟨this.1.1,this.1.2,by have h2:=this.2;rw[List.length_nil,dH]at h2;exact h2⟩
theorem ahw(c:UInt8)(k:Nat)(hk:k<8):bits .or l_ (c.toNat:Int) ((2:Int)^k)=((c|||(1:UInt8)<<<UInt8.ofNat k).toNat:Int):=by
 have key:∀c<(256:Nat),∀k<8,bits .or l_ (c:Int) ((2:Int)^k)=(((UInt8.ofNat c)|||(1:UInt8)<<<UInt8.ofNat k).toNat:Int):=by decide+kernel
 have h:=key c.toNat (jM c) k hk;rwa[UInt8.ofNat_toNat]at h
theorem or_zero(c:UInt8):bits .or l_ (c.toNat:Int) 0=(c.toNat:Int):=by
 have key:∀c<(256:Nat),bits .or l_ (c:Int) 0=(c:Int):=by decide+kernel
 exact key c.toNat (jM c)
theorem akn(k:Nat)(hk:k<8):wrap64 ((2:Int)^k)=(2:Int)^k:=by
 have key:∀k<8,wrap64 ((2:Int)^k)=(2:Int)^k:=by decide+kernel
 exact key k hk
theorem aif(c:UInt8)(b:Int)(k:Nat)(hk:k<8):bits .or l_ (c.toNat:Int) (wrap64 (bits .and l_ b 1*2^k))=((c|||(if decide (b%2=1)=T_ then(1:UInt8)<<<UInt8.ofNat k else 0)).toNat:Int):=by
 rw[yY];have h:b%2=0∨b%2=1:=by omega
 rcases h with h|h
 ·rw[h,Int.zero_mul,show wrap64 0=0 by unfold wrap64;omega,or_zero,aJ (by simp)];simp
 ·rw[h,Int.one_mul,akn k hk,ahw c k hk,aK (by simp)]
theorem Mv.aio{w0 w:World}{H0 B:List HB}{x y:HB}(h:Mv w0 H0 w (x::y::B)):Mv w0 H0 w (B++[x,y]):=h.Z_
theorem Mv.agT{w0 w:World}{H0 A:List HB}{x y:HB}(h:Mv w0 H0 w (A++[x,y])):Mv w0 H0 w (y::A):=h.Z_
def Vm(wb:Nat)(v:Value)(c f:Int):HB:=⟨wb,156,#[v,i_ l_ c,i_ l_ f]⟩
theorem aex(wb:Nat)(s:List UInt8×UInt8×Nat)(b:Int)(w:World)(H:List HB)(h:air wb s H)(hs:Sat w H)(h1:1≤s.2.2)(h8:s.2.2≤8)(hl:s.1.length≤80000000):Calls P_ 35 #[p_ (S_ ⟨wb,0,N_⟩),i_ l_ b] w fun e w'=>e=r_ (t_ #[])∧∃H',air wb (Dy s (decide (b%2=1))) H'∧Mv w H w' H':=by
 obtain⟨l,c,f⟩:=s;obtain⟨v,Hr,rfl,hr⟩:=h;simp only at hr h1 h8 hl hs⊢;obtain⟨k,rfl⟩:∃k,f=k+1:=⟨f-1,by omega⟩;have CB:=aif c b k (by omega);have hm:Dy (l,c,k+1) (decide (b%2=1))=if k=0 then(l++[c|||(if decide (b%2=1)=T_ then(1:UInt8)<<<UInt8.ofNat k else 0)],0,if c|||(if decide (b%2=1)=T_ then(1:UInt8)<<<UInt8.ofNat k else 0)=255 then 7 else 8)else(l,c|||(if decide (b%2=1)=T_ then(1:UInt8)<<<UInt8.ofNat k else 0),k):=by unfold Dy;simp only[gV,Nat.add_eq_right]
 rw[hm];obtain⟨x,hx⟩:=X_ (c|||(if decide (b%2=1)=T_ then(1:UInt8)<<<UInt8.ofNat k else 0));rw[hx]at CB;simp only[hx];obtain⟨fr,hfr⟩:∃fr:Nat,(if x=255 then 7 else 8)=fr:=⟨_,rfl⟩;rw[hfr];have HF:=af hfr;obtain⟨S,hS⟩:∃S:List UInt8×UInt8×Nat,(if k=0 then(l++[x],0,fr)else(l,x,k))=S:=⟨_,rfl⟩;rw[hS];have HS:=af hS;clear hfr hS;have akX:min k 64=k:=by omega
 rw[←akX]at CB;have VO:=af CB;have hk8:k<8:=by omega
 obtain⟨n,hn⟩:=X_ (l.length);obtain⟨va,vc,rfl⟩:=hr.slice;have M0:=Mv.refl hs;rw[hn]at hr M0⊢;obtain⟨ci,hci⟩:∃ci:Int,(c.toNat:Int)=ci:=⟨_,rfl⟩;rw[hci]at VO M0⊢;rw[show((k+1:Nat):Int)=k+1 by push_cast;rfl]at M0⊢;replace M0:Mv w (Vm wb (s_ va n vc) ci ((k:Int)+1)::Hr) w (Vm wb (s_ va n vc) ci ((k:Int)+1)::Hr):=M0;have c2:w.cell? ⟨wb,2,N_⟩=S_ (i_ l_ ((k:Int)+1)):=M0.cell 0 rfl 2;have f2:w.frozen? ⟨wb,2,N_⟩=F_:=M0.frozen 0 rfl 2;have M1:=M0.set 2 (i_ l_ k);obtain⟨w1,hw1⟩:=Y_ (w.setCell ⟨wb,2,N_⟩ (i_ l_ k));rw[←hw1]at M1;replace M1:Mv w (Vm wb (s_ va n vc) ci ((k:Int)+1)::Hr) w1 (Vm wb (s_ va n vc) ci (k:Int)::Hr):=M1;have HW:=af hw1;have K1:=dS hr M1;have HL:=af hn;have hn8:n≤80000000:=by omega
 clear hw1 hr M0 M1 hs CB hm akX h1 h8 hl hx hci;show Calls P_ _ _ w fun e w'=>e=r_ (t_ #[])∧∃H',air wb S H'∧Mv w (Vm wb (s_ va n vc) ci ((k:Int)+1)::Hr) w' H';go_enter Tryz.func35,Tryz.ntmps35;go_upto_region 1 with fail;rw[←HW.out];clear HW c2 f2;have e1:w1.drew.cell? ⟨wb,1,N_⟩=S_ (i_ l_ ci):=K1.2.drew.cell 0 rfl 1;have e2:w1.drew.cell? ⟨wb,2,N_⟩=S_ (i_ l_ k):=K1.2.drew.cell 0 rfl 2;have g1:w1.drew.frozen? ⟨wb,1,N_⟩=F_:=K1.2.drew.frozen 0 rfl 1;go_still_tail 16,(by kernel_rfl);change wpList _ _ _ _ _ w1.drew;have K1d:=af K1.2.drew;generalize w1.drew=wd at*;go_upto_region 2 with fail;rw[VO.out];have M2:=K1d.out.set 1 (i_ l_ x.toNat);obtain⟨w3,hw3⟩:=Y_ (wd.setCell ⟨wb,1,N_⟩ (i_ l_ x.toNat));rw[←hw3]at M2⊢;replace M2:Mv w (Vm wb (s_ va n vc) ci ((k:Int)+1)::Hr) w3 (Vm wb (s_ va n vc) (x.toNat:Int) (k:Int)::Hr):=M2;have K2:=dS K1.1 M2;have y2:w3.cell? ⟨wb,2,N_⟩=S_ (i_ l_ k):=M2.cell 0 rfl 2;have hx256:=jM x;clear M2 K1 K1d VO hn hw3 e1 e2 g1;by_cases hk:k=0
 case neg=>have d1:((k:Int)==0)=F_:=bF.2 (by omega);have HK:=af hk;clear hk;go_wp2_with fail;refine dm (bH rfl _ _ _) rfl ⟨rfl,_,?_,K2.2⟩;rw[←HS.out,aJ HK.out];exact⟨_,Hr,rfl,K2.1⟩
 case pos=>
  subst hk;have z2:w3.frozen? ⟨wb,2,N_⟩=F_:=K2.2.frozen 0 rfl 2;have z1:w3.cell? ⟨wb,1,N_⟩=S_ (i_ l_ x.toNat):=K2.2.cell 0 rfl 1;have M3:=K2.2.set 2 (i_ l_ 8);obtain⟨w4,hw4⟩:=Y_ (w3.setCell ⟨wb,2,N_⟩ (i_ l_ 8));rw[←hw4]at M3;replace M3:Mv w (Vm wb (s_ va n vc) ci (((0:Nat):Int)+1)::Hr) w4 (Vm wb (s_ va n vc) (x.toNat:Int) 8::Hr):=M3;go_upto_region 4 with fail;rw[←hw4];have x1:w4.cell? ⟨wb,1,N_⟩=S_ (i_ l_ x.toNat):=M3.cell 0 rfl 1;have x2:w4.cell? ⟨wb,2,N_⟩=S_ (i_ l_ 8):=M3.cell 0 rfl 2;have xf:w4.frozen? ⟨wb,2,N_⟩=F_:=M3.frozen 0 rfl 2;have K3:=dS K2.1 M3;clear M3 hw4 y2 z2 z1 K2;go_upto_if 39 with fail;go_cut [39]from 40 (fun _ wx=>Mv w (Vm wb (s_ va n vc) ci (((0:Nat):Int)+1)::Hr) wx (Vm wb (s_ va n vc) (x.toNat:Int) (fr:Int)::Hr))
  case first=>
   by_cases ig:x=255
   ·have d3:((x.toNat:Int)==255)=T_:=by rw[ig];rfl
    have HF2:Hid (fr=7):=af (by rw[←HF.out,aK ig]);clear ig HF;go_wp2_with fail;go_meet;rw[HF2.out];exact K3.2.set 2 (i_ l_ 7)
   ·have d3:((x.toNat:Int)==255)=F_:=bF.2 (fun h=>ig (gU.1 (by show x.toNat=255;omega)));have HF2:Hid (fr=8):=af (by rw[←HF.out,aJ ig]);clear ig HF;go_wp2_with fail;go_meet;rw[HF2.out];exact K3.2
  case rest=>
   have XZ:IntKind.u8.wrap (x.toNat:Int)=x.toNat:=by rw[xQ];omega
   have e0:wc.cell? ⟨wb,0,N_⟩=S_ (s_ va n vc):=hcut.cell 0 rfl 0;have e1:wc.cell? ⟨wb,1,N_⟩=S_ (i_ l_ x.toNat):=hcut.cell 0 rfl 1;have JI:=hcut.alloc 5 #[i_ .u8 (x.toNat:Int)];have y7:(wc.alloc (.cells #[i_ .u8 (x.toNat:Int)] 5)).cell? ⟨wb,0,N_⟩=S_ (s_ va n vc):=JI.cell 1 rfl 0;have A1:Hid (BV (wc.alloc (.cells #[i_ .u8 (x.toNat:Int)] 5)).drew (s_ (S_ ⟨wc.heap.size,0,N_⟩) 1 1) [x]):=af (BU wc x _ rfl);have K4:=af (Mv.aio JI.drew);have hr:=K3.1;rw[←HL.out]at hr;have KR:=af hr;clear JI hcut hr x1 x2 xf;go_upto_region 6 with fail;go_region_law (first|((with_reducible refine vU (o:=⟨S_ 54,_,_,_,_,_⟩) (v:=s_ va n vc) (u:=s_ (S_ ⟨wc.heap.size,0,N_⟩) 1 1) (l:=l) (r:=[x]) (H:=Hr) rfl (.tmp 47) (.tmp 53) rfl ?_ ?_ K3.out.1 K4.out.sat.left A1.out ?_ ?_);simp[Act.eval];simp[Act.eval];(simp[HL.out];omega);intro v6 w6 H6 yN m6;obtain⟨a6,c6,rfl⟩:=yN.slice;have M6:=Mv.agT (Mv.call K4 m6);have y3:w6.cell? ⟨wb,0,N_⟩=S_ (s_ va n vc):=(by first|exact M6.cell 0 rfl 0);have z3:w6.frozen? ⟨wb,0,N_⟩=F_:=(by first|exact M6.frozen 0 rfl 0);have K6:=dS yN M6;clear yN m6 M6))
   all_goals
    have M7:=K6.2.set 0 (s_ a6 (l.length+1) c6);obtain⟨w7,hw7⟩:=Y_ (w6.setCell ⟨wb,0,N_⟩ (s_ a6 (l.length+1) c6));rw[←hw7]at M7⊢;replace M7:Mv w (Vm wb (s_ va n vc) ci (((0:Nat):Int)+1)::Hr) w7 (Vm wb (s_ a6 (l.length+1) c6) (x.toNat:Int) (fr:Int)::H6):=M7;have n1:w7.frozen? ⟨wb,1,N_⟩=F_:=M7.frozen 0 rfl 1;have n2:w7.cell? ⟨wb,1,N_⟩=S_ (i_ l_ x.toNat):=M7.cell 0 rfl 1;have K7:=af M7;have h6:dR (s_ a6 (l.length+1) c6) (l++[x]) H6:=by have:=K6.1;simp only[au,List.length_cons,List.length_nil,dH]at this;exact this
    have HR:=af h6;clear hw7 M7 y3 z3 e0 e1 y7 K6 h6 XZ;go_wp2_with fail;have M9:Mv w (Vm wb (s_ va n vc) ci (((0:Nat):Int)+1)::Hr) _ (Vm wb (s_ a6 (l.length+1) c6) 0 (fr:Int)::H6):=K7.out.set 1 (i_ l_ 0);refine dm (bH rfl _ _ _) rfl ⟨rfl,_,?_,M9⟩;rw[←HS.out];simp only[ji];exact⟨_,H6,rfl,HR.out⟩
theorem CZ(wb:Nat)(bs:List Bool)(b:Int)(w:World)(H:List HB)(h:oN wb bs H)(hs:Sat w H)(hl:bs.length≤80000000):Calls P_ 35 #[p_ (S_ ⟨wb,0,N_⟩),i_ l_ b] w fun e w'=>e=r_ (t_ #[])∧∃H',oN wb (bs++[decide (b%2=1)]) H'∧Mv w H w' H':=by obtain⟨h1,h2,h3⟩:=Sr bs;unfold oN;rw[Zu];exact aex wb (F9 bs) b w H h hs h1 h2 (by omega)
theorem VY(w:World):Calls P_ 32 #[] w fun e w'=>∃wb H',e=r_ (p_ (S_ ⟨wb,0,N_⟩))∧oN wb [] H'∧Mv w [] w' H':=by
 have M:=iF w 156 #[s_ N_ 0 0,i_ l_ 0,i_ l_ 8];have R:oN w.heap.size [] [⟨w.heap.size,156,#[s_ N_ 0 0,i_ l_ 0,i_ l_ 8]⟩]:=⟨s_ N_ 0 0,[],rfl,dh.nil _ _⟩;have K:=dS R M;clear R M;go_enter Tryz.func32,Tryz.ntmps32;go_wp2_with fail;go_ret
 first
  |exact⟨_,_,rfl,K.1,K.2⟩
  |exact⟨_,rfl,_,K.1,K.2⟩
theorem L9(wb:Nat)(bs:List Bool)(n size:Int)(w:World)(H:List HB)(h:oN wb bs H)(hs:Sat w H)(hl:bs.length≤70000000):Calls P_ 86 #[p_ (S_ ⟨wb,0,N_⟩),i_ l_ n,i_ l_ size] w fun e w'=>e=r_ (t_ #[])∧∃H',oN wb (bs++ui n size) H'∧Mv w H w' H':=by
 by_cases hz:1≤size∧size≤32
 ·obtain⟨z,rfl⟩:=dW (a:=size) (by omega);have d1:decide ((z:Int)<1)=F_:=by simp;omega
  have d2:decide ((32:Int)<z)=F_:=by simp;omega
  have K:=nY h hs hz;have hz2:1≤z∧z≤32:=by omega
  have HG:Hid (bs++ui n (z:Int)=bs++XN n z):=af (by unfold ui;rw[aK hz];simp);rw[HG.out];clear h hs hz HG;go_enter Tryz.func86,Tryz.ntmps86;go_wp2_with fail;go_loopg [6] z (fun g s6 wx=>∃i:Nat,i≤z∧g=z-i∧s6=i_ l_ ((z:Int)-1-i)∧∃H',oN wb (bs++(List.range i).map fun j=>afY n (z-1-j)) H'∧Mv w H wx H')
  case atStart=>exact⟨0,aY _,rfl,by go_num,H,by simpa using K.1,Mv.refl K.2.1⟩
  case round=>
   obtain⟨wa,rfl⟩:∃wa:World,wa=wr:=⟨_,rfl⟩;obtain⟨i,hik,rfl,rfl,H1,h1,m1⟩:=hrel;by_cases hlt:i<z
   ·have d3:decide ((0:Int)≤z-1-i)=T_:=by simp;omega
    obtain⟨q,hq⟩:=X_ (z-1-i);have hq2:(z:Int)-1-i=(q:Int):=by omega
    rw[hq2]at d3;simp only[hq2];have hq3:q≤31:=by omega
    have HQ:=dS hq hq2;have B1:=af (CZ wb _ (n/2^q) wa H1 h1 m1.sat (by simp;omega));have M1:=af m1;clear hq hq2 h1 m1;go_wp2_with (go_at_call 35;refine B1.out.mono ?_;rintro e w2 ⟨rfl,H2,h2,m2⟩;have K2:=dS h2 (M1.out.trans m2);clear h2 m2);go_roundg (z-(i+1))
    case measure=>omega
    case rel=>
     refine⟨i+1,hlt,rfl,?_,_,?_,K2.2⟩
     ·have:=HQ.2;have h9:(q:Int)-1=(z:Int)-1-((i+1:Nat):Int):=by omega
      first|rw[h9]|go_num
     ·have:=K2.1;rw[fO,bU,←az];simpa[afY,HQ.1]using this
   ·obtain rfl:i=z:=by omega
    have d3:decide ((0:Int)≤i-1-i)=F_:=by simp;omega
    go_wp2_with fail;go_end0;exact⟨rfl,H1,h1,m1⟩
 ·have hG:bs++ui n size=bs:=by unfold ui;rw[aJ hz];simp
  rw[hG];by_cases h1:size<1
  ·have d1:decide (size<1)=T_:=by simpa using h1
   have K:=dS h hs;clear h hs hz h1;go_enter Tryz.func86,Tryz.ntmps86;go_wp2_with fail;exact dU (bH rfl _ _ _) rfl ⟨rfl,H,K.1,Mv.refl K.2⟩
  ·have d1:decide (size<1)=F_:=by simpa using h1
   have d2:decide (32<size)=T_:=by simp;omega
   have K:=dS h hs;clear h hs hz h1;go_enter Tryz.func86,Tryz.ntmps86;go_wp2_with fail;exact dU (bH rfl _ _ _) rfl ⟨rfl,H,K.1,Mv.refl K.2⟩
theorem OD:∀(T:List bV) (a x y j:Nat) (L:bV),T[j]?=S_ L→(wayI a T x y)[T.length-1-j]?=S_ (a+offT T j+(y/2^j*L.w+x/2^j))
 | [],_,_,_,_,_,h=>by simp at h
 |M::T,a,x,y,0,L,h=>by simp at h;subst h;simp only[wayI,List.length_cons,gV,Nat.sub_zero,offT,Nat.add_zero,Nat.pow_zero,Nat.div_one];rw[aZ (by rw[yz];exact aN _),yz,iI];rfl
 |M::T,a,x,y,j+1,L,h=>by
  have h':T[j]?=S_ L:=by simpa using h
  have hj:=(aj.1 h').1;have ih:=OD T (a+M.l.length) (x/2) (y/2) j L h';simp only[wayI,List.length_cons,gV,offT];rw[df (by rw[yz];omega),show T.length-(j+1)=T.length-1-j by omega,ih];rw[fE,fE,show 2*2^j=2^(j+1) by rw[Nat.pow_succ,dX],←kK a]
def Ej(T:List bV)(x y:Nat)(b:Int)(j:Nat):List bV×Int×List Bool:=encT (T.drop j) (x/2^j) (y/2^j) b
def Sj(T:List bV)(x y:Nat)(b:Int)(j:Nat):List bV:=T.take j++(Ej T x y b j).1
def zj(L:bV)(x y j:Nat):dY:=L.at_ (x/2^j) (y/2^j)
section
variable{T:List bV}{x y j:Nat}{b:Int}{L:bV}
theorem aaH(h:T[j]?=S_ L):Ej T x y b j=(L.qY (x/2^j) (y/2^j) (uy (zj L x y j) (Ej T x y b (j+1)).2.1 b).1::(Ej T x y b (j+1)).1,(uy (zj L x y j) (Ej T x y b (j+1)).2.1 b).1.low,(Ej T x y b (j+1)).2.2++(uy (zj L x y j) (Ej T x y b (j+1)).2.1 b).2):=by
 have hj:=(aj.1 h).1;have e:T.drop j=L::T.drop (j+1):=by rw[fG hj];congr 1;exact(aj.1 h).2
 have ex:x/2^j/2=x/2^(j+1):=by rw[fE,Nat.pow_succ]
 have ey:y/2^j/2=y/2^(j+1):=by rw[fE,Nat.pow_succ]
 unfold Ej zj;rw[e];simp only[encT,ex,ey]
theorem A!:Ej T x y b T.length=([],0,[]):=by unfold Ej;rw[List.drop_length];rfl
theorem af8:Sj T x y b T.length=T:=by unfold Sj;rw[A!,vP,dD]
theorem Vf:Sj T x y b 0=(encT T x y b).1∧Ej T x y b 0=encT T x y b:=by unfold Sj Ej;simp
theorem af9(h:T[j]?=S_ L):(Sj T x y b (j+1))[j]?=S_ L:=by have hj:=(aj.1 h).1;unfold Sj;rw[df (by rw[bT];omega),iC,aK (by omega),h]
theorem aaE(h:T[j]?=S_ L):Sj T x y b j=(Sj T x y b (j+1)).set j (L.qY (x/2^j) (y/2^j) (uy (zj L x y j) (Ej T x y b (j+1)).2.1 b).1):=by
 have hj:=(aj.1 h).1;have e1:T.take (j+1)=T.take j++[L]:=by rw[eU,h];rfl
 unfold Sj;rw[aaH h,e1,az,dZ _ _ (by rw[bT];omega),bT,show j-min j T.length=0 by omega];rfl
theorem QW:∀(i:Nat),i≤T.length→(Sj T x y b (T.length-i)).map dM=T.map dM
 |0,_=>by rw[Nat.sub_zero,af8]
 |i+1,hi=>by
  have ih:=QW i (by omega);obtain⟨L,hL⟩:∃L,T[T.length-(i+1)]?=S_ L:=⟨_,ai (by omega)⟩;have e:T.length-(i+1)+1=T.length-i:=by omega
  rw[aaE hL,e,jb];have hs:dM (L.qY (x/2^(T.length-(i+1))) (y/2^(T.length-(i+1))) (uy (zj L x y (T.length-(i+1))) (Ej T x y b (T.length-i)).2.1 b).1)=dM L:=by simp[dM,bV.qY]
  rw[hs,ih];exact Ea (by rw[aV,hL];rfl)
end
theorem Ba{T U:List bV}(h:T.map dM=U.map dM):T.map (fun L=>L.l.length)=U.map (fun L=>L.l.length):=by have:=fM (List.map fun(p:Nat×Nat×Nat)=>p.2.2) h;rw[jc,jc]at this;exact this
theorem Bc{T U:List bV}(h:T.map dM=U.map dM){j:Nat}{L:bV}(hL:U[j]?=S_ L):∃M,T[j]?=S_ M∧M.w=L.w∧M.h=L.h∧M.l.length=L.l.length:=by have h4:=fM (fun l=>l[j]?) h;simp only[aV,hL,Option.map_some]at h4;obtain⟨q,hq,h5⟩:=iU.1 h4;simp only[dM,fK]at h5;exact⟨q,hq,h5.1,h5.2.1,h5.2.2⟩
theorem Kt:∀(R:List bV) (L:bV),(fillUp L R).map dM=R.map dM
 | [],_=>rfl
 |M::R,L=>by have h:=GZ L M L.l.length;simp only[fillUp,bJ,Kt R];congr 1;simp[dM,h.1,h.2.1,h.2.2]
theorem Hg(L:bV)(R:List bV):(fillT (L::R)).map dM=(L::R).map dM:=by simp only[fillT,bJ,Kt,jc];congr 1;exact wU fun M _=>by simp[dM,zV]
theorem JO{T U:List bV}(h:T.map dM=U.map dM)(hs:rE U):rE T:=by
 intro A B C ⟨P,hP⟩;have hA:T[P.length]?=S_ A:=by rw[←hP,aZ (aN _),iI];rfl
 have hB:T[P.length+1]?=S_ B:=by rw[←hP,aZ (by omega),show P.length+1-P.length=1 by omega];rfl
 obtain⟨A',hA',a1,a2,-⟩:=Bc h.symm hA;obtain⟨B',hB',-⟩:=Bc h.symm hB;have hl:=(aj.1 hA').1;have hl2:=(aj.1 hB').1;have e:U=U.take P.length++A'::B'::U.drop (P.length+2):=by
  conv=>lhs;rw[←iP P.length U]
  congr 1;rw[fG hl,fG hl2];congr 1
  ·exact(aj.1 hA').2
  ·congr 1;exact(aj.1 hB').2
 rw[←a1,←a2];exact hs A' B' _ ⟨_,e.symm⟩
theorem akh(K:Act→World→Prop)(tb g lg N nl vc lc i k:Nat)(z:dY)(u:Int)(w:World)(hi:i<nl)(hk:k<N)
 (c0:w.cell? ⟨tb,0,N_⟩=S_ (s_ (S_ ⟨g,0,N_⟩) N vc)) (c1:w.cell? ⟨lg,i,N_⟩=S_ (i_ l_ k))
 (e0:w.cell? ⟨g,k*4,N_⟩=S_ (i_ l_ z.n)) (e1:w.cell? ⟨g,k*4+1,N_⟩=S_ (i_ l_ z.low)) (e2:w.cell? ⟨g,k*4+2,N_⟩=S_ (b_ z.said)) (e3:w.cell? ⟨g,k*4+3,N_⟩=S_ (i_ l_ u))
 (amx:k≤100000) (amw:nl≤100000)
 (hK:∀(t33 t34 t35 t36 t37 t38 t39 t40 t41 t42:Value),K ⟨List.toArray ((p_ (S_ ⟨tb,0,N_⟩))::s1::s2::s3::s4::s5::s6::s7::(s_ (S_ ⟨lg,0,N_⟩) nl lc)::s9::(i_ l_ i)::(p_ (S_ ⟨w.heap.size,0,N_⟩))::s12::s13::s14::s15::s16::l9::kH::kS::s20::lF::lC::s23::s24::kZ::s26::kW::kR::kY::lu::lJ::lK::t33::t34::t35::t36::t37::t38::t39::t40::t41::t42::s43::s44::nI::mF::nH::nK::s49::mD::mg::lW::s53::mX::mQ::mP::mO::nX::nJ::oU::oQ::pO::qW::qN::qV::rD::rC::s68::rM::rJ::sN::s72::sK::sJ::ry::ru::rf::s78::qZ::rH::rG::s82::[]),[]⟩ (w.alloc (.cells #[i_ l_ z.n,i_ l_ z.low,b_ z.said,i_ l_ u] 162)).drew):
 (dQ 7 Tryz.f37).wp P_ (Exit.then K qX) ⟨List.toArray ((p_ (S_ ⟨tb,0,N_⟩))::s1::s2::s3::s4::s5::s6::s7::(s_ (S_ ⟨lg,0,N_⟩) nl lc)::s9::(i_ l_ i)::s11::s12::s13::s14::s15::s16::l9::kH::kS::s20::lF::lC::s23::s24::kZ::s26::kW::kR::kY::lu::lJ::lK::lI::lL::lD::s36::lY::lX::mG::ni::mZ::mY::s43::s44::nI::mF::nH::nK::s49::mD::mg::lW::s53::mX::mQ::mP::mO::nX::nJ::oU::oQ::pO::qW::qN::qV::rD::rC::s68::rM::rJ::sN::s72::sK::sJ::ry::ru::rf::s78::qZ::rH::rG::s82::[]),[]⟩ w:=by
 conv in(dQ _ _)=>whnf
 unfold qX;have HK:=af hK;clear hK;have MA:=iF w 162 #[i_ l_ 0,i_ l_ 0,b_ F_,i_ l_ 0];have od:∀(a:Addr) (v:Value),w.cell? a=S_ v→(w.alloc (.cells #[i_ l_ 0,i_ l_ 0,b_ F_,i_ l_ 0] 162)).cell? a=S_ v:=fun a v h=>(MA.tC.cell (gZ w _ h)).trans h;have c0':=od _ _ c0;have c1':=od _ _ c1;have e0':=od _ _ e0;have e1':=od _ _ e1;have e2':=od _ _ e2;have e3':=od _ _ e3;clear od MA;go_region_law fail
 all_goals exact HK _ _ _ _ _ _ _ _ _ _
def wO(xb:Nat)(z:dY)(u:Int):HB:=⟨xb,162,#[i_ l_ z.n,i_ l_ z.low,b_ z.said,i_ l_ u]⟩
theorem aim:decide ((1:Int)%2=1)=T_:=by decide
theorem afW:decide ((0:Int)%2=1)=F_:=by decide
theorem ag7(K:Act→World→Prop)(wb xb:Nat)(b u:Int)(z:dY)(bs:List Bool)(HW Y H0:List HB)(w0 w:World)(hw:oN wb bs HW)(m:Mv w0 H0 w (HW++(wO xb z u::Y)))(hln:z.low≤z.n)(h0:0≤z.low)(hn:z.n≤1000000)(hb:b≤1000)(hbs:bs.length≤60000000)
 (hK:∀(t48 t49 t50 t51 t52 t53 t54 t55 t56 t57 t58 t59 t60 t61 t62 t63 t64 t65 t66 t67 t68 t69 t70:Value) (wx:World) (lM:List HB),oN wb (bs++(encL (b-z.low).toNat z b).2) lM→Mv w0 H0 wx (lM++(wO xb (encL (b-z.low).toNat z b).1 u::Y))→K ⟨List.toArray (s0::(p_ (S_ ⟨wb,0,N_⟩))::s2::(i_ l_ b)::s4::s5::s6::s7::s8::s9::s10::(p_ (S_ ⟨xb,0,N_⟩))::s12::s13::s14::s15::s16::l9::kH::kS::s20::lF::lC::s23::s24::kZ::s26::kW::kR::kY::lu::lJ::lK::lI::lL::lD::s36::lY::lX::mG::ni::mZ::mY::s43::s44::nI::mF::nH::t48::t49::t50::t51::t52::t53::t54::t55::t56::t57::t58::t59::t60::t61::t62::t63::t64::t65::t66::t67::t68::t69::t70::sN::s72::sK::sJ::ry::ru::rf::s78::qZ::rH::rG::s82::[]),[]⟩ wx):
 (jB 2 Tryz.f37).wp P_ (Exit.then K qX) ⟨List.toArray (s0::(p_ (S_ ⟨wb,0,N_⟩))::s2::(i_ l_ b)::s4::s5::s6::s7::s8::s9::s10::(p_ (S_ ⟨xb,0,N_⟩))::s12::s13::s14::s15::s16::l9::kH::kS::s20::lF::lC::s23::s24::kZ::s26::kW::kR::kY::lu::lJ::lK::lI::lL::lD::s36::lY::lX::mG::ni::mZ::mY::s43::s44::nI::mF::nH::nK::s49::mD::mg::lW::s53::mX::mQ::mP::mO::nX::nJ::oU::oQ::pO::qW::qN::qV::rD::rC::s68::rM::rJ::sN::s72::sK::sJ::ry::ru::rf::s78::qZ::rH::rG::s82::[]),[]⟩ w:=by
 conv in(jB _ _)=>whnf
 unfold qX;have HK:=af hK;have K0:=dS hw m;have HZ:=nY hln h0 hn;clear hK hw m hln h0 hn;obtain⟨E,hE⟩:=X_ (encL (b-z.low).toNat z b);rw[hE]at HK;have HE:=af hE;clear hE;go_wp2_with fail;go_loopg [] (if z.said=T_ then 0 else(b-z.low).toNat+1) (fun mm wx=>∃(z':dY) (Gq:List Bool) (lM:List YtjngfhgakokejaaGreat.HB),mm=(if z'.said=T_ then 0 else(b-z'.low).toNat+1)∧z'.low≤z'.n∧0≤z'.low∧z'.n≤1000000∧Gq.length+(if z'.said=T_ then 0 else(b-z'.low).toNat+1)≤(b-z.low).toNat+1∧E=((encL (b-z'.low).toNat z' b).1,Gq++(encL (b-z'.low).toNat z' b).2)∧oN wb (bs++Gq) lM∧Mv w0 H0 wx (lM++(wO xb z' u::Y)))
 case atStart=>
  refine⟨z,[],HW,rfl,HZ.1,HZ.2.1,HZ.2.2,?_,?_,by rw[dD];exact K0.1,K0.2⟩
  ·simp only[List.length_nil,dH];split<;>omega
  ·rw[←HE.out];rfl
 case round=>
  clear K0;obtain⟨z',Gq,HW1,rfl,hln,h0,hn,hms,hEE,hw,m⟩:=hrel;obtain⟨n',jK,said'⟩:=z';simp only at hln h0 hn hms;have MB:Mv w0 H0 wr (wO xb ⟨n',jK,said'⟩ u::(HW1++Y)):=m.Z_;have c0:wr.cell? ⟨xb,0,N_⟩=S_ (i_ l_ n'):=MB.cell 0 rfl 0;have c1:wr.cell? ⟨xb,1,N_⟩=S_ (i_ l_ jK):=MB.cell 0 rfl 1;have c2:wr.cell? ⟨xb,2,N_⟩=S_ (b_ said'):=MB.cell 0 rfl 2;by_cases hgo:jK<b∧said'=F_
  ·obtain⟨hlb,rfl⟩:=hgo;have d1:decide (jK<b)=T_:=aQ hlb;have hbl:(bs++Gq).length≤80000000:=by have:=HZ.out;simp only[aI,iJ]at hms;rw[au];omega
   have BT:=af (fun(v:Int)=>CZ wb (bs++Gq) v wr HW1 hw m.sat.left hbl);have KM:=af m;by_cases hnl:n'≤jK
   ·obtain rfl:jK=n':=by omega
    have e1:=afF (b-jK).toNat ⟨jK,jK,F_⟩ b ⟨hlb,rfl⟩ (gG _) rfl;rw[e1]at hEE;have KE:=af hEE;have d2:(jK==jK)=T_:=by simp
    have acK:Gq.length+1≤(b-z.low).toNat+1:=by simp only[aI,iJ]at hms;omega
    clear hEE e1 hw m MB hms;go_upto_region 12 with(go_at_call 35;(with_reducible refine(BT.out 1).mono ?_);rintro e w2 ⟨rfl,HW2,q1,q2⟩;have K2:=dS q1 (Mv.call KM.out q2);clear q1 q2);have MC:Mv w0 H0 w2 (wO xb ⟨jK,jK,F_⟩ u::(HW2++Y)):=K2.2.Z_;have y2:w2.cell? ⟨xb,2,N_⟩=S_ (b_ F_):=MC.cell 0 rfl 2;have yf:w2.frozen? ⟨xb,2,N_⟩=F_:=MC.frozen 0 rfl 2;have MD:=MC.set 2 (b_ T_);have KD:Hid (Mv w0 H0 (w2.setCell ⟨xb,2,N_⟩ (b_ T_)) (HW2++(wO xb ⟨jK,jK,T_⟩ u::Y))):=af ((show Mv w0 H0 _ (wO xb ⟨jK,jK,T_⟩ u::(HW2++Y))from MD).Z_);clear MC MD c0 c1 c2;go_wp2_with fail;go_roundg 0
    case measure=>simp
    case rel=>
     refine⟨⟨jK,jK,T_⟩,Gq++[T_],HW2,by simp,gG _,h0,hn,by simp;omega,?_,?_,KD.out⟩
     ·rw[KE.out,TQ _ _ _ (by simp)];simp
     ·rw[←az];have:=K2.1;rw[aim]at this;exact this
   ·obtain⟨e0,e1⟩:=ada (b-jK).toNat ⟨n',jK,F_⟩ b ⟨hlb,rfl⟩ hnl rfl;rw[e1]at hEE;have KE:=af hEE;have d2:(jK==n')=F_:=bF.2 (by omega);have acK:Gq.length+1+((b-(jK+1)).toNat+1)≤(b-z.low).toNat+1:=by simp only[aI,iJ]at hms;omega
    clear hEE e1 e0 hw m MB hms;go_upto_region 14 with(go_at_call 35;(with_reducible refine(BT.out 0).mono ?_);rintro e w2 ⟨rfl,HW2,q1,q2⟩;have K2:=dS q1 (Mv.call KM.out q2);clear q1 q2);have MC:Mv w0 H0 w2 (wO xb ⟨n',jK,F_⟩ u::(HW2++Y)):=K2.2.Z_;have y1:w2.cell? ⟨xb,1,N_⟩=S_ (i_ l_ jK):=MC.cell 0 rfl 1;have yf:w2.frozen? ⟨xb,1,N_⟩=F_:=MC.frozen 0 rfl 1;have KD:Hid (Mv w0 H0 (w2.setCell ⟨xb,1,N_⟩ (i_ l_ (jK+1))) (HW2++(wO xb ⟨n',jK+1,F_⟩ u::Y))):=af ((show Mv w0 H0 _ (wO xb ⟨n',jK+1,F_⟩ u::(HW2++Y))from MC.set 1 (i_ l_ (jK+1))).Z_);clear MC c0 c1 c2;go_wp2_with fail;go_roundg ((b-(jK+1)).toNat+1)
    case measure=>first|(simp only[aI,iJ];omega)|omega|(simp;omega)
    case rel=>
     refine⟨⟨n',jK+1,F_⟩,Gq++[F_],HW2,by simp,by simp only;omega,by simp only;omega,hn,by simp;omega,?_,?_,KD.out⟩
     ·rw[KE.out];simp
     ·rw[←az];have:=K2.1;rw[afW]at this;exact this
  ·have e1:=TQ (b-jK).toNat ⟨n',jK,said'⟩ b hgo;rw[e1,dD]at hEE;have hE1:E.1=⟨n',jK,said'⟩:=by rw[hEE]
   have hE2:E.2=Gq:=by rw[hEE]
   rw[hE1,hE2]at HK;have KM:=dS hw m;clear hEE hE1 hE2 e1 hw m MB hms;by_cases hlb:jK<b
   ·have d1:decide (jK<b)=T_:=aQ hlb;obtain rfl:said'=T_:=by
     cases said' with
     |true=>rfl
     |false=>exact absurd ⟨hlb,rfl⟩ hgo
    clear hgo;go_wp2_with fail;exact HK _ _ _ _ _ _ _ _ _ _ _ _ _ _ _ _ _ _ _ _ _ _ _ _ HW1 KM.1 KM.2
   ·have d1:decide (jK<b)=F_:=aW hlb;clear hgo;go_wp2_with fail;exact HK _ _ _ _ _ _ _ _ _ _ _ _ _ _ _ _ _ _ _ _ _ _ _ _ HW1 KM.1 KM.2
theorem akg(K:Act→World→Prop)(xb:Nat)(a lo:Int)(w:World)(c1:w.cell? ⟨xb,1,N_⟩=S_ (i_ l_ a))(f1:w.frozen? ⟨xb,1,N_⟩=F_)
 (hK:∀(t43 t44 t45 t46 t47:Value),K ⟨List.toArray (s0::s1::s2::s3::s4::s5::s6::s7::s8::(i_ l_ lo)::s10::(p_ (S_ ⟨xb,0,N_⟩))::s12::s13::s14::s15::s16::l9::kH::kS::s20::lF::lC::s23::s24::kZ::s26::kW::kR::kY::lu::lJ::lK::lI::lL::lD::s36::lY::lX::mG::ni::mZ::mY::t43::t44::t45::t46::t47::nK::s49::mD::mg::lW::s53::mX::mQ::mP::mO::nX::nJ::oU::oQ::pO::qW::qN::qV::rD::rC::s68::rM::rJ::sN::s72::sK::sJ::ry::ru::rf::s78::qZ::rH::rG::s82::[]),[]⟩ (w.setCell ⟨xb,1,N_⟩ (i_ l_ (max a lo)))):
 (dQ 8 Tryz.f37).wp P_ (Exit.then K qX) ⟨List.toArray (s0::s1::s2::s3::s4::s5::s6::s7::s8::(i_ l_ lo)::s10::(p_ (S_ ⟨xb,0,N_⟩))::s12::s13::s14::s15::s16::l9::kH::kS::s20::lF::lC::s23::s24::kZ::s26::kW::kR::kY::lu::lJ::lK::lI::lL::lD::s36::lY::lX::mG::ni::mZ::mY::s43::s44::nI::mF::nH::nK::s49::mD::mg::lW::s53::mX::mQ::mP::mO::nX::nJ::oU::oQ::pO::qW::qN::qV::rD::rC::s68::rM::rJ::sN::s72::sK::sJ::ry::ru::rf::s78::qZ::rH::rG::s82::[]),[]⟩ w:=by
 conv in(dQ _ _)=>whnf
 unfold qX;have HK:=af hK;clear hK;by_cases h:a<lo
 ·have d:decide (a<lo)=T_:=aQ h;rw[show max a lo=lo by omega]at HK;go_wp2_with fail;exact HK _ _ _ _ _
 ·have d:decide (a<lo)=F_:=aW h;rw[show max a lo=a by omega]at HK;go_wp2_with fail;exact HK _ _ _ _ _
theorem ai1(K:Act→World→Prop)(tb g lg N nl vc lc i k xb:Nat)(z o:dY)(u o3:Int)(w:World)(hi:i<nl)(hk:k<N)
 (c0:w.cell? ⟨tb,0,N_⟩=S_ (s_ (S_ ⟨g,0,N_⟩) N vc)) (c1:w.cell? ⟨lg,i,N_⟩=S_ (i_ l_ k))
 (x0:w.cell? ⟨xb,0,N_⟩=S_ (i_ l_ z.n)) (x1:w.cell? ⟨xb,1,N_⟩=S_ (i_ l_ z.low)) (x2:w.cell? ⟨xb,2,N_⟩=S_ (b_ z.said)) (x3:w.cell? ⟨xb,3,N_⟩=S_ (i_ l_ u))
 (e0:w.cell? ⟨g,k*4,N_⟩=S_ (i_ l_ o.n)) (e1:w.cell? ⟨g,k*4+1,N_⟩=S_ (i_ l_ o.low)) (e2:w.cell? ⟨g,k*4+2,N_⟩=S_ (b_ o.said)) (e3:w.cell? ⟨g,k*4+3,N_⟩=S_ (i_ l_ o3))
 (f0:w.frozen? ⟨g,k*4,N_⟩=F_) (f1:w.frozen? ⟨g,k*4+1,N_⟩=F_) (f2:w.frozen? ⟨g,k*4+2,N_⟩=F_) (f3:w.frozen? ⟨g,k*4+3,N_⟩=F_)
 (amx:k≤100000) (amw:nl≤100000)
 (hK:∀(t71 t72 t73 t74 t75 t76 t77 t78 t79 t80:Value),K ⟨List.toArray ((p_ (S_ ⟨tb,0,N_⟩))::s1::s2::s3::s4::s5::s6::s7::(s_ (S_ ⟨lg,0,N_⟩) nl lc)::s9::(i_ l_ i)::(p_ (S_ ⟨xb,0,N_⟩))::s12::s13::s14::s15::s16::l9::kH::kS::s20::lF::lC::s23::s24::kZ::s26::kW::kR::kY::lu::lJ::lK::lI::lL::lD::s36::lY::lX::mG::ni::mZ::mY::s43::s44::nI::mF::nH::nK::s49::mD::mg::lW::s53::mX::mQ::mP::mO::nX::nJ::oU::oQ::pO::qW::qN::qV::rD::rC::s68::rM::rJ::t71::t72::t73::t74::t75::t76::t77::t78::t79::t80::rG::s82::[]),[]⟩ ((((w.setCell ⟨g,k*4,N_⟩ (i_ l_ z.n)).setCell ⟨g,k*4+1,N_⟩ (i_ l_ z.low)).setCell ⟨g,k*4+2,N_⟩ (b_ z.said)).setCell ⟨g,k*4+3,N_⟩ (i_ l_ u)).drew):
 (dQ 15 Tryz.f37).wp P_ (Exit.then K qX) ⟨List.toArray ((p_ (S_ ⟨tb,0,N_⟩))::s1::s2::s3::s4::s5::s6::s7::(s_ (S_ ⟨lg,0,N_⟩) nl lc)::s9::(i_ l_ i)::(p_ (S_ ⟨xb,0,N_⟩))::s12::s13::s14::s15::s16::l9::kH::kS::s20::lF::lC::s23::s24::kZ::s26::kW::kR::kY::lu::lJ::lK::lI::lL::lD::s36::lY::lX::mG::ni::mZ::mY::s43::s44::nI::mF::nH::nK::s49::mD::mg::lW::s53::mX::mQ::mP::mO::nX::nJ::oU::oQ::pO::qW::qN::qV::rD::rC::s68::rM::rJ::sN::s72::sK::sJ::ry::ru::rf::s78::qZ::rH::rG::s82::[]),[]⟩ w:=by
 conv in(dQ _ _)=>whnf
 unfold qX;have HK:=af hK;clear hK;have hiN:(i:Int)<nl:=by omega
 have hkN:(k:Int)<N:=by omega
 go_still_tail 10,(by kernel_rfl);go_wp2_with fail;exact HK _ _ _ _ _ _ _ _ _ _
def aiO(T:List bV)(x y:Nat)(b:Int):Prop:=∀j L,T[j]?=S_ L→max (zj L x y j).low (Ej T x y b (j+1)).2.1≤(zj L x y j).n∧0≤(zj L x y j).low∧(zj L x y j).n≤1000000
theorem adz(T:List bV)(x y:Nat)(b:Int)(j:Nat):(Ej T x y b j).2.2.length≤T.length*b.toNat:=by unfold Ej;have h:=(Hw (T.drop j) (x/2^j) (y/2^j) b).2.2;rw[fH]at h;exact fD h (dK _ (by omega))
theorem GM{w:World}{v:Value}{N:Nat}{l:List (Int×dY)}{H:List HB}{g c:Nat}(h:dh 162 4 v N (kM l) H)(hs:Sat w H)(hv:v=s_ (S_ ⟨g,0,N_⟩) N c){k:Nat}{p:Int×dY}(hk:l[k]?=S_ p)(hkN:k<N):
 (w.cell? ⟨g,k*4,N_⟩=S_ (i_ l_ p.2.n)∧w.cell? ⟨g,k*4+1,N_⟩=S_ (i_ l_ p.2.low)∧w.cell? ⟨g,k*4+2,N_⟩=S_ (b_ p.2.said)∧w.cell? ⟨g,k*4+3,N_⟩=S_ (i_ l_ p.1))∧
 (w.frozen? ⟨g,k*4,N_⟩=F_∧w.frozen? ⟨g,k*4+1,N_⟩=F_∧w.frozen? ⟨g,k*4+2,N_⟩=F_∧w.frozen? ⟨g,k*4+3,N_⟩=F_):=by
 have hc:=fun j (hj:j<4)=>h.cell hs hv (k*4+j) (by omega);obtain⟨g0,g1,g2,g3⟩:=vC hk;exact⟨⟨(hc 0 (by omega)).1.trans g0,(hc 1 (by omega)).1.trans g1,(hc 2 (by omega)).1.trans g2,(hc 3 (by omega)).1.trans g3⟩,(hc 0 (by omega)).2,(hc 1 (by omega)).2,(hc 2 (by omega)).2,(hc 3 (by omega)).2⟩
theorem RZ{w0 w:World}{v:Value}{N:Nat}{l:List (Int×dY)}{H H0 R:List HB}{g c:Nat}(h:dh 162 4 v N (kM l) H)(m:Mv w0 H0 w (H++R))(hv:v=s_ (S_ ⟨g,0,N_⟩) N c){k:Nat}{p:Int×dY}(hk:l[k]?=S_ p)(hkN:k<N)(z:dY): ∃H',dh 162 4 v N (kM (l.set k (p.1,z))) H'∧Mv w0 H0 ((((w.setCell ⟨g,k*4,N_⟩ (i_ l_ z.n)).setCell ⟨g,k*4+1,N_⟩ (i_ l_ z.low)).setCell ⟨g,k*4+2,N_⟩ (b_ z.said)).setCell ⟨g,k*4+3,N_⟩ (i_ l_ p.1)) (H'++R):=by have hkl:=(aj.1 hk).1;have s0:∀y,(l.set k y)[k]?=S_ y:=fun y=>dJ hkl;obtain⟨H1,r1,q1⟩:=h.set m.sat.left hv (k*4) (i_ l_ z.n) (by omega);have e1:=vw hk (p.1,{p.2 with n:=z.n}) 0 (by omega) (i_ l_ z.n) rfl;rw[Nat.add_zero]at e1;rw[e1]at r1;obtain⟨H2,r2,q2⟩:=r1.set q1.sat hv (k*4+1) (i_ l_ z.low) (by omega);have e2:=vw (s0 (p.1,{p.2 with n:=z.n})) (p.1,⟨z.n,z.low,p.2.said⟩) 1 (by omega) (i_ l_ z.low) rfl;rw[e2,jo]at r2;obtain⟨H3,r3,q3⟩:=r2.set q2.sat hv (k*4+2) (b_ z.said) (by omega);have e3:=vw (s0 (p.1,⟨z.n,z.low,p.2.said⟩)) (p.1,z) 2 (by omega) (b_ z.said) rfl;rw[e3,jo]at r3;obtain⟨H4,r4,q4⟩:=r3.set q3.sat hv (k*4+3) (i_ l_ p.1) (by omega);have e4:=vw (s0 (p.1,z)) (p.1,z) 3 (by omega) (i_ l_ p.1) rfl;rw[e4,jo]at r4;exact⟨H4,r4,Mv.call (Mv.call (Mv.call (Mv.call m q1) q2) q3) q4⟩
theorem aiB{w0 w:World}{H0 A B C:List HB}{X:HB}(m:Mv w0 H0 w (A++(X::B)++C)):Mv w0 H0 w (C++(B++(X::A))):=m.Z_
theorem abV(tb wb:Nat)(L0:bV)(R:List bV)(fr:Bool)(H HW:List HB)(bs:List Bool)(W:World)(x y:Nat)(b:Int)(T1:List bV)(hT1:(if fr=T_ then L0::R else fillT (L0::R))=T1)(h:ku tb (L0::R) fr H)(hw:oN wb bs HW)(hs:Sat W (H++HW))(hd:Dims (L0::R))(hst:rE (L0::R))(hx:x<L0.w)(hy:y<L0.h)
 (hN:offT (L0::R) (L0::R).length≤100000) (hl:(L0::R).length≤20) (hb:0≤b∧b≤1000) (hok:aiO T1 x y b) (hbs:bs.length≤50000000):
 Calls P_ 37 #[p_ (S_ ⟨tb,0,N_⟩),p_ (S_ ⟨wb,0,N_⟩),i_ l_ (y*L0.w+x:Nat),i_ l_ b] W fun e w'=>e=r_ (t_ #[])∧∃H' lM,ku tb (encT T1 x y b).1 T_ H'∧oN wb (bs++(encT T1 x y b).2.2) lM∧Mv W (H++HW) w' (H'++lM):=by
 have hsh:T1.map dM=(L0::R).map dM:=by
  rw[←hT1];cases fr with
  |true=>rfl
  |false=>exact Hg L0 R
 have hlen:T1.length=(L0::R).length:=by simpa using fM List.length hsh
 obtain⟨L1,hL1,e1,e2,e3⟩:=Bc hsh (j:=0) rfl;have hd1:Dims T1:=hd.congr hsh;have hst1:rE T1:=JO hsh hst;have hoff:∀j,offT T1 j=offT (L0::R) j:=Fh (Ba hsh);have hN1:offT T1 T1.length≤100000:=by rw[hoff,hlen];exact hN
 have FI:=ab7 tb L0 R fr H W h hs.left hd hst hN;rw[hT1]at FI;have M0:=Mv.refl hs;have FIH:Hid (Calls P_ 80 #[p_ (S_ ⟨tb,0,N_⟩)] W fun e w'=>e=r_ (t_ #[])∧∃H',ku tb T1 T_ H'∧Mv W (H++HW) w' (H'++HW)):=af (by refine FI.mono ?_;rintro e w' ⟨rfl,H',q1,q2⟩;exact⟨rfl,H',q1,Mv.call M0 q2⟩);have WAY:Hid (∀V H1,ku tb T1 T_ H1→Mv W (H++HW) V (H1++HW)→Calls P_ 81 #[p_ (S_ ⟨tb,0,N_⟩),i_ l_ (y*L0.w+x:Nat)] V fun e w'=>∃v Hn,e=r_ v∧jy v ((wayI 0 T1 x y).map fun(k:Nat)=>(k:Int)) Hn∧Mv W (H++HW) w' (Hn++H1++HW)):=af (by intro V H1 q1 q2;have:=VT tb T1 T_ H1 V L1 x y q1 q2.sat.left hL1 hd1 hst1 (by rw[e1];exact hx) (by rw[e2];exact hy) hN1 (by omega);rw[e1]at this;refine this.mono ?_;rintro e w' ⟨v,Hn,rfl,h1,h2⟩;exact⟨v,Hn,rfl,h1,Mv.call q2 h2⟩);have hk0:y*L0.w+x<L0.l.length:=by rw[hd.len0];exact nU hx hy
 obtain⟨v0,Hl0,hH,hr0⟩:=h;have c1:W.cell? ⟨tb,1,N_⟩=S_ (i_ l_ L0.l.length):=by rw[hH]at hs;exact(Mv.refl hs.left).cell 0 rfl 1
 have AT:Hid (∀j L,T1[j]?=S_ L→x/2^j<L.w∧y/2^j<L.h):=af (fun j L hL=>hd1.at_ hL1 (by rw[e1];exact hx) (by rw[e2];exact hy) hL);obtain⟨k0,ζ⟩:=X_ (y*L0.w+x);obtain⟨ln,hln⟩:=X_ (L0.l.length);obtain⟨n,hn⟩:=X_ (T1.length);rw[ζ,hln]at hk0;rw[ζ]at WAY⊢;rw[hln]at c1;have d1:decide ((k0:Int)<0)=F_:=by simp
 have d2:decide ((ln:Int)≤k0)=F_:=by simp;omega
 have alZ:n≤20:=by omega
 have hn1:1≤n:=by have:=(aj.1 hL1).1;omega
 have KX:=LH hd1 hN1 hok hn hw;have hb2:=hb;obtain⟨hb0,hb1⟩:=hb;have BL:Hid (∀j,(bs++(Ej T1 x y b j).2.2).length≤60000000):=af (fun j=>by have h1:=adz T1 x y b j;have h2:T1.length*b.toNat≤20*1000:=bZ (by omega) (by omega);rw[au];omega);have hNp:0<(rnodes 0 T1).length:=by have h1:=J8 hL1;rw[sS];simp only[offT,dH]at h1;omega
 clear FI M0 hr0 hH ζ hln hd hst hN hl hoff hsh hlen hst1 hd1 hN1 hok e1 e2 e3 hL1 hs hx hy hb2 hw hT1 hn;go_enter Tryz.func37,Tryz.ntmps37;go_upto_region 3 with(first
  |(go_at_call 80;(with_reducible refine FIH.out.mono ?_);rintro e w1 ⟨rfl,H1,q1,q2⟩;have K1:=dS q1 q2;clear q1 q2)
  |(go_at_call 81;(with_reducible refine(WAY.out _ _ K1.out.1 K1.out.2).mono ?_);rintro e w2 ⟨v,Hn,rfl,q1,q2⟩;have K2:=dS q1 q2;clear q1 q2))
 clear FIH WAY c1;obtain⟨vt,Hl1,hH1,hr1⟩:=K1.1;obtain⟨N,hNN⟩:=X_ ((rnodes 0 T1).length);rw[hNN]at hr1 hNp;obtain⟨g,vc,cur,rfl,-⟩:=hr1.form hNp;obtain⟨X,hX⟩:∃X:HB,X=yw tb (s_ (S_ ⟨g,0,N_⟩) N vc) (leavesM T1:Int) T_:=⟨_,rfl⟩;have hH2:H1=X::Hl1:=by rw[hH1,hX];rfl
 have M2:Mv W (H++HW) w2 (HW++(Hl1++(X::Hn))):=by have h:=K2.2;rw[hH2]at h;exact aiB h
 have hwl:((wayI 0 T1 x y).map fun(k:Nat)=>(k:Int)).length=n:=by rw[aO,yz];exact KX.2.2.2.1
 have RW:=K2.1;obtain⟨va,lc,rfl⟩:=RW.slice;rw[hwl]at RW⊢;obtain⟨lg,rfl⟩:=RW.form (by omega);have hN5:N≤100000:=by have h1:=KX.2.1;rw[←hNN,sS];exact h1
 have HX:=nY hX hNN RW;have K3:=dS hr1 M2;clear hr1 M2 K2 K1 hH1 hH2 hX hNN RW hwl hNp;go_wp2_with fail;go_loopg [9,10] n (fun mm s9 s10 wx=>∃(i:Nat) (Hl' lM:List YtjngfhgakokejaaGreat.HB),i≤n∧mm=n-i∧s10=i_ l_ i∧s9=i_ l_ (Ej T1 x y b (n-i)).2.1∧dh 162 4 (s_ (S_ ⟨g,0,N_⟩) N vc) N (kM (rnodes 0 (Sj T1 x y b (n-i)))) Hl'∧oN wb (bs++(Ej T1 x y b (n-i)).2.2) lM∧Mv W (H++HW) wx (lM++(Hl'++(X::Hn))))
 case atStart=>
  refine⟨0,Hl1,HW,aY _,rfl,rfl,?_,?_,?_,K3.2⟩
  ·rw[Nat.sub_zero,←KX.2.2.2.1,A!]
  ·rw[Nat.sub_zero,←KX.2.2.2.1,af8];exact K3.1
  ·rw[Nat.sub_zero,←KX.2.2.2.1,A!,dD];exact KX.2.2.2.2
 case round=>
  clear K3;obtain⟨i,Hl2,HW2,hi,rfl,rfl,rfl,hr,hwr,m⟩:=hrel;by_cases hlt:i<n
  ·have d3:decide ((i:Int)<n)=T_:=by simp;omega
   obtain⟨j,hj⟩:∃j,n-i=j+1:=⟨n-i-1,by omega⟩;rw[hj]at hr hwr⊢;obtain⟨L,hL⟩:∃L,T1[j]?=S_ L:=⟨_,ai (by rw[KX.2.2.2.1];omega)⟩;obtain⟨hxj,hyj⟩:=AT j L hL;have hLl:=KX.1.len hL;have hp:y/2^j*L.w+x/2^j<L.l.length:=by rw[hLl];exact nU hxj hyj
   obtain⟨p,hpe⟩:=X_ (y/2^j*L.w+x/2^j);have hz:L.l[p]?=S_ (zj L x y j):=by unfold zj bV.at_;rw[hpe,ax,ai (by rw[←hpe];exact hp)];rfl
   have hoj:offT (Sj T1 x y b (j+1)) j=offT T1 j:=by have hs:=QW (T:=T1) (x:=x) (y:=y) (b:=b) i (by rw[KX.2.2.2.1];omega);rw[KX.2.2.2.1,hj]at hs;exact Fh (Ba hs) j
   have hg:=Bv 0 (af9 (x:=x) (y:=y) (b:=b) hL) hz;have hst:=Jo 0 (af9 (x:=x) (y:=y) (b:=b) hL) (p:=p) (by rw[←hpe];exact hp) (uy (zj L x y j) (Ej T1 x y b (j+1)).2.1 b).1;rw[hoj,dH]at hg hst;have hSt:(rnodes 0 (Sj T1 x y b (j+1))).set (offT T1 j+p) (JZ (offT T1 j) L.w L.h p,(uy (zj L x y j) (Ej T1 x y b (j+1)).2.1 b).1)=rnodes 0 (Sj T1 x y b j):=by rw[hst,aaE hL];unfold bV.qY;rw[hpe]
   have hwy:=OD T1 0 x y j L hL;rw[KX.2.2.2.1,show n-1-j=i by omega,dH,hpe]at hwy;obtain⟨k,hk⟩:=X_ (offT T1 j+p);rw[hk]at hg hSt hwy;have hkN:k<N:=by
    have h1:=(aj.1 hg).1;have h2:(rnodes 0 (Sj T1 x y b (j+1))).length=N:=by have h3:=hr.1;rw[vz]at h3;omega
    omega
   obtain⟨okl,ok0,okn⟩:=KX.2.2.1 j L hL;have hEs:=aaH (x:=x) (y:=y) (b:=b) hL;have hbl:=BL (j+1);obtain⟨E1,hE1⟩:=X_ (Ej T1 x y b (j+1));rw[hE1]at hwr hSt okl hEs hbl⊢;obtain⟨z,hze⟩:=X_ (zj L x y j);rw[hze]at hg hSt okl ok0 okn hEs;obtain⟨u,hu⟩:=X_ (JZ (offT T1 j) L.w L.h p);rw[hu]at hg hSt;obtain⟨lo,hlo⟩:=X_ (E1.2.1);rw[hlo]at okl hSt hEs⊢;obtain⟨l1,hl1⟩:=X_ (rnodes 0 (Sj T1 x y b (j+1)));rw[hl1]at hr hg hSt;have mr:Mv W (H++HW) wr (Hl2++(HW2++(X::Hn))):=m.Z_;obtain⟨⟨r0,r1,r2,r3⟩,-⟩:=GM hr mr.sat.left rfl hg hkN;have sX:Hid (∀V Z,Sat V (Z++(X::Hn))→V.cell? ⟨tb,0,N_⟩=S_ (s_ (S_ ⟨g,0,N_⟩) N vc)∧V.cell? ⟨lg,i,N_⟩=S_ (i_ l_ k)):=af (fun V Z hV=>by
    have h1:=hV.right;refine⟨?_,?_⟩
    ·have hb:=h1.at_ 0 (g:=tb) (t:=X.t) (cs:=X.cs) (by rw[HX.1];rfl);rw[HX.1]at hb;exact hb.cell 0
    ·exact HX.2.2.at_ (Sat.right (A:=[_]) h1) (by rw[aV,hwy];rfl))
   have mr2:Mv W (H++HW) wr ((HW2++Hl2)++(X::Hn)):=by rw[az];exact m
   obtain⟨t0,t1⟩:=sX _ _ mr2.sat;have MA:=(m.alloc 162 #[i_ l_ z.n,i_ l_ z.low,b_ z.said,i_ l_ u]).drew;have KA:Hid (Mv W (H++HW) (wr.alloc (.cells #[i_ l_ z.n,i_ l_ z.low,b_ z.said,i_ l_ u] 162)).drew (wO wr.heap.size z u::(HW2++(Hl2++(X::Hn))))):=af MA;have KR:=LH hr hwr hg hSt hEs;have KB:=zO hbl okl ok0 okn;have KJ:=dS hj hlo;clear hr hwr hg hSt hEs hbl okl ok0 okn m mr mr2 MA hz hoj hst hwy hE1 hze hu hk hpe hp hLl hxj hyj hL hj hl1 hlo;go_upto_region 7 with fail;refine ik (akh _ tb g lg N n vc lc i k z u wr hlt hkN t0 t1 r0 r1 r2 r3 (by omega) (by omega) ?_);rintro t33 t34 t35 t36 t37 t38 t39 t40 t41 t42;clear r0 r1 r2 r3 t0 t1;obtain⟨xb,hxb⟩:=X_ (wr.heap.size);rw[hxb]at KA⊢;generalize(wr.alloc (.cells #[i_ l_ z.n,i_ l_ z.low,b_ z.said,i_ l_ u] 162)).drew=wa at*;have q1:wa.cell? ⟨xb,1,N_⟩=S_ (i_ l_ z.low):=KA.cell 0 rfl 1;have qf:wa.frozen? ⟨xb,1,N_⟩=F_:=KA.frozen 0 rfl 1;have M8:Mv W (H++HW) (wa.setCell ⟨xb,1,N_⟩ (i_ l_ (max z.low lo))) (wO xb {z with low:=max z.low lo} u::(HW2++(Hl2++(X::Hn)))):=KA.out.set 1 (i_ l_ (max z.low lo));have K8:Hid (Mv W (H++HW) (wa.setCell ⟨xb,1,N_⟩ (i_ l_ (max z.low lo))) (HW2++(wO xb {z with low:=max z.low lo} u::(Hl2++(X::Hn))))):=af (M8.Z_);clear M8 hxb KA;go_upto_region 8 with fail;refine ik (akg _ xb z.low lo wa q1 qf ?_);rintro t43 t44 t45 t46 t47;clear q1 qf;generalize wa.setCell ⟨xb,1,N_⟩ (i_ l_ (max z.low lo))=wb8 at*;go_upto_block 2 with fail;refine ik (ag7 _ wb xb b u {z with low:=max z.low lo} (bs++E1.2.2) HW2 (Hl2++(X::Hn)) (H++HW) W wb8 KR.2.1 K8 KB.2.1 (by have:=KB.2.2.1;show 0≤max z.low lo;omega) KB.2.2.2 hb1 KB.1 ?_);rintro t48 t49 t50 t51 t52 t53 t54 t55 t56 t57 t58 t59 t60 t61 t62 t63 t64 t65 t66 t67 t68 t69 t70 wc HW3 q1 q2;have hen:encL (b-({z with low:=max z.low lo}:dY).low).toNat {z with low:=max z.low lo} b=uy z lo b:=rfl;rw[hen]at q1 q2;obtain⟨e,he⟩:=X_ (uy z lo b);rw[he]at q1 q2 KR;have M10:Mv W (H++HW) wc (Hl2++(HW3++(wO xb e.1 u::(X::Hn)))):=q2.Z_;obtain⟨⟨r0,r1,r2,r3⟩,f0,f1,f2,f3⟩:=GM KR.1 M10.sat.left rfl KR.2.2.1 hkN;have M11:Mv W (H++HW) wc ((Hl2++(HW3++[wO xb e.1 u]))++(X::Hn)):=by simpa using M10
   obtain⟨t0,t1⟩:=sX _ _ M11.sat;have M12:Mv W (H++HW) wc (wO xb e.1 u::(Hl2++(HW3++(X::Hn)))):=q2.Z_;have x0:wc.cell? ⟨xb,0,N_⟩=S_ (i_ l_ e.1.n):=M12.cell 0 rfl 0;have x1:wc.cell? ⟨xb,1,N_⟩=S_ (i_ l_ e.1.low):=M12.cell 0 rfl 1;have x2:wc.cell? ⟨xb,2,N_⟩=S_ (b_ e.1.said):=M12.cell 0 rfl 2;have x3:wc.cell? ⟨xb,3,N_⟩=S_ (i_ l_ u):=M12.cell 0 rfl 3;obtain⟨Hl3,rr,ms⟩:=RZ KR.1 M10 rfl KR.2.2.1 hkN e.1;rw[KR.2.2.2.1]at rr;have x!:=nY rr q1 ms.drew;clear K8 hen he M10 M11 M12 rr ms q1 q2;go_upto_region 15 with fail;refine ik (ai1 _ tb g lg N n vc lc i k xb e.1 z u u wc hlt hkN t0 t1 x0 x1 x2 x3 r0 r1 r2 r3 f0 f1 f2 f3 (by omega) (by omega) ?_);rintro t71 t72 t73 t74 t75 t76 t77 t78 t79 t80;clear t0 t1 x0 x1 x2 x3 r0 r1 r2 r3 f0 f1 f2 f3;generalize((((wc.setCell ⟨g,k*4,N_⟩ (i_ l_ e.1.n)).setCell ⟨g,k*4+1,N_⟩ (i_ l_ e.1.low)).setCell ⟨g,k*4+2,N_⟩ (b_ e.1.said)).setCell ⟨g,k*4+3,N_⟩ (i_ l_ u)).drew=wd at*;have M16:Mv W (H++HW) wd (wO xb e.1 u::(HW3++(Hl3++(X::Hn)))):=x!.2.2.Z_;have x1:wd.cell? ⟨xb,1,N_⟩=S_ (i_ l_ e.1.low):=M16.cell 0 rfl 1;have K16:=af M16.drop1;clear M16;go_wp2_with fail;go_roundg (n-(i+1))
   case measure=>omega
   case rel=>
    have hj:=KJ.1;have hEs:=KR.2.2.2.2;refine⟨i+1,Hl3,HW3,hlt,rfl,by push_cast;rfl,?_,?_,?_,K16.out⟩
    ·rw[show n-(i+1)=j by omega,hEs]
    ·rw[show n-(i+1)=j by omega];exact x!.1
    ·rw[show n-(i+1)=j by omega,hEs];have:=x!.2.1;rw[az]at this;exact this
  ·obtain rfl:i=n:=by omega
   have d3:decide ((i:Int)<i)=F_:=by simp
   rw[iI,Vf.1]at hr;rw[iI,Vf.2]at hwr;have hsz:=QW (T:=T1) (x:=x) (y:=y) (b:=b) T1.length (aN _);rw[iI,Vf.1]at hsz;have hlv:leavesM (encT T1 x y b).1=leavesM T1:=by
    have h2:=Ba hsz;cases h3:(encT T1 x y b).1 with
    |nil=>
     rw[h3]at h2;have:T1=[]:=by simpa using h2.symm
     rw[this]
    |cons A U=>
     rw[h3]at h2;cases T1 with
     |nil=>simp at h2
     |cons A' U'=>simp only[bJ,iM]at h2;exact h2.1
   have Z9:(rnodes 0 (encT T1 x y b).1).length=N:=by have h3:=hr.1;rw[vz]at h3;omega
   have K:=LH hr hwr m hlv Z9;clear hr hwr m hlv Z9 hsz hlt;go_wp2_with fail;refine dm (bH rfl _ _ _) rfl ⟨rfl,X::Hl2,HW2,⟨s_ (S_ ⟨g,0,N_⟩) N vc,Hl2,?_,?_⟩,K.2.1,?_⟩
   ·rw[HX.1,K.2.2.2.1];rfl
   ·rw[K.2.2.2.2];exact K.1
   ·exact K.2.2.1.Z_
def Vp(L:bV):Nat×Nat×List Int:=(L.w,L.h,L.l.map (·.n))
def Vh(z:dY):Prop:=0≤z.low∧z.low≤z.n∧z.n≤1000000
def Uf(T:List bV):Prop:=∀L∈T,∀i,i<L.l.length→Vh (L.l.getD i Eh)
def Mono:List bV→Prop
 | []=>True
 |L::T=>(∀M T',T=M::T'→∀x y,x<L.w→y<L.h→(M.at_ (x/2) (y/2)).n≤(L.at_ x y).n)∧Mono T
theorem aiL{L M:bV}(h:Vp L=Vp M)(x y:Nat):(L.at_ x y).n=(M.at_ x y).n:=by
 simp only[Vp,fK]at h;obtain⟨h1,-,h3⟩:=h;unfold bV.at_;rw[h1];have e:∀(l:List dY) (i:Nat),(l.getD i Eh).n=(l.map (·.n)).getD i Eh.n:=by intro l i;simp only[ax,aV];cases l[i]?<;>rfl
 rw[e,e,h3]
theorem Mono.congr:∀{T U:List bV},Mono T→U.map Vp=T.map Vp→Mono U
 | [],[],_,_=>trivial
 | [],_::_,_,e=>by simp at e
 |_::_,[],_,e=>by simp at e
 |L::T,K::U,h,e=>by
  rw[bJ,bJ,iM]at e;refine⟨?_,h.2.congr e.2⟩;rintro M T' rfl x y hx hy;cases T with
  |nil=>simp at e
  |cons N T=>have e2:=e.2;rw[bJ,bJ,iM]at e2;rw[aiL e2.1,aiL e.1];have hw:=e.1;simp only[Vp,fK]at hw;exact h.1 N T rfl x y (by rw[←hw.1];exact hx) (by rw[←hw.2.1];exact hy)
theorem Qw:∀(f:Nat) (x:dY) (b:Int),(encL f x b).1.n=x.n∧(x.low≤x.n→(encL f x b).1.low≤x.n)
 |0,_,_=>⟨rfl,id⟩
 |f+1,x,b=>by
  unfold encL;split
  ·split
   ·exact⟨rfl,id⟩
   ·rename_i h1 h2;obtain⟨k1,k2⟩:=Qw f {x with low:=x.low+1,said:=F_} b;exact⟨k1,fun _=>k2 (show x.low+1≤x.n by omega)⟩
  ·exact⟨rfl,id⟩
theorem Je(x:dY)(low b:Int):(uy x low b).1.n=x.n∧(max x.low low≤x.n→(uy x low b).1.low≤x.n)∧max x.low low≤(uy x low b).1.low:=by have h:=Qw (b-max x.low low).toNat {x with low:=max x.low low} b;exact⟨h.1,h.2,(Qx (b-max x.low low).toNat {x with low:=max x.low low} b).2⟩
theorem aiU(L:bV)(x y:Nat)(z:dY)(hz:z.n=(L.at_ x y).n):Vp (L.qY x y z)=Vp L:=by
 unfold Vp bV.qY;simp only[fK,true_and];rw[jb,hz];unfold bV.at_;by_cases h:y*L.w+x<L.l.length
 ·apply Ea;rw[aV,ax,ai h];rfl
 ·exact List.set_eq_of_length_le (by rw[aO];omega)
theorem aar:∀(T:List bV) (x y:Nat) (b:Int),(encT T x y b).1.map Vp=T.map Vp
 | [],_,_,_=>rfl
 |L::R,x,y,b=>by simp only[encT,bJ,aar R];rw[aiU _ _ _ _ (Je _ _ _).1]
theorem Rl(l:List dY)(i j:Nat)(z:dY)(P:dY→Prop)(hz:P z)(h:P (l.getD j Eh)):P ((l.set i z).getD j Eh):=by
 rw[ax,fQ];split
 ·rename_i e;subst e;split
  ·exact hz
  ·rename_i hh;rw[ax,iQ (by omega)]at h;exact h
 ·rw[ax]at h;exact h
theorem U0:∀(T:List bV) (x y:Nat) (b:Int),Dims T→(∀L R,T=L::R→x<L.w∧y<L.h)→Uf T→Mono T→Uf (encT T x y b).1∧(∀L R,T=L::R→(encT T x y b).2.1≤(L.at_ x y).n)∧aiO T x y b
 | [],_,_,_,_,_,h,_=>⟨h,nofun,fun j L hL=>by simp at hL⟩
 |L::R,x,y,b,hd,hxy,ha,hm=>by
  obtain⟨hx,hy⟩:=hxy L R rfl;have hin:y*L.w+x<L.l.length:=by rw[hd.len0];have:L.w*(y+1)≤L.w*L.h:=l7 _ hy;rw[Nat.mul_add,um,dX L.w y]at this;omega
  have hz:Vh (L.at_ x y):=ha L aG _ hin;have hR:∀M R',R=M::R'→x/2<M.w∧y/2<M.h:=by rintro M R' rfl;have h1:=hd.at_ (L0:=L) rfl hx hy (i:=1) (L:=M) rfl;simpa using h1
  obtain⟨i1,i2,i3⟩:=U0 R (x/2) (y/2) b hd.tail hR (fun M hM=>ha M (aU _ hM)) hm.2;have hlow:(encT R (x/2) (y/2) b).2.1≤(L.at_ x y).n:=by
   cases R with
   |nil=>exact Int.le_trans hz.1 hz.2.1
   |cons M R'=>exact Int.le_trans (i2 M R' rfl) (hm.1 M R' rfl x y hx hy)
  have hmax:max (L.at_ x y).low (encT R (x/2) (y/2) b).2.1≤(L.at_ x y).n:=by have:=hz.2.1;omega
  obtain⟨k1,k2,k3⟩:=Je (L.at_ x y) (encT R (x/2) (y/2) b).2.1 b;refine⟨?_,?_,?_⟩
  ·intro K hK;simp only[encT,aC]at hK;rcases hK with rfl|hK
   ·intro i hi;refine Rl _ _ _ _ _ ⟨?_,?_,?_⟩ (ha L aG i (by simpa[bV.qY]using hi))
    ·have:=hz.1;omega
    ·rw[k1];exact k2 hmax
    ·rw[k1];exact hz.2.2
   ·exact i1 K hK
  ·rintro L' R' e;cases e;exact k2 hmax
  ·intro j K hK;cases j with
   |zero=>simp only[List.getElem?_cons_zero,dG]at hK;subst hK;simp only[zj,Ej,Nat.pow_zero,Nat.div_one,iE,iW,dH,Nat.pow_one];exact⟨hmax,hz.1,hz.2.2⟩
   |succ j=>
    have h:=i3 j K (by simpa using hK);have e:∀a k:Nat,a/2^(k+1)=a/2/2^k:=fun a k=>by rw[fE,Nat.pow_succ,dX]
    have ez:zj K x y (j+1)=zj K (x/2) (y/2) j:=by unfold zj;rw[e,e]
    have eE:Ej (L::R) x y b (j+1+1)=Ej R (x/2) (y/2) b (j+1):=by unfold Ej;rw[iE,e x (j+1),e y (j+1)]
    rw[ez,eE];exact h
def kE(T:List bV)(n:Nat):Prop:=(∃L R,T=L::R∧n=L.w*L.h)∧Dims T∧rE T∧offT T T.length≤100000∧T.length≤20
theorem kE.congr{T U:List bV}{n:Nat}(h:kE T n)(e:U.map dM=T.map dM):kE U n:=by
 obtain⟨⟨L,R,rfl,hn⟩,hd,hs,ho,hl⟩:=h;have hlen:U.length=(L::R).length:=by simpa using fM List.length e
 have hoff:=Fh (Ba e) U.length;refine⟨?_,hd.congr e,JO e hs,by rw[hoff,hlen];exact ho,by rw[hlen];exact hl⟩;obtain⟨K,hK,e1,e2,-⟩:=Bc e (j:=0) rfl;cases U with
 |nil=>simp at hK
 |cons M V=>simp only[List.getElem?_cons_zero,dG]at hK;subst hK;exact⟨M,V,rfl,by rw[hn,e1,e2]⟩
theorem aeJ{T U:List bV}(h:T.map Vp=U.map Vp):T.map dM=U.map dM:=by
 have e:∀L:bV,dM L=((Vp L).1,(Vp L).2.1,(Vp L).2.2.length):=fun L=>by simp[dM,Vp]
 have:=fM (List.map fun q:Nat×Nat×List Int=>(q.1,q.2.1,q.2.2.length)) h;rw[jc,jc]at this;have e2:((fun q:Nat×Nat×List Int=>(q.1,q.2.1,q.2.2.length))∘Vp)=dM:=funext fun L=>(e L).symm;rw[e2]at this;exact this
def wR(T:List bV)(n:Nat):Prop:=kE T n∧Mono T∧Uf T
theorem J4{w h k:Nat}(hk:k<w*h):k%w<w∧k/w<h∧k/w*w+k%w=k:=by
 have hw:0<w:=by
  rcases iZ w with e|e
  ·subst e;simp at hk
  ·exact e
 exact⟨kP _ hw,oz hk,Nat.div_add_mod' k w⟩
theorem JA{T:List bV}{n k:Nat}(b:Int)(hk:k<n)(h:wR T n):wR (encAt T k b).1 n:=by obtain⟨hT,hm,ha⟩:=h;obtain⟨⟨L,R,rfl,hn⟩,hd,-⟩:=id hT;obtain⟨p1,p2,-⟩:=J4 (w:=L.w) (h:=L.h) (by rw[←hn];exact hk);have e:=aar (L::R) (k%L.w) (k/L.w) b;refine⟨hT.congr (aeJ e),hm.congr e,?_⟩;exact(U0 (L::R) (k%L.w) (k/L.w) b hd (fun L' R' e'=>by cases e';exact⟨p1,p2⟩) ha hm).1
theorem VU(tb wb:Nat)(T:List bV)(fr:Bool)(H HW:List HB)(bs:List Bool)(W:World)(n k:Nat)(b:Int)(T1:List bV)(hT1:(if fr=T_ then T else fillT T)=T1)(h:ku tb T fr H)(hw:oN wb bs HW)(hs:Sat W (H++HW))(hg:wR T1 n)(hk:k<n)(hb:0≤b∧b≤1000)(hbs:bs.length≤50000000):Calls P_ 37 #[p_ (S_ ⟨tb,0,N_⟩),p_ (S_ ⟨wb,0,N_⟩),i_ l_ k,i_ l_ b] W fun e w'=>e=r_ (t_ #[])∧∃H' lM,ku tb (encAt T1 k b).1 T_ H'∧oN wb (bs++(encAt T1 k b).2) lM∧Mv W (H++HW) w' (H'++lM):=by
 obtain⟨hT,hm,ha⟩:=hg;have hsh:T.map dM=T1.map dM:=by
  rw[←hT1];cases fr with
  |true=>rfl
  |false=>
   cases T with
   |nil=>rfl
   |cons L R=>exact(Hg L R).symm
 obtain⟨⟨L0,R,rfl,hn⟩,hd,hst,ho,hl⟩:=hT.congr hsh;obtain⟨⟨L1,R1,rfl,hn1⟩,hd1,-⟩:=hT;obtain⟨K,hK,e1,e2,-⟩:=Bc hsh (j:=0) rfl;simp only[List.getElem?_cons_zero,dG]at hK;subst hK;obtain⟨p1,p2,p3⟩:=J4 (w:=L0.w) (h:=L0.h) (by rw[←hn];exact hk);have hok:=(U0 (L1::R1) (k%L1.w) (k/L1.w) b hd1 (fun L' R' e'=>by cases e';rw[←e1,←e2];exact⟨p1,p2⟩) ha hm).2.2;rw[←e1]at hok;have:=abV tb wb L0 R fr H HW bs W (k%L0.w) (k/L0.w) b (L1::R1) hT1 h hw hs hd hst p1 p2 ho hl hb hok hbs;rw[p3]at this;simp only[encAt,←e1];exact this
theorem GL(t c l:Nat)(w:World)(ht:t≤100)(hc:1≤c∧c≤100)(hl:l≤200):Calls P_ 78 #[i_ l_ t,i_ l_ c,i_ l_ l] w fun e w'=>e=r_ (i_ l_ (jg (t:Int) (c:Int) (l:Int)))∧w'=w:=by
 have hm:min (max (t:Int) 0) 100=(t:Int):=by omega
 by_cases h0:l=0
 ·have e:jg (t:Int) (c:Int) (l:Int)=0:=by unfold jg;rw[aK (by omega)]
  rw[e];subst h0;clear hm e ht;go_enter Tryz.func78,Tryz.ntmps78;go_wp2_with fail;go_ret;exact⟨rfl,rfl⟩
 ·have d1:decide ((l:Int)<1)=F_:=by simp;omega
  by_cases h1:c<l
  ·have e:jg (t:Int) (c:Int) (l:Int)=t:=by unfold jg;rw[aJ (by omega),aJ (by omega),aK (by omega)];exact hm
   rw[e];have d2:decide ((c:Int)<l)=T_:=by simp;omega
   clear hm e ht h0;go_enter Tryz.func78,Tryz.ntmps78;go_wp2_with fail;go_ret;exact⟨rfl,rfl⟩
  ·have e:jg (t:Int) (c:Int) (l:Int)=t*l/(c:Int):=by unfold jg;rw[aJ (by omega),aJ (by omega),aJ (by omega),hm,show min (l:Int) 100=(l:Int) by omega,show min (c:Int) 100=(c:Int) by omega]
   have hq:t*l≤100*200:=bZ ht hl;have b1:(t:Int)*l≤20000:=by exact_mod_cast hq
   have b2:0≤(t:Int)*l:=by exact_mod_cast aY (t*l)
   have hd:(t:Int)*l/(c:Int)≤t*l:=Int.ediv_le_self _ b2;have hd0:0≤(t:Int)*l/(c:Int):=Int.ediv_nonneg b2 (by omega);have hw:wrap64 (Int.tdiv ((t:Int)*l) (c:Int))=(t:Int)*l/(c:Int):=by rw[Int.tdiv_eq_ediv_of_nonneg b2];exact pK _ ⟨by omega,by omega⟩
   have HW:=dS hw e;have d2:decide ((c:Int)<l)=F_:=by simp;omega
   have hc0:¬c=0:=by omega
   clear hm e ht h0 hd hd0 hq hw;go_enter Tryz.func78,Tryz.ntmps78;go_wp2_with fail;go_ret;refine⟨?_,rfl⟩;rw[HW.2,←HW.1];rfl
theorem aeS{W w:World}{H0 H1 X:List HB}(m:Mv W H0 w (H1++X))(T:TypeId)(cs:Array Value):Mv W H0 (w.alloc (.cells cs T)) (H1++(⟨w.heap.size,T,cs⟩::X)):=(m.alloc T cs).Z_
theorem ahB{W w:World}{H0 H1 X:List HB}{g:Nat}{T:TypeId}{cs:Array Value}(m:Mv W H0 w (H1++(⟨g,T,cs⟩::X))):Mv W H0 w (H1++X):=m.Z_
theorem ab9(pl:Int)(vp vb:Value)(ps:List (Int×Bool))(Hp:List HB)(W:World)(hp:lH vp ps Hp)(hs:Sat W Hp)(hn:ps.length≤1000)(hvb:∃a n c,vb=s_ a n c):Calls P_ 84 #[g_ #[i_ l_ pl,vp,vb]] W fun e w'=>∃v Hn,e=r_ v∧jy v (ps.map (·.1)) Hn∧Mv W Hp w' (Hn++Hp):=by
 obtain⟨ba,bn,bc,rfl⟩:=hvb;obtain⟨pa,pc,rfl⟩:=hp.slice;obtain⟨n,hnn⟩:=X_ (ps.length);rw[hnn]at hp hn⊢;have M0:=(Mv.refl hs).alloc 51 #[i_ l_ pl,s_ pa n pc,s_ ba bn bc];obtain⟨w1,hw1⟩:=Y_ (W.alloc (.cells #[i_ l_ pl,s_ pa n pc,s_ ba bn bc] 51));rw[←hw1]at M0;obtain⟨xb,hxb⟩:=X_ (W.heap.size);rw[hxb]at M0;obtain⟨X,hX⟩:∃X:HB,X=⟨xb,51,#[i_ l_ pl,s_ pa n pc,s_ ba bn bc]⟩:=⟨_,rfl⟩;rw[←hX]at M0;have HX:=nY hX hnn hp;have K0:=af M0;clear hp hs M0 hX hnn;go_enter Tryz.func84,Tryz.ntmps84;go_upto_region 1 with fail;rw[←hw1]
 (try simp only[hxb])
 clear hw1 hxb;go_wp2_with fail;go_loopg [3,4] n (fun mm s3 s4 wx=>∃(i:Nat) (Hn:List YtjngfhgakokejaaGreat.HB),i≤n∧mm=n-i∧s4=i_ l_ i∧jy s3 ((ps.map (·.1)).take i) Hn∧Mv W Hp wx (Hn++(X::Hp)))
 case atStart=>exact⟨0,[],aY _,rfl,rfl,dh.nil _ _,K0.out⟩
 case round=>
  clear K0;obtain⟨i,Hn,hi,rfl,rfl,hr,m⟩:=hrel;have c1:wr.cell? ⟨xb,1,N_⟩=S_ (s_ pa n pc):=by have hb:=m.sat.right.at_ 0 (g:=xb) (t:=X.t) (cs:=X.cs) (by rw[HX.1];rfl);rw[HX.1]at hb;exact hb.cell 1
  by_cases hlt:i<n
  ·have d1:decide ((i:Int)<n)=T_:=by simp;omega
   obtain⟨q,hq⟩:∃q,ps[i]?=S_ q:=⟨_,ai (by rw[HX.2.1];exact hlt)⟩;obtain⟨-,g,hpa⟩:=HX.2.2.form (by omega);have hrq:=HX.2.2;rw[hpa]at hrq;have z0:=(hrq.at_ (Sat.right (A:=[_]) m.sat.right) hq).1;have hiN:(i:Int)<n:=by omega
   have hi2:i*2<100000:=by omega
   have M4:=aeS m 3 #[i_ l_ q.1];have hmap:(ps.map (·.1)).take (i+1)=(ps.map (·.1)).take i++[q.1]:=by rw[eU,aV,hq];rfl
   have hli:((ps.map (·.1)).take i).length=i:=by rw[bT,aO,HX.2.1];omega
   obtain⟨va,vc,e3⟩:=hr.slice;rw[hli]at e3;subst e3;have HL:Hid (((ps.map (·.1)).take i).length+[q.1].length≤100000000):=af (by rw[bT,List.length_singleton];omega);have KA:=nY hr M4 hmap;subst hpa;have BO:=af (ae6 wr q.1 _ rfl);clear hr m M4 hmap hq hrq hli;go_upto_region 4 with(at_builtin;refine Gt rfl (.tmp 12) (.tmp 19) rfl _ _ (List.take i (List.map (fun x:Int×Bool=>x.1) ps)) [q.1] _ rfl rfl KA.out.1 KA.out.2.1.sat.left BO.out HL.out ?_;intro v6 w6 H6 yN m6;have K6:=dS yN (Mv.call KA.out.2.1 m6);clear yN m6);go_wp2_with fail;go_roundg (n-(i+1))
   case measure=>omega
   case rel=>exact⟨i+1,H6,hlt,rfl,by push_cast;rfl,by rw[KA.2.2];exact K6.1,ahB K6.2⟩
  ·obtain rfl:i=n:=by omega
   have d1:decide ((i:Int)<i)=F_:=by simp
   have e:(ps.map (·.1)).take i=ps.map (·.1):=dC (by rw[aO,HX.2.1];exact aN _);rw[e]at hr;have K:=dS hr m;clear hr m hlt e;go_wp2_with fail;go_ret;have M9:Mv W Hp wr (Hn++Hp):=K.2.Z_
   first
    |exact⟨_,Hn,rfl,K.1,M9⟩
    |exact⟨_,rfl,Hn,K.1,M9⟩
theorem Si(pl said lb:Int)(pa:Option Addr)(n pc:Nat)(vb:Value)(c l:Nat)(W:World)(hn:n≤100)(hc:1≤c∧c≤100)(hl:l≤100)(hvb:∃a m k,vb=s_ a m k):Calls P_ 34 #[g_ #[i_ l_ pl,s_ pa n pc,vb,i_ l_ said,i_ l_ lb],i_ l_ c,i_ l_ l] W fun e w'=>e=r_ (t_ #[i_ l_ (jg (n:Int) (c:Int) (l:Int)),i_ l_ (jg (n:Int) (c:Int) ((l:Int)+1))])∧Mv W [] w' []:=by
 obtain⟨ba,bn,bc,rfl⟩:=hvb;have M0:=iF W 85 #[i_ l_ pl,s_ pa n pc,s_ ba bn bc,i_ l_ said,i_ l_ lb];obtain⟨w1,hw1⟩:=Y_ (W.alloc (.cells #[i_ l_ pl,s_ pa n pc,s_ ba bn bc,i_ l_ said,i_ l_ lb] 85));rw[←hw1]at M0;have c1:w1.cell? ⟨W.heap.size,1,N_⟩=S_ (s_ pa n pc):=M0.cell 0 rfl 1;have P1:=af fun V=>GL n c l V hn hc (by omega);have P2:=af fun V=>GL n c (l+1) V hn hc (by omega);simp only[Int.natCast_add,Int.cast_ofNat_Int]at P2;have K0:=af M0.drop1;clear M0;go_enter Tryz.func34,Tryz.ntmps34;go_upto_region 1 with fail;rw[←hw1];clear hw1;go_wp2_with (first
  |(go_at_call 78;(with_reducible refine(P1.out _).mono ?_);rintro e w' ⟨rfl,rfl⟩)
  |(go_at_call 78;(with_reducible refine(P2.out _).mono ?_);rintro e w' ⟨rfl,rfl⟩))
 go_ret2;exact⟨rfl,K0.out⟩
section
variable(K:Act→World→Prop)(eg n ec k:Nat)(run eb was:Int)(a1 a2:Option Addr)(c1 c2:Nat)(l1 l2:List Int)(H1 H2 R H0:List YtjngfhgakokejaaGreat.HB)(w0:World)(w:World){s0 s1 s2 s4 s5 s6 s7 s8 s9 s10 s11 s15 s16 l9 kH kS s20 lF lC s23 s24 kZ s26 kW kR kY lu lJ lK lI lL lD s36 lY lX mG ni mZ mY s43 s44 nI mF nH nK s49 mD mg lW s53 mX mQ mP mO:Value}
inductive RJ(bQ:Array Bool)(a:Act)(W:World):Prop|mk {b0 b1 b2 b3 b4 b5 b6 b7 b8 b9 b10 b11 b12 b13 b14:Bool} {XV u40 u41 u42 u43 u44 u45 u46 Vy u48 u49 Vx u51 u10 u11:Value} {g2:Nat} {HA:List YtjngfhgakokejaaGreat.HB} {g5:Nat} {HB:List YtjngfhgakokejaaGreat.HB} (hl:bQ=#[b0,b1,b2,b3,b4,b5,b6,b7,b8,b9,b10,b11,b12,b13,b14]) (ha:a=⟨List.toArray (s0::s1::s2::(.slice (some ⟨eg,0,none⟩) n ec)::s4::s5::s6::s7::s8::s9::u10::u11::(.int .i64 (run))::(.int .i64 (was))::(.int .i64 ((k:Int)))::s15::s16::l9::kH::kS::s20::lF::lC::s23::s24::kZ::s26::kW::kR::kY::lu::lJ::lK::lI::lL::lD::s36::lY::lX::XV::u40::u41::u42::u43::u44::u45::u46::Vy::u48::u49::Vx::u51::lW::s53::mX::mQ::mP::mO::[]),[]⟩) (HW:(Mv w0 H0 W (oh b2 ⟨g2,3,#[.int .i64 run]⟩++(oh b11 ⟨g5,3,#[.int .i64 (eb-was)]⟩++(HA++(HB++R))))∧(b3=false→HA=H1)∧(b12=false→HB=H2)∧(b3=true→b2=true)∧(b12=true→b11=true)∧(b13=false→u10=.slice a1 l1.length c1)∧(b14=false→u11=.slice a2 l2.length c2))) (hF:(b0=true→XV=.slice a1 l1.length c1)∧(b1=true→u40=.int .i64 (run))∧(b2=true→u41=.slice (some ⟨g2,0,none⟩) 1 1)∧(b3=true→jy u42 (l1++[run]) HA)∧(b4=true→u43=.slice a2 l2.length c2)∧(b5=true→u44=.slice (some ⟨eg,0,none⟩) n ec)∧(b6=true→u45=.int .i64 ((k:Int)))∧(b7=true→u46=.pointer (some ⟨eg,k,none⟩))∧(b8=true→Vy=.int .i64 (eb))∧(b9=true→u48=.int .i64 (was))∧(b10=true→u49=.int .i64 (eb-was))∧(b11=true→Vx=.slice (some ⟨g5,0,none⟩) 1 1)∧(b12=true→jy u51 (l2++[eb-was]) HB)∧(b13=true→(b3=true∧b0=true)∧u10=u42)∧(b14=true→(b12=true∧b4=true)∧u11=u51):=by and_intros<;>first|assumption|exact fun _=>rfl|(simp only[bM,bI,aI]<;>assumption)):RJ bQ a W
theorem R!(e10:s10=s_ a1 l1.length c1)(e11:s11=s_ a2 l2.length c2)(hrow1:jy (s_ a1 l1.length c1) l1 H1)(hl1:l1.length≤1000)(hrow2:jy (s_ a2 l2.length c2) l2 H2)(hl2:l2.length≤1000)(hkn:k<n)(hn:n≤1000)(heb:0≤eb∧eb≤100000000)(Qe:0≤was∧was≤100000000)(hRe:∀W,Sat W R→W.cell? ⟨eg,k,N_⟩=S_ (i_ l_ eb))(hM:Mv w0 H0 w (H1++(H2++R)))
 (hk:∀(XV u40 u41 u42 u43 u44 u45 u46 Vy u48 u49 Vx u51 u10 u11:Value) (g2:Nat) (HA:List YtjngfhgakokejaaGreat.HB) (g5:Nat) (HB:List YtjngfhgakokejaaGreat.HB) (W:World),(Mv w0 H0 W (oh T_ ⟨g2,3,#[i_ l_ run]⟩++(oh T_ ⟨g5,3,#[i_ l_ (eb-was)]⟩++(HA++(HB++R))))∧(T_=F_→HA=H1)∧(T_=F_→HB=H2)∧(T_=T_→T_=T_)∧(T_=T_→T_=T_)∧(T_=F_→u10=s_ a1 l1.length c1)∧(T_=F_→u11=s_ a2 l2.length c2))→(jy u42 (l1++[run]) HA)→(jy u51 (l2++[eb-was]) HB)→((T_=T_∧T_=T_)∧u10=u42)→((T_=T_∧T_=T_)∧u11=u51)→K ⟨List.toArray (s0::s1::s2::(s_ (S_ ⟨eg,0,N_⟩) n ec)::s4::s5::s6::s7::s8::s9::u10::u11::(i_ l_ (run))::(i_ l_ (was))::(i_ l_ ((k:Int)))::s15::s16::l9::kH::kS::s20::lF::lC::s23::s24::kZ::s26::kW::kR::kY::lu::lJ::lK::lI::lL::lD::s36::lY::lX::XV::u40::u41::u42::u43::u44::u45::u46::Vy::u48::u49::Vx::u51::lW::s53::mX::mQ::mP::mO::[]),[]⟩ W):
 (dQ 10 Tryz.f83).wp P_ (Exit.then K qX) ⟨List.toArray (s0::s1::s2::(s_ (S_ ⟨eg,0,N_⟩) n ec)::s4::s5::s6::s7::s8::s9::s10::s11::(i_ l_ (run))::(i_ l_ (was))::(i_ l_ ((k:Int)))::s15::s16::l9::kH::kS::s20::lF::lC::s23::s24::kZ::s26::kW::kR::kY::lu::lJ::lK::lI::lL::lD::s36::lY::lX::mG::ni::mZ::mY::s43::s44::nI::mF::nH::nK::s49::mD::mg::lW::s53::mX::mQ::mP::mO::[]),[]⟩ w:=by
 conv in(dQ _ _)=>whnf
 unfold qX;have HK:=af hk;clear hk;refine jS (by kernel_rfl) [[],[],[1],[0,2],[],[],[],[5,6],[7],[],[8,9],[10],[4,11,3],[3,12,0,1,2,3],[12,13,0,1,2,3,4,5,6,7,8,9,10,11,12,13]] [0,1,2,3,4,5,6,7,8,9,10,11,12,13,14] (by kernel_rfl) (by kernel_rfl) (@RJ eg n ec k run eb was a1 a2 c1 c2 l1 l2 H1 H2 R H0 w0 s0 s1 s2 s4 s5 s6 s7 s8 s9 s15 s16 l9 kH kS s20 lF lC s23 s24 kZ s26 kW kR kY lu lJ lK lI lL lD s36 lY lX lW s53 mX mQ mP mO) ?_ ?_ ?_
 ·refine .mk (g2:=0) (HA:=H1) (g5:=0) (HB:=H2) rfl rfl ⟨by simpa[jl]using hM.drew,fun _=>rfl,fun _=>rfl,(fun e=>nomatch e),(fun e=>nomatch e),fun _=>e10,fun _=>e11⟩ ⟨nofun,nofun,nofun,nofun,nofun,nofun,nofun,nofun,nofun,nofun,nofun,nofun,nofun,nofun,nofun⟩
 ·rintro _ _ W ⟨rfl,rfl,HW,-,-,-,h3,-,-,-,-,-,-,-,-,h12,h13,JH⟩ hb;simp only[List.all_cons,List.all_nil,dO,kJ]at hb;obtain⟨rfl,rfl,rfl,rfl,rfl,rfl,rfl,rfl,rfl,rfl,rfl,rfl,rfl,rfl,rfl⟩:=hb;exact HK _ _ _ _ _ _ _ _ _ _ _ _ _ _ _ _ _ _ _ W HW (h3 rfl) (h12 rfl) (h13 rfl) (JH rfl)
 ·rintro _ _ W i @⟨_,_,b2,b3,_,_,_,_,_,_,_,b11,b12,b13,b14,_,_,_,_,_,_,_,_,_,_,_,_,_,u10,u11,g2,HA,g5,HB,rfl,rfl,HW,h0,h1,h2,h3,h4,h5,h6,h7,h8,h9,h10,h11,h12,h13,JH⟩ hi hi2 zp;have hi4:i=0∨i=2∨i=3∨i=4∨i=7∨i=8∨i=10∨i=11∨i=12∨i=13∨i=14∨i=1∨i=5∨i=6∨i=9:=(by have:i<15:=hi;omega);clear hi;rcases hi4 with rfl|rfl|rfl|rfl|rfl|rfl|rfl|rfl|rfl|rfl|rfl|rfl|rfl|rfl|rfl
  all_goals simp at hi2 zp;(repeat obtain⟨_,zp⟩:=zp);(try subst_vars);try simp only[bM,bI,aI]at h0 h1 h2 h3 h4 h5 h6 h7 h8 h9 h10 h11 h12 h13 JH
  all_goals try subst_vars
  all_goals refine jm rfl (fun K hK=>?_)
  ·have ajN:b13=F_:=by cases b13;rfl;exact absurd (h13 rfl).1.2 (by simp)
   have hv:u10=s_ a1 l1.length c1:=HW.2.2.2.2.2.1 ajN;subst hv;go_simp;refine hK _ _ (.mk rfl rfl HW ?_);and_intros<;>first|assumption|exact fun _=>rfl|(simp only[bM,bI,aI]<;>assumption)|exact fun e=>nomatch (h13 e).1.2
  ·have hb3:b3=F_:=by cases b3;rfl;exact absurd (HW.2.2.2.1 rfl) (by simp)
   have M9:=HW.1.alloc 3 #[i_ l_ run];go_simp;exact hK _ _ (.mk (g2:=W.heap.size) (HA:=HA) (g5:=g5) (HB:=HB) rfl rfl ⟨M9.O_,HW.2.1,HW.2.2.1,fun e=>rfl,HW.2.2.2.2.1,HW.2.2.2.2.2.1,HW.2.2.2.2.2.2⟩)
  ·obtain rfl:=HW.2.1 rfl;have ajN:b13=F_:=by cases b13;rfl;exact absurd (h13 rfl).1.1 (by simp)
   have hrow:=hrow1;have M9:Mv w0 H0 W (HA++(⟨g2,3,#[i_ l_ run]⟩::((oh b11 ⟨g5,3,#[i_ l_ (eb-was)]⟩++HB)++R))):=HW.1.O_;have IV9:IV W (s_ (S_ ⟨g2,0,N_⟩) 1 1) [run]:=jy.iv (H:=[⟨g2,3,#[i_ l_ run]⟩]) (dh.new 3 g2 1 #[i_ l_ (run)] rfl (by decide)) (M9.sat.sub (fun g=>by simp only[aP,bK,gI];omega) (fun c hc=>by simp only[ay,aC,bP,gQ]at hc⊢;exact .inr (.inl hc)));refine A8 rfl (.tmp 39) (.tmp 41) rfl (s_ a1 l1.length c1) (s_ (S_ ⟨g2,0,N_⟩) 1 1) l1 [run] HA (by simp[Act.eval]) (by simp[Act.eval]) hrow M9.sat.left IV9 (by simp only[List.length_cons,List.length_nil];omega) ?_;intro v9 w9 H9 r9 m9;have N9:=Mv.call M9 m9;refine hK _ _ (.mk (g2:=g2) (HA:=H9) (g5:=g5) (HB:=HB) rfl rfl ⟨N9.O_,(fun e=>nomatch e),HW.2.2.1,fun e=>rfl,HW.2.2.2.2.1,HW.2.2.2.2.2.1,HW.2.2.2.2.2.2⟩ ?_);and_intros<;>first|assumption|exact fun _=>rfl|(simp only[bM,bI,aI]<;>assumption)|exact fun _=>r9|exact fun e=>by rw[ajN]at e;cases e
  ·have ajM:b14=F_:=by cases b14;rfl;exact absurd (JH rfl).1.2 (by simp)
   have hv:u11=s_ a2 l2.length c2:=HW.2.2.2.2.2.2 ajM;subst hv;go_simp;refine hK _ _ (.mk rfl rfl HW ?_);and_intros<;>first|assumption|exact fun _=>rfl|(simp only[bM,bI,aI]<;>assumption)|exact fun e=>nomatch (JH e).1.2
  ·have e:(k:Int)<n:=by omega
   go_simp;exact hK _ _ (.mk rfl rfl HW)
  ·have e:=hRe W HW.1.sat.right.right.right.right;go_simp;exact hK _ _ (.mk rfl rfl HW)
  ·have e:IntKind.i64.wrap (eb-was)=eb-was:=fF _ (by omega);go_simp;exact hK _ _ (.mk rfl rfl HW)
  ·have anj:b12=F_:=by cases b12;rfl;exact absurd (HW.2.2.2.2.1 rfl) (by simp)
   have M9:=HW.1.alloc 3 #[i_ l_ (eb-was)];go_simp;exact hK _ _ (.mk (g2:=g2) (HA:=HA) (g5:=W.heap.size) (HB:=HB) rfl rfl ⟨M9.O_,HW.2.1,HW.2.2.1,HW.2.2.2.1,fun e=>rfl,HW.2.2.2.2.2.1,HW.2.2.2.2.2.2⟩)
  ·obtain rfl:=HW.2.2.1 rfl;have ajM:b14=F_:=by cases b14;rfl;exact absurd (JH rfl).1.1 (by simp)
   have hrow:=hrow2;have M9:Mv w0 H0 W (HB++(⟨g5,3,#[i_ l_ (eb-was)]⟩::((oh b2 ⟨g2,3,#[i_ l_ run]⟩++HA)++R))):=HW.1.O_;have IV9:IV W (s_ (S_ ⟨g5,0,N_⟩) 1 1) [eb-was]:=jy.iv (H:=[⟨g5,3,#[i_ l_ (eb-was)]⟩]) (dh.new 3 g5 1 #[i_ l_ (eb-was)] rfl (by decide)) (M9.sat.sub (fun g=>by simp only[aP,bK,gI];omega) (fun c hc=>by simp only[ay,aC,bP,gQ]at hc⊢;exact .inr (.inl hc)));refine A8 rfl (.tmp 43) (.tmp 50) rfl (s_ a2 l2.length c2) (s_ (S_ ⟨g5,0,N_⟩) 1 1) l2 [eb-was] HB (by simp[Act.eval]) (by simp[Act.eval]) hrow M9.sat.left IV9 (by simp only[List.length_cons,List.length_nil];omega) ?_;intro v9 w9 H9 r9 m9;have N9:=Mv.call M9 m9;refine hK _ _ (.mk (g2:=g2) (HA:=HA) (g5:=g5) (HB:=H9) rfl rfl ⟨N9.O_,HW.2.1,(fun e=>nomatch e),HW.2.2.2.1,fun e=>rfl,HW.2.2.2.2.2.1,HW.2.2.2.2.2.2⟩ ?_);and_intros<;>first|assumption|exact fun _=>rfl|(simp only[bM,bI,aI]<;>assumption)|exact fun _=>r9|exact fun e=>by rw[ajM]at e;cases e
  ·go_simp;refine hK _ _ (.mk rfl rfl ⟨HW.1,HW.2.1,HW.2.2.1,HW.2.2.2.1,HW.2.2.2.2.1,(fun e=>nomatch e),HW.2.2.2.2.2.2⟩ ?_);and_intros<;>first|assumption|exact fun _=>rfl|(simp only[bM,bI,aI]<;>assumption)|exact fun _=>⟨⟨rfl,rfl⟩,rfl⟩
  ·go_simp;refine hK _ _ (.mk rfl rfl ⟨HW.1,HW.2.1,HW.2.2.1,HW.2.2.2.1,HW.2.2.2.2.1,(fun e=>nomatch e),(fun e=>nomatch e)⟩ ?_);and_intros<;>first|assumption|exact fun _=>rfl|(simp only[bM,bI,aI]<;>assumption)|exact fun _=>⟨⟨rfl,rfl⟩,rfl⟩
  all_goals first|(go_simp;exact hK _ _ (.mk rfl rfl HW))
end
end
end Go.Proofs.YtjngfhgakokejaaGreat
