/- PacketReads: part 13. -/
import Derived.Test.YtjngfhgakokejaaGreatRq12
set_option maxRecDepth 100000
set_option maxHeartbeats 8000000
set_option linter.all false
namespace Go.Proofs.YtjngfhgakokejaaGreat
open Value renaming int→i_,slice→s_,pointer→p_,bool→b_,agg→g_,tuple→t_
open IntKind renaming i64→l_
open Ending renaming returned→r_
open Tryz renaming prog→P_
open Option renaming some→S_,none→N_
open Bool renaming true→T_,false→F_
variable{s0 s1 s2 s3 s4 s5 s6 s7 s8 s9 s10 s11 s12 s13 s14 s15 l9 kH kS s20 s24 kZ s26 kW kR kY lu lJ lK lI lL lD s36 lY lX mG ni mZ mY s43 s44 nI mF nH nK s49 mD mg lW s53 mX mQ mP mO nX nJ oU oQ pO qW qN qV rD rC s68 rM rJ sN s72 sK sJ ry ru rf s78 qZ rH rG s82 s83 uk uj xI s87 xH xG xF xE xn xk xC xA xy xw xR zl oK oJ nT nS qj qh pY pX pG pF oI oH o9 oG nP nO nN nM oZ oW oV wK wJ wI wH wG wF wC wB wu vY vX vW uO yL yK yJ yI yH yG x9 Fa E9 E8 E5 EY EX EW EU EL EJ EG ED Ez Ey Gm IY IX IW IU IQ IP IL IK GK GI GH Jn Jm Gl Gj Gi s16 lF lC s23:Value}
section
structure als(s:og):Prop where
 pl:s.ps.length≠0→1≤s.pl∧s.pl≤30
 np:s.ps.length≤100
 lb:0≤s.lb
 ends:∀p∈s.ps,0≤p.1∧p.1≤100000000
structure Ce(m:aT):Prop where
 r:AQ m
 tr:m.ss.length≠0→kE m.first m.ss.length∧kE m.dA m.ss.length
 ss:∀s∈m.ss,als s
theorem Qg(l:List UInt8)(m:aT)(s:og)(k aB:Nat)(r:jG)(h8:r.left≤8)(hl:aB≤100)(hk:k<m.ss.length)(g:Ce m):Ce (nV l m s k aB r).1∧(nV l m s k aB r).1.ss=m.ss∧(nV l m s k aB r).2.2.left≤8∧(nV l m s k aB r).2.2.begun≤r.begun+2020:=by
 obtain⟨t1,t2⟩:=g.tr (by omega);obtain⟨i1,i2,i3,i4⟩:=Tt l m s k aB r h8 t1.2.2.2.2 hl g.r;refine⟨⟨i1,fun h=>?_,by rw[i2];exact g.ss⟩,i2,i3,i4⟩;rw[i2];unfold nV;split
 ·exact⟨Fz _ _ t1,t2⟩
 ·exact⟨t1,t2⟩
theorem Ll(l:List UInt8)(aH:Int)(k n:Nat):∀(f:Nat) (i:Int) (T:List bV) (r:jG),kE T n→kE (beginGo l aH k f i T r).1 n
 |0,_,_,_,h=>h
 |f+1,i,T,r,h=>by
  rw[FN];split
  ·exact Fz _ _ h
  ·exact Ll l aH k n f _ _ _ (Fz _ _ h)
theorem aco(l:List UInt8)(x:dF)(lb:Nat)(ah f t:Nat)(r:jG)(hft:f<t)(ht:t≤1000):xY (pcGo l x lb (jT (dV ah f t)) r).1=t-f:=by
 have hnn:∀e∈jT (dV ah f t),0≤e:=by intro e he;obtain⟨i,hi,rfl⟩:=wV he;have:=(Ko ah f t ht i).1;rw[ax,ai hi]at this;exact this
 have h1:=UG l x lb (jT (dV ah f t)) r hnn;have h2:(jT (dV ah f t)).sum=(t:Int)-f:=by obtain⟨n,hn⟩:∃n,t-f=n+1:=⟨t-f-1,by omega⟩;unfold dV;rw[hn];exact Qc ah t n f f (by omega) (aN _)
 have h3:∀L:List yx,((L.map fun q=>(q.p:Int)).sum)=((xY L:Nat):Int):=by
  intro L
  induction L with
  |nil=>rfl
  |cons q L ih=>
   rw[bJ,List.sum_cons,ih];have:xY (q::L)=q.p+xY L:=by simp[xY]
   rw[this];push_cast;rfl
 have h4:=h3 (pcGo l x lb (jT (dV ah f t)) r).1;rw[h1,h2]at h4;omega
theorem Zp{l:List UInt8}{ah:Nat}{m:aT}{d:bu}{k:Nat}{s:og}{r:jG}(h8:r.left≤8)(g:Ce m)(hs:m.ss[k]?=S_ s){q:aT×List yx×jG}(h:readM l ah m d k s r=S_ q):Ce q.1∧q.2.2.left≤8∧q.2.2.begun≤r.begun+80000∧(∃s',q.1.ss=m.ss.set k s'∧s'.ps=s.ps∧s'.bs=s.bs∧1≤s'.pl∧s'.pl≤30∧((s.ps.length+xY q.2.1:Nat):Int)≤3*s'.pl-2)∧(∀p∈q.2.1,p.x=⟨d,k⟩∧p.n<4294967296)∧q.2.1.length≤200:=by
 have hk:=(aj.1 hs).1;obtain⟨t1,t2⟩:=g.tr (by omega);have gs:=g.ss s (aF hs);have hI:=Sl h8 t2.2.2.2.2 g.r hs gs.lb h;obtain⟨⟨m1,s1,r1,o⟩,hA⟩:∃t,readA l m k s r=t:=⟨_,rfl⟩;obtain⟨a1,a2,a3,a4,a5,a6,a7,a8,a9,a10⟩:=Sm h8 t2.2.2.2.2 g.r hs hA;have hz:kE m1.dA m.ss.length:=by
  unfold readA at hA;split at hA
  ·simp only[fK]at hA;rw[←hA.1];exact Ll l m.aH k _ _ _ _ _ t2
  ·simp only[fK]at hA;rw[←hA.1];exact t2
 have hpl:o=T_→1≤s1.pl∧s1.pl≤30:=by
  intro ho;unfold readA at hA;split at hA
  ·simp only[fK]at hA;obtain⟨-,h2,-,h4⟩:=hA;rw[ho]at h4;rw[←h2];cases hq:(vK l m k r).2.1 with
   |none=>rw[hq]at h4;simp[Cb]at h4
   |some p=>rw[hq]at h4;simp only[Cb,dO,jF]at h4;exact h4
  ·rename_i h0;simp only[fK]at hA;rw[←hA.2.1];exact gs.pl h0
 rw[GX l ah m d k s r hA]at h;split at h
 ·cases h
 ·rename_i ho;have ho1:o=T_:=by cases o;exact absurd rfl ho;rfl
  obtain⟨p1,p2⟩:=hpl ho1;unfold readB at h;split at h
  ·cases h
  ·rename_i hb;obtain⟨u1,u2,u3,u4⟩:=Io l r1 a8;obtain⟨⟨lo,r3⟩,hlo⟩:∃t,lbGo l (25-s1.lb.toNat) s1.lb.toNat (pM l r1).2=t:=⟨_,rfl⟩;rw[hlo]at h;cases lo with
   |none=>cases h
   |some lb=>
    simp only[readC,dG]at h;subst h;have hsum:=aco l ⟨d,k⟩ lb ah s1.ps.length (s1.ps.length+(pM l r1).1) r3 (by omega) (by omega);rw[show s1.ps.length+(pM l r1).1-s1.ps.length=(pM l r1).1 by omega]at hsum;have e1:m1.ss.set k {s1 with lb:=(lb:Int)}=m.ss.set k {s1 with lb:=(lb:Int)}:=by rw[a3,jo]
    refine⟨⟨hI.1,fun _=>?_,fun x hx=>?_⟩,hI.2.1,hI.2.2.1,⟨{s1 with lb:=(lb:Int)},e1,a4,a5,p1,p2,?_⟩,fun p hp=>?_,by have:=hI.2.2.2;simp only at this⊢;omega⟩
    ·simp only[fC,a3,a10];exact⟨t1,hz⟩
    ·rw[e1]at hx;rcases cZ hx with hx|rfl
     ·exact g.ss x hx
     ·exact⟨fun _=>⟨p1,p2⟩,by simp only;rw[a4];exact gs.np,by simp only;omega,by simp only;rw[a4];exact gs.ends⟩
    ·simp only;rw[hsum,←a4];omega
    ·have hin:=aad l ⟨d,k⟩ lb (jT (dV ah s1.ps.length (s1.ps.length+(pM l r1).1))) r3 p hp;have LI:=G9 l (25-s1.lb.toNat) s1.lb.toNat (pM l r1).2 u3 (by have:=g.r.ss s (aF hs);rw[a6];omega);rw[hlo]at LI;have:=(J5 l ⟨d,k⟩ lb (jT (dV ah s1.ps.length (s1.ps.length+(pM l r1).1))) r3 LI.1).2.2.2 p hp;exact⟨hin,this.2⟩
def CU(l:List UInt8)(ah aB:Nat)(S:tJ×List qU)(x:dF):Option (tJ×List qU):=match(S.1.M x.d.bb).ss[x.k]? with
 |none=>S_ S
 |some s=>if(nV l (S.1.M x.d.bb) s x.k aB S.1.rd).2.1=F_ then S_ (⟨ou S.1.M x.d.bb (nV l (S.1.M x.d.bb) s x.k aB S.1.rd).1,S.1.out,(nV l (S.1.M x.d.bb) s x.k aB S.1.rd).2.2⟩,S.2)else(readM l ah (nV l (S.1.M x.d.bb) s x.k aB S.1.rd).1 x.d x.k s (nV l (S.1.M x.d.bb) s x.k aB S.1.rd).2.2).map fun q=>(⟨ou S.1.M x.d.bb q.1,S.1.out++q.2.1,q.2.2⟩,S.2++[⟨x,q.2.1⟩])
theorem aa2(l:List UInt8)(ah aB:Nat)(S:tJ×List qU)(x:dF):(CU l ah aB S x).map (·.1)=stepD l ah aB S.1 x:=by
 unfold CU stepD;cases(S.1.M x.d.bb).ss[x.k]? with
 |none=>rfl
 |some s=>
  simp only;split
  ·rfl
  ·rw[Option.map_map];rfl
def vI(l:List UInt8)(ah aB:Nat)(o:Option (tJ×List qU))(L:List dF):Option (tJ×List qU):=L.foldl (fun o x=>o.bind fun S=>CU l ah aB S x) o
theorem Jw(l:List UInt8)(ah aB:Nat)(o:Option (tJ×List qU))(L:List dF)(x:dF):vI l ah aB o (L++[x])=(vI l ah aB o L).bind fun S=>CU l ah aB S x:=by unfold vI;rw[dP];rfl
theorem Jy(l:List UInt8)(ah aB:Nat):∀L:List dF,vI l ah aB N_ L=N_
 | []=>rfl
 |_::L=>Jy l ah aB L
theorem acZ(l:List UInt8)(ah aB:Nat)(o:Option (tJ×List qU))(A B:List dF):vI l ah aB o (A++B)=vI l ah aB (vI l ah aB o A) B:=by unfold vI;rw[dP]
theorem UW{l:List UInt8}{ah aB:Nat}{o:Option (tJ×List qU)}{A L:List dF}(h:A<+:L)(hn:vI l ah aB o A=N_):vI l ah aB o L=N_:=by obtain⟨B,rfl⟩:=h;rw[acZ,hn,Jy]
theorem TE(l:List UInt8)(ah aB:Nat):∀(L:List dF) (o:Option (tJ×List qU)),(vI l ah aB o L).map (·.1)=uG l ah aB (o.map (·.1)) L
 | [],_=>rfl
 |x::L,o=>by
  have e1:vI l ah aB o (x::L)=vI l ah aB (o.bind fun S=>CU l ah aB S x) L:=rfl;have e2:uG l ah aB (o.map (·.1)) (x::L)=uG l ah aB ((o.map (·.1)).bind fun S=>stepD l ah aB S x) L:=rfl;rw[e1,e2,TE l ah aB L];congr 1;cases o with
  |none=>rfl
  |some S=>exact aa2 l ah aB S x
def AA(l:List UInt8)(ah aB:Nat)(D:List bu)(M:Nat→aT)(r:jG):Option (tJ×List qU):=if(eY l r).1=1 then vI l ah aB (S_ (⟨M,[],(eY l r).2⟩,[])) (aX D)else S_ (⟨M,[],(eY l r).2⟩,[])
theorem Tv(l:List UInt8)(ah aB:Nat)(D:List bu)(M:Nat→aT):(AA l ah aB D M oL).map (·.1)=headD l ah aB D M:=by
 unfold AA headD;split
 ·exact TE l ah aB _ _
 ·rfl
def yM(x:dF):Nat×Nat:=(x.d.bb,x.k)
structure FW(D:List bu)(B X:Nat)(pre:List dF)(S:tJ×List qU):Prop where
 good:∀d∈D,Ce (S.1.M d.bb)∧(S.1.M d.bb).ss.length=d.n∧∀s∈(S.1.M d.bb).ss,s.bs.length≤X
 h8:S.1.rd.left≤8
 bg:S.1.rd.begun≤B+83000*pre.length
 out:S.1.out=S.2.flatMap qU.pcs
 qs:∀q∈S.2,q.x∈pre∧q.ok∧(q.pcs.length≤200∧∀p∈q.pcs,p.n<4294967296)∧∃s,(S.1.M q.x.d.bb).ss[q.x.k]?=S_ s∧1≤s.pl∧s.pl≤30∧((s.ps.length+xY q.pcs:Nat):Int)≤3*s.pl-2
 nd:(S.2.map fun q=>yM q.x).Nodup
 few:S.2.length≤pre.length
theorem aaA(a b B n e:Nat)(he:e≤83000)(h:a≤b+e)(hb:b≤B+83000*n):a≤B+83000*(n+1):=by omega
theorem FW.step{D:List bu}{B X:Nat}{pre:List dF}{S S':tJ×List qU}(h:FW D B X pre S){x:dF}(hx:x.d∈D)(hk:x.k<x.d.n)(hf:∀y∈pre,yM y≠yM x){l:List UInt8}{ah aB:Nat}(hl:aB≤100)(e:CU l ah aB S x=S_ S'):FW D B X (pre++[x]) S':=by
 obtain⟨g,gl,gb⟩:=h.good x.d hx;obtain⟨s,hs⟩:∃s,(S.1.M x.d.bb).ss[x.k]?=S_ s:=⟨_,ai (by rw[gl];exact hk)⟩;obtain⟨h1,h2,h3,h4⟩:=Qg l (S.1.M x.d.bb) s x.k aB S.1.rd h.h8 hl (by rw[gl];exact hk) g;have hbg:=h.bg;have hlen:(pre++[x]).length=pre.length+1:=by simp
 have amj:(nV l (S.1.M x.d.bb) s x.k aB S.1.rd).2.2.begun≤B+83000*(pre++[x]).length:=by rw[hlen];exact aaA _ _ _ _ 2020 (by decide) h4 hbg
 unfold CU at e;simp only[hs]at e;split at e
 ·cases e;refine⟨fun d hd=>?_,h3,amj,h.out,fun q hq=>?_,h.nd,by have:=h.few;rw[hlen];simp only;omega⟩
  ·by_cases hb:d.bb=x.d.bb
   ·obtain⟨i1,i2,i3⟩:=h.good d hd;simp only[hb,jX];rw[hb]at i2 i3;exact⟨h1,by rw[h2];exact i2,by rw[h2];exact i3⟩
   ·simp only[kQ _ _ hb];exact h.good d hd
  ·obtain⟨q1,q2,q3,t,q4,q5⟩:=h.qs q hq;refine⟨cu _ q1,q2,q3,t,?_,q5⟩;by_cases hb:q.x.d.bb=x.d.bb
   ·simp only[hb,jX,h2];rw[←hb];exact q4
   ·simp only[kQ _ _ hb];exact q4
 ·obtain⟨q,hq,rfl⟩:=iU.1 e;have hs1:(nV l (S.1.M x.d.bb) s x.k aB S.1.rd).1.ss[x.k]?=S_ s:=by rw[h2];exact hs
  obtain⟨r1,r2,r3,⟨s',r4,r5,r6,r7⟩,r8,r9⟩:=Zp h3 h1 hs1 hq;rw[h2]at r4;have hkl:=(aj.1 hs).1;have ami:q.2.2.begun≤B+83000*(pre++[x]).length:=by rw[hlen];exact aaA _ _ _ _ 82020 (by decide) (by omega) hbg
  refine⟨fun d hd=>?_,r2,ami,?_,fun p hp=>?_,?_,by have:=h.few;rw[hlen,au,List.length_singleton];omega⟩
  ·by_cases hb:d.bb=x.d.bb
   ·obtain⟨i1,i2,i3⟩:=h.good d hd;simp only[hb,jX];rw[hb]at i2 i3;refine⟨r1,by rw[r4,fC];exact i2,fun t ht=>?_⟩;rw[r4]at ht;rcases cZ ht with ht|rfl
    ·exact i3 t ht
    ·rw[r6];exact i3 s (aF hs)
   ·simp only[kQ _ _ hb];exact h.good d hd
  ·simp only[gX,dE,List.flatMap_nil,dD,h.out]
  ·rcases ay.1 hp with hp|hp
   ·obtain⟨q1,q2,q3,t,q4,q5⟩:=h.qs p hp;refine⟨cu _ q1,q2,q3,t,?_,q5⟩;have hne:=hf p.x q1;by_cases hb:p.x.d.bb=x.d.bb
    ·have hkk:x.k≠p.x.k:=fun e=>hne (by unfold yM;rw[hb,e]);simp only[hb,jX,r4];rw[oC hkk,←hb];exact q4
    ·simp only[kQ _ _ hb];exact q4
   ·rw[fJ]at hp;subst hp;refine⟨aS _ aG,fun p hp=>(r8 p hp).1,⟨r9,fun p hp=>(r8 p hp).2⟩,s',?_,r7.1,r7.2.1,?_⟩
    ·simp only[jX,r4];exact dJ hkl
    ·rw[r5];exact r7.2.2
  ·rw[bU,lQ];refine⟨h.nd,by simp,fun a ha b hb=>?_⟩;obtain⟨p,hp,rfl⟩:=bW.1 ha;simp only[bJ,gW,fJ]at hb;subst hb;exact hf p.x (h.qs p hp).1
theorem FW.start{D:List bu}{X:Nat}{M:Nat→aT}{r:jG}(h:∀d∈D,Ce (M d.bb)∧(M d.bb).ss.length=d.n∧∀s∈(M d.bb).ss,s.bs.length≤X)(h8:r.left≤8):FW D r.begun X [] (⟨M,[],r⟩,[]):=⟨h,h8,Nat.le_add_right _ _,rfl,(fun q hq=>by cases hq),List.nodup_nil,aN _⟩
theorem VB{l:List UInt8}{ah aB:Nat}{S:tJ×List qU}{d:bu}{k:Nat}{s:og}(hs:(S.1.M d.bb).ss[k]?=S_ s){m1:aT}{r2:jG}(h:nV l (S.1.M d.bb) s k aB S.1.rd=(m1,F_,r2)):CU l ah aB S ⟨d,k⟩=S_ (⟨ou S.1.M d.bb m1,S.1.out,r2⟩,S.2):=by unfold CU;simp only[hs,h,ji]
theorem OT{l:List UInt8}{ah aB:Nat}{S:tJ×List qU}{d:bu}{k:Nat}{s:og}(hs:(S.1.M d.bb).ss[k]?=S_ s){m1:aT}{r2:jG}(h:nV l (S.1.M d.bb) s k aB S.1.rd=(m1,T_,r2)):CU l ah aB S ⟨d,k⟩=(readM l ah m1 d k s r2).map fun q=>(⟨ou S.1.M d.bb q.1,S.1.out++q.2.1,q.2.2⟩,S.2++[⟨⟨d,k⟩,q.2.1⟩]):=by unfold CU;simp only[hs,h,Bool.true_eq_false,iJ]
theorem aa6{D:List bu}{i:Nat}{d:bu}(hd:D[i]?=S_ d){k:Nat}(hk:k<d.n):(aX (D.take i)++(List.range k).map (fun j=>(⟨d,j⟩:dF)))++[⟨d,k⟩]<+:aX D:=by
 have h3:aX D=aX (D.take (i+1))++aX (D.drop (i+1)):=by unfold aX;rw[←gX,iP]
 have eN:(List.range d.n).map (fun j=>(⟨d,j⟩:dF))=((List.range k).map (fun j=>(⟨d,j⟩:dF))++[⟨d,k⟩])++((List.range' (k+1) (d.n-(k+1))).map (fun j=>(⟨d,j⟩:dF))):=by
  have e1:(List.range k).map (fun j=>(⟨d,j⟩:dF))++[⟨d,k⟩]=(List.range (k+1)).map (fun j=>(⟨d,j⟩:dF)):=by rw[fO,bU];rfl
  rw[e1,←bU];congr 1;have h9:=List.range'_append_1 (s:=0) (m:=k+1) (n:=d.n-(k+1));rw[dH,show k+1+(d.n-(k+1))=d.n by omega]at h9;rw[List.range_eq_range',List.range_eq_range',h9]
 rw[h3,su hd,eN];exact⟨((List.range' (k+1) (d.n-(k+1))).map (fun j=>(⟨d,j⟩:dF)))++aX (D.drop (i+1)),by simp only[az]⟩
theorem TD{D:List bu}(hn:(D.map (·.bb)).Nodup){B X:Nat}{l:List UInt8}{ah aB:Nat}(hl:aB≤100):∀(L pre:List dF) (S S':tJ×List qU),FW D B X pre S→(∀x∈L,x.d∈D∧x.k<x.d.n)→((pre++L).map yM).Nodup→vI l ah aB (S_ S) L=S_ S'→FW D B X (pre++L) S'
 | [],pre,S,S',h,_,_,e=>by cases e;rw[dD];exact h
 |x::L,pre,S,S',h,hL,hnd,e=>by
  have e1:vI l ah aB (S_ S) (x::L)=vI l ah aB (CU l ah aB S x) L:=rfl;rw[e1]at e;cases hx:CU l ah aB S x with
  |none=>rw[hx,Jy]at e;cases e
  |some S1=>
   rw[hx]at e;have hx1:=hL x aG;have e2:pre++x::L=(pre++[x])++L:=by simp
   rw[e2]at hnd⊢;have hf:∀y∈pre,yM y≠yM x:=by intro y hy;rw[bU,bU]at hnd;have h1:=(lQ.1 hnd).1;exact(lQ.1 h1).2.2 _ (bW.2 ⟨y,hy,rfl⟩) _ (by simp)
   exact TD hn hl L (pre++[x]) S1 S' (h.step hx1.1 hx1.2 hf hl hx) (fun y hy=>hL y (aU _ hy)) hnd e
theorem Gx:∀{D:List bu},(D.map (·.bb)).Nodup→((aX D).map yM).Nodup
 | [],_=>List.nodup_nil
 |d::D,hn=>by
  rw[bJ,mf]at hn;have e:aX (d::D)=(List.range d.n).map (fun j=>(⟨d,j⟩:dF))++aX D:=rfl;rw[e,bU,lQ];refine⟨?_,Gx hn.2,?_⟩
  ·rw[jc];rw[List.Nodup,List.pairwise_map];refine List.Pairwise.imp ?_ (List.nodup_range (n:=d.n));intro a b hab hh;simp only[Function.comp,yM,fK]at hh;exact hab hh.2
  ·intro a ha b hb hab;rw[jc,bW]at ha;obtain⟨j,-,rfl⟩:=ha;obtain⟨y,hy,rfl⟩:=bW.1 hb;have hy2:=(qH hy).1;simp only[Function.comp,yM,fK]at hab;exact hn.1 (by rw[hab.1];exact bW.2 ⟨y.d,hy2,rfl⟩)
theorem MN{D:List bu}(hn:(D.map (·.bb)).Nodup){X:Nat}{M:Nat→aT}(h:∀d∈D,Ce (M d.bb)∧(M d.bb).ss.length=d.n∧∀s∈(M d.bb).ss,s.bs.length≤X){l:List UInt8}{ah aB:Nat}(hl:aB≤100){S:tJ×List qU}(e:AA l ah aB D M oL=S_ S):FW D 1 X (aX D) S:=by
 have h8:=jD l oL (by simp[oL]);have hb:(eY l oL).2.begun≤1:=by have:=h8.2.2;simpa[oL]using this
 have h0:=FW.start (X:=X) h h8.2.1;have h1:FW D 1 X [] (⟨M,[],(eY l oL).2⟩,[]):=⟨h0.good,h0.h8,by simp only[List.length_nil];omega,h0.out,h0.qs,h0.nd,h0.few⟩;unfold AA at e;split at e
 ·have:=TD hn hl (aX D) [] _ _ h1 (fun x hx=>qH hx) (by rw[List.nil_append];exact Gx hn) e;exact this
 ·cases e;exact⟨h1.good,h1.h8,by simp only;omega,h1.out,(fun q hq=>by cases hq),h1.nd,aY _⟩
theorem VF{D:List bu}(hn:(D.map (·.bb)).Nodup){i:Nat}{d:bu}(hd:D[i]?=S_ d)(k:Nat):∀y∈aX (D.take i)++(List.range k).map (fun j=>(⟨d,j⟩:dF)),yM y≠yM ⟨d,k⟩:=by have h:=Jf hn hd k;intro y hy e;unfold qQ at h;rw[List.any_eq_false]at h;have h1:=h y hy;unfold yM at e;simp only[fK]at e;exact h1 (by simp[e.1,e.2])
theorem Nb(ah:Nat):∀(pcs:List yx) (a:Nat) (ps:List (Int×Bool)),a+qR pcs≤100000000→(∀q∈ps,0≤q.1∧q.1≤100000000)→(docPs ah a pcs ps).length=ps.length+xY pcs∧∀q∈docPs ah a pcs ps,0≤q.1∧q.1≤100000000
 | [],a,ps,_,h=>⟨rfl,h⟩
 |q::qs,a,ps,ha,h=>by
  have eP:xY (q::qs)=q.p+xY qs:=by simp[xY]
  have eN:qR (q::qs)=q.n+qR qs:=by simp[qR]
  obtain⟨h1,h2⟩:=Jp ah (a+q.n) (by omega) q.p ps h;obtain⟨h3,h4⟩:=Nb ah qs (a+q.n) (uP ah (a+q.n) q.p ps) (by omega) h2;exact⟨by show(docPs ah (a+q.n) qs _).length=_;rw[h3,h1,eP];omega,h4⟩
theorem Yd{m:aT}{k:Nat}{s:og}(g:Ce m)(hs:m.ss[k]?=S_ s)(ah:Nat)(pcs:List yx)(data:List UInt8)(h1:1≤s.pl∧s.pl≤30)(hp:((s.ps.length+xY pcs:Nat):Int)≤3*s.pl-2)(hb:s.bs.length+qR pcs≤100000000):Ce (takeD m k ah pcs data)∧(takeD m k ah pcs data).ss=m.ss.set k (AX ah s pcs data):=by
 have gs:=g.ss s (aF hs);have gr:=g.r.ss s (aF hs);have hI:=Nb ah pcs s.bs.length s.ps hb gs.ends;have e:takeD m k ah pcs data={m with ss:=m.ss.set k (AX ah s pcs data)}:=by unfold takeD;rw[hs]
 rw[e];refine⟨⟨⟨g.r.pl,g.r.nn,fun x hx=>?_⟩,fun h=>?_,fun x hx=>?_⟩,rfl⟩
 ·rcases cZ hx with hx|rfl
  ·exact g.r.ss x hx
  ·exact gr
 ·simp only[fC]at h⊢;exact g.tr h
 ·rcases cZ hx with hx|rfl
  ·exact g.ss x hx
  ·exact⟨fun _=>h1,by show(docPs ah s.bs.length pcs s.ps).length≤100;rw[hI.1];omega,gs.lb,hI.2⟩
structure QI(D:List bu)(l:List UInt8)(X:Nat)(Q:List qU)(M:Nat→aT)(n:Nat):Prop where
 good:∀d∈D,Ce (M d.bb)∧(M d.bb).ss.length=d.n∧∀s∈(M d.bb).ss,s.bs.length+(l.length-n)≤X
 qs:∀q∈Q,q.x.d∈D∧q.x.k<q.x.d.n∧q.ok∧(q.pcs.length≤200∧∀p∈q.pcs,p.n<4294967296)∧∃s,(M q.x.d.bb).ss[q.x.k]?=S_ s∧1≤s.pl∧s.pl≤30∧((s.ps.length+xY q.pcs:Nat):Int)≤3*s.pl-2
 nd:(Q.map fun q=>yM q.x).Nodup
theorem QI.step{D:List bu}{l:List UInt8}{X:Nat}{q:qU}{Q:List qU}{M:Nat→aT}{n:Nat}(h:QI D l X (q::Q) M n)(hX:X≤100000000)(hn:n≤l.length)(hc:¬l.length-n<qR q.pcs)(ah:Nat):QI D l X Q (ou M q.x.d.bb (takeD (M q.x.d.bb) q.x.k ah q.pcs ((l.drop n).take (qR q.pcs)))) (n+qR q.pcs):=by
 obtain⟨a1,a2,a3,a4,s,a5,a6,a7,a8⟩:=h.qs q aG;obtain⟨g1,g2,g3⟩:=h.good q.x.d a1;have hb:=g3 s (aF a5);obtain⟨t1,t2⟩:=Yd g1 a5 ah q.pcs ((l.drop n).take (qR q.pcs)) ⟨a6,a7⟩ a8 (by omega);have hnd:=h.nd;rw[bJ,mf]at hnd;have hdl:((l.drop n).take (qR q.pcs)).length=qR q.pcs:=by rw[bT,fH];omega
 refine⟨fun d hd=>?_,fun p hp=>?_,hnd.2⟩
 ·by_cases hb:d.bb=q.x.d.bb
  ·obtain⟨i1,i2,i3⟩:=h.good d hd;rw[hb]at i2 i3;simp only[hb,jX];refine⟨t1,by rw[t2,fC];exact i2,fun t ht=>?_⟩;rw[t2]at ht;rcases cZ ht with ht|rfl
   ·have:=i3 t ht;omega
   ·show(s.bs++_).length+_≤X;rw[au,hdl];omega
  ·simp only[kQ _ _ hb];obtain⟨i1,i2,i3⟩:=h.good d hd;exact⟨i1,i2,fun t ht=>by have:=i3 t ht;omega⟩
 ·obtain⟨b1,b2,b3,b4,t,b5,b6⟩:=h.qs p (aU _ hp);refine⟨b1,b2,b3,b4,t,?_,b6⟩;have hne:yM p.x≠yM q.x:=fun e=>hnd.1 (by rw[←e];exact bW.2 ⟨p,hp,rfl⟩);by_cases hb:p.x.d.bb=q.x.d.bb
  ·have hkk:q.x.k≠p.x.k:=fun e=>hne (by unfold yM;rw[hb,e]);simp only[hb,jX,t2];rw[oC hkk,←hb];exact b5
  ·simp only[kQ _ _ hb];exact b5
theorem QI.all{D:List bu}{l:List UInt8}{X:Nat}(hX:X≤100000000)(ah:Nat):∀{Q:List qU} {M:Nat→aT} {n:Nat},QI D l X Q M n→n≤l.length→∀n',(Vo l ah Q M n).2=S_ n'→(∀d∈D,Ce ((Vo l ah Q M n).1 d.bb)∧((Vo l ah Q M n).1 d.bb).ss.length=d.n∧∀s∈((Vo l ah Q M n).1 d.bb).ss,s.bs.length≤X)∧n'≤l.length
 | [],M,n,h,hn,n',e=>by have e1:n=n':=iL e;subst e1;exact⟨fun d hd=>by obtain⟨i1,i2,i3⟩:=h.good d hd;exact⟨i1,i2,fun s hs=>by have:=i3 s hs;omega⟩,hn⟩
 |q::Q,M,n,h,hn,n',e=>by
  rw[J3]at e⊢;by_cases hc:l.length-n<qR q.pcs
  ·rw[aK hc]at e;cases e
  ·rw[aJ hc]at e⊢;exact QI.all hX ah (h.step hX hn hc ah) (by omega) n' e
def XW(qs:List yx)(b k:Nat):Nat:=xY (qs.filter fun q=>q.x.d.bb==b && q.x.k==k)
theorem Gy(q:yx)(qs:List yx)(b k:Nat):XW (q::qs) b k=(if q.x.d.bb=b∧q.x.k=k then q.p else 0)+XW qs b k:=by
 unfold XW;rw[List.filter_cons];by_cases h:q.x.d.bb=b∧q.x.k=k
 ·rw[aK h,aK (by simp[h.1,h.2])];simp[xY]
 ·rw[aJ h,aJ (by simpa using h)];omega
theorem aai(D:List bu)(l:List UInt8)(ah:Nat):∀(qs:List yx) (M:Nat→aT) (n:Nat),(∀q∈qs,q.x.d∈D∧q.x.k<q.x.d.n∧q.n<4294967296∧q.p≤1000)→(∀d∈D,∀(k:Nat) (s:og),(M d.bb).ss[k]?=S_ s→s.ps.length+XW qs d.bb k≤1000∧s.bs.length+(l.length-n)+l.length≤10000000∧∀p∈s.ps,0≤p.1∧p.1≤100000000)→WH D l ah qs M n
 | [],_,_,_,_=>trivial
 |q::qs,M,n,hq,hM=>by
  obtain⟨a1,a2,a3,a4⟩:=hq q aG;refine⟨⟨a1,a2,a4,a3,fun s hs=>?_⟩,?_⟩
  ·obtain⟨b1,b2,-⟩:=hM q.x.d a1 q.x.k s hs;rw[Gy,aK ⟨rfl,rfl⟩]at b1;omega
  ·refine aai D l ah qs _ _ (fun x hx=>hq x (aU _ hx)) fun d hd k s hs=>?_;by_cases hb:d.bb=q.x.d.bb
   ·rw[hb,jX]at hs;unfold takeB at hs;cases h0:(M q.x.d.bb).ss[q.x.k]? with
    |none=>rw[h0]at hs;simp only at hs;rw[←hb]at hs;obtain⟨b1,b2,b3⟩:=hM d hd k s hs;rw[Gy]at b1;exact⟨by omega,by omega,b3⟩
    |some s0=>
     rw[h0]at hs;simp only at hs;by_cases hk:q.x.k=k
     ·subst hk;rw[dJ (aj.1 h0).1]at hs;cases iL hs;rw[←hb]at h0;obtain⟨b1,b2,b3⟩:=hM d hd q.x.k s0 h0;rw[Gy,aK ⟨hb.symm,rfl⟩]at b1;have hdl:((l.drop n).take q.n).length≤min q.n (l.length-n):=by rw[bT,fH];omega
      have hp:=Jp ah (s0.bs++(l.drop n).take q.n).length (by rw[au];omega) q.p s0.ps b3;unfold OL;simp only[au]at hp⊢;exact⟨by rw[hp.1];omega,by omega,hp.2⟩
     ·rw[oC hk,←hb]at hs;obtain⟨b1,b2,b3⟩:=hM d hd k s hs;rw[Gy]at b1;exact⟨by omega,by omega,b3⟩
   ·rw[kQ _ _ hb]at hs;obtain⟨b1,b2,b3⟩:=hM d hd k s hs;rw[Gy]at b1;exact⟨by omega,by omega,b3⟩
theorem Yq(a b:List yx)(x k:Nat):XW (a++b) x k=XW a x k+XW b x k:=by unfold XW;rw[List.filter_append,VA]
theorem agK(pcs:List yx)(b k:Nat)(h:∀p∈pcs,p.x.d.bb=b∧p.x.k=k):XW pcs b k=xY pcs:=by unfold XW;rw[List.filter_eq_self.2 fun p hp=>by simp[h p hp]]
theorem ad3(pcs:List yx)(b k:Nat)(h:∀p∈pcs,¬(p.x.d.bb=b∧p.x.k=k)):XW pcs b k=0:=by unfold XW;rw[List.filter_eq_nil_iff.2 fun p hp=>by simpa using h p hp];rfl
theorem VG(b k:Nat):∀(Q:List qU),(∀q∈Q,q.ok)→(Q.map fun q=>yM q.x).Nodup→(∀q∈Q,yM q.x=(b,k)→XW (Q.flatMap qU.pcs) b k=xY q.pcs)∧((∀q∈Q,yM q.x≠(b,k))→XW (Q.flatMap qU.pcs) b k=0)
 | [],_,_=>⟨(fun q hq=>by cases hq),fun _=>rfl⟩
 |p::Q,h,hn=>by
  rw[bJ,mf]at hn;obtain⟨i1,i2⟩:=VG b k Q (fun q hq=>h q (aU _ hq)) hn.2;have hp:=h p aG;rw[dE,Yq];have e1:yM p.x=(b,k)→XW p.pcs b k=xY p.pcs:=by intro e;simp only[yM,fK]at e;exact agK _ _ _ fun x hx=>by rw[hp x hx];exact e
  have e2:yM p.x≠(b,k)→XW p.pcs b k=0:=by intro e;refine ad3 _ _ _ fun x hx hh=>?_;rw[hp x hx]at hh;exact e (by simp only[yM,hh.1,hh.2])
  refine⟨fun q hq e=>?_,fun hh=>?_⟩
  ·rcases aC.1 hq with rfl|hq
   ·rw[e1 e,i2 fun x hx ex=>hn.1 (by rw[e,←ex];exact bW.2 ⟨x,hx,rfl⟩)];rfl
   ·have hne:yM p.x≠(b,k):=fun ex=>hn.1 (by rw[ex,←e];exact bW.2 ⟨q,hq,rfl⟩);rw[e2 hne,i1 q hq e,dH]
  ·rw[e2 (hh p aG),i2 fun q hq=>hh q (aU _ hq)]
theorem agH{pcs:List yx}{p:yx}(h:p∈pcs):p.p≤xY pcs:=by
 unfold xY
 induction pcs with
 |nil=>cases h
 |cons x l ih=>
  rw[bJ,List.sum_cons];rcases aC.1 h with rfl|h
  ·omega
  ·have:=ih h;omega
theorem FW.qi{D:List bu}{B X:Nat}{S:tJ×List qU}(h:FW D B X (aX D) S)(l:List UInt8)(n:Nat):QI D l (X+l.length) S.2 S.1.M n:=⟨fun d hd=>by obtain⟨i1,i2,i3⟩:=h.good d hd;exact⟨i1,i2,fun s hs=>by have:=i3 s hs;omega⟩,fun q hq=>by obtain⟨q1,q2,q3,q4⟩:=h.qs q hq;obtain⟨m1,m2⟩:=qH q1;exact⟨m1,m2,q2,q3,q4⟩,h.nd⟩
theorem FW.WH{D:List bu}{B X:Nat}{S:tJ×List qU}(h:FW D B X (aX D) S)(l:List UInt8)(ah n:Nat)(hX:X+2*l.length≤10000000):WH D l ah S.1.out S.1.M n:=by
 refine aai D l ah _ _ _ (fun p hp=>?_) fun d hd k s hs=>?_
 ·rw[h.out,iw]at hp;obtain⟨q,hq,hp⟩:=hp;obtain⟨q1,q2,q3,t,q4,q5,q6,q7⟩:=h.qs q hq;obtain⟨m1,m2⟩:=qH q1;have hpx:=q2 p hp;have:=agH hp;rw[hpx];exact⟨m1,m2,q3.2 p hp,by omega⟩
 ·obtain⟨g1,g2,g3⟩:=h.good d hd;have hm:=aF hs;have gb:=g3 s hm;have gt:=g1.ss s hm;refine⟨?_,by omega,gt.ends⟩;rw[h.out];obtain⟨i1,i2⟩:=VG d.bb k S.2 (fun q hq=>(h.qs q hq).2.1) h.nd;by_cases he:∃q∈S.2,yM q.x=(d.bb,k)
  ·obtain⟨q,hq,e⟩:=he;rw[i1 q hq e];obtain⟨-,-,-,t,q4,q5,q6,q7⟩:=h.qs q hq;simp only[yM,fK]at e;rw[e.1,e.2,hs]at q4;cases iL q4;omega
  ·rw[i2 fun q hq e=>he ⟨q,hq,e⟩];have:=gt.np;omega
theorem adn(s:ShapeM)(i ah k:Nat)(hs:ah≤63):aiN (s.most:Int) ⟨((s.blk i ah k).aH:Int),(s.blk i ah k).fZ,(s.blk i ah k).bytes,0,3⟩:=by
 have hg:=XL s i ah k hs;have hb:=Af (i%4) ah (s.n k) s.ns (s.aeP k);obtain⟨ok,hby⟩:=Jz (zk (i%4) ah (jI (s.n k) s.ns)) (by show 1≤5;decide);have hfin:=Xo (zk (i%4) ah (jI (s.n k) s.ns)) (by show 1≤5;decide);have hw:(zk (i%4) ah (jI (s.n k) s.ns)).w*(zk (i%4) ah (jI (s.n k) s.ns)).h=15:=rfl;rw[hw]at hby;unfold ShapeM.blk at hg⊢;generalize jv (zk (i%4) ah (jI (s.n k) s.ns))=B at*;obtain⟨h1,h2,h3,h4⟩:=hb;have hlen:=ok.len;unfold oM at hlen hby;refine⟨hg,⟨by show(0:Int)≤B.aH;omega,by show(B.aH:Int)≤12;omega⟩,by show B.fZ.length=3*((B.aH:Int)).toNat-2;rw[Int.toNat_natCast];exact hlen,fun hp=>?_,fun hp=>?_,?_,hfin⟩
 ·replace hp:0<B.fZ.length:=hp;have hne:B.fZ≠[]:=fP.1 hp;have hl:=ok.last hne;show(B.fZ.map (·.1)).getD (B.fZ.length-1) 0=(B.bytes.length:Int);rw[nG]at hl;rw[ax,aV,hl];rfl
 ·exact ok.none (dN hp)
 ·show B.bytes.length≤110000;have h5:(3*B.aH-2)*(16*(12*15+4)+4)≤34*(16*(12*15+4)+4):=dK _ (by omega);omega
theorem acr(P:Int)(h:0≤P∧P≤60):aiN P lV.m:=⟨OX P h,⟨gG _,by show(0:Int)≤12;decide⟩,rfl,(fun hp=>absurd hp (Nat.lt_irrefl 0)),fun _=>rfl,aY _,Fin2.nil⟩
theorem acs(s:ShapeM):AQ s.new:=by
 have hl:=s.lt;refine⟨⟨by show(0:Int)≤s.most;omega,by show(s.most:Int)≤60;omega⟩,?_,fun x hx=>?_⟩
 ·have key:∀k w h,uQ (treeNew k w h):=by
   intro k
   induction k with
   |zero=>intro w h L hL;cases hL
   |succ k ih=>
    intro w h L hL z hz;have e:∀z∈(jE w h).l,0≤z.n:=by intro z hz;rw[jC hz];decide
    unfold treeNew at hL;split at hL
    ·rw[fJ]at hL;rw[hL]at hz;exact e z hz
    ·rcases aC.1 hL with rfl|hL
     ·exact e z hz
     ·exact ih _ _ L hL z hz
  show uQ (jr s.W s.H);unfold jr;split
  ·intro L hL;cases hL
  ·exact key _ _ _
 ·have:x=lV.m:=jC hx;rw[this];exact⟨by show(0:Int)≤60;decide,by show(3:Int)≤24;decide⟩
theorem adG(T:List Bool)(h:0<T.length):0<(NY (qx T)).length∧(NY (qx T)).length≤T.length+1:=by
 have h1:=(Ii T).2.2;have hne:T≠[]:=fP.1 h;have e:qx T=qG (qx T.dropLast) (T.getLast hne):=by
  conv=>lhs;rw[←List.dropLast_concat_getLast hne]
  unfold qx;rw[dP];rfl
 have h2:0<(qx T).1.length:=by rw[e];exact(Uh (X8 T.dropLast) (T.getLast hne)).2.2.2.1
 unfold NY;split
 ·rw[au,List.length_singleton];omega
 ·omega
theorem Vu(T:List Bool):7*(qx T).1.length≤T.length+(qx T).2:=by
 have key:∀(T:List Bool) (s:List UInt8×Nat) (c:Nat),7*s.1.length≤c+s.2→(s.2≠0→s.1≠[])→7*(T.foldl qG s).1.length≤c+T.length+(T.foldl qG s).2:=by
  intro T
  induction T with
  |nil=>intro s c h _;exact h
  |cons b T ih=>
   intro s c h h0;rw[List.foldl_cons,List.length_cons];have h1:7*(qG s b).1.length≤(c+1)+(qG s b).2:=by
    unfold qG;by_cases hz:s.2=0
    ·simp only[aK hz,au,iV,List.length_singleton];rw[hz]at h;split<;>omega
    ·have h2:0<s.1.length:=fP.2 (h0 hz);simp only[aJ hz,au,iV,List.length_singleton];omega
   have h2:(qG s b).2≠0→(qG s b).1≠[]:=by intro _;unfold qG;simp
   have:=ih (qG s b) (c+1) h1 h2;omega
 have:=key T ([],0) 0 (aN _) (fun h=>absurd rfl h);unfold qx;omega
theorem X7(T:List Bool):7*(NY (qx T)).length≤T.length+15:=by
 have h:=Vu T;have hI:=(Ii T).1;unfold NY;split
 ·rw[au,List.length_singleton];omega
 ·omega
def Gf(s:og)(n:Nat):Nat:=if n=0 then 0 else((s.ps.map (·.1)).getD (n-1) 0).toNat
def Az(s:og):Prop:=(∀i j,i≤j→j<s.ps.length→(s.ps.map (·.1)).getD i 0≤(s.ps.map (·.1)).getD j 0)∧∀p∈s.ps,0≤p.1∧p.1≤(s.bs.length:Int)
theorem afB{s:og}(h:Az s){n:Nat}(hn:n≤s.ps.length):Gf s n≤s.bs.length:=by
 unfold Gf;split
 ·exact aY _
 ·have hi:n-1<s.ps.length:=by omega
  rw[ax,aV,ai hi];have:=(h.2 _ (kX hi)).2;simp only[Option.map_some,Option.getD_some];omega
theorem Ua{s:og}(h:Az s){f t:Nat}(hft:f<t)(ht:t≤s.ps.length):(AL s.ps s.bs f t).length+Gf s f≤Gf s t:=by
 have hb:∀i,i<s.ps.length→0≤(s.ps.map (·.1)).getD i 0∧(s.ps.map (·.1)).getD i 0≤(s.bs.length:Int):=by intro i hi;rw[ax,aV,ai hi];exact h.2 _ (kX hi)
 have h2:=hb (t-1) (by omega);unfold AL c! U8 Le Gf;rw[bT,fH,aJ (show¬t=0 by omega)];by_cases h0:f=0
 ·subst h0;simp only[ji];omega
 ·have h3:=hb (f-1) (by omega);have h4:=h.1 (f-1) (t-1) (by omega) (by omega);simp only[aJ h0];omega
def OY(M:Nat→aT)(x:dF):Option og:=(M x.d.bb).ss[x.k]?
def sumE(count aB:Nat)(M:Nat→aT)(L:List dF):Nat:=(L.map fun x=>match OY M x with|none=>0|some s=>Gf s (jg (s.ps.length:Int) (count:Int) (aB:Int)).toNat).sum
theorem Rx(count aB:Nat)(M:Nat→aT)(L:List dF)(x:dF):sumE count aB M (L++[x])=sumE count aB M L+(match OY M x with|none=>0|some s=>Gf s (jg (s.ps.length:Int) (count:Int) (aB:Int)).toNat):=by unfold sumE;rw[bU,List.sum_append];simp
theorem Vz{α:Type}(f g:α→Nat):∀(L:List α),(∀x∈L,f x≤g x)→(L.map f).sum≤(L.map g).sum
 | [],_=>aN _
 |x::L,h=>by have h1:=h x aG;have h2:=Vz f g L fun y hy=>h y (aU _ hy);simp only[bJ,List.sum_cons];omega
theorem Rw{α:Type}(f:α→Nat)(c:Nat):∀(L:List α),(∀x∈L,f x≤c)→(L.map f).sum≤c*L.length
 | [],_=>aY _
 |x::L,h=>by have h1:=h x aG;have h2:=Rw f c L fun y hy=>h y (aU _ hy);simp only[bJ,List.sum_cons,List.length_cons,Nat.mul_add,um];omega
theorem χ{s:og}(h:Az s){f t:Nat}(hft:f≤t)(ht:t≤s.ps.length):Gf s f≤Gf s t:=by
 rcases Nat.lt_or_eq_of_le hft with hlt|rfl
 ·have:=Ua h hlt ht;omega
 ·exact aN _
theorem aaU{count aB:Nat}{D:List bu}{M:Nat→aT}(hE:∀d∈D,∀s∈(M d.bb).ss,Az s){L:List dF}(hL:∀x∈L,x.d∈D):sumE count aB M L≤sumE count (aB+1) M L:=by
 unfold sumE;refine Vz _ _ L fun x hx=>?_;unfold OY;cases hs:(M x.d.bb).ss[x.k]? with
 |none=>exact aN _
 |some s=>simp only;have h1:=Ff s.ps.length count aB;have h2:=(Ef (s.ps.length:Int) (count:Int) (aB:Int)).1;have h4:=BH s.ps.length (count:Int) ((aB:Int)+1);push_cast;exact χ (hE x.d (hL x hx) s (aF hs)) (by omega) (by omega)
theorem agI{count aB B:Nat}{D:List bu}{M:Nat→aT}(hE:∀d∈D,∀s∈(M d.bb).ss,Az s∧s.bs.length≤B){L:List dF}(hL:∀x∈L,x.d∈D):sumE count aB M L≤B*L.length:=by
 unfold sumE;refine Rw _ B L fun x hx=>?_;unfold OY;cases hs:(M x.d.bb).ss[x.k]? with
 |none=>exact aY _
 |some s=>simp only;obtain⟨h0,h5⟩:=hE x.d (hL x hx) s (aF hs);have h4:=BH s.ps.length (count:Int) (aB:Int);have:=afB h0 (n:=(jg (s.ps.length:Int) (count:Int) (aB:Int)).toNat) (by omega);omega
def pbS(s:og):List (Int×Bool)×List UInt8:=(s.ps,s.bs)
theorem adX(count ah aB:Nat)(S:zg)(x:dF)(b k:Nat):(((qK count ah aB S x).M b).ss[k]?).map pbS=((S.M b).ss[k]?).map pbS:=by
 unfold qK;cases hs:(S.M x.d.bb).ss[x.k]? with
 |none=>rfl
 |some s=>
  simp only;have hk:=(aj.1 hs).1;by_cases hb:b=x.d.bb
  ·subst hb;rw[jX];have h1:∃y,(setSaidM (ug (S.M x.d.bb) x.k ah aB s.said.toNat (toM count aB s) s).1 x.k (toM count aB s)).ss=(S.M x.d.bb).ss.set x.k y∧pbS y=pbS s:=by
    have h2:=acQ (S.M x.d.bb) x.k ah aB s.said.toNat (toM count aB s) s hs;have h3:=ι s ah s.said.toNat (toM count aB s);have h4:∃z,(ug (S.M x.d.bb) x.k ah aB s.said.toNat (toM count aB s) s).1.ss=(S.M x.d.bb).ss.set x.k z:=by
     unfold ug;split
     ·exact⟨s,(yR hs).symm⟩
     ·exact⟨_,rfl⟩
    obtain⟨z,hz⟩:=h4;unfold setSaidM;rw[h2];simp only;rw[hz,jo];refine⟨_,rfl,?_⟩;unfold pbS;exact Prod.ext h3.1 h3.2.1
   obtain⟨y,e1,e2⟩:=h1;rw[e1];by_cases hkk:x.k=k
   ·subst hkk;rw[dJ hk,hs];simp only[Option.map_some,e2]
   ·rw[oC hkk]
  ·rw[kQ _ _ hb]
theorem Qm(count ah aB:Nat)(b k:Nat):∀(L:List dF) (S:zg),(((L.foldl (qK count ah aB) S).M b).ss[k]?).map pbS=((S.M b).ss[k]?).map pbS
 | [],_=>rfl
 |x::L,S=>by rw[List.foldl_cons,Qm count ah aB b k L,adX]
theorem UH{o:Option og}{s:og}(h:o.map pbS=S_ (pbS s)):∃t,o=S_ t∧t.ps=s.ps∧t.bs=s.bs:=by
 cases o with
 |none=>cases h
 |some t=>have h1:=iL h;unfold pbS at h1;exact⟨t,rfl,(Prod.mk.inj h1).1,(Prod.mk.inj h1).2⟩
theorem Ht{s t:og}(h:t.ps=s.ps)(n:Nat):Gf t n=Gf s n:=by unfold Gf;rw[h]
theorem Qo{count ah aB:Nat}{D:List bu}(hn:(D.map (·.bb)).Nodup)(S0:zg)(h0:jZ count aB D [] S0.M)(hE:∀d∈D,∀s∈(S0.M d.bb).ss,Az s)(hb:S0.body=[]):∀(L A:List dF),A++L=aX D→jZ count aB D A (A.foldl (qK count ah aB) S0).M→(A.foldl (qK count ah aB) S0).body.length+sumE count aB S0.M A≤sumE count (aB+1) S0.M A→((aX D).foldl (qK count ah aB) S0).body.length+sumE count aB S0.M (aX D)≤sumE count (aB+1) S0.M (aX D)
 | [],A,e,_,h=>by rw[dD]at e;rw[←e];exact h
 |x::L,A,e,hs,h=>by
  have hx:x∈aX D:=by rw[←e];exact aS _ aG
  have hxd:=(qH hx).1;have e2:(A++[x])++L=aX D:=by rw[←e];simp
  have hfr:qQ A x.d x.k=F_:=by have hk:=Gx hn;rw[←e,bU,lQ]at hk;unfold qQ;rw[List.any_eq_false];intro y hy hh;simp only[dO,beq_iff_eq]at hh;exact hk.2.2 (yM y) (bW.2 ⟨y,hy,rfl⟩) (yM x) (by simp) (by unfold yM;rw[hh.1,hh.2])
  refine Qo hn S0 h0 hE hb L (A++[x]) e2 ?_ ?_
  ·rw[dP];exact hs.step ah hxd
  ·rw[dP,Rx,Rx];simp only[List.foldl_cons,List.foldl_nil];generalize hSA:A.foldl (qK count ah aB) S0=SA at*;have hpb:=Qm count ah aB x.d.bb x.k A S0;rw[hSA]at hpb;unfold OY;unfold qK;cases hsx:(SA.M x.d.bb).ss[x.k]? with
   |none=>
    rw[hsx]at hpb;have h9:(S0.M x.d.bb).ss[x.k]?=N_:=by
     cases h8:(S0.M x.d.bb).ss[x.k]? with
     |none=>rfl
     |some s=>rw[h8]at hpb;cases hpb
    rw[h9];simp only;omega
   |some s=>
    rw[hsx]at hpb;obtain⟨t,ht,hp1,hp2⟩:=UH hpb.symm;rw[ht];simp only;obtain⟨r1,r2,r3,r4⟩:=hs.round hxd hfr hsx;have hEt:=hE x.d hxd t (aF ht);have hEs:Az s:=by unfold Az;rw[←hp1,←hp2];exact hEt
    have a1:(jg (t.ps.length:Int) (count:Int) (aB:Int)).toNat=s.said.toNat:=by rw[hp1,r1];rfl
    have a2:(jg (t.ps.length:Int) (count:Int) ((aB+1:Nat):Int)).toNat=toM count aB s:=by rw[hp1];push_cast;rw[r2];rfl
    rw[a1,a2,Ht hp1,Ht hp1];by_cases hft:s.said.toNat<toM count aB s
    ·have:=Ua hEs hft r4;simp only[aK hft,au];omega
    ·have e9:s.said.toNat=toM count aB s:=by omega
     simp only[aJ hft];rw[e9];omega
theorem ac9{count ah aB:Nat}{D:List bu}(hn:(D.map (·.bb)).Nodup)(M:Nat→aT)(h0:jZ count aB D [] M)(hE:∀d∈D,∀s∈(M d.bb).ss,Az s):(encS count ah aB D M).body.length+sumE count aB M (aX D)≤sumE count (aB+1) M (aX D):=by
 have h1:jZ count aB D [] ((aX D).foldl (Ar count) M):=by intro d hd k s hs;rw[uS]at hs;exact h0 d hd k s hs
 have hE1:∀d∈D,∀s∈(((aX D).foldl (Ar count) M) d.bb).ss,Az s:=by intro d hd s hs;rw[uS]at hs;exact hE d hd s hs
 have hsum:∀ly,sumE count ly ((aX D).foldl (Ar count) M) (aX D)=sumE count ly M (aX D):=by intro ly;unfold sumE OY;congr 1;refine wU fun x _=>?_;rw[uS]
 unfold encS;split
 ·have:=Qo hn ⟨(aX D).foldl (Ar count) M,[T_],[]⟩ h1 hE1 rfl (ah:=ah) (aX D) [] rfl h1 (by simp[sumE]);simp only[hsum]at this;exact this
 ·simp only[List.length_nil,dH];exact aaU hE (fun x hx=>(qH hx).1)
end
section
open Go.RowKit
theorem abh{w:World}{H H':List HB}(h:Sat w H)(e:H=H'):Sat w H':=e ▸ h
theorem RY(b:Nat)(m:aT)(g:iG)(ff fz:Bool)(hg:g.ok m ff fz){k:Nat}{s:og}(hk:m.ss[k]?=S_ s): ∃(lg lc pc uc:Nat) (pa ua:Option Addr) (Hp Hb:List HB),lH (s_ pa s.ps.length pc) s.ps Hp∧dR (s_ ua s.bs.length uc) s.bs Hb∧s.Fits∧ ∀V,Sat V (g.heap b m)→V.cell? ⟨b,1,N_⟩=S_ (s_ (S_ ⟨lg,0,N_⟩) m.ss.length lc)∧V.cell? ⟨b,2,N_⟩=S_ (p_ (S_ ⟨g.ti,0,N_⟩))∧V.cell? ⟨lg,k*5,N_⟩=S_ (i_ l_ s.pl)∧V.cell? ⟨lg,k*5+1,N_⟩=S_ (s_ pa s.ps.length pc)∧V.cell? ⟨lg,k*5+2,N_⟩=S_ (s_ ua s.bs.length uc)∧V.cell? ⟨lg,k*5+3,N_⟩=S_ (i_ l_ s.said)∧V.cell? ⟨lg,k*5+4,N_⟩=S_ (i_ l_ s.lb)∧Sat V Hp∧Sat V Hb:=by
 have hlen:g.G.length=m.ss.length:=by rw[←hg.ss,aO]
 have δ:=(aj.1 hk).1;obtain⟨x,hx⟩:∃x,g.G[k]?=S_ x:=⟨_,ai (by omega)⟩;have e:x.m=s:=by
  have:m.ss[k]?=S_ x.m:=by rw[←hg.ss,aV,hx];rfl
  rw[hk]at this;exact(iL this).symm
 subst e;obtain⟨q1,q2,q3⟩:=hg.st x (aF hx);obtain⟨pa,pc,hvp⟩:=q1.slice;obtain⟨ua,uc,hvb⟩:=dR.slice q2;obtain⟨lg,lc,cur,hvl,-⟩:=hg.row.form (by omega);obtain⟨A,B,hAB⟩:=List.append_of_mem (aF hx);have hfl:g.G.flatMap gu.heap=A.flatMap gu.heap++((x.Hp++x.Hb)++B.flatMap gu.heap):=by rw[hAB,gX,dE];rfl
 refine⟨lg,lc,pc,uc,pa,ua,x.Hp,x.Hb,by rw[←hvp];exact q1,by rw[←hvb];exact q2,q3,fun V hV=>?_⟩;have h0:Sat V (jk b g.ti g.tu g.vl m::(g.Hl++(g.Hi++(g.Hu++g.G.flatMap gu.heap)))):=hV;have hp:Sat V (g.Hl++(g.Hi++(g.Hu++g.G.flatMap gu.heap))):=Sat.right (A:=[_]) h0;have hq:Sat V (A.flatMap gu.heap++((x.Hp++x.Hb)++B.flatMap gu.heap)):=abh hp.right.right.right hfl;obtain⟨lg',lc',Jv,d0,d1,d2,d3,d4,-⟩:=uw hg.row hp.left hx;rw[hvl]at Jv;simp only[pI,dG,Addr.mk.injEq,kJ,true_and]at Jv;obtain⟨rfl,rfl⟩:=Jv;rw[hvp]at d1;rw[hvb]at d2;refine⟨?_,(h0.at_ 0 rfl).cell 2,d0,d1,d2,d3,d4,hq.right.left.left,hq.right.left.right⟩;rw[←hlen,←hvl];exact(h0.at_ 0 rfl).cell 1
theorem Zk(b wb k:Nat)(m mr:aT)(ff fz:Bool)(g:iG)(hg:g.ok mr ff fz)(hr:FT m mr ff fz)(bs:List Bool)(HW:List HB)(W:World)(v:Int)(hk:k<m.ss.length)(hv:0≤v∧v≤1000)(hw:oN wb bs HW)(hs:Sat W (g.heap b mr++HW))(hbs:bs.length≤50000000):Calls P_ 37 #[p_ (S_ ⟨g.ti,0,N_⟩),p_ (S_ ⟨wb,0,N_⟩),i_ l_ k,i_ l_ v] W fun e w'=>e=r_ (t_ #[])∧ ∃H' lM,qE b {m with first:=(encAt m.first k v).1} H'∧oN wb (bs++(encAt m.first k v).2) lM∧Mv W (g.heap b mr++HW) w' (H'++lM):=by
 obtain⟨h1,h2⟩:=hr.first (by omega);have m0:Mv W (g.heap b mr++HW) W ((g.Hi++HW)++(jk b g.ti g.tu g.vl mr::(g.Hl++(g.Hu++g.G.flatMap gu.heap)))):=(Mv.refl hs).sub (fun c=>by simp only[iG.heap,aP,bK];omega) (fun c hc=>by simp only[iG.heap,ay,aC]at hc⊢;grind);refine(VU g.ti wb mr.first ff g.Hi HW bs W m.ss.length k v m.first h1 hg.ti hw m0.sat.left h2 hk hv hbs).mono ?_;rintro e w' ⟨rfl,H',lM,r1,r2,q⟩;refine⟨rfl,_,lM,⟨{mr with first:=(encAt m.first k v).1},T_,fz,⟨{g with Hi:=H'},⟨hg.ss,hg.st,hg.row,r1,hg.tu,hg.pl⟩,rfl⟩,hr.τ hk v⟩,r2,(Mv.call m0 q).sub (fun c=>?_) (fun c hc=>?_)⟩
 ·simp only[iG.heap,jk,aP,bK];omega
 ·simp only[iG.heap,jk,ay,aC]at hc⊢;grind
theorem aem(b wb k from_ cO ah:Nat)(m:aT)(s:og)(H HW:List HB)(bs:List Bool)(W:World)(hB:qE b m H)(hw:oN wb bs HW)(hs:Sat W (H++HW))(hk:m.ss[k]?=S_ s)(hbs:bs.length≤39000000)(hft:from_<cO)(hto:cO≤s.ps.length)(Em:ah≤63):Calls P_ 38 #[p_ (S_ ⟨b,0,N_⟩),p_ (S_ ⟨wb,0,N_⟩),i_ l_ k,i_ l_ ah,i_ l_ from_,i_ l_ cO] W fun e w'=>e=r_ (t_ #[])∧ ∃H' lM,qE b {m with dA:=(Jc m k from_ s).1,ss:=m.ss.set k (s.jP s.said (qy s ah from_ cO))} H'∧oN wb (bs++((Jc m k from_ s).2++(D8 (cO-from_)++Dt s ah from_ cO))) lM∧Mv W (H++HW) w' (H'++lM):=by obtain⟨mr,ff,fz,hR,hr⟩:=hB;obtain⟨r,hrk,e⟩:=hr.get hk;obtain⟨e1,e2,e3,e4⟩:=zF e;have δ:=(aj.1 hk).1;have sg:=hr.good s (aF hk);obtain⟨h1,h2⟩:=hr.dA (by omega);obtain⟨z,hz⟩:∃z:Nat,m.aH-s.pl=z:=⟨(m.aH-s.pl).toNat,by have:=sg.z;omega⟩;obtain⟨n1,n2⟩:=S9 e ah from_ cO;rw[acO hz];refine(agX b wb k z from_ cO ah mr r ff fz H HW bs W m.dA hR hw hs hrk h1 (fun _=>by rw[hr.len];exact h2) (by rw[hr.len];exact hr.few) (by have:=sg.z;omega) (by rw[hr.aH,e1];omega) hbs hft (by rw[e2];exact hto) (by rw[e2];exact sg.np) Em (by rw[e4];exact sg.lb) (by rw[e2];exact sg.up)).mono ?_;rintro e w' ⟨rfl,H',lM,r1,r2,q⟩;rw[n2]at r2;exact⟨rfl,H',lM,⟨_,_,_,r1,hr.ab8 hk hrk e ah z s.said hto⟩,r2,q⟩
theorem adk{w:World}{bg n vc:Nat}{bs:List UInt8}(h:BV w (s_ (S_ ⟨bg,0,N_⟩) n vc) bs)(_hn:bs.length=n)(hv:n≤vc)(lo Ha:Nat)(h1:lo≤Ha)(h2:Ha≤n):BV w (aax bg vc lo Ha) ((bs.drop lo).take (Ha-lo)):=by
 unfold aax;split
 ·rename_i he;have e:(bs.drop lo).take (Ha-lo)=[]:=by rw[show Ha-lo=0 by omega,List.take_zero]
  rw[e];exact⟨_,0,rfl,aN _,by decide,rfl,fun h=>absurd h (by decide)⟩
 ·have b2:=BV.mid h lo Ha h1 h2;rw[dH]at b2;exact b2
theorem acb(K:Act→World→Prop)(xb bg n vc pg np pc lo Ha cO:Nat)(vb:Value)(body bs:List UInt8)(Hb R H0:List HB)(w0 w:World)
 (hb:dR vb body Hb) (hM:Mv w0 H0 w (Hb++R)) (hlen:body.length≤40000000) (hnl:bs.length=n) (hn:n≤300000) (hvc:n≤vc) (h1:lo≤Ha) (h2:Ha≤n) (hto:0<cO∧cO≤np) (xu:np≤100)
 (x1:w.cell? ⟨xb,1,N_⟩=S_ (s_ (S_ ⟨pg,0,N_⟩) np pc)) (x2:w.cell? ⟨xb,2,N_⟩=S_ (s_ (S_ ⟨bg,0,N_⟩) n vc)) (x3:w.cell? ⟨pg,(cO-1)*2,N_⟩=S_ (i_ l_ Ha)) (hbv:BV w (s_ (S_ ⟨bg,0,N_⟩) n vc) bs)
 (hK:∀(t156 t157 t158 t159 t160 t161 t162 t163 t164 t165 t166 t167 t168:Value) (DZ:Value) (Ue:List HB) (wx:World),dR DZ (body++(bs.drop lo).take (Ha-lo)) Ue→Mv w0 H0 wx (Ue++R)→K ⟨List.toArray (s0::s1::s2::s3::s4::s5::s6::s7::s8::s9::s10::s11::s12::s13::s14::s15::(DZ)::l9::kH::kS::s20::(i_ l_ cO)::(p_ (S_ ⟨xb,0,N_⟩))::(i_ l_ lo)::s24::kZ::s26::kW::kR::kY::lu::lJ::lK::lI::lL::lD::s36::lY::lX::mG::ni::mZ::mY::s43::s44::nI::mF::nH::nK::s49::mD::mg::lW::s53::mX::mQ::mP::mO::nX::nJ::oU::oQ::pO::qW::qN::qV::rD::rC::s68::rM::rJ::sN::s72::sK::sJ::ry::ru::rf::s78::qZ::rH::rG::s82::s83::uk::uj::xI::s87::xH::xG::xF::xE::xn::xk::xC::xA::xy::xw::xR::zl::oK::oJ::nT::nS::qj::qh::pY::pX::pG::pF::oI::oH::o9::oG::nP::nO::nN::nM::oZ::oW::oV::wK::wJ::wI::wH::wG::wF::wC::wB::wu::vY::vX::vW::uO::yL::yK::yJ::yI::yH::yG::x9::Fa::E9::E8::E5::EY::EX::EW::EU::EL::EJ::EG::ED::Ez::Ey::Gm::t156::t157::t158::t159::t160::t161::t162::t163::t164::t165::t166::t167::t168::Gl::Gj::Gi::[]),[]⟩ wx):
 (dQ 36 Tryz.f11).wp P_ (Exit.then K qX) ⟨List.toArray (s0::s1::s2::s3::s4::s5::s6::s7::s8::s9::s10::s11::s12::s13::s14::s15::vb::l9::kH::kS::s20::(i_ l_ cO)::(p_ (S_ ⟨xb,0,N_⟩))::(i_ l_ lo)::s24::kZ::s26::kW::kR::kY::lu::lJ::lK::lI::lL::lD::s36::lY::lX::mG::ni::mZ::mY::s43::s44::nI::mF::nH::nK::s49::mD::mg::lW::s53::mX::mQ::mP::mO::nX::nJ::oU::oQ::pO::qW::qN::qV::rD::rC::s68::rM::rJ::sN::s72::sK::sJ::ry::ru::rf::s78::qZ::rH::rG::s82::s83::uk::uj::xI::s87::xH::xG::xF::xE::xn::xk::xC::xA::xy::xw::xR::zl::oK::oJ::nT::nS::qj::qh::pY::pX::pG::pF::oI::oH::o9::oG::nP::nO::nN::nM::oZ::oW::oV::wK::wJ::wI::wH::wG::wF::wC::wB::wu::vY::vX::vW::uO::yL::yK::yJ::yI::yH::yG::x9::Fa::E9::E8::E5::EY::EX::EW::EU::EL::EJ::EG::ED::Ez::Ey::Gm::IY::IX::IW::IU::IQ::IP::IL::IK::GK::GI::GH::Jn::Jm::Gl::Gj::Gi::[]),[]⟩ w:=by
 conv in(dQ _ _)=>whnf
 unfold qX;have HK:=af hK;have HB:=dS hb hM;have BB:=af (adk hbv hnl hvc lo Ha h1 h2);have hl2:(body++(bs.drop lo).take (Ha-lo)).length≤50000000:=by rw[au,bT,fH];omega
 have HL:=af hl2;obtain⟨ahL,alK⟩:=hto;obtain⟨t1,ht1⟩:=X_ (cO-1);rw[ht1]at x3;have ect:(cO:Int)-1=(t1:Int):=by omega
 have hct:(t1:Int)<np:=by omega
 have hcn:t1<np:=by omega
 have ew:IntKind.i64.wrap (t1:Int)=t1:=fF _ (by omega);clear ht1;obtain⟨ls,hls⟩:=X_ (body);have hl3:ls.length+((bs.drop lo).take (Ha-lo)).length≤50000000:=by rw[←hls,←au];exact hl2
 have HL3:=af hl3;have HLS:=af hls;clear hK hb hM hbv hnl hl2 hl3 hls;by_cases hv:vc=lo
 ·have e0:Ha-lo=0:=by omega
  have e1:vc-lo=0:=by omega
  have e2:Ha≤lo:=by omega
  have ew:aax bg vc lo Ha=s_ (S_ ⟨bg,0,N_⟩) 0 0:=aK hv;rw[ew]at BB;go_still_tail 12,(by kernel_rfl);change wpList _ _ _ _ _ w.drew;go_wp2_with (at_builtin;refine iY rfl (.tmp 156) (.tmp 167) rfl _ _ ls ((bs.drop lo).take (Ha-lo)) Hb rfl rfl (by rw[←HLS.out];exact HB.1) HB.2.drew.sat.left BB (by have:=HL3.out;omega) ?_;intro v6 w6 H6 yN m6;have K6:=dS yN (Mv.call HB.2.drew m6);clear yN m6);exact HK _ _ _ _ _ _ _ _ _ _ _ _ _ _ H6 _ (by rw[HLS.out];exact K6.1) K6.2
 ·have e3:Ha≤vc:=by omega
  have ew:aax bg vc lo Ha=s_ (S_ ⟨bg,lo,N_⟩) (Ha-lo) (vc-lo):=aJ hv;rw[ew]at BB;go_still_tail 12,(by kernel_rfl);change wpList _ _ _ _ _ w.drew;go_wp2_with (at_builtin;refine iY rfl (.tmp 156) (.tmp 167) rfl _ _ ls ((bs.drop lo).take (Ha-lo)) Hb rfl rfl (by rw[←HLS.out];exact HB.1) HB.2.drew.sat.left BB (by have:=HL3.out;omega) ?_;intro v6 w6 H6 yN m6;have K6:=dS yN (Mv.call HB.2.drew m6);clear yN m6);exact HK _ _ _ _ _ _ _ _ _ _ _ _ _ _ H6 _ (by rw[HLS.out];exact K6.1) K6.2
theorem aca(K:Act→World→Prop)(xb pg np pc cO:Nat)(vb:Value)(body:List UInt8)(Hb R H0:List HB)(w0 w:World)
 (hb:dR vb body Hb) (hM:Mv w0 H0 w (Hb++R)) (hlen:body.length≤40000000) (hto:0<cO∧cO≤np) (xu:np≤100)
 (x1:w.cell? ⟨xb,1,N_⟩=S_ (s_ (S_ ⟨pg,0,N_⟩) np pc)) (x2:w.cell? ⟨xb,2,N_⟩=S_ (s_ N_ 0 0)) (x3:w.cell? ⟨pg,(cO-1)*2,N_⟩=S_ (i_ l_ 0))
 (hK:∀(t156 t157 t158 t159 t160 t161 t162 t163 t164 t165 t166 t167 t168:Value) (DZ:Value) (Ue:List HB) (wx:World),dR DZ body Ue→Mv w0 H0 wx (Ue++R)→K ⟨List.toArray (s0::s1::s2::s3::s4::s5::s6::s7::s8::s9::s10::s11::s12::s13::s14::s15::(DZ)::l9::kH::kS::s20::(i_ l_ cO)::(p_ (S_ ⟨xb,0,N_⟩))::(i_ l_ 0)::s24::kZ::s26::kW::kR::kY::lu::lJ::lK::lI::lL::lD::s36::lY::lX::mG::ni::mZ::mY::s43::s44::nI::mF::nH::nK::s49::mD::mg::lW::s53::mX::mQ::mP::mO::nX::nJ::oU::oQ::pO::qW::qN::qV::rD::rC::s68::rM::rJ::sN::s72::sK::sJ::ry::ru::rf::s78::qZ::rH::rG::s82::s83::uk::uj::xI::s87::xH::xG::xF::xE::xn::xk::xC::xA::xy::xw::xR::zl::oK::oJ::nT::nS::qj::qh::pY::pX::pG::pF::oI::oH::o9::oG::nP::nO::nN::nM::oZ::oW::oV::wK::wJ::wI::wH::wG::wF::wC::wB::wu::vY::vX::vW::uO::yL::yK::yJ::yI::yH::yG::x9::Fa::E9::E8::E5::EY::EX::EW::EU::EL::EJ::EG::ED::Ez::Ey::Gm::t156::t157::t158::t159::t160::t161::t162::t163::t164::t165::t166::t167::t168::Gl::Gj::Gi::[]),[]⟩ wx):
 (dQ 36 Tryz.f11).wp P_ (Exit.then K qX) ⟨List.toArray (s0::s1::s2::s3::s4::s5::s6::s7::s8::s9::s10::s11::s12::s13::s14::s15::vb::l9::kH::kS::s20::(i_ l_ cO)::(p_ (S_ ⟨xb,0,N_⟩))::(i_ l_ 0)::s24::kZ::s26::kW::kR::kY::lu::lJ::lK::lI::lL::lD::s36::lY::lX::mG::ni::mZ::mY::s43::s44::nI::mF::nH::nK::s49::mD::mg::lW::s53::mX::mQ::mP::mO::nX::nJ::oU::oQ::pO::qW::qN::qV::rD::rC::s68::rM::rJ::sN::s72::sK::sJ::ry::ru::rf::s78::qZ::rH::rG::s82::s83::uk::uj::xI::s87::xH::xG::xF::xE::xn::xk::xC::xA::xy::xw::xR::zl::oK::oJ::nT::nS::qj::qh::pY::pX::pG::pF::oI::oH::o9::oG::nP::nO::nN::nM::oZ::oW::oV::wK::wJ::wI::wH::wG::wF::wC::wB::wu::vY::vX::vW::uO::yL::yK::yJ::yI::yH::yG::x9::Fa::E9::E8::E5::EY::EX::EW::EU::EL::EJ::EG::ED::Ez::Ey::Gm::IY::IX::IW::IU::IQ::IP::IL::IK::GK::GI::GH::Jn::Jm::Gl::Gj::Gi::[]),[]⟩ w:=by
 conv in(dQ _ _)=>whnf
 unfold qX;have HK:=af hK;have HB:=dS hb hM;have BB:Hid (BV w (s_ N_ 0 0) []):=af ⟨N_,0,rfl,aN _,by decide,rfl,fun h=>absurd h (by decide)⟩;obtain⟨ahL,alK⟩:=hto;obtain⟨t1,ht1⟩:=X_ (cO-1);rw[ht1]at x3;have ect:(cO:Int)-1=(t1:Int):=by omega
 have hct:(t1:Int)<np:=by omega
 have hcn:t1<np:=by omega
 have ew:IntKind.i64.wrap (t1:Int)=t1:=fF _ (by omega);clear ht1;have HL:=af hlen;clear hK hb hM hlen;go_still_tail 12,(by kernel_rfl);change wpList _ _ _ _ _ w.drew;go_wp2_with (at_builtin;refine iY rfl (.tmp 156) (.tmp 167) rfl _ _ body [] Hb rfl rfl HB.1 HB.2.drew.sat.left BB (by have:=HL.out;simp only[List.length_nil];omega) ?_;intro v6 w6 H6 yN m6;rw[dD]at yN;have K6:=dS yN (Mv.call HB.2.drew m6);clear yN m6);exact HK _ _ _ _ _ _ _ _ _ _ _ _ _ _ H6 _ K6.1 K6.2
theorem JX{A:Option Addr}{n c:Nat}{Bs:List Nat}{HL:List HB}(h:wZ (s_ A n c) Bs HL){i b:Nat}(hb:Bs[i]?=S_ b):∃g,A=S_ ⟨g,0,N_⟩∧∀V,Sat V HL→V.cell? ⟨g,i,N_⟩=S_ (p_ (S_ ⟨b,0,N_⟩)):=by
 have hi:=(aj.1 hb).1;obtain⟨g,cap,cur,hv,-⟩:=dh.form h (by omega);injection hv with h1 h2 h3;refine⟨g,h1,fun V hV=>?_⟩;have e:(Value.slice A n c)=s_ (S_ ⟨g,0,N_⟩) Bs.length c:=by rw[h1,h2]
 have:=(dh.cell h hV e i (by omega)).1;rw[this,aV,hb];rfl
theorem aeM{count aB:Nat}{D:List bu}{pre:List dF}{M:Nat→aT}(h:jZ count aB D pre M){d:bu}(hd:d∈D){k:Nat}(hk:qQ pre d k=F_){s:og}(hs:(M d.bb).ss[k]?=S_ s){f t:Nat}(hf:jg (s.ps.length:Int) (count:Int) (aB:Int)=f)(ht:jg (s.ps.length:Int) (count:Int) ((aB:Int)+1)=(t:Int)):acu count aB M ⟨d,k⟩=decide (f<t):=by
 have h1:=h d hd k s hs;rw[aJ (by simp[hk])]at h1;unfold acu;simp only[hs];rw[ht,h1,hf];by_cases e:f<t
 ·rw[aQ e,aQ (by omega)]
 ·rw[aW e,aW (by omega)]
theorem ag6(K:Act→World→Prop)(A:Option Addr)(c n count aB:Nat)(Bs:List Nat)(D:List bu)(M M1:Nat→aT)(HL HB0 R H0:List HB)(w0 w:World)
 (hL:wZ (s_ A n c) Bs HL) (hB:gJ Aw Bs D M HB0) (hM:Mv w0 H0 w (HL++(HB0++R))) (hn:D.length=n) (hn3:n≤1000) (hM1:∀d∈D,M1 d.bb=zB count (M d.bb)) (hdn:∀d∈D,(M d.bb).ss.length=d.n) (hc:1≤count∧count≤100) (hl:aB≤99) (hsd:jZ count aB D [] M)
 (hK:∀(t12 t13 t14 t15 t25 t26 t27 t28 t29 t30 t31 t32 t33 t34 t35 t36 t37 t38 t39 t40 t41 t42 t43 t44 t45 t46 t47 t48 t49 t50 t51 t52 t53 t54 t55 t56 t57 t58 t59 t60 t61 t62 t63 t64 t65 t66 t67 t68 t69 t70:Value) (HB':List HB) (wx:World),gJ qE Bs D M1 HB'→Mv w0 H0 wx (HL++(HB'++R))→K ⟨List.toArray ((s_ A n c)::s1::(i_ l_ count)::(i_ l_ aB)::s4::s5::s6::s7::s8::s9::s10::(b_ (xM count aB M (aX D)))::t12::t13::t14::t15::s16::l9::kH::kS::s20::lF::lC::s23::s24::t25::t26::t27::t28::t29::t30::t31::t32::t33::t34::t35::t36::t37::t38::t39::t40::t41::t42::t43::t44::t45::t46::t47::t48::t49::t50::t51::t52::t53::t54::t55::t56::t57::t58::t59::t60::t61::t62::t63::t64::t65::t66::t67::t68::t69::t70::sN::s72::sK::sJ::ry::ru::rf::s78::qZ::rH::rG::s82::s83::uk::uj::xI::s87::xH::xG::xF::xE::xn::xk::xC::xA::xy::xw::xR::zl::oK::oJ::nT::nS::qj::qh::pY::pX::pG::pF::oI::oH::o9::oG::nP::nO::nN::nM::oZ::oW::oV::wK::wJ::wI::wH::wG::wF::wC::wB::wu::vY::vX::vW::uO::yL::yK::yJ::yI::yH::yG::x9::Fa::E9::E8::E5::EY::EX::EW::EU::EL::EJ::EG::ED::Ez::Ey::Gm::IY::IX::IW::IU::IQ::IP::IL::IK::GK::GI::GH::Jn::Jm::Gl::Gj::Gi::[]),[]⟩ wx):
 (jB 0 Tryz.f11).wp P_ (Exit.then K qX) ⟨List.toArray ((s_ A n c)::s1::(i_ l_ count)::(i_ l_ aB)::s4::s5::s6::s7::s8::s9::s10::(b_ F_)::(i_ l_ 0)::s13::s14::s15::s16::l9::kH::kS::s20::lF::lC::s23::s24::kZ::s26::kW::kR::kY::lu::lJ::lK::lI::lL::lD::s36::lY::lX::mG::ni::mZ::mY::s43::s44::nI::mF::nH::nK::s49::mD::mg::lW::s53::mX::mQ::mP::mO::nX::nJ::oU::oQ::pO::qW::qN::qV::rD::rC::s68::rM::rJ::sN::s72::sK::sJ::ry::ru::rf::s78::qZ::rH::rG::s82::s83::uk::uj::xI::s87::xH::xG::xF::xE::xn::xk::xC::xA::xy::xw::xR::zl::oK::oJ::nT::nS::qj::qh::pY::pX::pG::pF::oI::oH::o9::oG::nP::nO::nN::nM::oZ::oW::oV::wK::wJ::wI::wH::wG::wF::wC::wB::wu::vY::vX::vW::uO::yL::yK::yJ::yI::yH::yG::x9::Fa::E9::E8::E5::EY::EX::EW::EU::EL::EJ::EG::ED::Ez::Ey::Gm::IY::IX::IW::IU::IQ::IP::IL::IK::GK::GI::GH::Jn::Jm::Gl::Gj::Gi::[]),[]⟩ w:=by
 conv in(jB _ _)=>whnf
 unfold qX;have HK:=af hK;have hbl:Bs.length=n:=hB.len.trans hn;have KI:=NU hL hn hM1 hdn hsd hbl;have K0:Hid (Ls Bs D M1 M 0 HB0∧Mv w0 H0 w (HL++(HB0++R))):=af ⟨⟨[],HB0,rfl,by simp only[List.take_zero];rfl,by simpa using hB⟩,hM⟩;clear hK hL hB hM hn hM1 hdn hsd hbl;go_wp2_with fail;go_loopg [11,12] n (fun mm s11 s12 wx=>∃(i:Nat) (QZ:List YtjngfhgakokejaaGreat.HB),i≤n∧mm=n-i∧s11=b_ (xM count aB M (aX (D.take i)))∧s12=i_ l_ i∧Ls Bs D M1 M i QZ∧Mv w0 H0 wx (HL++(QZ++R)))
 case atStart=>exact⟨0,HB0,aY _,rfl,by simp only[List.take_zero];rfl,rfl,K0.1,K0.2⟩
 case round=>
  clear K0;obtain⟨i,QZ,hi,rfl,rfl,rfl,hI,m⟩:=hrel;by_cases hlt:i<n
  ·have d1:decide ((i:Int)<n)=T_:=by simp;omega
   obtain⟨b,hb⟩:∃b,Bs[i]?=S_ b:=⟨_,ai (by rw[KI.2.2.2.2.2];exact hlt)⟩;obtain⟨d,hd⟩:∃d,D[i]?=S_ d:=⟨_,ai (by rw[KI.2.1];exact hlt)⟩;have hdm:=aF hd;obtain⟨lg,rfl,hLc⟩:=JX KI.1 hb;obtain⟨A1,H1,A2,rfl,hA,hstep⟩:=hI.step hb hd;have M2:Mv w0 H0 wr (H1++(HL++(A1++(A2++R)))):=m.Z_;have y0:=hLc wr m.sat.left;have ST:=af (aek b (M d.bb) H1 wr hA M2.sat.left count hc);have KM2:=af M2;have KS:=zO hstep hLc hd hdm;have hiI:(i:Int)<n:=by omega
   have hi3:i≤1000:=by omega
   obtain⟨mo0,ajG⟩:=X_ (xM count aB M (aX (D.take i)));have HMO:=af ajG;rw[ajG];clear hI m M2 hA hstep hLc hd hdm hb ajG;go_upto_region 7 with(go_at_call 33;refine ST.out.mono ?_;rintro e w1 ⟨rfl,DX,q1,q2⟩;have K1:=dS q1 (Mv.call KM2.out q2);clear q1 q2);have hP:qE b (M1 d.bb) DX:=by rw[KI.2.2.1 d KS.2.2.2];exact K1.1
   obtain⟨nk,hnk⟩:=X_ (d.n);have hss:(M1 d.bb).ss=(M d.bb).ss:=by
    rw[KI.2.2.1 d KS.2.2.2];unfold zB;split
    ·rfl
    ·exact(Be _ _).1
   have hsl:(M1 d.bb).ss.length=nk:=by rw[hss,KI.2.2.2.1 d KS.2.2.2,hnk]
   have KP:=zO hP hss hsl hnk;obtain⟨mr,ff,fz,⟨g,hg,rfl⟩,hr⟩:=hP;have hrl:mr.ss.length=nk:=hr.len.trans hsl;have hfew:=hr.few;rw[hsl]at hfew;obtain⟨va,vc,hvl⟩:=dh.slice hg.row;have hgl:g.G.length=nk:=by rw[←hrl,←hg.ss,aO]
   rw[hgl]at hvl;have RC:Hid (∀V HX,Mv w0 H0 V (g.heap b mr++HX)→V.cell? ⟨b,1,N_⟩=S_ (s_ va nk vc)):=af (by intro V HX m1;have h:Sat V (jk b g.ti g.tu g.vl mr::(g.Hl++(g.Hi++(g.Hu++g.G.flatMap gu.heap)))):=m1.sat.left;rw[←hvl];exact(h.at_ 0 rfl).cell 1);have RG:=dS hg hr;have LC:Hid (∀V HX,Mv w0 H0 V (HX++(HL++(A1++(A2++R))))→V.cell? ⟨lg,i,N_⟩=S_ (p_ (S_ ⟨b,0,N_⟩))):=af (fun V HX m1=>KS.2.1 V m1.sat.right.left);clear hnk hss hsl hg hr hrl hvl hgl y0;go_wp2_with fail;go_loopg [11,13] nk (fun mm s11 s13 wx=>∃k:Nat,k≤nk∧mm=nk-k∧s13=i_ l_ k∧s11=b_ (xM count aB M (aX (D.take i)++(List.range k).map (fun j=>(⟨d,j⟩:dF))))∧Mv w0 H0 wx (g.heap b mr++(HL++(A1++(A2++R)))))
   case atStart=>exact⟨0,aY _,rfl,rfl,by simp only[List.range_zero,gW,dD];rw[HMO.out],K1.2⟩
   case round=>
    obtain⟨k,hk,rfl,rfl,rfl,m⟩:=hrel;have y0:=LC _ _ m;have y1:=RC _ _ m;by_cases hlk:k<nk
    ·have d2:decide ((k:Int)<nk)=T_:=by simp;omega
     obtain⟨s,hs⟩:∃s,(M1 d.bb).ss[k]?=S_ s:=⟨_,ai (by rw[KP.2.2.1];exact hlk)⟩;have hs0:(M d.bb).ss[k]?=S_ s:=by rw[←KP.2.1];exact hs
     have sg:=RG.2.good s (aF hs);obtain⟨r,hrk,er⟩:=RG.2.get hs;obtain⟨e1,e2,e3,e4⟩:=zF er;obtain⟨lg2,lc,pc,uc,pa,ua,Hp0,Hb0,-,-,-,hcs⟩:=RY b mr g ff fz RG.1 hrk;obtain⟨y2,-,c0,c1,c2,c3,c4,-,-⟩:=hcs wr m.sat.left;rw[e1]at c0;rw[e2]at c1;rw[e3]at c2;rw[e4]at c4;have e5:mr.ss.length=nk:=RG.2.len.trans KP.2.2.1;rw[e5]at y2;have e6:=y1.symm.trans y2;simp only[dG,pI,true_and]at e6;obtain⟨rfl,rfl⟩:=e6;have NW:=af (Si s.pl r.said s.lb pa s.ps.length pc (s_ ua s.bs.length uc) count aB wr sg.np hc (by omega) ⟨_,_,_,rfl⟩);obtain⟨hf,ht,-,-⟩:=jZ.round KI.2.2.2.2.1 KS.2.2.2 (k:=k) (by simp[qQ]) hs0;obtain⟨f,hf2⟩:=X_ (s.said.toNat);obtain⟨t,ht2⟩:=X_ (toM count aB s);rw[hf2]at hf;rw[ht2]at ht;have EN:=af (aeM KI.2.2.2.2.1 KS.2.2.2 (k:=k) (by simp[qQ]) hs0 hf ht);rw[hf,ht]at NW;have hkI:(k:Int)<nk:=by omega
     have hk5:k*5<100000:=by omega
     obtain⟨np,xu⟩:=X_ (s.ps.length);obtain⟨nb,hnb⟩:=X_ (s.bs.length);rw[xu]at c1 NW;rw[hnb]at c2 NW;have KM:=af m;have EM:Hid (xM count aB M (aX (D.take i)++(List.range (k+1)).map (fun j=>(⟨d,j⟩:dF)))=(xM count aB M (aX (D.take i)++(List.range k).map (fun j=>(⟨d,j⟩:dF)))||decide (f<t))):=af (by rw[fO,bU,←az];show xM count aB M (_++[_])=_;rw[ZW,EN.out]);obtain⟨mo,hmo⟩:=X_ (xM count aB M (aX (D.take i)++(List.range k).map (fun j=>(⟨d,j⟩:dF))));rw[hmo]at EM⊢;clear hs hs0 sg hrk er e1 e2 e3 e4 e5 hcs hf ht hf2 ht2 xu hnb m hmo;cases mo with
     |true=>
      go_wp2_with (go_at_call 34;refine NW.out.mono ?_;rintro e w2 ⟨rfl,q1⟩;have K2:=af (Mv.call (H:=[]) (H':=[]) KM.out q1);clear q1);go_roundg (nk-(k+1))
      case measure=>omega
      case rel=>exact⟨k+1,hlk,rfl,by push_cast;rfl,by rw[EM.out];rfl,K2.out⟩
     |false=>
      by_cases hft:f<t
      ·have d3:decide ((f:Int)<t)=T_:=aQ (by omega);have EM2:=EM.out;rw[aQ hft]at EM2;have EM3:=af EM2;clear EM2;go_wp2_with (go_at_call 34;refine NW.out.mono ?_;rintro e w2 ⟨rfl,q1⟩;have K2:=af (Mv.call (H:=[]) (H':=[]) KM.out q1);clear q1);go_roundg (nk-(k+1))
       case measure=>omega
       case rel=>exact⟨k+1,hlk,rfl,by push_cast;rfl,by rw[EM3.out];rfl,K2.out⟩
      ·have d3:decide ((f:Int)<t)=F_:=aW (by omega);have EM2:=EM.out;rw[aW hft]at EM2;have EM3:=af EM2;clear EM2;go_wp2_with (go_at_call 34;refine NW.out.mono ?_;rintro e w2 ⟨rfl,q1⟩;have K2:=af (Mv.call (H:=[]) (H':=[]) KM.out q1);clear q1);go_roundg (nk-(k+1))
       case measure=>omega
       case rel=>exact⟨k+1,hlk,rfl,by push_cast;rfl,by rw[EM3.out];rfl,K2.out⟩
    ·obtain rfl:k=nk:=by omega
     have d2:decide ((k:Int)<k)=F_:=by simp
     have KM:=af m;have EM:Hid (xM count aB M (aX (D.take i)++(List.range k).map (fun j=>(⟨d,j⟩:dF)))=xM count aB M (aX (D.take (i+1)))):=af (by rw[su KS.2.2.1,KP.2.2.2]);obtain⟨mo1,ajF⟩:=X_ (xM count aB M (aX (D.take (i+1))));have HM1:=af ajF;rw[EM.out,ajF];clear m ajF;go_wp2_with fail;go_roundg (n-(i+1))
     case measure=>omega
     case rel=>
      refine⟨i+1,(A1++g.heap b mr)++A2,hlt,rfl,?_,by push_cast;rfl,KS.1 _ KP.1,KM.sub (fun x=>?_) (fun x hx=>?_)⟩
      ·rw[HM1.out]
      ·simp only[aP];omega
      ·simp only[ay]at hx⊢;grind
  ·obtain rfl:i=n:=by omega
   have d1:decide ((i:Int)<i)=F_:=by simp
   have KM:=dS hI m;have EM:Hid (xM count aB M (aX (D.take i))=xM count aB M (aX D)):=af (by rw[dC (by rw[KI.2.1];exact aN _)]);rw[EM.out];have HK2:=HK;clear hI m;go_wp2_with fail;obtain⟨HA,HC,e,h1,h2⟩:=KM.1;have e1:Bs.take i=Bs:=dC (by rw[KI.2.2.2.2.2];exact aN _);have e2:D.take i=D:=dC (by rw[KI.2.1];exact aN _);have e3:Bs.drop i=[]:=jq (by rw[KI.2.2.2.2.2];exact aN _);have e4:D.drop i=[]:=jq (by rw[KI.2.1];exact aN _);rw[e1,e2]at h1;rw[e3,e4]at h2;have e5:HC=[]:=h2;subst e5;rw[dD]at e;subst e;exact HK _ _ _ _ _ _ _ _ _ _ _ _ _ _ _ _ _ _ _ _ _ _ _ _ _ _ _ _ _ _ _ _ _ _ _ _ _ _ _ _ _ _ _ _ _ _ _ _ _ _ _ _ h1 KM.2
end
section
open Go.RowKit
variable{vR:Value}
structure Cc where
 m:qU
 b:Nat
 vp:Value
 vl:Value
 Hp:List HB
 Hl:List HB
def Cc.v(g:Cc):List Value:=[p_ (S_ ⟨g.b,0,N_⟩),i_ l_ g.m.x.k,g.vp,g.vl]
def Cc.heap(g:Cc):List HB:=g.Hp++g.Hl
structure Cc.ok(Bs:List Nat)(D:List bu)(g:Cc):Prop where
 p:jy g.vp (g.m.pcs.map fun z=>(z.p:Int)) g.Hp
 l:jy g.vl (g.m.pcs.map fun z=>(z.n:Int)) g.Hl
 at_:∃i:Nat,Bs[i]?=S_ g.b∧D[i]?=S_ g.m.x.d
def Au(Bs:List Nat)(D:List bu)(v:Value)(Q:List qU)(H:List HB):Prop:=∃(G:List Cc) (Ho:List HB),G.map (·.m)=Q∧(∀g∈G,g.ok Bs D)∧dh 106 4 v G.length (G.flatMap Cc.v) Ho∧H=Ho++G.flatMap Cc.heap
theorem ahH:(Tryz.prog.info? 106).map (fun i=>(i.zero,i.size,i.bytes))=S_ (S_ (g_ #[.pointer N_,i_ l_ 0,s_ N_ 0 0,s_ N_ 0 0]),4,64):=by kernel_rfl
theorem Au.nil(Bs:List Nat)(D:List bu):Au Bs D (s_ N_ 0 0) [] []:=⟨[],[],rfl,(fun g hg=>by cases hg),dh.nil _ _,rfl⟩
theorem Au.slice{Bs:List Nat}{D:List bu}{v:Value}{Q:List qU}{H:List HB}(h:Au Bs D v Q H):∃a c,v=s_ a Q.length c:=by obtain⟨G,Ho,e,-,h1,-⟩:=h;obtain⟨a,c,rfl⟩:=dh.slice h1;exact⟨a,c,by rw[←e,aO]⟩
def vN(b:Nat)(m:aT)(H:List HB):Prop:=∃ff fz,kC b m ff fz H
theorem ag8(b rb:Nat)(m:aT)(ff fz:Bool)(l:List UInt8)(r:jG)(H HW:List HB)(W:World)(hB:kC b m ff fz H)(hw:iq vR rb l r HW)(hs:Sat W (H++HW))(n k:Nat)(hg:kE m.first n)(hk:k<n)(bd:Int)(hb:bd≤1000)(hll:l.length≤90000000)(hrb:r.begun≤60000000)(h8:r.left≤8): ∃ti,(∀V,Sat V H→V.cell? ⟨b,2,N_⟩=S_ (p_ (S_ ⟨ti,0,N_⟩)))∧Calls P_ 94 #[p_ (S_ ⟨ti,0,N_⟩),p_ (S_ ⟨rb,0,N_⟩),i_ l_ k,i_ l_ bd] W fun e w'=>e=r_ (b_ (iR l m.first k bd r).2.1)∧ ∃H' lM,kC b {m with first:=(iR l m.first k bd r).1} ff fz H'∧iq vR rb l (iR l m.first k bd r).2.2 lM∧Mv W (H++HW) w' (H'++lM):=by obtain⟨g,hg0,rfl⟩:=hB;refine⟨g.ti,fun V h=>(h.at_ 0 rfl).cell 2,?_⟩;have M0:Mv W (g.heap b m++HW) W ((g.Hi++HW)++(jk b g.ti g.tu g.vl m::(g.Hl++(g.Hu++g.G.flatMap gu.heap)))):=(Mv.refl hs).sub (fun x=>by simp only[iG.heap,aP,bK];omega) (fun c hc=>by simp only[iG.heap,ay,aC]at hc⊢;grind);refine(Nr g.ti rb l m.first ff g.Hi HW r _ n k bd hg0.ti hw M0.sat.left hg hk hb hll hrb h8).mono ?_;rintro e w' ⟨rfl,H1,HW1,p1,p2,p3⟩;have M2:=Mv.call M0 p3;refine⟨rfl,iG.heap {g with Hi:=H1} b {m with first:=(iR l m.first k bd r).1},HW1,⟨{g with Hi:=H1},⟨hg0.ss,hg0.st,hg0.row,p1,hg0.tu,hg0.pl⟩,rfl⟩,p2,?_⟩;exact M2.sub (fun x=>by simp only[iG.heap,jk,aP,bK];omega) (fun c hc=>by simp only[iG.heap,jk,ay,aC]at hc⊢;grind)
def Ud(vR:Value)(l:List UInt8)(rb:Nat)(Bs:List Nat)(D:List bu)(H0 HL R:List HB)(w0:World):Option (tJ×List qU)→Ending→World→Prop
 |none,e,w'=>∃v,e=r_ (t_ #[v,i_ l_ 10])∧Mv w0 H0 w' []
 |some S,e,w'=>∃v Hq HR HB',e=r_ (t_ #[v,i_ l_ 0])∧Au Bs D v S.2 Hq∧iq vR rb l S.1.rd HR∧gJ vN Bs D S.1.M HB'∧Mv w0 H0 w' (HR++(Hq++(HL++(HB'++R))))
theorem amc{w0 w:World}{H0 HW HQ HL A1 H1 A2 R:List HB}(m:Mv w0 H0 w (HW++(HQ++(HL++((A1++(H1++A2))++R))))):Mv w0 H0 w ((H1++HW)++(HQ++(HL++(A1++(A2++R))))):=m.Z_
theorem amb{w0 w:World}{H0 HW HQ HL A1 H1 A2 R:List HB}(m:Mv w0 H0 w ((H1++HW)++(HQ++(HL++(A1++(A2++R)))))):Mv w0 H0 w (HW++(HQ++(HL++((A1++(H1++A2))++R)))):=m.Z_
theorem VV{Bs:List Nat}{D:List bu}{g:Cc}{G:List Cc}{v:Value}{Ho:List HB}(ok:∀x∈G,x.ok Bs D)(hg:g.ok Bs D)(hr:dh 106 4 v (G.length+1) (G.flatMap Cc.v++g.v) Ho):Au Bs D v (G.map (·.m)++[g.m]) (Ho++(G.flatMap Cc.heap++g.heap)):=by
 refine⟨G++[g],Ho,by simp,fun x hx=>?_,?_,by simp⟩
 ·rcases ay.1 hx with hx|hx
  ·exact ok x hx
  ·rw[fJ]at hx;subst hx;exact hg
 ·rw[au,List.length_singleton,gX,dE,List.flatMap_nil,dD];exact hr
end
section
open Go.RowKit
variable{vR:Value}
theorem acN(A:Option Addr)(c n rb ah aB X:Nat)(Bs:List Nat)(D:List bu)(M:Nat→aT)(l:List UInt8)(r:jG)(HL HW HB0 R H0:List HB)(w0 W:World)
 (hL:wZ (s_ A n c) Bs HL) (hB:gJ vN Bs D M HB0) (hw:iq vR rb l r HW) (hM:Mv w0 H0 W (HW++(HL++(HB0++R)))) (hn:D.length=n) (hn3:n≤1000) (hnd:(D.map (·.bb)).Nodup) (Em:ah≤63) (hl:aB≤99) (hll:l.length≤9000000) (hrb:r.begun≤1000) (h8:r.left≤8) (hsp:(aX D).length≤200) (hg:∀d∈D,Ce (M d.bb)∧(M d.bb).ss.length=d.n∧∀s∈(M d.bb).ss,s.bs.length≤X):
 Calls P_ 43 #[s_ A n c,i_ l_ ah,i_ l_ aB,p_ (S_ ⟨rb,0,N_⟩)] W (Ud vR l rb Bs D H0 HL R w0 (AA l ah aB D M r)):=by
 have hbl:Bs.length=n:=hB.len.trans hn;obtain⟨q,hq⟩:=X_ ((eY l r).1);obtain⟨r1,hr1⟩:=X_ ((eY l r).2);obtain⟨i1,i2,i3⟩:=jD l r h8;rw[hq]at i1;rw[hr1]at i2 i3;have hHQ:AA l ah aB D M r=if q=1 then vI l ah aB (S_ (⟨M,[],r1⟩,[])) (aX D)else S_ (⟨M,[],r1⟩,[]):=by unfold AA;rw[hq,hr1]
 have BT:=Iu rb l r W HW hw hM.sat.left (by omega) (by omega) h8;rw[hq,hr1]at BT;have BT:=af BT;have KI:=H8_ hL hn hnd hbl hB hM hHQ hg;clear hL hn hnd hbl hB hM hHQ hg hw hq hr1;by_cases hq1:q=1
 ·subst hq1;have HHQ:Hid (AA l ah aB D M r=vI l ah aB (S_ (⟨M,[],r1⟩,[])) (aX D)):=af (by rw[KI.2.2.2.2.2.2.1,aK rfl]);go_enter Tryz.func43,Tryz.ntmps43;go_upto_region 4 with(go_at_call 93;(with_reducible refine BT.out.mono ?_);rintro e w1 ⟨rfl,HW1,q1,q2⟩;have K1:=dS q1 (Mv.call KI.out.2.2.2.2.2.1 q2);clear q1 q2);have DI0:Hid (FW D r1.begun X [] (⟨M,[],r1⟩,[])):=af (FW.start KI.2.2.2.2.2.2.2 i2);have amZ:r1.begun≤1001:=by omega
  clear BT i1 i2 i3 hrb h8;go_wp2_with fail;go_loopg [10,11] n (fun mm s10 s11 wx=>∃(i:Nat) (S:tJ×List qU) (HR Hq QZ:List YtjngfhgakokejaaGreat.HB),i≤n∧mm=n-i∧s11=i_ l_ i∧vI l ah aB (S_ (⟨M,[],r1⟩,[])) (aX (D.take i))=S_ S∧FW D r1.begun X (aX (D.take i)) S∧gJ vN Bs D S.1.M QZ∧iq vR rb l S.1.rd HR∧Au Bs D s10 S.2 Hq∧Mv w0 H0 wx (HR++(Hq++(HL++(QZ++R)))))
  case atStart=>exact⟨0,(⟨M,[],r1⟩,[]),HW1,[],HB0,aY _,rfl,rfl,by simp only[List.take_zero];rfl,by simp only[List.take_zero];exact DI0.out,KI.2.2.2.2.1,K1.1,Au.nil _ _,K1.2⟩
  case round=>
   clear K1 DI0;obtain⟨i,S,HR1,Hq1,QZ,hi,rfl,rfl,hF,hD,hB,hw,hp,m⟩:=hrel;by_cases hlt:i<n
   ·have d1:decide ((i:Int)<n)=T_:=by simp;omega
    obtain⟨b,hbb⟩:∃b,Bs[i]?=S_ b:=⟨_,ai (by rw[KI.2.2.2.1];exact hlt)⟩;obtain⟨d,hd⟩:∃d,D[i]?=S_ d:=⟨_,ai (by rw[KI.2.1];exact hlt)⟩;have hdm:=aF hd;obtain⟨lgA,rfl,hLc⟩:=JX KI.1 hbb;have KS:=zO hd hdm hbb hLc;have KE:=NU hF hD hB hw hp m;have hiI:(i:Int)<n:=by omega
    have hi3:i≤1000:=by omega
    obtain⟨nk,hnk⟩:=X_ (d.n);have HNK:=af hnk;have hsp2:(aX (D.take i)).length+nk≤200:=by
     have h2:(aX (D.take (i+1))).length≤(aX D).length:=by
      have h3:aX D=aX (D.take (i+1))++aX (D.drop (i+1)):=by unfold aX;rw[←gX,iP]
      rw[h3,au];omega
     rw[su hd,au,aO,rX]at h2;omega
    have HSP:=af hsp2;have alW:nk≤200:=by omega
    clear hF hD hB hw hp m hd hdm hbb hLc hnk hsp2;go_upto_region 7 with fail;go_wp2_with fail;go_loopg [10,12] nk (fun mm s10 s12 wx=>∃(k:Nat) (S:tJ×List qU) (HR Hq QZ:List YtjngfhgakokejaaGreat.HB),k≤nk∧mm=nk-k∧s12=i_ l_ k∧vI l ah aB (S_ (⟨M,[],r1⟩,[])) (aX (D.take i)++(List.range k).map (fun j=>(⟨d,j⟩:dF)))=S_ S∧FW D r1.begun X (aX (D.take i)++(List.range k).map (fun j=>(⟨d,j⟩:dF))) S∧gJ vN Bs D S.1.M QZ∧iq vR rb l S.1.rd HR∧Au Bs D s10 S.2 Hq∧Mv w0 H0 wx (HR++(Hq++(HL++(QZ++R)))))
    case atStart=>exact⟨0,S,HR1,Hq1,QZ,aY _,rfl,rfl,by simp only[List.range_zero,gW,dD];exact KE.1,by simp only[List.range_zero,gW,dD];exact KE.2.1,KE.2.2.1,KE.2.2.2.1,KE.2.2.2.2.1,KE.2.2.2.2.2⟩
    case round=>
     clear KE;obtain⟨k,S,HR1,Hq1,QZ,hk,rfl,rfl,hF,hD,hB,hw,hp,m⟩:=hrel;obtain⟨A1,H1,A2,rfl,hP,hstep⟩:=hB.split KI.2.2.1 KS.2.2.1 KS.1;have M1:=amc m;obtain⟨gd,hsl,-⟩:=hD.good d KS.2.1;rw[HNK.out]at hsl;have y0:=KS.2.2.2 wr m.sat.right.right.left;obtain⟨ff,fz,hR⟩:=id hP;have y1:∃va vc,wr.cell? ⟨b,1,N_⟩=S_ (s_ va nk vc):=by
      obtain⟨g,hg,rfl⟩:=id hR;obtain⟨va,vc,hvl⟩:=dh.slice hg.row;have hgl:g.G.length=nk:=by rw[←hsl,←hg.ss,aO]
      rw[hgl]at hvl;have h:Sat wr (jk b g.ti g.tu g.vl (S.1.M d.bb)::(g.Hl++(g.Hi++(g.Hu++g.G.flatMap gu.heap)))):=M1.sat.left.left;exact⟨va,vc,by rw[←hvl];exact(h.at_ 0 rfl).cell 1⟩
     by_cases hlk:k<nk
     ·have d2:decide ((k:Int)<nk)=T_:=by simp;omega
      obtain⟨s,hs⟩:∃s,(S.1.M d.bb).ss[k]?=S_ s:=⟨_,ai (by rw[hsl];exact hlk)⟩;have hcell:∃lg lc pc pa,∀V,Sat V H1→V.cell? ⟨b,1,N_⟩=S_ (s_ (S_ ⟨lg,0,N_⟩) nk lc)∧V.cell? ⟨lg,k*5+1,N_⟩=S_ (s_ pa s.ps.length pc):=by obtain⟨g,hg,rfl⟩:=id hR;obtain⟨lg,lc,pc,uc,pa,ua,Hp0,Hb0,-,-,-,hcs⟩:=RY b (S.1.M d.bb) g ff fz hg hs;refine⟨lg,lc,pc,pa,fun V hV=>?_⟩;obtain⟨c1,-,-,c2,-⟩:=hcs V hV;rw[hsl]at c1;exact⟨c1,c2⟩
      obtain⟨lg,lc,pc,pa,hcell⟩:=hcell;clear y1;obtain⟨y1,y2⟩:=hcell wr M1.sat.left.left;obtain⟨np,xu⟩:=X_ (s.ps.length);rw[xu]at y2;have hpre:(aX (D.take i)++(List.range k).map (fun j=>(⟨d,j⟩:dF))).length≤200:=by rw[au,aO,rX];have:=HSP.out;omega
      have amh:=hD.bg;have ak5:S.1.rd.begun≤20000000:=by omega
      have hfew:S.2.length≤200:=by have:=hD.few;omega
      obtain⟨⟨m1,hq,r2⟩,hH⟩:∃t,nV l (S.1.M d.bb) s k aB S.1.rd=t:=⟨_,rfl⟩;obtain⟨t1,t2⟩:=gd.tr (by omega);have HG:=Qg l (S.1.M d.bb) s k aB S.1.rd hD.h8 (by omega) (by omega) gd;rw[hH]at HG;simp only at HG;obtain⟨hG1,hG2,hG3,hG4⟩:=HG;obtain⟨ti,hti,alc⟩:=ag8 b rb (S.1.M d.bb) ff fz l S.1.rd H1 HR1 wr hR hw M1.sat.left (S.1.M d.bb).ss.length k t1 (by omega) ((aB:Int)+1) (by omega) (by omega) (by omega) hD.h8;have y3:=hti wr M1.sat.left.left;have ald:=Iu rb l S.1.rd wr HR1 hw M1.sat.left.right (by omega) (by omega) hD.h8;have hf:=VF KI.2.2.1 KS.1 k;have KQ:=H9_ hF hD hstep hs hH hf M1 hsl hp;have KG:=zO hG1 hG2 hG3 hG4;have DC:=af alc;have BC:=af ald;have HC:=af hcell;have HR2:=nY hR hw xu;have hkI:(k:Int)<nk:=by omega
      have hk5:k*5<100000:=by omega
      clear hF hD hB hw hp m hP hR hstep hs hH hf M1 hsl xu hG1 hG2 hG3 hG4 alc ald hcell gd t1 t2 hti hpre amh;go_upto_if 50 with fail;go_cut [13,50]from 51 to 65 (fun s13 _ wx=>∃(H2 HR':List YtjngfhgakokejaaGreat.HB),s13=b_ hq∧kC b m1 ff fz H2∧iq vR rb l r2 HR'∧Mv w0 H0 wx ((H2++HR')++(Hq1++(HL++(A1++(A2++R))))))
      case first=>
       by_cases h0:np=0
       ·subst h0;have hE:nV l (S.1.M d.bb) s k aB S.1.rd=({(S.1.M d.bb)with first:=(iR l (S.1.M d.bb).first k ((aB:Int)+1) S.1.rd).1},(iR l (S.1.M d.bb).first k ((aB:Int)+1) S.1.rd).2.1,(iR l (S.1.M d.bb).first k ((aB:Int)+1) S.1.rd).2.2):=aK HR2.2.2;rw[KQ.2.2.2.2.1]at hE;simp only[fK]at hE;obtain⟨e1,e2,e3⟩:=hE;rw[←e1,←e2,←e3]at DC;clear e1 e2 e3;go_wp2_with (go_at_call 94;(with_reducible refine DC.out.mono ?_);rintro e w4 ⟨rfl,H2,HR4,p1,p2,p3⟩;have K4:=nY p1 p2 (Mv.call KQ.out.2.2.2.2.2.2.1 p3);clear p1 p2 p3);go_meet;exact⟨H2,HR4,rfl,K4.1,K4.2.1,K4.2.2⟩
       ·have hE:nV l (S.1.M d.bb) s k aB S.1.rd=((S.1.M d.bb),decide ((eY l S.1.rd).1=1),(eY l S.1.rd).2):=aJ (by rw[HR2.2.2];exact h0);rw[KQ.2.2.2.2.1]at hE;simp only[fK]at hE;obtain⟨e1,e2,e3⟩:=hE;have d3:((np:Int)==0)=F_:=by simp;exact h0
        obtain⟨z,hz⟩:=X_ ((eY l S.1.rd).1);have hz1:=(jD l S.1.rd KQ.2.1.h8).1;rw[hz]at hz1 BC e2;rw[←e3]at BC;have E2:=dS e1 e2;clear e1 e2 e3 hz h0;have hz2:z=0∨z=1:=by omega
        clear hz1;rcases hz2 with rfl|rfl
        ·go_wp2_with (go_at_call 93;(with_reducible refine BC.out.mono ?_);rintro e w4 ⟨rfl,HR4,p2,p3⟩;have K4:=dS p2 (Mv.call (show Mv w0 H0 wr (HR1++(H1++(Hq1++(HL++(A1++(A2++R))))))from KQ.out.2.2.2.2.2.2.1.Z_) p3);clear p2 p3);go_meet;exact⟨H1,HR4,by rw[E2.2];rfl,by rw[E2.1];exact HR2.1,K4.1,K4.2.Z_⟩
        ·go_wp2_with (go_at_call 93;(with_reducible refine BC.out.mono ?_);rintro e w4 ⟨rfl,HR4,p2,p3⟩;have K4:=dS p2 (Mv.call (show Mv w0 H0 wr (HR1++(H1++(Hq1++(HL++(A1++(A2++R))))))from KQ.out.2.2.2.2.2.2.1.Z_) p3);clear p2 p3);go_meet;exact⟨H1,HR4,by rw[E2.2];rfl,by rw[E2.1];exact HR2.1,K4.1,K4.2.Z_⟩
      case rest=>
       obtain⟨H2,HR4,rfl,hR4,hw4,M4⟩:=hcut;clear DC BC y0 y1 y2 y3;cases hq with
       |false=>
        have K4:=nY hR4 hw4 M4;clear hR4 hw4 M4;go_wp2_with fail;go_roundg (nk-(k+1))
        case measure=>omega
        case rel=>
         obtain⟨hF,hD,hstep,hs,hH,hf,M1,hsl,hp⟩:=KQ.out;have eS:=VB (ah:=ah) hs hH;refine⟨k+1,(⟨ou S.1.M d.bb m1,S.1.out,r2⟩,S.2),HR4,Hq1,A1++(H2++A2),hlk,rfl,by push_cast;rfl,?_,?_,hstep _ _ ⟨ff,fz,K4.1⟩,K4.2.1,hp,amb K4.2.2⟩
         ·rw[fO,bU,←az];show vI _ _ _ _ (_++[_])=_;rw[Jw,hF];exact eS
         ·rw[fO,bU,←az];exact hD.step KS.2.1 (by rw[HNK.out];exact hlk) hf (by omega) eS
       |true=>
        obtain⟨g1,g2,g3,g4⟩:=KG.out;obtain⟨t1,t2⟩:=g1.tr (by rw[g2,KQ.2.2.2.2.2.2.2.1];omega);have hs1:m1.ss[k]?=S_ s:=by rw[g2];exact KQ.2.2.2.1
        have gs:=g1.ss s (aF hs1);have gr:=g1.r.ss s (aF hs1);have HE:=afp b rb k ah m1 d s ff fz H2 HR4 l r2 wc hR4 hw4 M4.sat.left hs1 (by rw[g2,KQ.2.2.2.2.2.2.2.1];omega) t2 g1.r.nn g1.r.pl (by have:=gs.np;omega) (fun h=>(gs.pl h).1) gr.1 gr.2 Em (by omega) (by omega) g3;obtain⟨rq,hrq⟩:=X_ (readM l ah m1 d k s r2);rw[hrq]at HE;have HE:=af HE;have HRQ:=af hrq;have K4:=af M4;have z0:=KS.2.2.2 wc M4.sat.right.right.left;clear hR4 hw4 M4 g1 g2 g3 g4 t1 t2 hs1 gs gr hrq;cases rq with
        |none=>have hN:Hid (AA l ah aB D M r=N_):=af (by rw[HHQ.out];refine UW (aa6 KS.1 (k:=k) (by rw[HNK.out];exact hlk)) ?_;rw[Jw,KQ.1];show CU l ah aB S ⟨d,k⟩=N_;rw[OT KQ.2.2.2.1 KQ.2.2.2.2.1,HRQ.out];rfl);go_wp2_with (go_at_call 95;(with_reducible refine HE.out.mono ?_);rintro e w5 ⟨rfl,p1⟩;have K5:=af (Mv.call K4.out p1);clear p1);go_ret2;rw[hN.out];exact⟨_,rfl,(K5.alloc _ _).sub (fun g=>by rw[gI];omega) (fun b hb=>by cases hb)⟩
        |some qv=>
         obtain⟨mq,pcs,rq⟩:=qv;go_upto_region 16 with(go_at_call 95;(with_reducible refine HE.out.mono ?_);rintro e w5 ⟨vp,vl,HP,HQ,Cm,H5,rfl,p1,p2,p3,p4,p5⟩;obtain⟨ap,cp,rfl⟩:=dh.slice p1;obtain⟨al,cl,rfl⟩:=dh.slice p2;have K5:=LH p1 p2 p3 p4 (Mv.call K4.out p5);clear p1 p2 p3 p4 p5);obtain⟨p1,p2,p3,p4,m5⟩:=K5.out;rw[aO]at p1 p2;obtain⟨pn,hpn⟩:=X_ (pcs.length);rw[hpn]at p1 p2;simp only[hpn];obtain⟨w6,hw6⟩:=X_ (w5.alloc (.cells #[p_ (S_ ⟨b,0,N_⟩),i_ l_ k,s_ ap pn cp,s_ al pn cl] 106));obtain⟨g6,hg6⟩:=X_ (w5.heap.size);have M6:=m5.alloc 106 #[p_ (S_ ⟨b,0,N_⟩),i_ l_ k,s_ ap pn cp,s_ al pn cl];rw[hw6,hg6]at M6;rw[hw6];simp only[hg6];obtain⟨g7,hg7⟩:=X_ (w6.heap.size);have M7:=M6.alloc 106 #[p_ (S_ ⟨b,0,N_⟩),i_ l_ k,s_ ap pn cp,s_ al pn cl];rw[hg7]at M7;have e0:w6.cell? ⟨g6,0,N_⟩=S_ (p_ (S_ ⟨b,0,N_⟩)):=M6.cell 0 rfl 0;have e1:w6.cell? ⟨g6,1,N_⟩=S_ (i_ l_ k):=M6.cell 0 rfl 1;have e2:w6.cell? ⟨g6,2,N_⟩=S_ (s_ ap pn cp):=M6.cell 0 rfl 2;have e3:w6.cell? ⟨g6,3,N_⟩=S_ (s_ al pn cl):=M6.cell 0 rfl 3;obtain⟨PG,hPG⟩:∃PG:Cc,PG=⟨⟨⟨d,k⟩,pcs⟩,b,s_ ap pn cp,s_ al pn cl,HP,HQ⟩:=⟨_,rfl⟩;have hPv:PG.v=[p_ (S_ ⟨b,0,N_⟩),i_ l_ k,s_ ap pn cp,s_ al pn cl]:=by rw[hPG];rfl
         obtain⟨G,Ho,hGm,ahW,hrow,rfl⟩:=KQ.2.2.2.2.2.2.2.2;have hGl:G.length≤200:=by rw[←hGm,aO]at hfew;exact hfew
         have M8:Mv w0 H0 (w6.alloc (.cells #[p_ (S_ ⟨b,0,N_⟩),i_ l_ k,s_ ap pn cp,s_ al pn cl] 106)) (Ho++(⟨g7,106,#[p_ (S_ ⟨b,0,N_⟩),i_ l_ k,s_ ap pn cp,s_ al pn cl]⟩::(G.flatMap Cc.heap++((HP++HQ)++(Cm++(HL++((A1++(H5++A2))++R))))))):=M7.Z_;have RD:Reads (w6.alloc (.cells #[p_ (S_ ⟨b,0,N_⟩),i_ l_ k,s_ ap pn cp,s_ al pn cl] 106)) (w6.alloc (.cells #[p_ (S_ ⟨b,0,N_⟩),i_ l_ k,s_ ap pn cp,s_ al pn cl] 106)).heap.size 4 (S_ ⟨g7,0,N_⟩) 1 PG.v:=by rw[hPv];exact Reads.zD (dh.owns (H:=[⟨g7,106,#[p_ (S_ ⟨b,0,N_⟩),i_ l_ k,s_ ap pn cp,s_ al pn cl]⟩]) (dh.new 106 g7 1 #[p_ (S_ ⟨b,0,N_⟩),i_ l_ k,s_ ap pn cp,s_ al pn cl] rfl (by decide)) (M8.sat.Z_) (B:=0) (fun _ _=>aY _))
         have h1c:∀u∈PG.v,u.oneCell'=T_:=by rw[hPv];intro u hu;simp only[aC,bP,gQ]at hu;rcases hu with rfl|rfl|rfl|rfl<;>rfl
         have K8:=zO hrow M8 RD h1c;have KP:=H7_ p1 p2 p3 p4 hPG hGm ahW;have H67:=dS hw6 hg7;have HPN:=af hpn;clear K5 p1 p2 p3 p4 m5 hw6 hg6 M6 M7 M8 RD h1c hPG hPv hGm ahW hrow hg7 hpn z0 HE K4;go_wp2_with (at_builtin;(try rw[H67.2]);refine rY Tryz.underlying100 ahH rfl (by decide) (by decide) rfl (.tmp 82) (.tmp 84) rfl _ rfl rfl K8.1 K8.2.1.sat.left K8.2.2.1 K8.2.2.2 (by omega) ?_;intro v7 w7 Ho7 hr7 m7;have K7:=dS hr7 (Mv.call K8.2.1 m7);clear hr7 m7);go_roundg (nk-(k+1))
         case measure=>omega
         case rel=>
          obtain⟨hF,hD,hstep,hs,hH,hf,-,hsl,-⟩:=KQ.out;obtain⟨p1,p2,p3,p4,hPG,hGm,ahW⟩:=KP.out;have eS:=(OT (ah:=ah) hs hH).trans (by rw[HRQ.out]);have hok:PG.ok Bs D:=by rw[hPG];exact⟨p1,p2,i,KS.2.2.1,KS.1⟩
          have akN:=VV ahW hok K7.1;have ePm:PG.m=⟨⟨d,k⟩,pcs⟩:=by rw[hPG]
          have ePh:PG.heap=HP++HQ:=by rw[hPG];rfl
          rw[hGm,ePm,ePh]at akN;refine⟨k+1,(⟨ou S.1.M d.bb mq,S.1.out++pcs,rq⟩,S.2++[⟨⟨d,k⟩,pcs⟩]),Cm,Ho7++(G.flatMap Cc.heap++(HP++HQ)),A1++(H5++A2),hlk,rfl,by push_cast;rfl,?_,?_,hstep _ _ ⟨ff,fz,p4⟩,p3,akN,?_⟩
          ·rw[fO,bU,←az];show vI _ _ _ _ (_++[_])=_;rw[Jw,hF];exact eS
          ·rw[fO,bU,←az];exact hD.step KS.2.1 (by rw[HNK.out];exact hlk) hf (by omega) eS
          ·exact K7.2.Z_
     ·obtain rfl:k=nk:=by omega
      have d2:decide ((k:Int)<k)=F_:=by simp
      obtain⟨va,vc,y1⟩:=y1;have KQ:=NU hF hD (hstep _ _ hP) hw hp m;clear hF hD hP hw hp m hstep M1 hsl hR gd hB;go_wp2_with fail;go_roundg (n-(i+1))
      case measure=>omega
      case rel=>
       obtain⟨h1,h2,h3,h4,h5,h6⟩:=KQ.out;refine⟨i+1,S,HR1,Hq1,A1++(H1++A2),hlt,rfl,by push_cast;rfl,?_,?_,?_,h4,h5,h6⟩
       ·rw[su KS.1,HNK.out];exact h1
       ·rw[su KS.1,HNK.out];exact h2
       ·rw[LQ]at h3;exact h3
   ·obtain rfl:i=n:=by omega
    have d1:decide ((i:Int)<i)=F_:=by simp
    have e2:D.take i=D:=dC (by rw[KI.2.1];exact aN _);rw[e2]at hF;have hS:Hid (AA l ah aB D M r=S_ S):=af (by rw[HHQ.out,hF]);obtain⟨ao,co,rfl⟩:=hp.slice;have KQ:=zO hB hw hp m;clear hF hD hB hw hp m e2;go_wp2_with fail;go_ret2;rw[hS.out];exact⟨_,Hq1,HR1,QZ,rfl,KQ.2.2.1,KQ.2.1,KQ.1,KQ.2.2.2⟩
 ·obtain rfl:q=0:=by omega
  have HS:Hid (AA l ah aB D M r=S_ (⟨M,[],r1⟩,[])):=af (by rw[KI.2.2.2.2.2.2.1,aJ (by decide)]);go_enter Tryz.func43,Tryz.ntmps43;go_wp2_with (go_at_call 93;(with_reducible refine BT.out.mono ?_);rintro e w1 ⟨rfl,HW1,q1,q2⟩;have K1:=dS q1 (Mv.call KI.out.2.2.2.2.2.1 q2);clear q1 q2);go_ret2;rw[HS.out];exact⟨_,[],HW1,HB0,rfl,Au.nil _ _,K1.1,KI.2.2.2.2.1,K1.2⟩
end
section
open Go.RowKit
theorem aaZ{ops:Array Oper}{o:Oper}{a:Act}{w:World}{K:Act→World→Prop}{Q:Exit→Act→World→Prop}{E:Prop}(hgd:o.guard=N_)(s x:Operand)(ho:o.op=.call {callee:=.builtin .append,args:=#[s,x],argTypes:=#[49,49]})(v u:Value)(l r:List (Int×Bool))(H:List HB)
 (hsv:a.eval s=v) (hxu:a.eval x=u) (h:lH v l H) (hs:Sat w H) (hu:QV w u r) (hl:l.length+r.length≤100000000)
 (hK:∀v' w' H',lH v' (l++r) H'→Mv w H w' H'→K (a.put o.dst v') w'):if Region.wanted o (yielded ops a.tmps)=T_ then Oper.wp P_ o a w K Q else E:=by
 have hw:Region.wanted o (yielded ops a.tmps)=T_:=by simp[Region.wanted,hgd]
 rw[aK hw];exact G! s x ho v u l r H hsv hxu h hs hu hl hK
section
variable(K:Act→World→Prop)(xb np nb pc bc:Nat)(pl:Int)(pa ba:Option Addr)(da:Option Addr)(nd dc:Nat)(ps:List (Int×Bool))(bs data:List UInt8)(R H0:List YtjngfhgakokejaaGreat.HB)(w0:World)(w:World){s0 s2 s3 s4 s5 s7 s8 s9 s10 s11 s12 s13 s14 s15 s16 l9 kH kS s20 lF lC s23 s24 kZ s26 kW kR kY lu lJ lK lI lL lD s36 lY lX mG ni mZ mY s43 s44 nI mF nH nK s49 mD mg lW s53 mX mQ mP mO nX nJ oU oQ pO qW qN qV rD rC s68 rM rJ sN s72 sK sJ ry ru rf s78 qZ rH rG s82 s83 uk uj:Value}
inductive O9(bQ:Array Bool)(a:Act)(W:World):Prop|mk {b0 b1 b2 b3 b4 b5 b6 b7 b8 b9 b10 b11 b12 b13 b14 b15 b16 b17:Bool} {u20 u21 u22 u23 u24 u25 u26 u27 u28 u29 u30 u31 u32 u33 u34 u35 u7:Value} {gx:Nat} {P:List YtjngfhgakokejaaGreat.HB} {Q:List YtjngfhgakokejaaGreat.HB} (hl:bQ=#[b0,b1,b2,b3,b4,b5,b6,b7,b8,b9,b10,b11,b12,b13,b14,b15,b16,b17]) (ha:a=⟨List.toArray (s0::(.slice da nd dc)::s2::s3::s4::s5::(.pointer (some ⟨xb,0,none⟩))::u7::s8::s9::s10::s11::s12::s13::s14::s15::s16::l9::kH::kS::u20::u21::u22::u23::u24::u25::u26::u27::u28::u29::u30::u31::u32::u33::u34::u35::s36::lY::lX::mG::ni::mZ::mY::s43::s44::nI::mF::nH::nK::s49::mD::mg::lW::s53::mX::mQ::mP::mO::nX::nJ::oU::oQ::pO::qW::qN::qV::rD::rC::s68::rM::rJ::sN::s72::sK::sJ::ry::ru::rf::s78::qZ::rH::rG::s82::s83::uk::uj::[]),[]⟩) (HW:((b17=false→Mv w0 H0 W (P++(Q++(oh b16 (Bi gx 0 (.slice none 0 0) (.slice none 0 0))++R))))∧(b17=true→Mv w0 H0 W (P++(Q++(Bi gx (pl) u27 u34::R))))∧(b3=false→P=[])∧(b8=false→Q=[])∧(b7=true→b3=true)∧(b12=true→b8=true)∧(b14=true→b12=true)∧(b15=true→b7=true∧b14=true)∧(b17=true→b0=true∧b1=true∧b2=true∧b3=true∧b4=true∧b5=true∧b6=true∧b7=true∧b8=true∧b9=true∧b10=true∧b11=true∧b12=true∧b13=true∧b14=true∧b15=true∧b16=true))) (hF:(b0=true→u20=.pointer (some ⟨xb,0,none⟩))∧(b1=true→u21=.pointer (some ⟨xb,0,none⟩))∧(b2=true→u22=.int .i64 (pl))∧(b3=true→(b7=false→lH u23 [] P))∧(b4=true→u24=.pointer (some ⟨xb,0,none⟩))∧(b5=true→u25=.pointer (some ⟨xb,1,none⟩))∧(b6=true→u26=.slice pa np pc)∧(b7=true→lH u27 ps P)∧(b8=true→(b12=false→dR u28 [] Q))∧(b9=true→u29=.pointer (some ⟨xb,0,none⟩))∧(b10=true→u30=.pointer (some ⟨xb,2,none⟩))∧(b11=true→u31=.slice ba nb bc)∧(b12=true→(b14=false→dR u32 bs Q))∧(b13=true→u33=.slice da nd dc)∧(b14=true→dR u34 (bs++data) Q)∧(b15=true→u35=.agg #[.int .i64 (pl),u27,u34])∧(b16=true→u7=.pointer (some ⟨gx,0,none⟩)):=by and_intros<;>first|assumption|exact fun _=>rfl|(simp only[bM,bI,aI]<;>assumption)):O9 bQ a W
theorem aei(CE:Hid (∀V A',Mv w0 H0 V (A'++R)→V.cell? ⟨xb,0,N_⟩=S_ (i_ l_ pl)∧V.cell? ⟨xb,1,N_⟩=S_ (s_ pa np pc)∧V.cell? ⟨xb,2,N_⟩=S_ (s_ ba nb bc)))(QP:Hid (∀V A',Mv w0 H0 V (A'++R)→QV V (s_ pa np pc) ps∧BV V (s_ ba nb bc) bs∧BV V (s_ da nd dc) data))(hps:ps.length≤1000)(hbs:bs.length≤50000000)(hlen:bs.length+data.length≤100000000)(hM:Mv w0 H0 w R)
 (hk:∀(u20 u21 u22 u23 u24 u25 u26 u27 u28 u29 u30 u31 u32 u33 u34 u35 u7:Value) (gx:Nat) (P:List YtjngfhgakokejaaGreat.HB) (Q:List YtjngfhgakokejaaGreat.HB) (W:World),((T_=F_→Mv w0 H0 W (P++(Q++(oh T_ (Bi gx 0 (s_ N_ 0 0) (s_ N_ 0 0))++R))))∧(T_=T_→Mv w0 H0 W (P++(Q++(Bi gx (pl) u27 u34::R))))∧(T_=F_→P=[])∧(T_=F_→Q=[])∧(T_=T_→T_=T_)∧(T_=T_→T_=T_)∧(T_=T_→T_=T_)∧(T_=T_→T_=T_∧T_=T_)∧(T_=T_→T_=T_∧T_=T_∧T_=T_∧T_=T_∧T_=T_∧T_=T_∧T_=T_∧T_=T_∧T_=T_∧T_=T_∧T_=T_∧T_=T_∧T_=T_∧T_=T_∧T_=T_∧T_=T_∧T_=T_))→(lH u27 ps P)→(dR u34 (bs++data) Q)→(u7=p_ (S_ ⟨gx,0,N_⟩))→K ⟨List.toArray (s0::(s_ da nd dc)::s2::s3::s4::s5::(p_ (S_ ⟨xb,0,N_⟩))::u7::s8::s9::s10::s11::s12::s13::s14::s15::s16::l9::kH::kS::u20::u21::u22::u23::u24::u25::u26::u27::u28::u29::u30::u31::u32::u33::u34::u35::s36::lY::lX::mG::ni::mZ::mY::s43::s44::nI::mF::nH::nK::s49::mD::mg::lW::s53::mX::mQ::mP::mO::nX::nJ::oU::oQ::pO::qW::qN::qV::rD::rC::s68::rM::rJ::sN::s72::sK::sJ::ry::ru::rf::s78::qZ::rH::rG::s82::s83::uk::uj::[]),[]⟩ W):
 (dQ 2 Tryz.f45).wp P_ (Exit.then K qX) ⟨List.toArray (s0::(s_ da nd dc)::s2::s3::s4::s5::(p_ (S_ ⟨xb,0,N_⟩))::s7::s8::s9::s10::s11::s12::s13::s14::s15::s16::l9::kH::kS::s20::lF::lC::s23::s24::kZ::s26::kW::kR::kY::lu::lJ::lK::lI::lL::lD::s36::lY::lX::mG::ni::mZ::mY::s43::s44::nI::mF::nH::nK::s49::mD::mg::lW::s53::mX::mQ::mP::mO::nX::nJ::oU::oQ::pO::qW::qN::qV::rD::rC::s68::rM::rJ::sN::s72::sK::sJ::ry::ru::rf::s78::qZ::rH::rG::s82::s83::uk::uj::[]),[]⟩ w:=by
 conv in(dQ _ _)=>whnf
 unfold qX;have HK:=af hk;clear hk;refine jS (by kernel_rfl) [[],[0],[1],[],[],[4],[5],[3,6],[],[],[9],[10],[8,11,7],[],[12,13,12],[2,7,14],[],[16,15,14,0,1,2,3,4,5,6,7,8,9,10,11,12,13,14,15,16]] [0,1,2,3,4,5,6,7,8,9,10,11,12,13,14,15,16,17] (by kernel_rfl) (by kernel_rfl) (@O9 xb np nb pc bc pl pa ba da nd dc ps bs data R H0 w0 s0 s2 s3 s4 s5 s8 s9 s10 s11 s12 s13 s14 s15 s16 l9 kH kS s36 lY lX mG ni mZ mY s43 s44 nI mF nH nK s49 mD mg lW s53 mX mQ mP mO nX nJ oU oQ pO qW qN qV rD rC s68 rM rJ sN s72 sK sJ ry ru rf s78 qZ rH rG s82 s83 uk uj) ?_ ?_ ?_
 ·refine .mk (gx:=0) (P:=[]) (Q:=[]) rfl rfl ⟨fun _=>by simpa[jl]using hM.drew,(fun e=>nomatch e),fun _=>rfl,fun _=>rfl,(fun e=>nomatch e),(fun e=>nomatch e),(fun e=>nomatch e),(fun e=>nomatch e),(fun e=>nomatch e)⟩ ⟨nofun,nofun,nofun,nofun,nofun,nofun,nofun,nofun,nofun,nofun,nofun,nofun,nofun,nofun,nofun,nofun,nofun⟩
 ·rintro _ _ W ⟨rfl,rfl,HW,-,-,-,-,-,-,-,h7,-,-,-,-,-,-,JH,-,h16⟩ hb;simp only[List.all_cons,List.all_nil,dO,kJ]at hb;obtain⟨rfl,rfl,rfl,rfl,rfl,rfl,rfl,rfl,rfl,rfl,rfl,rfl,rfl,rfl,rfl,rfl,rfl,rfl⟩:=hb;exact HK _ _ _ _ _ _ _ _ _ _ _ _ _ _ _ _ _ _ _ _ W HW (h7 rfl) (JH rfl) (h16 rfl)
 ·rintro _ _ W i @⟨_,_,_,_,_,_,_,b7,b8,_,_,_,b12,_,b14,b15,b16,b17,_,_,_,u23,_,_,_,_,u28,_,_,_,u32,_,_,_,_,gx,P,Q,rfl,rfl,HW,h0,h1,h2,h3,h4,h5,h6,h7,h8,h9,h10,h11,h12,h13,JH,h15,h16⟩ hi hi2 zp;have hi4:i=17∨i=3∨i=7∨i=8∨i=12∨i=14∨i=15∨i=16∨i=0∨i=1∨i=2∨i=4∨i=5∨i=6∨i=9∨i=10∨i=11∨i=13:=(by have:i<18:=hi;omega);clear hi;rcases hi4 with rfl|rfl|rfl|rfl|rfl|rfl|rfl|rfl|rfl|rfl|rfl|rfl|rfl|rfl|rfl|rfl|rfl|rfl
  all_goals simp at hi2 zp;(repeat obtain⟨_,zp⟩:=zp);(try subst_vars);try simp only[bM,bI,aI]at h0 h1 h2 h3 h4 h5 h6 h7 h8 h9 h10 h11 h12 h13 JH h15 h16
  all_goals try subst_vars
  all_goals refine jm rfl (fun K hK=>?_)
  ·have M9:=HW.1 rfl;obtain⟨a27,c27,e27⟩:=dh.slice (h7);subst e27;obtain⟨a34,c34,e34⟩:=dh.slice (JH);rw[au]at e34;subst e34;have M8:Mv w0 H0 W (Bi gx 0 (s_ N_ 0 0) (s_ N_ 0 0)::(P++(Q++R))):=M9.O_;have z0:W.cell? ⟨gx,0,N_⟩=S_ (i_ l_ 0):=M8.cell 0 rfl 0;have z1:W.cell? ⟨gx,1,N_⟩=S_ (s_ N_ 0 0):=M8.cell 0 rfl 1;have z2:W.cell? ⟨gx,2,N_⟩=S_ (s_ N_ 0 0):=M8.cell 0 rfl 2;have f0:W.frozen? ⟨gx,0,N_⟩=F_:=M8.frozen 0 rfl 0;have f1:W.frozen? ⟨gx,1,N_⟩=F_:=M8.frozen 0 rfl 1;have f2:W.frozen? ⟨gx,2,N_⟩=F_:=M8.frozen 0 rfl 2;have N8:=((M8.set 0 (i_ l_ (pl))).set 1 (s_ a27 ps.length c27)).set 2 (s_ a34 (bs.length+data.length) c34);go_simp;refine hK _ _ (.mk (gx:=gx) (P:=P) (Q:=Q) rfl rfl ⟨(fun e=>nomatch e),(fun _=>N8.sub (fun g=>by simp only[Bi,aP,bK,gI];omega) (fun c hc=>by simp only[Bi,ay,aC]at hc⊢;grind)),HW.2.2.1,HW.2.2.2.1,HW.2.2.2.2.1,HW.2.2.2.2.2.1,HW.2.2.2.2.2.2.1,HW.2.2.2.2.2.2.2.1,(fun _=>by simp)⟩ ?_);and_intros<;>first|assumption|exact fun _=>rfl|(simp only[bM,bI,aI]<;>assumption)|exact fun _=>trivial
  all_goals (obtain rfl:b17=F_:=by cases b17;rfl;have:=HW.2.2.2.2.2.2.2.2 rfl;simp at this);have M9:=HW.1 rfl
  ·obtain rfl:b7=F_:=by cases b7;rfl;have:=HW.2.2.2.2.1 rfl;simp at this
   obtain rfl:=HW.2.2.1 rfl;have N9:=M9.alloc 90 #[];go_simp;refine hK _ _ (.mk (P:=[⟨W.heap.size,90,#[]⟩]) rfl rfl ⟨(fun _=>N9),(fun e=>nomatch e),(fun e=>nomatch e),HW.2.2.2.1,(fun e=>nomatch e),HW.2.2.2.2.2.1,HW.2.2.2.2.2.2.1,HW.2.2.2.2.2.2.2.1,(fun e=>nomatch e)⟩ ?_);and_intros<;>first|assumption|exact fun _=>rfl|(simp only[bM,bI,aI]<;>assumption)|exact fun _ _=>dh.new 90 W.heap.size 0 #[] rfl (by decide)|exact nofun
  ·obtain rfl:b15=F_:=by cases b15;rfl;have:=HW.2.2.2.2.2.2.2.1 rfl;simp at this
   have RQ:=h3;obtain⟨q1,q2,q3⟩:=QP W (P++(Q++oh b16 (Bi gx 0 (s_ N_ 0 0) (s_ N_ 0 0)))) (by simpa only[az]using M9);refine aaZ rfl (.tmp 23) (.tmp 26) rfl u23 (s_ pa np pc) [] ps P (by simp[Act.eval]) (by simp[Act.eval]) RQ M9.sat.left q1 (by simp only[List.length_nil];omega) ?_;intro v9 w9 H9 r10 m9;have N9:=Mv.call M9 m9;refine hK _ _ (.mk (P:=H9) rfl rfl ⟨(fun _=>N9),(fun e=>nomatch e),(fun e=>nomatch e),HW.2.2.2.1,(fun _=>rfl),HW.2.2.2.2.2.1,HW.2.2.2.2.2.2.1,(fun e=>nomatch e),(fun e=>nomatch e)⟩ ?_);and_intros<;>first|assumption|exact fun _=>rfl|(simp only[bM,bI,aI]<;>assumption)|exact fun _=>r10|exact fun _ e=>nomatch e|exact nofun
  ·obtain rfl:b12=F_:=by cases b12;rfl;have:=HW.2.2.2.2.2.1 rfl;simp at this
   obtain rfl:b14=F_:=by cases b14;rfl;have:=HW.2.2.2.2.2.2.1 rfl;simp at this
   obtain rfl:=HW.2.2.2.1 rfl;have N9:Mv w0 H0 (W.alloc (.cells #[] 5)) (P++([⟨W.heap.size,5,#[]⟩]++(oh b16 (Bi gx 0 (s_ N_ 0 0) (s_ N_ 0 0))++R))):=(M9.alloc 5 #[]).O_;go_simp;refine hK _ _ (.mk (Q:=[⟨W.heap.size,5,#[]⟩]) rfl rfl ⟨(fun _=>N9),(fun e=>nomatch e),HW.2.2.1,(fun e=>nomatch e),HW.2.2.2.2.1,(fun e=>nomatch e),HW.2.2.2.2.2.2.1,HW.2.2.2.2.2.2.2.1,(fun e=>nomatch e)⟩ ?_);and_intros<;>first|assumption|exact fun _=>rfl|(simp only[bM,bI,aI]<;>assumption)|exact fun _ _=>dR.lit _ [] 0 rfl (by decide)|exact nofun
  ·obtain rfl:b14=F_:=by cases b14;rfl;have:=HW.2.2.2.2.2.2.1 rfl;simp at this
   have RQ:=h8;obtain⟨q1,q2,q3⟩:=QP W (P++(Q++oh b16 (Bi gx 0 (s_ N_ 0 0) (s_ N_ 0 0)))) (by simpa only[az]using M9);have M8:Mv w0 H0 W (Q++(P++(oh b16 (Bi gx 0 (s_ N_ 0 0) (s_ N_ 0 0))++R))):=M9.O_;refine vU rfl (.tmp 28) (.tmp 31) rfl u28 (s_ ba nb bc) [] bs Q (by simp[Act.eval]) (by simp[Act.eval]) RQ M8.sat.left q2 (by simp only[List.length_nil];omega) ?_;intro v9 w9 H9 r10 m9;have N8:=Mv.call M8 m9;have N9:Mv w0 H0 w9 (P++(H9++(oh b16 (Bi gx 0 (s_ N_ 0 0) (s_ N_ 0 0))++R))):=N8.O_;refine hK _ _ (.mk (Q:=H9) rfl rfl ⟨(fun _=>N9),(fun e=>nomatch e),HW.2.2.1,(fun e=>nomatch e),HW.2.2.2.2.1,(fun _=>rfl),(fun e=>nomatch e),HW.2.2.2.2.2.2.2.1,(fun e=>nomatch e)⟩ ?_);and_intros<;>first|assumption|exact fun _=>rfl|(simp only[bM,bI,aI]<;>assumption)|exact fun _ _=>r10|exact fun _ e=>nomatch e|exact nofun
  ·obtain rfl:b15=F_:=by cases b15;rfl;have:=HW.2.2.2.2.2.2.2.1 rfl;simp at this
   obtain rfl:b8=T_:=HW.2.2.2.2.2.1 rfl;have RQ:=h12;obtain⟨q1,q2,q3⟩:=QP W (P++(Q++oh b16 (Bi gx 0 (s_ N_ 0 0) (s_ N_ 0 0)))) (by simpa only[az]using M9);have M8:Mv w0 H0 W (Q++(P++(oh b16 (Bi gx 0 (s_ N_ 0 0) (s_ N_ 0 0))++R))):=M9.O_;refine vU rfl (.tmp 32) (.tmp 33) rfl u32 (s_ da nd dc) bs data Q (by simp[Act.eval]) (by simp[Act.eval]) RQ M8.sat.left q3 hlen ?_;intro v9 w9 H9 r10 m9;have N8:=Mv.call M8 m9;have N9:Mv w0 H0 w9 (P++(H9++(oh b16 (Bi gx 0 (s_ N_ 0 0) (s_ N_ 0 0))++R))):=N8.O_;refine hK _ _ (.mk (Q:=H9) rfl rfl ⟨(fun _=>N9),(fun e=>nomatch e),HW.2.2.1,(fun e=>nomatch e),HW.2.2.2.2.1,HW.2.2.2.2.2.1,(fun _=>rfl),(fun e=>nomatch e),(fun e=>nomatch e)⟩ ?_);and_intros<;>first|assumption|exact fun _=>rfl|(simp only[bM,bI,aI]<;>assumption)|exact fun _=>r10|exact fun _ e=>nomatch e|exact nofun
  ·obtain⟨a27,c27,e27⟩:=dh.slice (h7);subst e27;obtain⟨a34,c34,e34⟩:=dh.slice (JH);rw[au]at e34;subst e34;go_simp;exact hK _ _ (.mk rfl rfl ⟨(fun _=>M9),(fun e=>nomatch e),HW.2.2.1,HW.2.2.2.1,HW.2.2.2.2.1,HW.2.2.2.2.2.1,HW.2.2.2.2.2.2.1,(fun _=>⟨rfl,rfl⟩),(fun e=>nomatch e)⟩)
  ·have N9:Mv w0 H0 (W.alloc (.cells #[i_ l_ 0,s_ N_ 0 0,s_ N_ 0 0] 51)) (P++(Q++(oh T_ (Bi W.heap.size 0 (s_ N_ 0 0) (s_ N_ 0 0))++R))):=(M9.alloc 51 #[i_ l_ 0,s_ N_ 0 0,s_ N_ 0 0]).sub (fun g=>by simp only[kN,jl,Bi,aP,bK,gI];omega) (fun c hc=>by simp only[kN,jl,Bi,ay,aC,bP,gQ,false_or]at hc⊢;grind);go_simp;exact hK _ _ (.mk (gx:=W.heap.size) rfl rfl ⟨(fun _=>N9),(fun e=>nomatch e),HW.2.2.1,HW.2.2.2.1,HW.2.2.2.2.1,HW.2.2.2.2.2.1,HW.2.2.2.2.2.2.1,HW.2.2.2.2.2.2.2.1,(fun e=>nomatch e)⟩)
  all_goals first|(go_simp;exact hK _ _ (.mk rfl rfl ⟨(fun _=>M9),(fun e=>nomatch e),HW.2.2.1,HW.2.2.2.1,HW.2.2.2.2.1,HW.2.2.2.2.2.1,HW.2.2.2.2.2.2.1,HW.2.2.2.2.2.2.2.1,(fun e=>nomatch e)⟩))|((obtain⟨y0,y1,y2⟩:=CE W (P++(Q++oh b16 (Bi gx 0 (.slice none 0 0) (.slice none 0 0)))) (by simpa only[az]using M9));go_simp;exact hK _ _ (.mk rfl rfl ⟨(fun _=>M9),(fun e=>nomatch e),HW.2.2.1,HW.2.2.2.1,HW.2.2.2.2.1,HW.2.2.2.2.2.1,HW.2.2.2.2.2.2.1,HW.2.2.2.2.2.2.2.1,(fun e=>nomatch e)⟩))
end
section
variable(K:Act→World→Prop)(bx e ah np pc:Nat)(tb:Bool)(pa:Option Addr)(ps:List (Int×Bool))(Hp R H0:List YtjngfhgakokejaaGreat.HB)(w0:World)(w:World){s0 s1 s3 s4 s5 s6 s9 s10 s11 s12 s13 s14 s15 s16 l9 kH kS s20 lF lC s23 s24 kZ s26 kW kR kY lu lJ lK lI lL lD s36 lY lX mG ni mZ mY s43 s44 nI mF nH nK s49 mD mg lW s53 mX mQ mP mO nX nJ oU oQ pO qW qN qV rD rC s68 rM rJ sN s72 sK sJ ry ru rf s78 qZ rH rG s82 s83 uk uj:Value}
inductive Ns(bQ:Array Bool)(a:Act)(W:World):Prop|mk {b0 b1 b2 b3 b4 b5 b6 b7 b8 b9 b10 b11 b12:Bool} {u63 u64 u65 u66 u67 u68 u69 u70 u71 u72 u73 u74:Value} {g8:Nat} {HB:List YtjngfhgakokejaaGreat.HB} {Wp:World} (hl:bQ=#[b0,b1,b2,b3,b4,b5,b6,b7,b8,b9,b10,b11,b12]) (ha:a=⟨List.toArray (s0::s1::(.int .i64 ah)::s3::s4::s5::s6::(.pointer (some ⟨bx,0,none⟩))::(.int .i64 e)::s9::s10::s11::s12::s13::s14::s15::s16::l9::kH::kS::s20::lF::lC::s23::s24::kZ::s26::kW::kR::kY::lu::lJ::lK::lI::lL::lD::s36::lY::lX::mG::ni::mZ::mY::s43::s44::nI::mF::nH::nK::s49::mD::mg::lW::s53::mX::mQ::mP::mO::nX::nJ::oU::oQ::pO::u63::u64::u65::u66::u67::u68::u69::u70::u71::u72::u73::u74::ry::ru::rf::s78::qZ::rH::rG::s82::s83::uk::uj::[]),[]⟩) (HW:(Mv w0 H0 Wp (oh b9 ⟨g8,90,#[.int .i64 e,.bool tb]⟩++(HB++R))∧(b10=false→HB=Hp)∧(b10=true→b9=true)∧(b12=false→W=Wp)∧(b12=true→W=Wp.setCell ⟨bx,1,none⟩ u73)∧(b12=true→b0=true∧b1=true∧b2=true∧b3=true∧b4=true∧b5=true∧b6=true∧b7=true∧b8=true∧b9=true∧b10=true∧b11=true))) (hF:(b0=true→u63=.pointer (some ⟨bx,1,none⟩))∧(b1=true→u64=.slice pa np pc)∧(b2=true→u65=.int .i64 e)∧(b3=true→u66=.int .i64 ah)∧(b4=true→u67=.pointer (some ⟨bx,1,none⟩))∧(b5=true→u68=.slice pa np pc)∧(b6=true→u69=.int .i64 np)∧(b7=true→u70=.bool tb)∧(b8=true→u71=.agg #[.int .i64 e,.bool tb])∧(b9=true→u72=.slice (some ⟨g8,0,none⟩) 1 1)∧(b10=true→dh 90 2 u73 (np+1) (jd (ps++[((e:Int),tb)])) HB)∧(b11=true→u74=.pointer (some ⟨bx,1,none⟩)):=by and_intros<;>first|assumption|exact fun _=>rfl|(simp only[bM,bI,aI]<;>assumption)):Ns bQ a W
theorem abY(CE:Hid (∀V A',Mv w0 H0 V (A'++R)→V.cell? ⟨bx,1,N_⟩=S_ (s_ pa np pc)∧V.frozen? ⟨bx,1,N_⟩=F_))(EN:Hid (∀V,Calls P_ 97 #[i_ l_ ah,i_ l_ np] V fun e w'=>e=r_ (b_ tb)∧w'=V))(xu:np≤1000)(hrow:dh 90 2 (s_ pa np pc) np (jd ps) Hp)(hM:Mv w0 H0 w (Hp++R))
 (hk:∀(u63 u64 u65 u66 u67 u68 u69 u70 u71 u72 u73 u74:Value) (g8:Nat) (HB:List YtjngfhgakokejaaGreat.HB) (Wp:World) (W:World),(Mv w0 H0 Wp (oh T_ ⟨g8,90,#[i_ l_ e,b_ tb]⟩++(HB++R))∧(T_=F_→HB=Hp)∧(T_=T_→T_=T_)∧(T_=F_→W=Wp)∧(T_=T_→W=Wp.setCell ⟨bx,1,N_⟩ u73)∧(T_=T_→T_=T_∧T_=T_∧T_=T_∧T_=T_∧T_=T_∧T_=T_∧T_=T_∧T_=T_∧T_=T_∧T_=T_∧T_=T_∧T_=T_))→(dh 90 2 u73 (np+1) (jd (ps++[((e:Int),tb)])) HB)→K ⟨List.toArray (s0::s1::(i_ l_ ah)::s3::s4::s5::s6::(p_ (S_ ⟨bx,0,N_⟩))::(i_ l_ e)::s9::s10::s11::s12::s13::s14::s15::s16::l9::kH::kS::s20::lF::lC::s23::s24::kZ::s26::kW::kR::kY::lu::lJ::lK::lI::lL::lD::s36::lY::lX::mG::ni::mZ::mY::s43::s44::nI::mF::nH::nK::s49::mD::mg::lW::s53::mX::mQ::mP::mO::nX::nJ::oU::oQ::pO::u63::u64::u65::u66::u67::u68::u69::u70::u71::u72::u73::u74::ry::ru::rf::s78::qZ::rH::rG::s82::s83::uk::uj::[]),[]⟩ W):
 (dQ 11 Tryz.f45).wp P_ (Exit.then K qX) ⟨List.toArray (s0::s1::(i_ l_ ah)::s3::s4::s5::s6::(p_ (S_ ⟨bx,0,N_⟩))::(i_ l_ e)::s9::s10::s11::s12::s13::s14::s15::s16::l9::kH::kS::s20::lF::lC::s23::s24::kZ::s26::kW::kR::kY::lu::lJ::lK::lI::lL::lD::s36::lY::lX::mG::ni::mZ::mY::s43::s44::nI::mF::nH::nK::s49::mD::mg::lW::s53::mX::mQ::mP::mO::nX::nJ::oU::oQ::pO::qW::qN::qV::rD::rC::s68::rM::rJ::sN::s72::sK::sJ::ry::ru::rf::s78::qZ::rH::rG::s82::s83::uk::uj::[]),[]⟩ w:=by
 conv in(dQ _ _)=>whnf
 unfold qX;have HK:=af hk;clear hk;refine jS (by kernel_rfl) [[],[0],[],[],[],[4],[5],[3,6],[2,7],[8],[1,9,7],[0,1,2,3,4,5,6,7,8,9,10],[11,10,10,0,1,2,3,4,5,6,7,8,9,10]] [0,1,2,3,4,5,6,7,8,9,10,11,12] (by kernel_rfl) (by kernel_rfl) (@Ns bx e ah np pc tb pa ps Hp R H0 w0 s0 s1 s3 s4 s5 s6 s9 s10 s11 s12 s13 s14 s15 s16 l9 kH kS s20 lF lC s23 s24 kZ s26 kW kR kY lu lJ lK lI lL lD s36 lY lX mG ni mZ mY s43 s44 nI mF nH nK s49 mD mg lW s53 mX mQ mP mO nX nJ oU oQ pO ry ru rf s78 qZ rH rG s82 s83 uk uj) ?_ ?_ ?_
 ·refine .mk (g8:=0) (HB:=Hp) (Wp:=w.drew) rfl rfl ⟨by simpa[jl]using hM.drew,fun _=>rfl,(fun e=>nomatch e),fun _=>rfl,(fun e=>nomatch e),(fun e=>nomatch e)⟩ ⟨nofun,nofun,nofun,nofun,nofun,nofun,nofun,nofun,nofun,nofun,nofun,nofun⟩
 ·rintro _ _ W ⟨rfl,rfl,HW,-,-,-,-,-,-,-,-,-,-,h10,-⟩ hb;simp only[List.all_cons,List.all_nil,dO,kJ]at hb;obtain⟨rfl,rfl,rfl,rfl,rfl,rfl,rfl,rfl,rfl,rfl,rfl,rfl,rfl⟩:=hb;exact HK _ _ _ _ _ _ _ _ _ _ _ _ _ _ _ W HW (h10 rfl)
 ·rintro _ _ W i @⟨_,_,_,_,_,_,_,_,_,b9,b10,_,b12,_,_,_,_,_,_,_,_,_,_,_,_,g8,HB,Wp,rfl,rfl,HW,h0,h1,h2,h3,h4,h5,h6,h7,h8,h9,h10,h11⟩ hi hi2 zp;have hi4:i=12∨i=7∨i=9∨i=10∨i=0∨i=1∨i=2∨i=3∨i=4∨i=5∨i=6∨i=8∨i=11:=(by have:i<13:=hi;omega);clear hi;rcases hi4 with rfl|rfl|rfl|rfl|rfl|rfl|rfl|rfl|rfl|rfl|rfl|rfl|rfl
  all_goals simp at hi2 zp;(repeat obtain⟨_,zp⟩:=zp);(try subst_vars);try simp only[bM,bI,aI]at h0 h1 h2 h3 h4 h5 h6 h7 h8 h9 h10 h11
  all_goals try subst_vars
  all_goals refine jm rfl (fun K hK=>?_)
  ·obtain rfl:=HW.2.2.2.1 rfl;obtain⟨a9,c9,e9⟩:=dh.slice (h10);subst e9;obtain⟨y1,y3⟩:=CE W (oh T_ ⟨g8,90,#[i_ l_ e,b_ tb]⟩++HB) (by simpa only[az]using HW.1);go_simp;refine hK _ _ (.mk (g8:=g8) (HB:=HB) (Wp:=W) rfl rfl ⟨HW.1,HW.2.1,HW.2.2.1,(fun e=>nomatch e),(fun _=>rfl),(fun _=>by simp)⟩ ?_);and_intros<;>first|assumption|exact fun _=>rfl|(simp only[bM,bI,aI]<;>assumption)|exact fun _=>trivial
  all_goals (obtain rfl:b12=F_:=by cases b12;rfl;have:=HW.2.2.2.2.2 rfl;simp at this);obtain rfl:=HW.2.2.2.1 rfl
  ·go_simp;go_at_call 97
   (with_reducible refine(EN.out _).mono ?_)
   rintro e2 w10 ⟨rfl,rfl⟩;exact hK _ _ (.mk rfl rfl ⟨HW.1,HW.2.1,HW.2.2.1,(fun _=>rfl),(fun e=>nomatch e),(fun e=>nomatch e)⟩)
  ·obtain rfl:b10=F_:=by cases b10;rfl;cases(HW.2.2.1 rfl)
   obtain rfl:=HW.2.1 rfl;have M9:=HW.1.alloc 90 #[i_ l_ e,b_ tb];go_simp;exact hK _ _ (.mk (g8:=W.heap.size) rfl rfl ⟨M9.O_,HW.2.1,(fun e=>nomatch e),(fun _=>rfl),(fun e=>nomatch e),(fun e=>nomatch e)⟩)
  ·obtain rfl:=HW.2.1 rfl;have M9:Mv w0 H0 W (HB++(⟨g8,90,#[i_ l_ e,b_ tb]⟩::R)):=HW.1.O_;have RD:Reads W W.heap.size 2 (S_ ⟨g8,0,N_⟩) 1 (Nz ((e:Int),tb)):=Reads.zD (dh.owns (H:=[⟨g8,90,#[i_ l_ e,b_ tb]⟩]) (dh.new 90 g8 1 #[i_ l_ e,b_ tb] rfl (by decide)) (M9.sat.Z_) (B:=0) (fun _ _=>aY _));refine Ip (A:=S_ ⟨g8,0,N_⟩) (m:=1) (c:=1) Tryz.underlying49 Z7 rfl (by decide) (by decide) rfl (.tmp 64) (.tmp 72) rfl (s_ pa np pc) (by simp[Act.eval]) (by simp[Act.eval]) hrow M9.sat.left RD (fun u hu=>Aa [((e:Int),tb)] u (by simpa[jd]using hu)) (by omega) ?_;intro v9 w9 H9 r10 m9;have N9:=Mv.call M9 m9;refine hK _ _ (.mk (g8:=g8) (HB:=H9) (Wp:=w9) rfl rfl ⟨N9.O_,(fun e=>nomatch e),(fun _=>rfl),(fun _=>rfl),(fun e=>nomatch e),(fun e=>nomatch e)⟩ ?_);and_intros<;>first|assumption|exact fun _=>rfl|(simp only[bM,bI,aI]<;>assumption)|exact fun _=>by rw[vG];exact r10
  all_goals first|(go_simp;exact hK _ _ (.mk rfl rfl ⟨HW.1,HW.2.1,HW.2.2.1,(fun _=>rfl),(fun e=>nomatch e),(fun e=>nomatch e)⟩))|((obtain⟨y1,y3⟩:=CE W (oh b9 ⟨g8,90,#[.int .i64 e,.bool tb]⟩++HB) (by simpa only[az]using HW.1));go_simp;exact hK _ _ (.mk rfl rfl ⟨HW.1,HW.2.1,HW.2.2.1,(fun _=>rfl),(fun e=>nomatch e),(fun e=>nomatch e)⟩))
end
end
end Go.Proofs.YtjngfhgakokejaaGreat
