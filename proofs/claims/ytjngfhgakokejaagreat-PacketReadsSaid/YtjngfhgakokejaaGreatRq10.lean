/- PacketReads: part 10. -/
import Derived.Test.YtjngfhgakokejaaGreatRq09
set_option maxRecDepth 100000
set_option maxHeartbeats 8000000
set_option linter.all false
namespace Go.Proofs.YtjngfhgakokejaaGreat
open Value renaming int→i_,slice→s_,pointer→p_,bool→b_,agg→g_,tuple→t_
open IntKind renaming i64→l_
open Ending renaming returned→r_
open Tryz renaming prog→P_
open Option renaming some→S_,none→N_
open Bool renaming true→T_,false→F_
variable{s0 s1 s4 s5 s6 s7 s8 s9 s10 s11 s12 s13 s14 s15 s16 l9 kH kS s20 lF lC s23 s24 kZ s26 kW kR kY lu lJ lK lI lL lD s36 lY lX mG ni mZ mY s43 s44 nI mF nH nK s49 mD mg lW s53 mX mQ mP mO nX nJ s2 s3:Value}
section
open Go.RowKit
theorem ZJ{G:List gu}{k:Nat}{s:gu}(h:G[k]?=S_ s)(lb:Int):((((((G.flatMap gu.v).set (k*5) (i_ l_ s.m.pl)).set (k*5+1) s.vp).set (k*5+2) s.vb).set (k*5+3) (i_ l_ s.m.said)).set (k*5+4) (i_ l_ lb))=(G.set k (s.jP s.m.said lb)).flatMap gu.v:=by
 have hk:=(aj.1 h).1;have e0:=jh gu.v 5 gu.jw G k s s h 0 (by omega) (i_ l_ s.m.pl) rfl;have eG:G.set k s=G:=by
  refine fU fun i=>?_;rw[fQ];split
  ·rename_i e;subst e;exact h.symm
  ·rfl
 rw[eG,Nat.add_zero]at e0;have e1:=jh gu.v 5 gu.jw G k s s h 1 (by omega) s.vp rfl;have e2:=jh gu.v 5 gu.jw G k s s h 2 (by omega) s.vb rfl;have e3:=jh gu.v 5 gu.jw G k s s h 3 (by omega) (i_ l_ s.m.said) rfl;rw[eG]at e1 e2 e3;have e4:=jh gu.v 5 gu.jw G k s (s.jP s.m.said lb) h 4 (by omega) (i_ l_ lb) rfl;rw[e0,e1,e2,e3,e4]
theorem OZ(ah cO:Nat)(ends:List Int)(hm:∀i j,i≤j→j<cO→ends.getD i 0≤ends.getD j 0)(h8:∀i,0≤ends.getD i 0∧ends.getD i 0≤100000000): ∀(f k b:Nat) (was:Int),f=cO-k→0≤was→(k<cO→was≤ends.getD k 0)→∀e∈sizesM ends was (pcs ah cO f k b),0≤e∧e≤100000000
 |0,_,_,_,_,_,_,e,he=>by cases he
 |f+1,k,b,was,hf,hw,hwk,e,he=>by
  have h1:=hwk (by omega);have h2:=h8 k;have hn:k+1<cO→ends.getD k 0≤ends.getD (k+1) 0:=fun h=>hm k (k+1) (by omega) h;rw[pcs]at he;split at he
  ·rw[sizesM,gV]at he;rcases aC.1 he with rfl|he
   ·omega
   ·exact OZ ah cO ends hm h8 f (k+1) (k+1) _ (by omega) h2.1 hn e he
  ·exact OZ ah cO ends hm h8 f (k+1) b was (by omega) hw (fun h=>Int.le_trans h1 (hn h)) e he
theorem O8(s:og)(ah from_ cO:Nat)(hto:cO≤s.ps.length)(he:∀p∈s.ps,0≤p.1∧p.1≤100000000)(hup:∀i j,i≤j→j<s.ps.length→(s.ps.map (·.1)).getD i 0≤(s.ps.map (·.1)).getD j 0)(i:Nat)(hi:i<(dV ah from_ cO).length):0≤(zX s ah from_ cO).getD i 0∧(zX s ah from_ cO).getD i 0≤100000000:=by
 have h8:=Kr (s.ps.map (·.1)) (by intro e h;obtain⟨p,hp,rfl⟩:=bW.1 h;exact he p hp);have hl:i<(zX s ah from_ cO).length:=by unfold zX;rw[uK];exact hi
 rw[ax,ai hl,Option.getD_some];refine OZ ah cO (s.ps.map fun p:Int×Bool=>p.1) (fun i j h1 h2=>hup i j h1 (by omega)) h8 (cO-from_) from_ from_ (rZ (s.ps.map fun p:Int×Bool=>p.1) from_) rfl ?_ ?_ _ (kX (l:=zX s ah from_ cO) hl)
 ·unfold rZ;split
  ·exact gG _
  ·exact(h8 _).1
 ·intro h;unfold rZ;split
  ·exact(h8 _).1
  ·exact hup _ _ (by omega) (by omega)
theorem agX(bb wb k z from_ cO ah:Nat)(m:aT)(s:og)(ff fz:Bool)(H HW:List HB)(bs:List Bool)(W:World)(T1:List bV)(hB:kC bb m ff fz H)(hw:oN wb bs HW)(hs:Sat W (H++HW))(hk:m.ss[k]?=S_ s)
 (hT1:(if fz=T_ then m.dA else fillT m.dA)=T1) (hg:from_=0→wR T1 m.ss.length) (hn1:m.ss.length≤1000) (hz:z≤60) (hP:m.aH=s.pl+z) (hbs:bs.length≤39000000) (hft:from_<cO) (hto:cO≤s.ps.length) (hpn:s.ps.length≤100) (Em:ah≤63) (hlb:s.lb≤45)
 (hup:∀i j,i≤j→j<s.ps.length→(s.ps.map (·.1)).getD i 0≤(s.ps.map (·.1)).getD j 0):
 Calls P_ 38 #[p_ (S_ ⟨bb,0,N_⟩),p_ (S_ ⟨wb,0,N_⟩),i_ l_ k,i_ l_ ah,i_ l_ from_,i_ l_ cO] W fun e w'=>e=r_ (t_ #[])∧ ∃H' lM,kC bb {m with dA:=yP m.dA T1 k z from_,ss:=m.ss.set k (s.jP s.said (qy s ah from_ cO))} ff (Ep fz from_) H'∧oN wb (bs++(vS T1 k z from_++(D8 (cO-from_)++Dt s ah from_ cO))) lM∧Mv W (H++HW) w' (H'++lM):=by
 obtain⟨b,hb,rfl⟩:=hB;have hlen:b.G.length=m.ss.length:=by rw[←hb.ss,aO]
 have δ:=(aj.1 hk).1;obtain⟨g,hgk⟩:∃g,b.G[k]?=S_ g:=⟨_,ai (by omega)⟩;have e:g.m=s:=by
  have:m.ss[k]?=S_ g.m:=by rw[←hb.ss,aV,hgk];rfl
  rw[hk]at this;exact(iL this).symm
 have hq:=hb.st g (aF hgk);subst e;obtain⟨q1,q2,q3⟩:=id hq;obtain⟨pa,pc,hvp⟩:=q1.slice;obtain⟨ua,uc,hvb⟩:=dR.slice q2;obtain⟨A,B,hAB⟩:=List.append_of_mem (aF hgk);have hfl:b.G.flatMap gu.heap=A.flatMap gu.heap++((g.Hp++g.Hb)++B.flatMap gu.heap):=by rw[hAB,gX,dE];rfl
 have Xe:Sat W (b.heap bb m):=hs.left;have Oa:Sat W (jk bb b.ti b.tu b.vl m::(b.Hl++(b.Hi++(b.Hu++b.G.flatMap gu.heap)))):=Xe;obtain⟨lg,lc,hvl,c0,c1,c2,c3,c4,-⟩:=uw hb.row (Sat.left (B:=_) (Sat.right (A:=[_]) Oa)) hgk;rw[hvp]at c1;rw[hvb]at c2;have z1:W.cell? ⟨bb,1,N_⟩=S_ (s_ (S_ ⟨lg,0,N_⟩) m.ss.length lc):=by rw[←hlen,←hvl];exact(Oa.at_ 0 rfl).cell 1
 have nb:=J9 (I7 ah from_ cO) (zX g.m ah from_ cO) g.m.lb (dV ah from_ cO).length (O8 g.m ah from_ cO hto q3.ends hup) _ (aN _);have hlb0:=q3.lb;have hpl0:=q3.pl;obtain⟨R,hR⟩:=Y_ (jk bb b.ti b.tu b.vl m::(b.Hl++(b.Hi++(A.flatMap gu.heap++(g.Hb++B.flatMap gu.heap)))));refine abg bb wb k m.ss.length z from_ cO ah lg lc g.m.ps.length pc g.m.bs.length uc g.m.pl g.m.said g.m.lb m.aH pa ua b m ff fz hb HW bs W T1 hw hs hT1 hg δ hn1 hz hP rfl q3.pl (by omega) hft hto hpn Em g.m.ps g.Hp R (by rw[←hvp];exact q1) rfl
  (fun e h=>by obtain⟨p,hp,rfl⟩:=bW.1 h;exact q3.ends p hp) (fun c=>by rw[hR];simp only[Jl,hfl,aP,bK];omega) (fun c=>by rw[hR];simp only[Jl,hfl,ay,aC];grind)
  (I7 ah from_ cO) (zX g.m ah from_ cO) (dV ah from_ cO).length rfl rfl (aO _) (uK _ _ _) (fP.2 (SB ah from_ cO hft)) (by have:=xJ ah from_ cO;omega) (fun i _=>Ko ah from_ cO (by omega) i) (O8 g.m ah from_ cO hto q3.ends hup) ⟨q3.lb.1,hlb⟩ ?_ _ ?_ ?_ z1 c0 c1 c2 c3 c4
 ·rw[au];unfold vS;split
  ·rename_i h;have:=(zS T1 k (hg h).1.2.2.2.2 (z+1) (by omega)).2;omega
  ·simp only[List.length_nil];omega
 ·intro V hV;have h1:Sat V R:=hV.right;rw[hR]at h1;obtain⟨lg',lc',Jv,d0,d1,d2,d3,d4,fz0⟩:=uw hb.row (Sat.left (B:=_) (Sat.right (A:=[_]) h1)) hgk;rw[hvl]at Jv;simp only[pI,dG,Addr.mk.injEq,kJ,true_and]at Jv;obtain⟨rfl,rfl⟩:=Jv;refine⟨?_,?_⟩
  ·rw[←hlen,←hvl];exact(h1.at_ 0 rfl).cell 1
  ·intro j hj;refine⟨fz0 _ (by omega),?_⟩
   match j,hj with
   |0,_=>exact⟨_,d0⟩
   |1,_=>exact⟨_,d1⟩
   |2,_=>exact⟨_,d2⟩
   |3,_=>exact⟨_,d3⟩
   |4,_=>exact⟨_,d4⟩
 ·intro w2 HW2 XR hU hW m2;have m3:Mv W (b.heap bb m++HW) w2 (b.Hl++(HW2++(XR++(g.Hp++(jk bb b.ti b.tu b.vl m::(b.Hi++(A.flatMap gu.heap++(g.Hb++B.flatMap gu.heap)))))))):=m2.sub (fun c=>by rw[hR];simp only[aP,bK];omega) (fun c hc=>by rw[hR];simp only[ay,aC]at hc⊢;grind);have hk5:k*5+5≤b.G.length*5:=by omega
  obtain⟨H1,r1,p1⟩:=hb.row.set m3.sat.left hvl (k*5) (i_ l_ g.m.pl) (by omega);obtain⟨H2,r2,p2⟩:=r1.set p1.sat hvl (k*5+1) (s_ pa g.m.ps.length pc) (by omega);obtain⟨H3,r3,p3⟩:=r2.set p2.sat hvl (k*5+2) (s_ ua g.m.bs.length uc) (by omega);obtain⟨H4,r4,p4⟩:=r3.set p3.sat hvl (k*5+3) (i_ l_ g.m.said) (by omega);obtain⟨H5,r5,p5⟩:=r4.set p4.sat hvl (k*5+4) (i_ l_ (qy g.m ah from_ cO)) (by omega);have m4:=Mv.call m3 (Mv.call (R:=[]) (by simpa using Mv.call (R:=[]) (by simpa using Mv.call (R:=[]) (by simpa using Mv.call (R:=[]) (by simpa using p1) p2) p3) p4) p5);rw[←hvp,←hvb,ZJ hgk]at r5;refine⟨_,HW2,⟨{b with Hl:=H5,Hu:=XR,G:=b.G.set k (g.jP g.m.said (qy g.m ah from_ cO))},⟨?_,?_,?_,hb.ti,hU,hb.pl⟩,rfl⟩,?_,Mv.drew (m4.sub (fun c=>?_) (fun c hc=>?_))⟩
  ·show(b.G.set k _).map _=m.ss.set k _;rw[jb,hb.ss];rfl
  ·intro x hx;rcases cZ hx with h|rfl
   ·exact hb.st x h
   ·exact⟨q1,q2,⟨q3.np,q3.nb,q3.pl,q3.said,by show 0≤qy g.m ah from_ cO∧qy g.m ah from_ cO≤1000;unfold qy;omega,q3.ends⟩⟩
  ·simp only[fC];exact r5
  ·have e:bs++(vS T1 k z from_++(D8 (cO-from_)++Dt g.m ah from_ cO))=(((bs++vS T1 k z from_++D8 (cO-from_))++List.replicate (needK (I7 ah from_ cO) (zX g.m ah from_ cO) g.m.lb (dV ah from_ cO).length-g.m.lb).toNat T_++[F_])++Gh (I7 ah from_ cO) (zX g.m ah from_ cO) (needK (I7 ah from_ cO) (zX g.m ah from_ cO) g.m.lb (dV ah from_ cO).length) (dV ah from_ cO).length):=by unfold Dt qy;simp only[az,List.cons_append,List.nil_append]
   rw[e];exact hW
  ·have e5:(b.G.set k (g.jP g.m.said (qy g.m ah from_ cO))).flatMap gu.heap=b.G.flatMap gu.heap:=qI gu.heap (by rfl) b.G k hgk;simp only[iG.heap,e5,hfl,jk,aP,bK,gI];omega
  ·have e5:(b.G.set k (g.jP g.m.said (qy g.m ah from_ cO))).flatMap gu.heap=b.G.flatMap gu.heap:=qI gu.heap (by rfl) b.G k hgk;simp only[iG.heap,e5,hfl,jk,ay,aC]at hc⊢;grind
def Zx(w h:Nat)(v:Nat→Int):List bV:=(List.range (w*h)).foldl (fun T k=>setLeaf T k (v k)) (jr w h)
def Py(w h:Nat)(v:Nat→Int):List bV:=(List.range (w*h)).foldl (fun T k=>JP T k (v k)) (jr w h)
theorem ajn{a b:Int}(h:∀x:Int,x≤a↔x≤b):a=b:=Int.le_antisymm ((h a).1 (gG _)) ((h b).2 (gG _))
def VOk(v:Nat→Int):Prop:=∀k,0≤v k∧v k≤1000
def y9(w h:Nat):Prop:=∀v:Nat→Int,VOk v→fillT (Zx w h v)=Py w h v∧Mono (Py w h v)∧Uf (Py w h v)
def nd(n:Int):dY:=⟨n,0,F_⟩
theorem mle{a b c:Int}:min a b≤c↔a≤c∨b≤c:=by omega
theorem yU(w h:Nat)(A B:(Nat→Int)→List bV)(eA:∀v,fillT (Zx w h v)=A v)(eB:∀v,Py w h v=B v)
 (hE:∀v:Nat→Int,(∀k,v k≤big)→A v=B v:=by intro v hb;simp only[bJ,gW,iM,bV.mk.injEq,nd,dY.mk.injEq,kJ,true_and]<;>and_intros<;>(refine ajn fun x=>?_;simp only[Int.le_min];have:=hb 0;have:=hb 2;have:=hb 4;have:=hb 6;have:=hb 8;constructor<;>intro h<;>omega))
 (hM:∀v:Nat→Int,(∀k,0≤v k)→(∀k,v k≤1000000)→Mono (B v):=by intro v h0 h1;simp only[Mono,bJ,gW,nd];and_intros<;>first|trivial|(intro M R e;cases e;done)|(intro M R e x y hx hy;cases e;have hx3:x=0∨x=1∨x=2:=(by have:x<3:=eH hx (by decide);omega);have hy3:y=0∨y=1∨y=2:=(by have:y<3:=eH hy (by decide);omega);rcases hx3 with rfl|rfl|rfl<;>rcases hy3 with rfl|rfl|rfl<;>first|exact absurd hx (by decide)|exact absurd hy (by decide)|(simp[bV.at_,mle,Int.le_min];done)))
 (hL:∀v:Nat→Int,(∀k,0≤v k)→(∀k,v k≤1000000)→∀L∈B v,∀i,i<L.l.length→Vh (L.l.getD i Eh):=by intro v h0 h1 L hL;simp only[aC,bP,gQ]at hL;(repeat' (rcases hL with rfl|hL));(try subst hL);all_goals (simp only[bJ,gW,nd];intro i hi;have hi3:i=0∨i=1∨i=2∨i=3∨i=4∨i=5∨i=6∨i=7∨i=8:=(by simp at hi;omega);rcases hi3 with rfl|rfl|rfl|rfl|rfl|rfl|rfl|rfl|rfl<;>first|(exfalso;simp at hi;done)|(simp[Vh,mle,Int.le_min,h0,h1];done))):y9 w h:=by
 intro v hv;have h0:=fun k=>(hv k).1;have h1:∀k,v k≤1000000:=fun k=>Int.le_trans (hv k).2 (by decide);refine⟨?_,?_,?_⟩
 ·rw[eA,eB];exact hE v fun k=>Int.le_trans (hv k).2 (by decide)
 ·rw[eB];exact hM v h0 h1
 ·rw[eB];exact hL v h0 h1
theorem ahs:y9 1 1:=yU 1 1 (fun v=>[⟨1,1,[v 0].map nd⟩]) (fun v=>[⟨1,1,[v 0].map nd⟩]) (by intro v;kernel_rfl) (by intro v;kernel_rfl)
theorem ahr:y9 1 2:=yU 1 2 (fun v=>[⟨1,2,[v 0,v 1].map nd⟩,⟨1,1,[min (min big (v 0)) (v 1)].map nd⟩]) (fun v=>[⟨1,2,[v 0,v 1].map nd⟩,⟨1,1,[min (min (v 0) (v 0)) (v 1)].map nd⟩]) (by intro v;kernel_rfl) (by intro v;kernel_rfl)
theorem ahq:y9 1 3:=yU 1 3 (fun v=>[⟨1,3,[v 0,v 1,v 2].map nd⟩,⟨1,2,[min (min big (v 0)) (v 1),min big (v 2)].map nd⟩,⟨1,1,[min (min big (min (min big (v 0)) (v 1))) (min big (v 2))].map nd⟩]) (fun v=>[⟨1,3,[v 0,v 1,v 2].map nd⟩,⟨1,2,[min (min (v 0) (v 0)) (v 1),min (v 2) (v 2)].map nd⟩,⟨1,1,[min (min (min (min (v 0) (v 0)) (v 1)) (min (min (v 0) (v 0)) (v 1))) (min (v 2) (v 2))].map nd⟩]) (by intro v;kernel_rfl) (by intro v;kernel_rfl)
theorem ahp:y9 2 1:=yU 2 1 (fun v=>[⟨2,1,[v 0,v 1].map nd⟩,⟨1,1,[min (min big (v 0)) (v 1)].map nd⟩]) (fun v=>[⟨2,1,[v 0,v 1].map nd⟩,⟨1,1,[min (min (v 0) (v 0)) (v 1)].map nd⟩]) (by intro v;kernel_rfl) (by intro v;kernel_rfl)
theorem aho:y9 2 2:=yU 2 2 (fun v=>[⟨2,2,[v 0,v 1,v 2,v 3].map nd⟩,⟨1,1,[min (min (min (min big (v 0)) (v 1)) (v 2)) (v 3)].map nd⟩]) (fun v=>[⟨2,2,[v 0,v 1,v 2,v 3].map nd⟩,⟨1,1,[min (min (min (min (v 0) (v 0)) (v 1)) (v 2)) (v 3)].map nd⟩]) (by intro v;kernel_rfl) (by intro v;kernel_rfl)
theorem ahn:y9 2 3:=yU 2 3 (fun v=>[⟨2,3,[v 0,v 1,v 2,v 3,v 4,v 5].map nd⟩,⟨1,2,[min (min (min (min big (v 0)) (v 1)) (v 2)) (v 3),min (min big (v 4)) (v 5)].map nd⟩,⟨1,1,[min (min big (min (min (min (min big (v 0)) (v 1)) (v 2)) (v 3))) (min (min big (v 4)) (v 5))].map nd⟩]) (fun v=>[⟨2,3,[v 0,v 1,v 2,v 3,v 4,v 5].map nd⟩,⟨1,2,[min (min (min (min (v 0) (v 0)) (v 1)) (v 2)) (v 3),min (min (v 4) (v 4)) (v 5)].map nd⟩,⟨1,1,[min (min (min (min (min (min (v 0) (v 0)) (v 1)) (v 2)) (v 3)) (min (min (min (min (v 0) (v 0)) (v 1)) (v 2)) (v 3))) (min (min (v 4) (v 4)) (v 5))].map nd⟩]) (by intro v;kernel_rfl) (by intro v;kernel_rfl)
theorem ahm:y9 3 1:=yU 3 1 (fun v=>[⟨3,1,[v 0,v 1,v 2].map nd⟩,⟨2,1,[min (min big (v 0)) (v 1),min big (v 2)].map nd⟩,⟨1,1,[min (min big (min (min big (v 0)) (v 1))) (min big (v 2))].map nd⟩]) (fun v=>[⟨3,1,[v 0,v 1,v 2].map nd⟩,⟨2,1,[min (min (v 0) (v 0)) (v 1),min (v 2) (v 2)].map nd⟩,⟨1,1,[min (min (min (min (v 0) (v 0)) (v 1)) (min (min (v 0) (v 0)) (v 1))) (min (v 2) (v 2))].map nd⟩]) (by intro v;kernel_rfl) (by intro v;kernel_rfl)
theorem ahl:y9 3 2:=yU 3 2 (fun v=>[⟨3,2,[v 0,v 1,v 2,v 3,v 4,v 5].map nd⟩,⟨2,1,[min (min (min (min big (v 0)) (v 1)) (v 3)) (v 4),min (min big (v 2)) (v 5)].map nd⟩,⟨1,1,[min (min big (min (min (min (min big (v 0)) (v 1)) (v 3)) (v 4))) (min (min big (v 2)) (v 5))].map nd⟩]) (fun v=>[⟨3,2,[v 0,v 1,v 2,v 3,v 4,v 5].map nd⟩,⟨2,1,[min (min (min (min (v 0) (v 0)) (v 1)) (v 3)) (v 4),min (min (v 2) (v 2)) (v 5)].map nd⟩,⟨1,1,[min (min (min (min (min (min (v 0) (v 0)) (v 1)) (v 3)) (v 4)) (min (min (min (min (v 0) (v 0)) (v 1)) (v 3)) (v 4))) (min (min (v 2) (v 2)) (v 5))].map nd⟩]) (by intro v;kernel_rfl) (by intro v;kernel_rfl)
theorem ahk:y9 3 3:=yU 3 3 (fun v=>[⟨3,3,[v 0,v 1,v 2,v 3,v 4,v 5,v 6,v 7,v 8].map nd⟩,⟨2,2,[min (min (min (min big (v 0)) (v 1)) (v 3)) (v 4),min (min big (v 2)) (v 5),min (min big (v 6)) (v 7),min big (v 8)].map nd⟩,⟨1,1,[min (min (min (min big (min (min (min (min big (v 0)) (v 1)) (v 3)) (v 4))) (min (min big (v 2)) (v 5))) (min (min big (v 6)) (v 7))) (min big (v 8))].map nd⟩]) (fun v=>[⟨3,3,[v 0,v 1,v 2,v 3,v 4,v 5,v 6,v 7,v 8].map nd⟩,⟨2,2,[min (min (min (min (v 0) (v 0)) (v 1)) (v 3)) (v 4),min (min (v 2) (v 2)) (v 5),min (min (v 6) (v 6)) (v 7),min (v 8) (v 8)].map nd⟩,⟨1,1,[min (min (min (min (min (min (min (min (v 0) (v 0)) (v 1)) (v 3)) (v 4)) (min (min (min (min (v 0) (v 0)) (v 1)) (v 3)) (v 4))) (min (min (v 2) (v 2)) (v 5))) (min (min (v 6) (v 6)) (v 7))) (min (v 8) (v 8))].map nd⟩]) (by intro v;kernel_rfl) (by intro v;kernel_rfl)
theorem Sz{w h:Nat}(hw:1≤w∧w≤3)(hh:1≤h∧h≤3):y9 w h:=by
 obtain rfl|rfl|rfl:w=1∨w=2∨w=3:=by omega
 all_goals obtain rfl|rfl|rfl:h=1∨h=2∨h=3:=by omega
 ·exact ahs
 ·exact ahr
 ·exact ahq
 ·exact ahp
 ·exact aho
 ·exact ahn
 ·exact ahm
 ·exact ahl
 ·exact ahk
def vF(count:Nat)(m:aT)(k:Nat):Int:=match m.ss[k]? with|some s=>(frN count s.ps.length:Nat)|none=>0
def vZ(m:aT)(k:Nat):Int:=match m.ss[k]? with|some s=>m.aH-s.pl|none=>0
theorem yS(count:Nat)(m:aT):∀k,k≤m.ss.length→(gY count m k).ss=m.ss∧(gY count m k).aH=m.aH∧(gY count m k).set=T_∧(gY count m k).w=m.w∧(gY count m k).h=m.h∧(gY count m k).first=(List.range k).foldl (fun T j=>setLeaf T j (vF count m j)) m.first∧(gY count m k).dA=(List.range k).foldl (fun T j=>setLeaf T j (vZ m j)) m.dA
 |0,_=>⟨rfl,rfl,rfl,rfl,rfl,rfl,rfl⟩
 |k+1,hk=>by
  obtain⟨h1,h2,h3,h4,h5,h6,h7⟩:=yS count m k (by omega);obtain⟨s,hs⟩:∃s,m.ss[k]?=S_ s:=⟨_,ai (by omega)⟩;have e:gY count m (k+1)={gY count m k with first:=setLeaf (gY count m k).first k (frN count s.ps.length:Nat),dA:=setLeaf (gY count m k).dA k ((gY count m k).aH-s.pl)}:=by have h:=Dv count m k;unfold rplantStep at h;rw[h1]at h;simp only[hs]at h;exact h.trans (by rw[←h1])
  have eF:vF count m k=(frN count s.ps.length:Nat):=by unfold vF;rw[hs]
  have eZ:vZ m k=m.aH-s.pl:=by unfold vZ;rw[hs]
  refine⟨by rw[e];exact h1,by rw[e];exact h2,by rw[e];exact h3,by rw[e];exact h4,by rw[e];exact h5,?_,?_⟩
  ·rw[e,fO,dP,←h6];simp only[List.foldl_cons,List.foldl_nil,eF]
  ·rw[e,fO,dP,←h7,h2];simp only[List.foldl_cons,List.foldl_nil,eZ]
theorem I8(count:Nat)(m:aT)(hp:∀s∈m.ss,s.pl≤m.aH):∀k,k≤m.ss.length→∃P,(List.range k).foldl (plantStep count) {m with set:=T_}=P∧P.ss=m.ss∧P.aH=m.aH∧P.set=T_∧P.w=m.w∧P.h=m.h∧P.first=(List.range k).foldl (fun T j=>JP T j (vF count m j)) m.first∧P.dA=(List.range k).foldl (fun T j=>JP T j (vZ m j)) m.dA
 |0,_=>⟨_,rfl,rfl,rfl,rfl,rfl,rfl,rfl,rfl⟩
 |k+1,hk=>by
  obtain⟨P,h0,h1,h2,h3,h4,h5,h6,h7⟩:=I8 count m hp k (by omega);obtain⟨s,hs⟩:∃s,m.ss[k]?=S_ s:=⟨_,ai (by omega)⟩;have e:plantStep count P k={P with first:=JP P.first k (frN count s.ps.length:Nat),dA:=JP P.dA k (max (P.aH-s.pl) 0)}:=by unfold plantStep;rw[h1];simp only[hs]
  have eF:vF count m k=(frN count s.ps.length:Nat):=by unfold vF;rw[hs]
  have eZ:vZ m k=m.aH-s.pl:=by unfold vZ;rw[hs]
  have hpl:=hp s (aF hs);refine⟨_,by rw[fO,dP,h0],?_⟩;simp only[List.foldl_cons,List.foldl_nil];rw[e];refine⟨h1,h2,h3,h4,h5,?_,?_⟩
  ·rw[fO,dP,←h6];simp only[List.foldl_cons,List.foldl_nil,eF]
  ·rw[fO,dP,←h7,h2];simp only[List.foldl_cons,List.foldl_nil,eZ];rw[show max (m.aH-s.pl) 0=m.aH-s.pl by omega]
theorem aap(count np:Int):∀f n,frGo count np f n≤n+f
 |0,n=>aN _
 |f+1,n=>by
  rw[frGo];split
  ·have:=aap count np f (n+1);omega
  ·omega
theorem akd(count:Nat)(m:aT)(hc:count≤100):VOk (vF count m):=by
 intro k;unfold vF;split
 ·rename_i s _;have:=aap (count:Int) (s.ps.length:Int) count 0;unfold frN;omega
 ·omega
theorem akc(m:aT)(hp:∀s∈m.ss,s.pl≤m.aH∧m.aH≤s.pl+1000):VOk (vZ m):=by
 intro k;unfold vZ;split
 ·rename_i s h;have:=hp s (aF h);omega
 ·omega
theorem planted(count:Nat)(m:aT)(hc:count≤100)(hset:m.set=F_)(hw:1≤m.w∧m.w≤3)(hh:1≤m.h∧m.h≤3)(hn:m.ss.length=m.w*m.h)(h1:m.first=jr m.w m.h)(h2:m.dA=jr m.w m.h)(hp:∀s∈m.ss,s.pl≤m.aH∧m.aH≤s.pl+1000):
 kF count m={gY count m m.ss.length with first:=fillT (gY count m m.ss.length).first,dA:=fillT (gY count m m.ss.length).dA}∧
 (Mono (kF count m).first∧Uf (kF count m).first)∧(Mono (kF count m).dA∧Uf (kF count m).dA):=by
 obtain⟨g1,g2,g3,g4,g5,g6,g7⟩:=yS count m m.ss.length (aN _);obtain⟨P,f0,f1,f2,f3,f4,f5,f6,f7⟩:=I8 count m (fun s hs=>(hp s hs).1) m.ss.length (aN _);have eP:kF count m=P:=by unfold kF;rw[aJ (by rw[hset];exact Bool.false_ne_true)];exact f0
 have a1:=Sz hw hh (vF count m) (akd count m hc);have a2:=Sz hw hh (vZ m) (akc m hp);unfold Zx Py at a1 a2;rw[hn,h1]at g6 f6;rw[hn,h2]at g7 f7;rw[←g6,←f6]at a1;rw[←g7,←f7]at a2;rw[←hn]at a1 a2;rw[eP];refine⟨?_,a1.2,a2.2⟩;obtain⟨w0,h0,p0,fi0,ze0,se0,ss0⟩:=P;simp only at f1 f2 f3 f4 f5 a1 a2;simp only[aT.mk.injEq];exact⟨by rw[g4,f4],by rw[g5,f5],by rw[g2,f2],a1.1.symm,a2.1.symm,by rw[g3,f3],by rw[g1,f1]⟩
def Le(ps:List (Int×Bool))(said:Nat):Int:=if said=0 then 0 else(ps.map (·.1)).getD (said-1) 0
def U8(ps:List (Int×Bool))(said n:Nat):Nat:=min (Le ps said).toNat n
def c!(ps:List (Int×Bool))(said cO n:Nat):Nat:=min (max ((ps.map (·.1)).getD (cO-1) 0) (Le ps said)).toNat n
def AL(ps:List (Int×Bool))(bs:List UInt8)(said cO:Nat):List UInt8:=(bs.drop (U8 ps said bs.length)).take (c! ps said cO bs.length-U8 ps said bs.length)
def aax(bg vc lo Ha:Nat):Value:=if vc=lo then s_ (S_ ⟨bg,0,N_⟩) 0 0 else s_ (S_ ⟨bg,lo,N_⟩) (Ha-lo) (vc-lo)
theorem BH(t:Nat)(n l:Int):jg (t:Int) n l≤(t:Int):=by
 unfold jg;split
 ·omega
 ·split
  ·omega
  ·split
   ·omega
   ·have h1:1≤min n 100:=by omega
    have h2:0≤min (max (t:Int) 0) 100∧min (max (t:Int) 0) 100≤t:=by omega
    have h3:1≤min l 100∧min l 100≤min n 100:=by omega
    generalize min n 100=a at*;generalize min (max (t:Int) 0) 100=b at*;generalize min l 100=c at*;have h4:b*c≤b*a:=Int.mul_le_mul_of_nonneg_left h3.2 h2.1;have h5:b*c/a≤b:=Int.ediv_le_of_le_mul (by omega) h4;omega
def toM(count aB:Nat)(s:og):Nat:=max (jg s.ps.length (count:Int) ((aB:Int)+1)).toNat s.said.toNat
def setSaidM(m:aT)(k cO:Nat):aT:=match m.ss[k]? with
 |none=>m
 |some s=>{m with ss:=m.ss.set k (s.jP (cO:Int) s.lb)}
structure zg where
 M:Nat→aT
 bits:List Bool
 body:List UInt8
def qK(count ah aB:Nat)(S:zg)(x:dF):zg:=match(S.M x.d.bb).ss[x.k]? with
 |none=>S
 |some s=>
  ⟨ou S.M x.d.bb (setSaidM (ug (S.M x.d.bb) x.k ah aB s.said.toNat (toM count aB s) s).1 x.k (toM count aB s)),
   S.bits++(ug (S.M x.d.bb) x.k ah aB s.said.toNat (toM count aB s) s).2,
   if s.said.toNat<toM count aB s then S.body++AL s.ps s.bs s.said.toNat (toM count aB s)else S.body⟩
structure GoodS(s:og):Prop where
 pl:0≤s.pl∧s.pl≤60
 lb:s.lb≤100
 bs:s.bs.length≤300000
structure Dp(m:aT):Prop where
 pl:0≤m.aH∧m.aH≤60
 ss:∀s∈m.ss,GoodS s
theorem Dp.aeA{m:aT}(h:Dp m)(c:Nat):Dp (kF c m):=by obtain⟨e1,e2⟩:=Be c m;exact⟨by rw[e2];exact h.pl,by rw[e1];exact h.ss⟩
theorem Dp.Ah{m:aT}(h:Dp m){k:Nat}{s:og}(hs:m.ss[k]?=S_ s)(f z:List bV)(said lb:Int)(hl:lb≤100):Dp {m with first:=f,dA:=z,ss:=m.ss.set k (s.jP said lb)}:=by
 refine⟨h.pl,fun x hx=>?_⟩;rcases cZ hx with hx|rfl
 ·exact h.ss x hx
 ·have:=h.ss s (aF hs);exact⟨this.pl,hl,this.bs⟩
theorem WM(s:og)(ah said cO:Nat)(he:∀p∈s.ps,0≤p.1∧p.1≤100000000)(hl:s.lb≤100):qy s ah said cO≤100∧s.lb≤qy s ah said cO∧qy s ah said cO≤max s.lb 41:=by have h2:=WN (I7 ah said cO) (zX s ah said cO) s.lb (fun i=>(VH _ (by intro e h;obtain⟨p,hp,rfl⟩:=bW.1 h;exact he p hp) said (dV ah said cO) i).2) (dV ah said cO).length;unfold qy;omega
def Tu(s:og)(ah said cO:Nat):og:=if cO=said then s else s.jP s.said (qy s ah said cO)
theorem acQ(m:aT)(k ah aB said cO:Nat)(s:og)(h:m.ss[k]?=S_ s):(ug m k ah aB said cO s).1.ss[k]?=S_ (Tu s ah said cO):=by
 unfold ug Tu;split
 ·exact h
 ·exact dJ (aj.1 h).1
theorem ι(s:og)(ah said cO:Nat):(Tu s ah said cO).ps=s.ps∧(Tu s ah said cO).bs=s.bs∧(Tu s ah said cO).said=s.said:=by unfold Tu;split<;>exact⟨rfl,rfl,rfl⟩
theorem Dp.head{m:aT}(g:Dp m){k:Nat}{s:og}(h:m.ss[k]?=S_ s)(ah aB said cO:Nat)(he:∀p∈s.ps,0≤p.1∧p.1≤100000000):Dp (ug m k ah aB said cO s).1:=by
 have gs:=g.ss s (aF h);unfold ug;split
 ·exact⟨g.pl,g.ss⟩
 ·exact g.Ah h _ _ _ _ (WM s ah said cO he gs.lb).1
theorem Dp.said{m:aT}(g:Dp m)(k cO:Nat):Dp (setSaidM m k cO):=by
 unfold setSaidM;split
 ·exact g
 ·rename_i s hs;exact g.Ah hs m.first m.dA _ _ (g.ss s (aF hs)).lb
theorem UT(m:aT)(k ah aB said cO:Nat)(s:og)(hf:m.first.length≤20)(hz:m.dA.length≤20)(g:Dp m)(gs:GoodS s)(hl:aB≤100)(he:∀p∈s.ps,0≤p.1∧p.1≤100000000)(hb:0≤s.lb)(ht:cO≤1000):(ug m k ah aB said cO s).2.length≤130000:=by
 have h1:=Kq m k aB said cO hf hl;have gp:=g.pl;have gq:=gs.pl;have h2:=UR m k said s hz (by omega);have h3:=Et (cO-said);have h4:=WM s ah said cO he gs.lb;have h5:=FM (I7 ah said cO) (zX s ah said cO) (qy s ah said cO) (dV ah said cO).length;have h6:=xJ ah said cO;have h7:=gs.lb;unfold ug;split
 ·simp only;omega
 ·simp only[Dt,au,ja,List.length_cons];omega
theorem QR{D:List bu}{M:Nat→aT}{HB1:List HB}(hB:iK D M HB1){w0 w:World}{H0 Y:List HB}(m:Mv w0 H0 w (Y++HB1)){d:bu}(hd:d∈D):∃(b:di) (R:List HB),b.ok d∧b.model=M d.bb∧(∀W,Mv w0 H0 W (Y++HB1)→Mv w0 H0 W ((Y++R)++b.heap d))∧ ∀(b':di) (Y':List HB),b'.ok d→∃HB',iK D (ou M d.bb b'.model) HB'∧∀W,Mv w0 H0 W ((Y'++R)++b'.heap d)→Mv w0 H0 W (Y'++HB'):=by
 obtain⟨H1,R,⟨b,hb1,hb2,rfl⟩,sm,back⟩:=hB.split m.sat.right.1 hd;refine⟨b,R,hb2,hb1,fun W mW=>?_,fun b' Y' hb'=>?_⟩
 ·refine mW.sub (fun g=>?_) (fun y hy=>?_)
  ·have:=sm.1 g;simp only[aP]at this⊢;omega
  ·have:=sm.2 y;simp only[ay]at this hy⊢;grind
 ·obtain⟨HB',h3,h4⟩:=back b'.model _ ⟨b',rfl,hb',rfl⟩;refine⟨HB',h3,fun W mW=>mW.sub (fun g=>?_) (fun y hy=>?_)⟩
  ·have:=h4.1 g;simp only[aP]at this⊢;omega
  ·have:=h4.2 y;simp only[ay]at this hy⊢;grind
theorem IB{b:di}{m:aT}(e:b.model=m){k:Nat}{s:og}(h:m.ss[k]?=S_ s):∃st,b.G[k]?=S_ st∧st.m=s:=by subst e;simp only[di.model,aV]at h;exact iU.1 h
section
variable{D:List bu}{M:Nat→aT}{HB1 H0 Y HW:List HB}{w0 w:World}{d:bu}{k wb:Nat}{s:og}{bs:List Bool}
theorem aaY(hB:iK D M HB1)(hd:d∈D)(hs:(M d.bb).ss[k]?=S_ s):s.Fits∧(M d.bb).first.length≤20∧(M d.bb).dA.length≤20:=by obtain⟨b,k1,k2,k3⟩:=hB.band hd;obtain⟨st,hst,rfl⟩:=IB k1 hs;rw[←k1];exact⟨(k2.st st (aF hst)).2.2,by have:=k2.kf.1;simpa[di.model]using this,by have:=k2.kz.1;simpa[di.model]using this⟩
end
end
section
open Go.RowKit Go.Shelf
attribute [local go_sem] jR
def wP(n:Nat):Code→Option Code
 | .block i b=>if i==n then S_ (.block i b)else wP n b
 | .seq a b=>(wP n a).or (wP n b)
 | .cond _ a b=>(wP n a).or (wP n b)
 | .loop b=>wP n b
 | .scope b=>wP n b
 | .rangeFunc _ _ _ b=>wP n b
 |_=>N_
def afU(n:Nat)(f:Func):Code:=((f.body.bind (wP n))).getD .skip
def acu(count aB:Nat)(M:Nat→aT)(x:dF):Bool:=match(M x.d.bb).ss[x.k]? with
 |none=>F_
 |some s=>decide (s.said<jg s.ps.length (count:Int) ((aB:Int)+1))
def xM(count aB:Nat)(M:Nat→aT)(l:List dF):Bool:=l.any (acu count aB M)
theorem U7(ps:List (Int×Bool))(bs:List UInt8)(said cO:Nat):(AL ps bs said cO).length≤bs.length:=by unfold AL;rw[bT,fH];omega
end
section
open Go.RowKit Go.Shelf
attribute [local go_sem] jR
theorem ZW(count aB:Nat)(M:Nat→aT)(l:List dF)(x:dF):xM count aB M (l++[x])=(xM count aB M l||acu count aB M x):=by unfold xM;rw[List.any_append];simp
end
section
open Go.RowKit Go.Shelf
attribute [local go_sem] jR
def encS(count ah aB:Nat)(D:List bu)(M:Nat→aT):zg:=if xM count aB M (aX D)=T_ then(aX D).foldl (qK count ah aB) ⟨(aX D).foldl (Ar count) M,[T_],[]⟩else⟨(aX D).foldl (Ar count) M,[F_],[]⟩
end
section
open Go.RowKit
def wW(s:og):og:=s.jP 0 s.lb
theorem zF{a b:og}(h:wW a=wW b):a.pl=b.pl∧a.ps=b.ps∧a.bs=b.bs∧a.lb=b.lb:=by obtain⟨a1,a2,a3,a4,a5⟩:=a;obtain⟨b1,b2,b3,b4,b5⟩:=b;simp only[wW,og.jP,og.mk.injEq]at h;exact⟨h.1,h.2.1,h.2.2.1,h.2.2.2.2⟩
structure Jh(aH:Int)(s:og):Prop where
 z:s.pl≤aH∧aH≤s.pl+60
 np:s.ps.length≤100
 lb:s.lb≤45
 bs:s.bs.length≤300000
 up:∀i j,i≤j→j<s.ps.length→(s.ps.map (·.1)).getD i 0≤(s.ps.map (·.1)).getD j 0
 ends:∀p∈s.ps,0≤p.1∧p.1≤(s.bs.length:Int)
structure FT(mp mr:aT)(ff fz:Bool):Prop where
 aH:mr.aH=mp.aH
 ss:mr.ss.map wW=mp.ss.map wW
 few:mp.ss.length≤1000
 good:∀s∈mp.ss,Jh mp.aH s
 agZ:mr.set=T_
 ahi:0<mp.ss.length→mp.set=T_
 first:0<mp.ss.length→(if ff=T_ then mr.first else fillT mr.first)=mp.first∧wR mp.first mp.ss.length
 dA:0<mp.ss.length→(if fz=T_ then mr.dA else fillT mr.dA)=mp.dA∧wR mp.dA mp.ss.length
structure v!(mp:aT):Prop where
 few:mp.ss.length≤1000
 good:∀s∈mp.ss,Jh mp.aH s
 set:mp.set=F_
 n:mp.ss.length=mp.w*mp.h
 w:mp.w≤3∧mp.h≤3
 first:mp.first=jr mp.w mp.h
 dA:mp.dA=jr mp.w mp.h
def qE(b:Nat)(mp:aT)(H:List HB):Prop:=∃mr ff fz,kC b mr ff fz H∧FT mp mr ff fz
def Aw(b:Nat)(mp:aT)(H:List HB):Prop:=qE b mp H∨(kC b mp F_ F_ H∧v! mp)
theorem FT.get{mp mr:aT}{ff fz:Bool}(h:FT mp mr ff fz){k:Nat}{s:og}(hk:mp.ss[k]?=S_ s):∃r,mr.ss[k]?=S_ r∧wW r=wW s:=by
 have e:=fM (·[k]?) h.ss;simp only[aV,hk,Option.map_some]at e;cases hr:mr.ss[k]? with
 |none=>rw[hr]at e;cases e
 |some r=>rw[hr]at e;exact⟨r,rfl,iL e⟩
theorem FT.len{mp mr:aT}{ff fz:Bool}(h:FT mp mr ff fz):mr.ss.length=mp.ss.length:=by simpa using fM List.length h.ss
theorem Yh(L:bV):rE [L]:=by
 intro A B C h;rcases uX.1 h with e|e
 ·cases e
 ·have:=e.length_le;simp at this
theorem OQ:∀(k w h:Nat),1≤w→1≤h→rE (treeNew k w h)
 |0,_,_,_,_=>by intro A B C h;have:=h.length_le;simp[treeNew]at this
 |k+1,w,h,hw,hh=>by
  unfold treeNew;split
  ·exact Yh _
  ·rename_i hn;intro A B C hs;rcases uX.1 hs with e|e
   ·have e1:A=jE w h:=by injection e
    rw[e1];show 1<w*h;by_cases h2:2≤w
    ·exact eH (by decide) (bZ h2 hh)
    ·exact eH (by decide) (bZ hw (show 2≤h by omega))
   ·exact OQ k _ _ (by omega) (by omega) A B C e
theorem Jj{w h:Nat}(hw:1≤w∧w≤3)(hh:1≤h∧h≤3):xh (jr w h) (w*h)∧kE (jr w h) (w*h):=by
 have e0:jr (w:Int) (h:Int)=treeNew 7 w h:=by unfold jr;rw[aJ (by omega),Int.toNat_natCast,Int.toNat_natCast]
 have hs:rE (jr w h):=by rw[e0];exact OQ 7 w h hw.1 hh.1
 obtain⟨d1,d2,d3,-⟩:=Xy 6 w h hw.1 hh.1 (fD hw.2 (by decide)) (fD hh.2 (by decide));have hd:Dims (jr w h):=by rw[e0];exact d1
 have hl:(jr w h).length≤20:=by rw[e0];exact fD d3 (by decide)
 have key:(∃L R,jr (w:Int) (h:Int)=L::R∧L.l.length=w*h∧w*h=L.w*L.h)∧offT (jr (w:Int) (h:Int)) (jr (w:Int) (h:Int)).length≤100000:=by
  obtain⟨w1,w2⟩:=hw;obtain⟨h1,h2⟩:=hh;have a:w=1∨w=2∨w=3:=by omega
  have b:h=1∨h=2∨h=3:=by omega
  clear e0 hs d1 d2 d3 hd hl w1 w2 h1 h2;rcases a with rfl|rfl|rfl<;>rcases b with rfl|rfl|rfl<;>exact⟨⟨_,_,rfl,rfl,rfl⟩,by decide⟩
 obtain⟨⟨L,R,e,a1,a2⟩,ho⟩:=key;exact⟨⟨⟨L,R,e,a1⟩,ho⟩,⟨L,R,e,a2⟩,hd,hs,ho,hl⟩
theorem Q9(T:List bV)(k:Nat)(v:Int):(setLeaf T k v).map dM=T.map dM:=by
 unfold setLeaf;cases T with
 |nil=>rfl
 |cons L R=>
  simp only[bJ];congr 1;split
  ·simp[dM]
  ·rfl
theorem Ut(count:Nat)(m:aT):∀k,k≤m.ss.length→(gY count m k).first.map dM=m.first.map dM∧(gY count m k).dA.map dM=m.dA.map dM:=by
 intro k hk;obtain⟨-,-,-,-,-,e1,e2⟩:=yS count m k hk;have key:∀(v:Nat→Int) (T:List bV) (l:List Nat),(l.foldl (fun T j=>setLeaf T j (v j)) T).map dM=T.map dM:=by
  intro v T l
  induction l generalizing T with
  |nil=>rfl
  |cons x l ih=>rw[List.foldl_cons,ih,Q9]
 exact⟨by rw[e1];exact key _ _ _,by rw[e2];exact key _ _ _⟩
theorem Ku(T:List bV):(fillT T).map dM=T.map dM:=by
 cases T with
 |nil=>rfl
 |cons L R=>exact Hg L R
def zB(count:Nat)(m:aT):aT:=if m.ss.length=0 then m else kF count m
theorem aet{mp:aT}(h:v! mp)(count:Nat)(hc:count≤100)(hn:0<mp.ss.length)(ff fz:Bool)(hff:ff=F_∧fz=F_):FT (zB count mp) (gY count mp mp.ss.length) ff fz:=by
 obtain⟨rfl,rfl⟩:=hff;have hwh:=h.n;have hw:1≤mp.w:=lN.2 fun e=>by rw[e,Nat.zero_mul]at hwh;omega
 have hh:1≤mp.h:=lN.2 fun e=>by rw[e,Nat.mul_zero]at hwh;omega
 have e:zB count mp=kF count mp:=aJ (by omega);obtain⟨p1,⟨p2,p3⟩,p4,p5⟩:=planted count mp hc h.set ⟨hw,h.w.1⟩ ⟨hh,h.w.2⟩ h.n h.first h.dA (fun s hs=>by have:=(h.good s hs).z;omega);obtain⟨t1,t2,t3,-⟩:=yS count mp mp.ss.length (aN _);obtain⟨s1,s2⟩:=Ut count mp mp.ss.length (aN _);obtain⟨-,g⟩:=Jj ⟨hw,h.w.1⟩ ⟨hh,h.w.2⟩;rw[e];have ess:(kF count mp).ss=mp.ss:=(Be count mp).1;have epl:(kF count mp).aH=mp.aH:=(Be count mp).2;refine⟨t2.trans epl.symm,by rw[t1,ess],by rw[ess];exact h.few,by rw[ess,epl];exact h.good,t3,fun _=>by rw[p1];exact t3,fun _=>⟨?_,?_,p2,p3⟩,fun _=>⟨?_,?_,p4,p5⟩⟩
 ·rw[p1];rfl
 ·rw[ess,h.n];refine kE.congr (T:=jr mp.w mp.h) g ?_;rw[p1,←h.first];exact(Ku _).trans s1
 ·rw[p1];rfl
 ·rw[ess,h.n];refine kE.congr (T:=jr mp.w mp.h) g ?_;rw[p1,←h.dA];exact(Ku _).trans s2
theorem Zl{mp:aT}(h:v! mp)(hn:mp.ss.length=0)(mr:aT)(e1:mr.aH=mp.aH)(e2:mr.ss=mp.ss)(e3:mr.set=T_)(count:Nat)(ff fz:Bool):FT (zB count mp) mr ff fz:=by have e:zB count mp=mp:=aK hn;rw[e];exact⟨e1,by rw[e2],h.few,h.good,e3,fun h0=>by omega,fun h0=>by omega,fun h0=>by omega⟩
theorem Zm{mp mr:aT}{ff fz:Bool}(h:FT mp mr ff fz)(count:Nat):zB count mp=mp:=by
 unfold zB;split
 ·rfl
 ·unfold kF;rw[aK (h.ahi (by omega))]
theorem Tz{m:aT}{k aB from_ cO:Nat}:yD m k aB from_ cO=if from_=0 then encAt m.first k ((aB:Int)+1)else(m.first,[decide (from_<cO)]):=by
 unfold yD;split
 ·rfl
 ·by_cases h:from_<cO
  ·rw[aK h,aQ h];rfl
  ·rw[aJ h,aW h];rfl
theorem acO{m:aT}{k z from_:Nat}{s:og}(hz:m.aH-s.pl=z):Jc m k from_ s=(yP m.dA m.dA k z from_,vS m.dA k z from_):=by
 have e:(max (m.aH-s.pl) 0+1).toNat=z+1:=by omega
 unfold Jc yP vS;rw[e];split<;>rfl
theorem S9{a b:og}(h:wW a=wW b)(ah from_ cO:Nat):qy a ah from_ cO=qy b ah from_ cO∧Dt a ah from_ cO=Dt b ah from_ cO:=by
 obtain⟨-,h2,-,h4⟩:=zF h;have e:qy a ah from_ cO=qy b ah from_ cO:=by unfold qy zX;rw[h2,h4]
 refine⟨e,?_⟩;unfold Dt;rw[e,h4];unfold zX;rw[h2]
theorem aeO(s:og){aH:Int}(h:Jh aH s)(ah from_ cO:Nat)(hto:cO≤s.ps.length):s.lb≤qy s ah from_ cO∧qy s ah from_ cO≤45:=by have nb:=J9 (I7 ah from_ cO) (zX s ah from_ cO) s.lb (dV ah from_ cO).length (O8 s ah from_ cO hto (fun p hp=>by have h1:=h.ends p hp;have h2:=h.bs;omega) h.up) _ (aN _);have:=h.lb;unfold qy;omega
theorem Jh.jP{aH:Int}{s:og}(h:Jh aH s)(said lb:Int)(hl:lb≤45):Jh aH (s.jP said lb):=⟨h.z,h.np,hl,h.bs,h.up,h.ends⟩
theorem FT.τ{mp mr:aT}{ff fz:Bool}(h:FT mp mr ff fz){k:Nat}(hk:k<mp.ss.length)(b:Int):FT {mp with first:=(encAt mp.first k b).1} {mr with first:=(encAt mp.first k b).1} T_ fz:=⟨h.aH,h.ss,h.few,h.good,h.agZ,h.ahi,fun h0=>⟨aK rfl,JA b hk (h.first h0).2⟩,h.dA⟩
theorem JJ{T:List bV}{n k:Nat}(hk:k<n)(h:wR T n):∀j,wR (zerosE T k j).1 n
 |0=>h
 |j+1=>JA _ hk (JJ hk h j)
theorem FT.ab8{mp mr:aT}{ff fz:Bool}(h:FT mp mr ff fz){k from_ cO:Nat}{s r:og}(hs:mp.ss[k]?=S_ s)(_hr:mr.ss[k]?=S_ r)(e:wW r=wW s)(ah z:Nat)(said:Int)(hto:cO≤s.ps.length):FT {mp with dA:=yP mp.dA mp.dA k z from_,ss:=mp.ss.set k (s.jP said (qy s ah from_ cO))} {mr with dA:=yP mr.dA mp.dA k z from_,ss:=mr.ss.set k (r.jP r.said (qy r ah from_ cO))} ff (Ep fz from_):=by
 have hk:=(aj.1 hs).1;have hm:=aF hs;refine⟨h.aH,?_,by simpa using h.few,?_,h.agZ,fun h0=>h.ahi (by simpa using h0),fun h0=>?_,fun h0=>?_⟩
 ·show(mr.ss.set k _).map wW=(mp.ss.set k _).map wW;rw[jb,jb,h.ss];congr 1;obtain⟨e1,e2,e3,e4⟩:=zF e;have en:=(S9 e ah from_ cO).1;unfold wW og.jP;rw[e1,e2,e3,en]
 ·intro x hx;rcases cZ hx with h1|rfl
  ·exact h.good x h1
  ·exact(h.good s hm).jP _ _ (aeO s (h.good s hm) ah from_ cO hto).2
 ·have:=h.first (by simpa using h0);simpa using this
 ·obtain⟨h1,h2⟩:=h.dA (by simpa using h0);have hl:(mp.ss.set k (s.jP said (qy s ah from_ cO))).length=mp.ss.length:=by simp
  show _∧wR (yP mp.dA mp.dA k z from_) (mp.ss.set k _).length;rw[hl];unfold yP Ep;split
  ·exact⟨aK rfl,JJ hk h2 _⟩
  ·exact⟨h1,h2⟩
theorem FT.Oj{mp mr:aT}{ff fz:Bool}(h:FT mp mr ff fz)(k cO:Nat):FT (setSaidM mp k cO) mr ff fz:=by
 unfold setSaidM;split
 ·exact h
 ·rename_i s hs;have e:(mp.ss.set k (s.jP (cO:Int) s.lb)).map wW=mp.ss.map wW:=by
   rw[jb];refine fU fun i=>?_;rw[fQ];split
   ·rename_i e;subst e;rw[aV,hs,aK (by rw[aO];exact(aj.1 hs).1)];rfl
   ·rfl
  refine⟨h.aH,h.ss.trans e.symm,by simpa using h.few,?_,h.agZ,fun h0=>h.ahi (by simpa using h0),fun h0=>by simpa using h.first (by simpa using h0),fun h0=>by simpa using h.dA (by simpa using h0)⟩;intro x hx;rcases cZ hx with h1|rfl
  ·exact h.good x h1
  ·exact(h.good s (aF hs)).jP _ _ (h.good s (aF hs)).lb
theorem adl{aH:Int}{s:og}(h:Jh aH s){from_ cO:Nat}(hft:from_<cO)(hto:cO≤s.ps.length): ∃lo Ha:Nat,(lo:Int)=(if from_=0 then 0 else(s.ps.map (·.1)).getD (from_-1) 0)∧(Ha:Int)=(s.ps.map (·.1)).getD (cO-1) 0∧lo≤Ha∧Ha≤s.bs.length∧AL s.ps s.bs from_ cO=(s.bs.drop lo).take (Ha-lo):=by
 have hb:∀i,i<s.ps.length→0≤(s.ps.map (·.1)).getD i 0∧(s.ps.map (·.1)).getD i 0≤(s.bs.length:Int):=by intro i hi;rw[ax,aV,ai hi];exact h.ends _ (kX hi)
 have h2:=hb (cO-1) (by omega);obtain⟨W,hW⟩:∃W:Int,(if from_=0 then 0 else(s.ps.map (·.1)).getD (from_-1) 0)=W:=⟨_,rfl⟩;have h1:0≤W∧W≤(s.ps.map (·.1)).getD (cO-1) 0:=by
  rw[←hW];split
  ·exact⟨gG _,h2.1⟩
  ·exact⟨(hb _ (by omega)).1,h.up _ _ (by omega) (by omega)⟩
 refine⟨W.toNat,((s.ps.map (·.1)).getD (cO-1) 0).toNat,by omega,by omega,by omega,by omega,?_⟩;have e1:Le s.ps from_=W:=hW;unfold AL U8 c!;rw[e1];have e2:min W.toNat s.bs.length=W.toNat:=by omega
 have e3:min (max ((s.ps.map (·.1)).getD (cO-1) 0) W).toNat s.bs.length=((s.ps.map (·.1)).getD (cO-1) 0).toNat:=by omega
 rw[e2,e3]
theorem Uu(bb:Nat)(m:aT)(ff fz:Bool)(H:List HB)(W:World)(hB:kC bb m ff fz H)(hs:Sat W H)(hn:m.ss.length=0)(count:Nat):Calls P_ 33 #[p_ (S_ ⟨bb,0,N_⟩),i_ l_ count] W fun e w'=>e=r_ (t_ #[])∧∃mr H',mr.aH=m.aH∧mr.ss=m.ss∧mr.set=T_∧kC bb mr ff fz H'∧Mv W H w' H':=by
 obtain⟨b,hb0,rfl⟩:=hB;have hlen:b.G.length=0:=by rw[←hn,←hb0.ss,aO]
 obtain⟨va,vc,hv⟩:=dh.slice hb0.row;rw[hlen]at hv;have c4:W.cell? ⟨bb,4,N_⟩=S_ (b_ m.set):=(hs.at_ 0 rfl).cell 4;have f4:W.frozen? ⟨bb,4,N_⟩=F_:=(hs.at_ 0 rfl).frozen 4;have c1:W.cell? ⟨bb,1,N_⟩=S_ (s_ va 0 vc):=by rw[←hv];exact(hs.at_ 0 rfl).cell 1
 have c5:(W.setCell ⟨bb,4,N_⟩ (b_ T_)).cell? ⟨bb,1,N_⟩=S_ (s_ va 0 vc):=by have h:=Mv.set (show Mv W _ W (jk bb b.ti b.tu b.vl m::(b.Hl++(b.Hi++(b.Hu++b.G.flatMap gu.heap))))from Mv.refl hs) 4 (b_ T_);rw[←hv];exact h.cell 0 rfl 1
 have FIN:Hid (∀V,(V=W∧m.set=T_)∨V=W.setCell ⟨bb,4,N_⟩ (b_ T_)→∃mr H',mr.aH=m.aH∧mr.ss=m.ss∧mr.set=T_∧kC bb mr ff fz H'∧Mv W (b.heap bb m) V H'):=af (by
  rintro V (⟨rfl,h⟩|rfl)
  ·exact⟨m,_,rfl,rfl,h,⟨b,hb0,rfl⟩,Mv.refl hs⟩
  ·refine⟨{m with set:=T_},_,rfl,rfl,rfl,⟨b,⟨hb0.ss,hb0.st,hb0.row,hb0.ti,hb0.tu,hb0.pl⟩,rfl⟩,?_⟩;have:=(Mv.refl hs).set 4 (b_ T_);exact this)
 generalize b.heap bb m=H0 at*;clear hb0 hs hn hlen hv;cases hset:m.set with
 |true=>rw[hset]at c4 FIN;go_enter Tryz.func33,Tryz.ntmps33;go_wp2_with fail;exact dU (bH rfl _ _ _) rfl (by obtain⟨a,b,c,d,e,f⟩:=FIN _ (.inl ⟨rfl,by simp⟩);first|exact⟨rfl,a,b,c,d,e,f⟩|exact⟨rfl,a,c,d,e,b,f⟩)
 |false=>
  rw[hset]at c4 FIN;go_enter Tryz.func33,Tryz.ntmps33;go_wp2_with fail;go_loopg [4] 0 (fun mm v4 wx=>mm=0∧v4=i_ l_ 0∧wx.cell? ⟨bb,1,N_⟩=S_ (s_ va 0 vc)∧wx=W.setCell ⟨bb,4,N_⟩ (b_ T_))
  case atStart=>exact⟨rfl,rfl,c5,rfl⟩
  case round=>obtain⟨rfl,rfl,c6,rfl⟩:=hrel;clear c1 c4 f4;go_wp2_with fail;exact dm (bH rfl _ _ _) rfl (by obtain⟨a,b,c,d,e,f⟩:=FIN _ (.inr rfl);first|exact⟨rfl,a,b,c,d,e,f⟩|exact⟨rfl,a,c,d,e,b,f⟩)
theorem aek(b:Nat)(mp:aT)(H:List HB)(W:World)(hB:Aw b mp H)(hs:Sat W H)(count:Nat)(hc:1≤count∧count≤100):Calls P_ 33 #[p_ (S_ ⟨b,0,N_⟩),i_ l_ count] W fun e w'=>e=r_ (t_ #[])∧∃H',qE b (zB count mp) H'∧Mv W H w' H':=by
 rcases hB with⟨mr,ff,fz,hB,hr⟩|⟨hB,hr⟩
 ·refine(Zh b mr ff fz H W hB hs hr.agZ count).mono ?_;rintro e w' ⟨rfl,rfl⟩;exact⟨rfl,H,⟨mr,ff,fz,hB,by rw[Zm hr];exact hr⟩,Mv.refl hs⟩
 ·by_cases hn:mp.ss.length=0
  ·refine(Uu b mp F_ F_ H W hB hs hn count).mono ?_;rintro e w' ⟨rfl,mr,H',e1,e2,e3,hB',m⟩;exact⟨rfl,H',⟨mr,F_,F_,hB',Zl hr hn mr e1 e2 e3 count F_ F_⟩,m⟩
  ·have hwh:=hr.n;have hw:1≤mp.w:=lN.2 fun e=>by rw[e,Nat.zero_mul]at hwh;omega
   have hh:1≤mp.h:=lN.2 fun e=>by rw[e,Nat.mul_zero]at hwh;omega
   obtain⟨lk,-⟩:=Jj ⟨hw,hr.w.1⟩ ⟨hh,hr.w.2⟩;refine(Zi b mp F_ F_ H W hB hs hr.set count mp.ss.length hc rfl hr.few (fun s h=>(hr.good s h).np) ⟨by rw[hr.first,hr.n];exact lk,by rw[hr.dA,hr.n];exact lk⟩).mono ?_;rintro e w' ⟨rfl,ff',fz',H',hB',hf,m⟩;exact⟨rfl,H',⟨_,ff',fz',hB',aet hr count hc.2 (by omega) ff' fz' (hf (by omega))⟩,m⟩
def gJ(P:Nat→aT→List HB→Prop):List Nat→List bu→(Nat→aT)→List HB→Prop
 | [],[],_,H=>H=[]
 |b::bs,d::ds,M,H=>∃H1 H2,H=H1++H2∧P b (M d.bb) H1∧gJ P bs ds M H2
 |_,_,_,_=>False
theorem gJ.congr{P:Nat→aT→List HB→Prop}:∀{Bs:List Nat} {D:List bu} {M M':Nat→aT} {H:List HB},gJ P Bs D M H→(∀d∈D,M' d.bb=M d.bb)→gJ P Bs D M' H
 | [],[],_,_,_,h,_=>h
 |b::bs,d::ds,M,M',H,⟨H1,H2,e,h1,h2⟩,hm=>⟨H1,H2,e,by rw[hm d aG];exact h1,gJ.congr h2 fun x hx=>hm x (aU _ hx)⟩
 | [],_::_,_,_,_,h,_=>h.elim
 |_::_,[],_,_,_,h,_=>h.elim
theorem gJ.len{P:Nat→aT→List HB→Prop}:∀{Bs:List Nat} {D:List bu} {M:Nat→aT} {H:List HB},gJ P Bs D M H→Bs.length=D.length
 | [],[],_,_,_=>rfl
 |b::bs,d::ds,M,H,⟨_,_,_,_,h2⟩=>by rw[List.length_cons,List.length_cons,gJ.len h2]
 | [],_::_,_,_,h=>h.elim
 |_::_,[],_,_,h=>h.elim
theorem gJ.snoc{P:Nat→aT→List HB→Prop}:∀{Bs:List Nat} {D:List bu} {M:Nat→aT} {H H1:List HB} {b:Nat} {d:bu},gJ P Bs D M H→P b (M d.bb) H1→gJ P (Bs++[b]) (D++[d]) M (H++H1)
 | [],[],M,H,H1,b,d,h,hp=>by have e:H=[]:=h;subst e;exact⟨H1,[],by simp,hp,rfl⟩
 |x::bs,y::ds,M,H,H1,b,d,⟨A,B,e,h1,h2⟩,hp=>⟨A,B++H1,by rw[e,az],h1,gJ.snoc h2 hp⟩
 | [],_::_,_,_,_,_,_,h,_=>h.elim
 |_::_,[],_,_,_,_,_,h,_=>h.elim
theorem gJ.split{P:Nat→aT→List HB→Prop}:∀{Bs:List Nat} {D:List bu} {M:Nat→aT} {H:List HB} {i b:Nat} {d:bu},gJ P Bs D M H→(D.map (·.bb)).Nodup→Bs[i]?=S_ b→D[i]?=S_ d→ ∃A1 H1 A2,H=A1++(H1++A2)∧P b (M d.bb) H1∧∀m' DX,P b m' DX→gJ P Bs D (ou M d.bb m') (A1++(DX++A2))
 | [],[],_,_,_,_,_,_,_,hb,_=>by simp at hb
 |x::bs,y::ds,M,H,0,b,d,⟨H1,H2,e,h1,h2⟩,hn,hb,hd=>by simp only[List.getElem?_cons_zero,dG]at hb hd;subst hb hd;refine⟨[],H1,H2,e,h1,fun m' DX hp=>⟨DX,H2,rfl,by rw[jX];exact hp,h2.congr fun z hz=>kQ M m' ?_⟩⟩;intro hzz;rw[bJ,mf]at hn;exact hn.1 (hzz ▸ bW.2 ⟨z,hz,rfl⟩)
 |x::bs,y::ds,M,H,i+1,b,d,⟨H1,H2,e,h1,h2⟩,hn,hb,hd=>by simp only[List.getElem?_cons_succ]at hb hd;rw[bJ,mf]at hn;obtain⟨A1,H3,A2,e2,h3,h4⟩:=gJ.split h2 hn.2 hb hd;refine⟨H1++A1,H3,A2,by rw[e,e2,az],h3,fun m' DX hp=>⟨H1,A1++(DX++A2),by rw[az],?_,h4 m' DX hp⟩⟩;rw[kQ M m' (fun hz=>hn.1 (by rw[hz];exact bW.2 ⟨d,aF hd,rfl⟩))];exact h1
 | [],_::_,_,_,_,_,_,h,_,_,_=>h.elim
 |_::_,[],_,_,_,_,_,h,_,_,_=>h.elim
def Ls(Bs:List Nat)(D:List bu)(M1 M:Nat→aT)(i:Nat)(H:List HB):Prop:=∃HA HC,H=HA++HC∧gJ qE (Bs.take i) (D.take i) M1 HA∧gJ Aw (Bs.drop i) (D.drop i) M HC
theorem Ls.step{Bs:List Nat}{D:List bu}{M1 M:Nat→aT}{i:Nat}{H:List HB}(h:Ls Bs D M1 M i H){b:Nat}{d:bu}(hb:Bs[i]?=S_ b)(hd:D[i]?=S_ d): ∃A1 H1 A2,H=A1++(H1++A2)∧Aw b (M d.bb) H1∧∀DX,qE b (M1 d.bb) DX→Ls Bs D M1 M (i+1) ((A1++DX)++A2):=by
 obtain⟨HA,HC,rfl,h1,h2⟩:=h;have hbl:=(aj.1 hb);have hdl:=(aj.1 hd);have e1:Bs.drop i=b::Bs.drop (i+1):=by rw[fG hbl.1,hbl.2]
 have e2:D.drop i=d::D.drop (i+1):=by rw[fG hdl.1,hdl.2]
 rw[e1,e2]at h2;obtain⟨H1,A2,rfl,h3,h4⟩:=h2;refine⟨HA,H1,A2,rfl,h3,fun DX hp=>⟨HA++DX,A2,rfl,?_,h4⟩⟩;have e3:Bs.take (i+1)=Bs.take i++[b]:=by rw[eU,hb];rfl
 have e4:D.take (i+1)=D.take i++[d]:=by rw[eU,hd];rfl
 rw[e3,e4];exact h1.snoc hp
theorem UE(c:Nat)(m:aT)(_h:0<m.ss.length):kF c (kF c m)=kF c m:=by
 have hs:(kF c m).set=T_:=by
  unfold kF;split
  ·assumption
  ·have key:∀(l:List Nat) (n:aT),n.set=T_→(l.foldl (plantStep c) n).set=T_:=by
    intro l
    induction l with
    |nil=>intro n h;exact h
    |cons x l ih=>
     intro n h;rw[List.foldl_cons];refine ih _ ?_;unfold plantStep;split
     ·exact h
     ·exact h
   exact key _ _ rfl
 have alI:∀x:aT,x.set=T_→kF c x=x:=by intro x hx;unfold kF;rw[aK hx]
 exact alI _ hs
theorem TP(c:Nat):∀(D:List bu) (M:Nat→aT),(D.map (·.bb)).Nodup→(∀d∈D,(M d.bb).ss.length=d.n)→(∀d∈D,((aX D).foldl (Ar c) M) d.bb=zB c (M d.bb))∧∀b,b∉D.map (·.bb)→((aX D).foldl (Ar c) M) b=M b
 | [],M,_,_=>⟨(fun d hd=>by cases hd),fun b _=>rfl⟩
 |d::D,M,hn,hl=>by
  rw[bJ,mf]at hn;have hone:∀n,n≤d.n→((List.range n).map (fun k=>(⟨d,k⟩:dF))).foldl (Ar c) M=if n=0 then M else ou M d.bb (kF c (M d.bb)):=by
   intro n
   induction n with
   |zero=>intro _;rfl
   |succ n ih=>
    intro hnn;rw[fO,bU,dP,ih (by omega),aJ (Nat.succ_ne_zero n)];simp only[bJ,gW,List.foldl_cons,List.foldl_nil];by_cases h0:n=0
    ·rw[aK h0];rfl
    ·rw[aJ h0];unfold Ar;simp only[jX,LM];rw[UE c _ (by rw[hl d aG];omega)]
  have e0:(aX (d::D)).foldl (Ar c) M=(aX D).foldl (Ar c) (if d.n=0 then M else ou M d.bb (kF c (M d.bb))):=by have:aX (d::D)=(List.range d.n).map (fun k=>(⟨d,k⟩:dF))++aX D:=rfl;rw[this,dP,hone d.n (aN _)]
  obtain⟨N,hN⟩:=X_ ((if d.n=0 then M else ou M d.bb (kF c (M d.bb))));rw[hN]at e0;have eN:N d.bb=zB c (M d.bb):=by
   rw[←hN];unfold zB;rw[hl d aG];split
   ·rfl
   ·exact jX _ _ _
  have eO:∀b,b≠d.bb→N b=M b:=by
   intro b hb;rw[←hN];split
   ·rfl
   ·exact kQ _ _ hb
  have hne:∀x∈D,x.bb≠d.bb:=fun x hx h=>hn.1 (h ▸ bW.2 ⟨x,hx,rfl⟩);obtain⟨i1,i2⟩:=TP c D N hn.2 (fun x hx=>by rw[eO _ (hne x hx)];exact hl x (aU _ hx));rw[e0];refine⟨fun x hx=>?_,fun b hb=>?_⟩
  ·rcases aC.1 hx with rfl|hx
   ·rw[i2 _ hn.1,eN]
   ·rw[i1 x hx,eO _ (hne x hx)]
  ·rw[bJ,aC,not_or]at hb;rw[i2 b hb.2,eO b hb.1]
def w!(w:World)(v:Value)(xs:List Int):Prop:= ∃(a:Option Addr) (cap:Nat),v=s_ a xs.length cap∧xs.length≤cap∧cap≤maxLen∧ ∀k x,xs[k]?=S_ x→∃b o,a=S_ ⟨b,o,N_⟩∧w.cell? ⟨b,o+k,N_⟩=S_ (i_ l_ x)
theorem w!.keep{w w':World}{v:Value}{xs:List Int}(h:w! w v xs)(hb:Below w.heap.size w w'):w! w' v xs:=by obtain⟨a,cap,rfl,h1,h2,h3⟩:=h;refine⟨a,cap,rfl,h1,h2,fun k x hx=>?_⟩;obtain⟨b,o,rfl,hc⟩:=h3 k x hx;exact⟨b,o,rfl,(hb.cell (gZ w _ hc)).trans hc⟩
def RdS(w:World)(v:Value)(l:List ShapeM):Prop:= ∃(a:Option Addr) (cap:Nat),v=s_ a l.length cap∧l.length≤cap∧cap≤maxLen∧ ∀k s,l[k]?=S_ s→∃b o vp vn,a=S_ ⟨b,o,N_⟩∧w.cell? ⟨b,o+k*5,N_⟩=S_ (i_ l_ s.w)∧w.cell? ⟨b,o+k*5+1,N_⟩=S_ (i_ l_ s.h)∧w.cell? ⟨b,o+k*5+2,N_⟩=S_ (i_ l_ s.spare)∧w.cell? ⟨b,o+k*5+3,N_⟩=S_ vp∧w.cell? ⟨b,o+k*5+4,N_⟩=S_ vn∧w! w vp s.aH∧w! w vn s.ns
theorem RdS.keep{w w':World}{v:Value}{l:List ShapeM}(h:RdS w v l)(hb:Below w.heap.size w w'):RdS w' v l:=by obtain⟨a,cap,rfl,h1,h2,h3⟩:=h;refine⟨a,cap,rfl,h1,h2,fun k x hx=>?_⟩;obtain⟨b,o,vp,vn,rfl,c0,c1,c2,c3,c4,r1,r2⟩:=h3 k x hx;have g:∀(j:Nat) (u:Value),w.cell? ⟨b,j,N_⟩=S_ u→w'.cell? ⟨b,j,N_⟩=S_ u:=fun j u hc=>(hb.cell (gZ w _ hc)).trans hc;exact⟨b,o,vp,vn,rfl,g _ _ c0,g _ _ c1,g _ _ c2,g _ _ c3,g _ _ c4,r1.keep hb,r2.keep hb⟩
theorem agh(x n:Int)(w:World)(h3:1≤n)(h4:n≤1000000):Calls P_ 65 #[i_ l_ x,i_ l_ n] w fun e w'=>e=r_ (i_ l_ (x%n))∧w'=w:=by
 obtain⟨h5,h6⟩:=Ul x n h3;have E:=af (OJ x n h3);go_enter Tryz.func65,Tryz.ntmps65;go_wp2
 all_goals go_ret
 ·exact⟨by rw[←E.out,aK (by assumption)];rfl,rfl⟩
 ·exact⟨by rw[←E.out,aJ (by omega)];rfl,rfl⟩
theorem OC(x:Int)(n:Nat)(w:World)(h3:1≤n)(h4:n≤1000000):Calls P_ 65 #[i_ l_ x,i_ l_ n] w fun e w'=>e=r_ (i_ l_ (JG x n:Nat))∧w'=w:=by rw[OE x h3];exact agh x n w (by omega) (by omega)
theorem zo(x:Int)(n:Nat)(w:World)(h3:1≤n)(h4:n≤1000000):Calls P_ 8 #[i_ l_ x,i_ l_ n] w fun e w'=>e=r_ (i_ l_ (JG x n:Nat))∧w'=w:=by rw[OE x h3];exact adH x n w (by omega) (by omega)
theorem ς:(List.replicate 15 (Value.int l_ 0).cells.toList).flatten=(List.replicate 15 (0:Int)).map (Value.int l_):=by rw[Qr];rfl
theorem vT(n:Nat)(ns:List Int):(jI n ns).length=15:=by simp[jI]
theorem LK(n:Nat)(ns:List Int){i:Nat}(hi:i<15):(jI n ns)[i]?=S_ (Q5 n ns i):=by simp[jI,hi]
theorem Tj(l:List Int)(i:Nat)(hi:i<l.length):(Ei l i)[i]?=S_ 0:=by unfold Ei;rw[aZ (by rw[bT];omega),bT,show i-min i l.length=0 by omega,jH,aK (by omega)]
theorem ad5{α:Type}{l:List α}{i:Nat}{x:α}(h:l[i]?=S_ x):l.set i x=l:=by
 apply fU;intro j;rw[fQ];split
 ·rename_i e;subst e;rw[aK (aj.1 h).1,h]
 ·rfl
theorem acx(l:List Int)(i:Nat)(h:l[i]?=S_ 0):Ei l (i+1)=Ei l i:=by rw[←WU l i h];have hi:=(aj.1 h).1;have h0:=Tj l i hi;exact ad5 h0
theorem ahj(p:Nat)(hp:p≤12):wrap64 ((2:Int)^p)=((2^p:Nat):Int):=by
 have key:∀q<13,wrap64 ((2:Int)^q)=((2^q:Nat):Int):=by decide+kernel
 exact key p (by omega)
theorem agj(n:Nat)(ns:List Int)(j L q r:Nat)(x:Int)(hL:ns.length=L)(h0:0<L)(hq:j%L=q)(hr:j/L=r)(hx:ns[q]?=S_ x)(p:Nat)(hp:JG (wrap64 (Int.tdiv x 7)) (n+1)=p)(m:Nat)(hm:JG (wrap64 (wrap64 (Int.tdiv x 64)+(j:Int))) (2^p)=m)(c:Nat)(hc:JG (wrap64 (x+(r:Int))) 5=c):Q5 n ns j=if c<2 then(m:Int)else if c<4 then-(m:Int)else 0:=by
 have e:ns.getD q 0=x:=by rw[ax,hx];rfl
 unfold Q5;rw[hL,aJ (by omega),hq,e,hr];simp only[hp,hm,hc]
theorem aaL(n:Nat)(ns:List Int)(h:ns.length=0):jI n ns=Ei (jI n ns) 0:=by
 rw[Ti,vT];apply fU;intro i;by_cases hi:i<15
 ·rw[LK n ns hi,jH,aK hi];unfold Q5;rw[aK h]
 ·rw[iQ (by rw[vT];omega),iQ (by simp;omega)]
theorem Yc(n:Nat)(hn:n≤12)(ns:List Int)(v:Value)(W:World)(hv:w! W v ns):Calls P_ 18 #[i_ l_ 3,i_ l_ 5,i_ l_ n,v] W fun e W'=>∃g,e=r_ (s_ (S_ ⟨g,0,N_⟩) 15 15)∧Mv W [] W' [AU g (jI n ns)]:=by
 obtain⟨i0,hi,hz0,hz1,hz2⟩:=qJ aan;have hm:(Instr.makeSlice 38 (i_ l_ 15) (i_ l_ 15)).run P_ W=.ok (s_ (S_ ⟨W.heap.size,0,N_⟩) 15 15) _:=Ec (P:=P_) 38 3 i0 _ 1 8 15 Tryz.underlying38 hi hz0 hz1 hz2 rfl (by decide) (by decide) (by decide) W;rw[ς]at hm;have M0:Mv W [] (W.alloc (.cells ((List.replicate 15 (0:Int)).map (Value.int l_)).toArray 3)) [AU W.heap.size (Ei (jI n ns) 0)]:=by rw[Ti,vT];exact iF W 3 ((List.replicate 15 (0:Int)).map (Value.int l_)).toArray
 obtain⟨g,hg⟩:=X_ (W.heap.size);obtain⟨w1,hw1⟩:=X_ (W.alloc (.cells ((List.replicate 15 (0:Int)).map (Value.int l_)).toArray 3));have M1:Mv W [] w1 [AU W.heap.size (Ei (jI n ns) 0)]:=by rw[←hw1];exact M0
 rw[hw1]at hm;rw[hg]at hm M1;have K1:=af M1;obtain⟨A,c,rfl,hv1,hv2,hv3⟩:=hv;obtain⟨L,hL⟩:=X_ (ns.length);have HV:=dS hL hv3;have HL:=af hL;rw[hL]at hv1⊢;have hL2:L≤9223372036854775807:=by unfold maxLen at hv2;omega
 clear M0 M1 hw1 hi hz0 hz1 hz2 hv3 hL hg hv1 hv2;go_enter Tryz.func18,Tryz.ntmps18;go_wp2_with fail;go_loopg [10] 15 (fun mm s10 wx=>∃j:Nat,j≤15∧mm=15-j∧s10=i_ l_ j∧(L=0→j=0)∧Mv W [] wx [AU g (Ei (jI n ns) j)])
 case atStart=>exact⟨0,by decide,rfl,rfl,fun _=>rfl,K1.out⟩
 case round=>
  clear K1;obtain⟨j,hj,rfl,rfl,hL0,m⟩:=hrel;by_cases hlt:j<15∧0<L
  ·obtain⟨h1,h2⟩:=hlt;have d1:decide ((j:Int)<15)=T_:=by simp;omega
   have d2:decide (0<(L:Int))=T_:=by simp;omega
   have hq:=kP j h2;obtain⟨q,hq2⟩:=X_ (j%L);rw[hq2]at hq;obtain⟨x,hx⟩:∃x,ns[q]?=S_ x:=⟨_,ai (by rw[HV.1];exact hq)⟩;obtain⟨b,o,rfl,hc0⟩:=HV.2 q x hx;have hc:=m.old hc0 (gZ W _ hc0);have E1:(j:Int)%L=q:=by rw[←hq2];push_cast;rfl
   have KM:=af m;clear m hm HV hc0;have W1:=af fun V=>OC (wrap64 (Int.tdiv x 7)) (n+1) V (by omega) (by omega);obtain⟨p,hp⟩:=X_ (JG (wrap64 (Int.tdiv x 7)) (n+1));have ajC:p≤12:=by have:=zq (wrap64 (Int.tdiv x 7)) (n:=n+1) (by omega);omega
   rw[hp]at W1;simp only[Int.natCast_add,Int.cast_ofNat_Int]at W1;go_upto_region 7 with(go_at_call 65;(with_reducible refine(W1.out _).mono ?_);rintro e w' ⟨rfl,rfl⟩);have hp2:1≤2^p∧2^p≤1000000:=by have h3:2^p≤2^12:=fB (by decide) ajC;exact⟨Nat.pow_pos (by decide),fD h3 (by decide)⟩
   have W2:=af fun V=>OC (wrap64 (wrap64 (Int.tdiv x 64)+(j:Int))) (2^p) V hp2.1 hp2.2;rw[←ahj p ajC]at W2;obtain⟨mv,hmv⟩:=X_ (JG (wrap64 (wrap64 (Int.tdiv x 64)+(j:Int))) (2^p));have am8:mv<4096:=by have h3:=zq (wrap64 (wrap64 (Int.tdiv x 64)+(j:Int))) hp2.1;have h4:2^p≤2^12:=fB (by decide) ajC;have h5:(2:Nat)^12=4096:=rfl;omega
   rw[hmv]at W2;obtain⟨r,hr⟩:=X_ (j/L);have hr2:r≤15:=by have:=pV j L;omega
   have E2:(j:Int)/(L:Int)=r:=by rw[←hr];push_cast;rfl
   have W3:=af fun V=>OC (wrap64 (x+(r:Int))) 5 V (by decide) (by decide);obtain⟨cs,hcs⟩:=X_ (JG (wrap64 (x+(r:Int))) 5);have hcs2:cs<5:=by have h3:=zq (wrap64 (x+(r:Int))) (n:=5) (by decide);omega
   rw[hcs]at W3;simp only[Int.cast_ofNat_Int]at W3;have alr:=af (agj n ns j L q r x HL h2 hq2 hr hx p hp mv hmv cs hcs);clear hp hmv hr hcs hp2 hx hq2;go_upto_region 8 with(go_at_call 65;(with_reducible refine(W2.out _).mono ?_);rintro e w' ⟨rfl,rfl⟩);have MS:=af (KM.out.set (R:=[]) j);have zc:w'.cell? ⟨g,j,N_⟩=S_ (i_ l_ 0):=by refine(KM.cell 0 rfl j).trans ?_;simp only[iy,aV];rw[Tj _ _ (by rw[vT];exact h1)];rfl
   have zf:w'.frozen? ⟨g,j,N_⟩=F_:=KM.frozen 0 rfl j;have NX:Hid (∀v:Int,Q5 n ns j=v→Mv W [] (w'.setCell ⟨g,j,N_⟩ (i_ l_ v)) [AU g (Ei (jI n ns) (j+1))]):=af (by intro v hv;have h3:=KM.out.set (R:=[]) j (i_ l_ v);rw[show(AU g (Ei (jI n ns) (j+1)))=⟨g,3,(AU g (Ei (jI n ns) j)).cs.setIfInBounds j (i_ l_ v)⟩ by rw[aeo,WU _ _ (by rw[LK n ns h1,hv])];rfl];exact h3);have KN:Hid (Q5 n ns j=0→Mv W [] w' [AU g (Ei (jI n ns) (j+1))]):=af (by intro hv;rw[acx _ _ (by rw[LK n ns h1,hv])];exact KM.out);clear KM MS W1 W2 hc;obtain h5|h5|h5|h5|h5:cs=0∨cs=1∨cs=2∨cs=3∨cs=4:=by omega
   all_goals
    subst h5;clear hcs2;go_wp2_with (go_at_call 65;(with_reducible refine(W3.out _).mono ?_);rintro e w2 ⟨rfl,rfl⟩);go_roundg (15-(j+1))
    case measure=>omega
    case rel=>exact⟨j+1,h1,rfl,by push_cast;rfl,by omega,by first|exact NX _ (by rw[alr.out];rfl)|exact KN (by rw[alr.out];rfl)⟩
  ·have hex:Ei (jI n ns) j=jI n ns:=by
    by_cases h2:L=0
    ·rw[hL0 h2];exact(aaL n ns (by rw[HL.out,h2])).symm
    ·have al9:j=15:=by omega
     rw[al9];have:=aeW (jI n ns);rw[vT]at this;exact this
   rw[hex]at m;have KM:=af m;clear m hex HV hm;have hlt2:j<15→L=0:=fun h=>by omega
   by_cases h1:j<15
   ·have d1:decide ((j:Int)<15)=T_:=by simp;omega
    obtain rfl:L=0:=hlt2 h1;go_wp2_with fail;go_ret;exact⟨g,rfl,KM.out⟩
   ·have d1:decide ((j:Int)<15)=F_:=by simp;omega
    go_wp2_with fail;go_ret;exact⟨g,rfl,KM.out⟩
section
variable(K:Act→World→Prop)(k g lk ah np pc nb bc:Nat)(tb:Bool)(pa ba:Option Addr)(ps:List (Int×Bool))(Hp R H0:List YtjngfhgakokejaaGreat.HB)(w0:World)(w:World){s0 s2 s4 s5 s6 s7 s8 s9 s10 s11 s12 s13 s14 s15 s16 l9 kH kS s20 lF lC s23 s24 kZ s26 kW kR kY lu lJ lK lI lL lD s36 lY lX mG ni mZ mY s43 s44 nI mF nH nK s49 mD mg lW s53 mX mQ mP mO nX nJ:Value}
inductive Rt(bQ:Array Bool)(a:Act)(W:World):Prop|mk {b0 b1 b2 b3 b4 b5 b6 b7 b8 b9 b10 b11 b12 b13 b14 b15 b16 b17 b18 b19 b20 b21 b22 b23 b24 b25 b26 b27 b28 b29 b30 b31 b32 b33 b34:Bool} {u25 u26 u27 u28 u29 u30 u31 u32 u33 u34 u35 u36 u37 u38 XV u40 u41 u42 u43 u44 u45 u46 Vy u48 u49 Vx u51 u52 u53 u54 u55 u56 u57 u58:Value} {g8:Nat} {HB:List YtjngfhgakokejaaGreat.HB} {Wp:World} (hl:bQ=#[b0,b1,b2,b3,b4,b5,b6,b7,b8,b9,b10,b11,b12,b13,b14,b15,b16,b17,b18,b19,b20,b21,b22,b23,b24,b25,b26,b27,b28,b29,b30,b31,b32,b33,b34]) (ha:a=⟨List.toArray (s0::(.int .i64 ah)::s2::(.pointer (some ⟨g,0,none⟩))::s4::s5::s6::s7::s8::s9::s10::s11::s12::s13::s14::s15::s16::l9::kH::kS::s20::lF::lC::s23::s24::u25::u26::u27::u28::u29::u30::u31::u32::u33::u34::u35::u36::u37::u38::XV::u40::u41::u42::u43::u44::u45::u46::Vy::u48::u49::Vx::u51::u52::u53::u54::u55::u56::u57::u58::nJ::[]),[]⟩) (HW:(Mv w0 H0 Wp (oh b29 ⟨g8,142,#[.int .i64 nb,.bool tb]⟩++(HB++R))∧(b30=false→HB=Hp)∧(b30=true→b29=true)∧(b34=false→W=Wp)∧(b34=true→W=Wp.setCell ⟨lk,k*5+1,none⟩ u55)∧(b34=true→b0=true∧b1=true∧b2=true∧b3=true∧b4=true∧b5=true∧b6=true∧b7=true∧b8=true∧b9=true∧b10=true∧b11=true∧b12=true∧b13=true∧b14=true∧b15=true∧b16=true∧b17=true∧b18=true∧b19=true∧b20=true∧b21=true∧b22=true∧b23=true∧b24=true∧b25=true∧b26=true∧b27=true∧b28=true∧b29=true∧b30=true∧b31=true∧b32=true∧b33=true)∧(b32=true→b31=true)∧(b33=true→b32=true))) (hF:(b0=true→u25=.pointer (some ⟨g,0,none⟩))∧(b1=true→u26=.pointer (some ⟨g,0,none⟩))∧(b2=true→u27=.pointer (some ⟨lk,k*5,none⟩))∧(b3=true→u28=.pointer (some ⟨g,0,none⟩))∧(b4=true→u29=.pointer (some ⟨g,0,none⟩))∧(b5=true→u30=.pointer (some ⟨lk,k*5,none⟩))∧(b6=true→u31=.pointer (some ⟨lk,k*5,none⟩))∧(b7=true→u32=.pointer (some ⟨lk,k*5,none⟩))∧(b8=true→u33=.pointer (some ⟨lk,k*5+1,none⟩))∧(b9=true→u34=.slice pa np pc)∧(b10=true→u35=.pointer (some ⟨g,0,none⟩))∧(b11=true→u36=.pointer (some ⟨g,0,none⟩))∧(b12=true→u37=.pointer (some ⟨lk,k*5,none⟩))∧(b13=true→u38=.pointer (some ⟨lk,k*5,none⟩))∧(b14=true→XV=.pointer (some ⟨lk,k*5,none⟩))∧(b15=true→u40=.pointer (some ⟨lk,k*5+2,none⟩))∧(b16=true→u41=.slice ba nb bc)∧(b17=true→u42=.int .i64 nb)∧(b18=true→u43=.int .i64 ah)∧(b19=true→u44=.pointer (some ⟨g,0,none⟩))∧(b20=true→u45=.pointer (some ⟨g,0,none⟩))∧(b21=true→u46=.pointer (some ⟨lk,k*5,none⟩))∧(b22=true→Vy=.pointer (some ⟨lk,k*5,none⟩))∧(b23=true→u48=.pointer (some ⟨lk,k*5,none⟩))∧(b24=true→u49=.pointer (some ⟨lk,k*5+1,none⟩))∧(b25=true→Vx=.slice pa np pc)∧(b26=true→u51=.int .i64 np)∧(b27=true→u52=.bool tb)∧(b28=true→u53=.agg #[.int .i64 nb,.bool tb])∧(b29=true→u54=.slice (some ⟨g8,0,none⟩) 1 1)∧(b30=true→dh 142 2 u55 (np+1) (jd (ps++[((nb:Int),tb)])) HB)∧(b31=true→u56=.pointer (some ⟨lk,k*5,none⟩))∧(b32=true→u57=.pointer (some ⟨lk,k*5,none⟩))∧(b33=true→u58=.pointer (some ⟨lk,k*5+1,none⟩)):=by and_intros<;>first|assumption|exact fun _=>rfl|(simp only[bM,bI,aI]<;>assumption)):Rt bQ a W
theorem agF(CE:Hid (∀V A',Mv w0 H0 V (A'++R)→V.cell? ⟨g,0,N_⟩=S_ (p_ (S_ ⟨lk,k*5,N_⟩))∧V.cell? ⟨lk,k*5+1,N_⟩=S_ (s_ pa np pc)∧V.cell? ⟨lk,k*5+2,N_⟩=S_ (s_ ba nb bc)∧V.frozen? ⟨lk,k*5+1,N_⟩=F_))(EN:Hid (∀V,Calls P_ 92 #[i_ l_ ah,i_ l_ np] V fun e w'=>e=r_ (b_ tb)∧w'=V))(xu:np≤1000)(hrow:dh 142 2 (s_ pa np pc) np (jd ps) Hp)(hM:Mv w0 H0 w (Hp++R))
 (hk:∀(u25 u26 u27 u28 u29 u30 u31 u32 u33 u34 u35 u36 u37 u38 XV u40 u41 u42 u43 u44 u45 u46 Vy u48 u49 Vx u51 u52 u53 u54 u55 u56 u57 u58:Value) (g8:Nat) (HB:List YtjngfhgakokejaaGreat.HB) (Wp:World) (W:World),(Mv w0 H0 Wp (oh T_ ⟨g8,142,#[i_ l_ nb,b_ tb]⟩++(HB++R))∧(T_=F_→HB=Hp)∧(T_=T_→T_=T_)∧(T_=F_→W=Wp)∧(T_=T_→W=Wp.setCell ⟨lk,k*5+1,N_⟩ u55)∧(T_=T_→T_=T_∧T_=T_∧T_=T_∧T_=T_∧T_=T_∧T_=T_∧T_=T_∧T_=T_∧T_=T_∧T_=T_∧T_=T_∧T_=T_∧T_=T_∧T_=T_∧T_=T_∧T_=T_∧T_=T_∧T_=T_∧T_=T_∧T_=T_∧T_=T_∧T_=T_∧T_=T_∧T_=T_∧T_=T_∧T_=T_∧T_=T_∧T_=T_∧T_=T_∧T_=T_∧T_=T_∧T_=T_∧T_=T_∧T_=T_)∧(T_=T_→T_=T_)∧(T_=T_→T_=T_))→(dh 142 2 u55 (np+1) (jd (ps++[((nb:Int),tb)])) HB)→K ⟨List.toArray (s0::(i_ l_ ah)::s2::(p_ (S_ ⟨g,0,N_⟩))::s4::s5::s6::s7::s8::s9::s10::s11::s12::s13::s14::s15::s16::l9::kH::kS::s20::lF::lC::s23::s24::u25::u26::u27::u28::u29::u30::u31::u32::u33::u34::u35::u36::u37::u38::XV::u40::u41::u42::u43::u44::u45::u46::Vy::u48::u49::Vx::u51::u52::u53::u54::u55::u56::u57::u58::nJ::[]),[]⟩ W):
 (dQ 4 Tryz.f41).wp P_ (Exit.then K qX) ⟨List.toArray (s0::(i_ l_ ah)::s2::(p_ (S_ ⟨g,0,N_⟩))::s4::s5::s6::s7::s8::s9::s10::s11::s12::s13::s14::s15::s16::l9::kH::kS::s20::lF::lC::s23::s24::kZ::s26::kW::kR::kY::lu::lJ::lK::lI::lL::lD::s36::lY::lX::mG::ni::mZ::mY::s43::s44::nI::mF::nH::nK::s49::mD::mg::lW::s53::mX::mQ::mP::mO::nX::nJ::[]),[]⟩ w:=by
 conv in(dQ _ _)=>whnf
 unfold qX;have HK:=af hk;clear hk;refine jS (by kernel_rfl) [[],[0],[1],[],[3],[4],[5],[6],[7],[8],[],[10],[11],[12],[13],[14],[15],[16],[],[],[19],[20],[21],[22],[23],[24],[25],[18,26],[17,27],[28],[9,29,27],[2,0,1,2,3,4,5,6,7,8,9,10,11,12,13,14,15,16,17,18,19,20,21,22,23,24,25,26,27,28,29,30],[31,0,1,2,3,4,5,6,7,8,9,10,11,12,13,14,15,16,17,18,19,20,21,22,23,24,25,26,27,28,29,30],[32,0,1,2,3,4,5,6,7,8,9,10,11,12,13,14,15,16,17,18,19,20,21,22,23,24,25,26,27,28,29,30],[33,30,30,0,1,2,3,4,5,6,7,8,9,10,11,12,13,14,15,16,17,18,19,20,21,22,23,24,25,26,27,28,29,30]] [0,1,2,3,4,5,6,7,8,9,10,11,12,13,14,15,16,17,18,19,20,21,22,23,24,25,26,27,28,29,30,31,32,33,34] (by kernel_rfl) (by kernel_rfl) (@Rt k g lk ah np pc nb bc tb pa ba ps Hp R H0 w0 s0 s2 s4 s5 s6 s7 s8 s9 s10 s11 s12 s13 s14 s15 s16 l9 kH kS s20 lF lC s23 s24 nJ) ?_ ?_ ?_
 ·refine .mk (g8:=0) (HB:=Hp) (Wp:=w.drew) rfl rfl ⟨by simpa[jl]using hM.drew,fun _=>rfl,(fun e=>nomatch e),fun _=>rfl,(fun e=>nomatch e),(fun e=>nomatch e),(fun e=>nomatch e),(fun e=>nomatch e)⟩ ⟨nofun,nofun,nofun,nofun,nofun,nofun,nofun,nofun,nofun,nofun,nofun,nofun,nofun,nofun,nofun,nofun,nofun,nofun,nofun,nofun,nofun,nofun,nofun,nofun,nofun,nofun,nofun,nofun,nofun,nofun,nofun,nofun,nofun,nofun⟩
 ·rintro _ _ W ⟨rfl,rfl,HW,-,-,-,-,-,-,-,-,-,-,-,-,-,-,-,-,-,-,-,-,-,-,-,-,-,-,-,-,-,-,h30,-⟩ hb;simp only[List.all_cons,List.all_nil,dO,kJ]at hb;obtain⟨rfl,rfl,rfl,rfl,rfl,rfl,rfl,rfl,rfl,rfl,rfl,rfl,rfl,rfl,rfl,rfl,rfl,rfl,rfl,rfl,rfl,rfl,rfl,rfl,rfl,rfl,rfl,rfl,rfl,rfl,rfl,rfl,rfl,rfl,rfl⟩:=hb;exact HK _ _ _ _ _ _ _ _ _ _ _ _ _ _ _ _ _ _ _ _ _ _ _ _ _ _ _ _ _ _ _ _ _ _ _ _ _ W HW (h30 rfl)
 ·rintro _ _ W i @⟨_,_,_,_,_,_,_,_,_,_,_,_,_,_,_,_,_,_,_,_,_,_,_,_,_,_,_,_,_,b29,b30,b31,b32,_,b34,_,_,_,_,_,_,_,_,_,_,_,_,_,_,_,_,_,_,_,_,_,_,_,_,_,_,_,_,_,_,_,_,_,_,g8,HB,Wp,rfl,rfl,HW,h0,h1,h2,h3,h4,h5,h6,h7,h8,h9,h10,h11,h12,h13,JH,h15,h16,h17,h18,h19,h20,h21,h22,h23,h24,h25,h26,h27,h28,h29,h30,h31,h32,h33⟩ hi hi2 zp;have hi4:i=34∨i=27∨i=29∨i=30∨i=31∨i=32∨i=33∨i=0∨i=1∨i=2∨i=3∨i=4∨i=5∨i=6∨i=7∨i=8∨i=9∨i=10∨i=11∨i=12∨i=13∨i=14∨i=15∨i=16∨i=17∨i=18∨i=19∨i=20∨i=21∨i=22∨i=23∨i=24∨i=25∨i=26∨i=28:=(by have:i<35:=hi;omega);clear hi;rcases hi4 with rfl|rfl|rfl|rfl|rfl|rfl|rfl|rfl|rfl|rfl|rfl|rfl|rfl|rfl|rfl|rfl|rfl|rfl|rfl|rfl|rfl|rfl|rfl|rfl|rfl|rfl|rfl|rfl|rfl|rfl|rfl|rfl|rfl|rfl|rfl
  all_goals simp at hi2 zp;(repeat obtain⟨_,zp⟩:=zp);(try subst_vars);try simp only[bM,bI,aI]at h0 h1 h2 h3 h4 h5 h6 h7 h8 h9 h10 h11 h12 h13 JH h15 h16 h17 h18 h19 h20 h21 h22 h23 h24 h25 h26 h27 h28 h29 h30 h31 h32 h33
  all_goals try subst_vars
  all_goals refine jm rfl (fun K hK=>?_)
  ·obtain rfl:=HW.2.2.2.1 rfl;obtain⟨a9,c9,e9⟩:=dh.slice (h30);subst e9;obtain⟨y0,y1,y2,y3⟩:=CE W (oh T_ ⟨g8,142,#[i_ l_ nb,b_ tb]⟩++HB) (by simpa only[az]using HW.1);obtain rfl:b32=T_:=HW.2.2.2.2.2.2.2 rfl;obtain rfl:b31=T_:=HW.2.2.2.2.2.2.1 rfl;go_simp;refine hK _ _ (.mk (g8:=g8) (HB:=HB) (Wp:=W) rfl rfl ⟨HW.1,HW.2.1,HW.2.2.1,(fun e=>nomatch e),(fun _=>rfl),(fun _=>by simp),HW.2.2.2.2.2.2.1,HW.2.2.2.2.2.2.2⟩ ?_);and_intros<;>first|assumption|exact fun _=>rfl|(simp only[bM,bI,aI]<;>assumption)|exact fun _=>trivial
  all_goals (obtain rfl:b34=F_:=by cases b34;rfl;have:=HW.2.2.2.2.2.1 rfl;simp at this);obtain rfl:=HW.2.2.2.1 rfl
  ·go_simp;go_at_call 92
   (with_reducible refine(EN.out _).mono ?_)
   rintro e w10 ⟨rfl,rfl⟩;exact hK _ _ (.mk rfl rfl ⟨HW.1,HW.2.1,HW.2.2.1,(fun _=>rfl),(fun e=>nomatch e),(fun e=>nomatch e),HW.2.2.2.2.2.2.1,HW.2.2.2.2.2.2.2⟩)
  ·obtain rfl:b30=F_:=by cases b30;rfl;cases(HW.2.2.1 rfl)
   obtain rfl:=HW.2.1 rfl;have M9:=HW.1.alloc 142 #[i_ l_ nb,b_ tb];go_simp;exact hK _ _ (.mk (g8:=W.heap.size) rfl rfl ⟨M9.O_,HW.2.1,(fun e=>nomatch e),(fun _=>rfl),(fun e=>nomatch e),(fun e=>nomatch e),HW.2.2.2.2.2.2.1,HW.2.2.2.2.2.2.2⟩)
  ·obtain rfl:=HW.2.1 rfl;have M9:Mv w0 H0 W (HB++(⟨g8,142,#[i_ l_ nb,b_ tb]⟩::R)):=HW.1.O_;have RD:Reads W W.heap.size 2 (S_ ⟨g8,0,N_⟩) 1 (Nz ((nb:Int),tb)):=Reads.zD (dh.owns (H:=[⟨g8,142,#[i_ l_ nb,b_ tb]⟩]) (dh.new 142 g8 1 #[i_ l_ nb,b_ tb] rfl (by decide)) (M9.sat.Z_) (B:=0) (fun _ _=>aY _));refine Ip (A:=S_ ⟨g8,0,N_⟩) (m:=1) (c:=1) Tryz.underlying56 ae9 rfl (by decide) (by decide) rfl (.tmp 34) (.tmp 54) rfl (s_ pa np pc) (by simp[Act.eval]) (by simp[Act.eval]) hrow M9.sat.left RD (fun u hu=>Aa [((nb:Int),tb)] u (by simpa[jd]using hu)) (by omega) ?_;intro v9 w9 H9 r10 m9;have N9:=Mv.call M9 m9;refine hK _ _ (.mk (g8:=g8) (HB:=H9) (Wp:=w9) rfl rfl ⟨N9.O_,(fun e=>nomatch e),(fun _=>rfl),(fun _=>rfl),(fun e=>nomatch e),(fun e=>nomatch e),HW.2.2.2.2.2.2.1,HW.2.2.2.2.2.2.2⟩ ?_);and_intros<;>first|assumption|exact fun _=>rfl|(simp only[bM,bI,aI]<;>assumption)|exact fun _=>by rw[vG];exact r10
  ·go_simp;exact hK _ _ (.mk rfl rfl ⟨HW.1,HW.2.1,HW.2.2.1,(fun _=>rfl),(fun e=>nomatch e),(fun e=>nomatch e),(fun _=>rfl),HW.2.2.2.2.2.2.2⟩)
  ·go_simp;exact hK _ _ (.mk rfl rfl ⟨HW.1,HW.2.1,HW.2.2.1,(fun _=>rfl),(fun e=>nomatch e),(fun e=>nomatch e),(fun _=>rfl),(fun _=>rfl)⟩)
  ·go_simp;exact hK _ _ (.mk rfl rfl ⟨HW.1,HW.2.1,HW.2.2.1,(fun _=>rfl),(fun e=>nomatch e),(fun e=>nomatch e),HW.2.2.2.2.2.2.1,(fun _=>rfl)⟩)
  all_goals first|(go_simp;exact hK _ _ (.mk rfl rfl ⟨HW.1,HW.2.1,HW.2.2.1,(fun _=>rfl),(fun e=>nomatch e),(fun e=>nomatch e),HW.2.2.2.2.2.2.1,HW.2.2.2.2.2.2.2⟩))|((obtain⟨y0,y1,y2,y3⟩:=CE W (oh b29 ⟨g8,142,#[.int .i64 nb,.bool tb]⟩++HB) (by simpa only[az]using HW.1));go_simp;exact hK _ _ (.mk rfl rfl ⟨HW.1,HW.2.1,HW.2.2.1,(fun _=>rfl),(fun e=>nomatch e),(fun e=>nomatch e),HW.2.2.2.2.2.2.1,HW.2.2.2.2.2.2.2⟩))
end
structure AQ(m:aT):Prop where
 pl:0≤m.aH∧m.aH≤60
 nn:uQ m.dA
 ss:∀s∈m.ss,s.pl≤60∧s.lb≤24
theorem Tt(l:List UInt8)(m:aT)(s:og)(k aB:Nat)(r:jG)(h8:r.left≤8)(hf:m.first.length≤20)(hl:aB≤100)(g:AQ m):AQ (nV l m s k aB r).1∧(nV l m s k aB r).1.ss=m.ss∧(nV l m s k aB r).2.2.left≤8∧(nV l m s k aB r).2.2.begun≤r.begun+2020:=by
 unfold nV;split
 ·have h:=IG l m.first k ((aB:Int)+1) r h8 hf (by omega);exact⟨⟨g.pl,g.nn,g.ss⟩,rfl,h.2.1,by have:=h.2.2;simp only;omega⟩
 ·have h:=jD l r h8;exact⟨g,rfl,h.2.1,by have:=h.2.2;simp only;omega⟩
theorem Sm{l:List UInt8}{m:aT}{k:Nat}{s:og}{r:jG}(h8:r.left≤8)(hz:m.dA.length≤20)(g:AQ m)(hs:m.ss[k]?=S_ s){m1:aT}{s1:og}{r1:jG}{o:Bool}(h:readA l m k s r=(m1,s1,r1,o)):m1.aH=m.aH∧uQ m1.dA∧m1.ss=m.ss.set k s1∧s1.ps=s.ps∧s1.bs=s.bs∧s1.lb=s.lb∧(o=T_→s1.pl≤60)∧r1.left≤8∧r1.begun≤r.begun+72000∧m1.first=m.first:=by
 unfold readA at h;have gs:=g.ss s (aF hs);split at h
 ·obtain⟨Q,hQ⟩:=X_ (vK l m k r);have QI:=Dl l m.aH k g.pl.2 m.aH.toNat 1 m.dA r h8 hz g.nn (by omega) (by have:=g.pl.1;omega);rw[show beginGo l m.aH k m.aH.toNat 1 m.dA r=Q from hQ]at QI;rw[hQ]at h;simp only[fK]at h;obtain⟨rfl,rfl,rfl,rfl⟩:=h;have hpn:m.aH.toNat*1200≤60*1200:=dK _ (by have:=g.pl.2;omega);refine⟨rfl,QI.2.1,rfl,?_,?_,?_,fun ho=>?_,QI.2.2.2.1,by have:=QI.2.2.2.2;omega,rfl⟩
  ·cases Q.2.1<;>rfl
  ·cases Q.2.1<;>rfl
  ·cases Q.2.1<;>rfl
  ·cases hq:Q.2.1 with
   |none=>rw[hq]at ho;simp[Cb]at ho
   |some p=>have:=QI.2.2.1 p hq;have:=g.pl.2;simp only[begS];omega
 ·simp only[fK]at h;obtain⟨rfl,rfl,rfl,rfl⟩:=h;exact⟨rfl,g.nn,(yR hs).symm,rfl,rfl,rfl,fun _=>gs.1,h8,by omega,rfl⟩
theorem Sl{l:List UInt8}{ah:Nat}{m:aT}{d:bu}{k:Nat}{s:og}{r:jG}(h8:r.left≤8)(hz:m.dA.length≤20)(g:AQ m)(hs:m.ss[k]?=S_ s)(hlb:0≤s.lb){q:aT×List yx×jG}(h:readM l ah m d k s r=S_ q):AQ q.1∧q.2.2.left≤8∧q.2.2.begun≤r.begun+80000∧q.2.1.length≤178:=by
 obtain⟨⟨m1,s1,r1,o⟩,hA⟩:∃t,readA l m k s r=t:=⟨_,rfl⟩;have gs:=g.ss s (aF hs);obtain⟨a1,a2,a3,a4,a5,a6,a7,a8,a9,a10⟩:=Sm h8 hz g hs hA;rw[GX l ah m d k s r hA]at h;split at h
 ·cases h
 ·rename_i ho;have ho1:o=T_:=by cases o;exact absurd rfl ho;rfl
  unfold readB at h;split at h
  ·cases h
  ·rename_i hb;have hp:=a7 ho1;obtain⟨t1,t2,t3,t4⟩:=Io l r1 a8;have LI:=G9 l (25-s1.lb.toNat) s1.lb.toNat (pM l r1).2 t3 (by rw[a6];omega);obtain⟨⟨lo,r3⟩,hlo⟩:∃t,lbGo l (25-s1.lb.toNat) s1.lb.toNat (pM l r1).2=t:=⟨_,rfl⟩;rw[hlo]at h LI;cases lo with
   |none=>cases h
   |some lb=>
    simp only[readC,dG]at h;subst h;have hL:(jT (dV ah s1.ps.length (s1.ps.length+(pM l r1).1))).length≤178:=by have h1:=xJ ah s1.ps.length (s1.ps.length+(pM l r1).1);have h2:(jT (dV ah s1.ps.length (s1.ps.length+(pM l r1).1))).length=(dV ah s1.ps.length (s1.ps.length+(pM l r1).1)).length:=aO _;omega
    obtain⟨p1,p2,p3,p4⟩:=J5 l ⟨d,k⟩ lb (jT (dV ah s1.ps.length (s1.ps.length+(pM l r1).1))) r3 LI.1;have ana:=LI.2.2 lb rfl;refine⟨⟨by rw[show({m1 with ss:=m1.ss.set k {s1 with lb:=(lb:Int)}}:aT).aH=m1.aH from rfl,a1];exact g.pl,a2,fun x hx=>?_⟩,p2,?_,by simp only;omega⟩
    ·rcases cZ hx with hx|rfl
     ·rw[a3]at hx;rcases cZ hx with hx|rfl
      ·exact g.ss x hx
      ·exact⟨hp,by rw[a6];exact gs.2⟩
     ·exact⟨hp,by simp only;omega⟩
    ·have:=LI.2.1;simp only at this⊢;omega
section
variable{D:List bu}{M:Nat→aT}{HB1 H0 Y HR:List HB}{w0 w:World}{d:bu}{k rb:Nat}{s:og}{l:List UInt8}{r:jG}
theorem aaX(hB:iK D M HB1)(hd:d∈D)(hk:k<d.n)(hs:(M d.bb).ss[k]?=S_ s)(hr:jA rb l r HR)(m:Mv w0 H0 w ((HR++Y)++HB1))(aB:Nat)(hl:aB≤100)(hll:l.length≤90000000)(hrb:r.begun≤70000000)(h8:r.left≤8):Calls P_ 89 #[dF.v ⟨d,k⟩,p_ (S_ ⟨rb,0,N_⟩),i_ l_ aB] w fun e w'=>e=r_ (b_ (nV l (M d.bb) s k aB r).2.1)∧ ∃HR' HB',jA rb l (nV l (M d.bb) s k aB r).2.2 HR'∧iK D (ou M d.bb (nV l (M d.bb) s k aB r).1) HB'∧Mv w0 H0 w' ((HR'++Y)++HB'):=by obtain⟨b,R,ok,em,fwd,back⟩:=QR hB m hd;obtain⟨st,hst,rfl⟩:=IB em hs;rw[←em];have m1:Mv w0 H0 w ((HR++b.heap d)++(Y++R)):=(fwd w m).Z_;refine(afm d b k rb aB st l r HR w ok hk hst hr m1.sat.left hl hll hrb h8).mono ?_;rintro e w' ⟨rfl,b',HR',q1,q2,q3,q4,q5⟩;obtain⟨HB',h6,h7⟩:=back b' (HR'++Y) q1;refine⟨rfl,HR',HB',q4,by rw[←q2];exact h6,h7 w' ?_⟩;exact(Mv.call m1 q5).Z_
def aln(D:List bu)(M:Nat→aT)(d:bu)(rb:Nat)(l:List UInt8)(w0:World)(H0 Y:List HB)(w':World)(v:Value)(o:Bool):Option (aT×List yx×jG)→Prop
 |none=>o=F_∧Mv w0 H0 w' Y
 |some q=>o=T_∧∃HR' Hv HB',AO v q.2.1 Hv∧jA rb l q.2.2 HR'∧iK D (ou M d.bb q.1) HB'∧Mv w0 H0 w' ((Hv++(HR'++Y))++HB')
def aiM(D:List bu)(M:Nat→aT)(d:bu)(rb:Nat)(l:List UInt8)(w0:World)(H0 Y:List HB)(q:Option (aT×List yx×jG))(e:Ending)(w':World):Prop:=∃v o,e=r_ (t_ #[v,b_ o])∧aln D M d rb l w0 H0 Y w' v o q
theorem aaW(hB:iK D M HB1)(hd:d∈D)(hk:k<d.n)(hs:(M d.bb).ss[k]?=S_ s)(g:AQ (M d.bb))(hr:jA rb l r HR)(m:Mv w0 H0 w ((HR++Y)++HB1))(ah:Nat)(hs63:ah≤63)(hll:l.length≤90000000)(hrb:r.begun≤60000000)(h8:r.left≤8):Calls P_ 90 #[dF.v ⟨d,k⟩,p_ (S_ ⟨rb,0,N_⟩),i_ l_ ah] w (aiM D M d rb l w0 H0 Y (readM l ah (M d.bb) d k s r)):=by
 obtain⟨b,R,ok,em,fwd,back⟩:=QR hB m hd;obtain⟨st,hst,rfl⟩:=IB em hs;have gs:=g.ss _ (aF hs);have gp:=g.pl;have gn:=g.nn;rw[←em]at gp gn⊢;have m1:Mv w0 H0 w ((HR++b.heap d)++(Y++R)):=(fwd w m).Z_;refine(aev d b k rb ah st l r HR w ok hk hst hr m1.sat.left gp gn gs.1 gs.2 hs63 hll hrb h8).mono ?_;rintro e w' ⟨v,o,rfl,h⟩;refine⟨v,o,rfl,?_⟩;obtain⟨q,hq⟩:=X_ (readM l ah b.model d k st.m r);rw[hq]at h⊢;cases q with
 |none=>obtain⟨rfl,b',HR',r',p1,p2,p3⟩:=h;exact⟨rfl,(Mv.call m1 p3).Z_⟩
 |some q=>obtain⟨rfl,b',HR',Hv,p0,p1,p2,p3,p4⟩:=h;obtain⟨HB',h6,h7⟩:=back b' (Hv++(HR'++Y)) p1;refine⟨rfl,HR',Hv,HB',p0,p3,by rw[←p2];exact h6,h7 w' ?_⟩;exact(Mv.call m1 p4).Z_
end
structure tJ where
 M:Nat→aT
 out:List yx
 rd:jG
def stepD(l:List UInt8)(ah aB:Nat)(S:tJ)(x:dF):Option tJ:=match(S.M x.d.bb).ss[x.k]? with
 |none=>S_ S
 |some s=>if(nV l (S.M x.d.bb) s x.k aB S.rd).2.1=F_ then S_ ⟨ou S.M x.d.bb (nV l (S.M x.d.bb) s x.k aB S.rd).1,S.out,(nV l (S.M x.d.bb) s x.k aB S.rd).2.2⟩else(readM l ah (nV l (S.M x.d.bb) s x.k aB S.rd).1 x.d x.k s (nV l (S.M x.d.bb) s x.k aB S.rd).2.2).map fun q=>⟨ou S.M x.d.bb q.1,S.out++q.2.1,q.2.2⟩
def uG(l:List UInt8)(ah aB:Nat)(o:Option tJ)(L:List dF):Option tJ:=L.foldl (fun o x=>o.bind fun S=>stepD l ah aB S x) o
theorem ξ(l:List UInt8)(ah aB:Nat)(o:Option tJ)(L:List dF)(x:dF):uG l ah aB o (L++[x])=(uG l ah aB o L).bind fun S=>stepD l ah aB S x:=by unfold uG;rw[dP];rfl
theorem ο(l:List UInt8)(ah aB:Nat)(L:List dF):uG l ah aB N_ L=N_:=by
 unfold uG
 induction L with
 |nil=>rfl
 |cons x L ih=>exact ih
theorem UX{l:List UInt8}{ah aB:Nat}{o:Option tJ}{A L:List dF}(h:A<+:L)(hn:uG l ah aB o A=N_):uG l ah aB o L=N_:=by
 obtain⟨t,rfl⟩:=h;have:uG l ah aB o (A++t)=uG l ah aB (uG l ah aB o A) t:=by unfold uG;rw[dP]
 rw[this,hn,ο]
theorem di.ahx{b:di}{d:bu}{k:Nat}{st:gu}(hg:b.G[k]?=S_ st):∃R,Same (b.heap d) (jU b d::jY b d::(st.Hp++(st.Hb++R)))∧∀st':gu,Same ((b.CJ k st').heap d) (jU b d::⟨d.lb,69,((b.G.set k st').flatMap gu.v).toArray⟩::(st'.Hp++(st'.Hb++R))):=by
 obtain⟨hk,he⟩:=aj.1 hg;have e0:b.G=b.G.take k++st::b.G.drop (k+1):=by rw[←he];simp
 have e1:∀st',b.G.set k st'=b.G.take k++st'::b.G.drop (k+1):=fun st'=>by rw[List.set_eq_take_append_cons_drop,aK hk]
 have f0:b.G.flatMap gu.heap=(b.G.take k).flatMap gu.heap++((st.Hp++st.Hb)++(b.G.drop (k+1)).flatMap gu.heap):=by
  conv=>lhs;rw[e0]
  rw[gX,dE];rfl
 have f1:∀st',(b.CJ k st').G.flatMap gu.heap=(b.G.take k).flatMap gu.heap++((st'.Hp++st'.Hb)++(b.G.drop (k+1)).flatMap gu.heap):=by intro st';show(b.G.set k st').flatMap gu.heap=_;rw[e1,gX,dE];rfl
 refine⟨b.Hf++(b.Hz++((b.G.take k).flatMap gu.heap++(b.G.drop (k+1)).flatMap gu.heap)),⟨fun g=>?_,fun x=>?_⟩,fun st'=>⟨fun g=>?_,fun x=>?_⟩⟩
 ·unfold di.heap;rw[f0];simp only[aP,bK];omega
 ·unfold di.heap;rw[f0];simp only[ay,aC];grind
 ·unfold di.heap;rw[f1];simp only[aP,bK];show _+(_+(cnt g b.Hf+(cnt g b.Hz+_)))=_;have e2:(jY (b.CJ k st') d).g=d.lb:=rfl;have e3:(jU (b.CJ k st') d).g=(jU b d).g:=rfl;rw[e2,e3];omega
 ·unfold di.heap;rw[f1];have e2:jY (b.CJ k st') d=⟨d.lb,69,((b.G.set k st').flatMap gu.v).toArray⟩:=rfl;have e3:jU (b.CJ k st') d=jU b d:=rfl;have e4:(b.CJ k st').Hf=b.Hf:=rfl;have e5:(b.CJ k st').Hz=b.Hz:=rfl;rw[e2,e3,e4,e5];simp only[ay,aC];grind
theorem take_set{b:di}{d:bu}{k:Nat}{s1 s2:gu}{w0 V:World}{H0 A R:List HB}(hk:k<b.G.length)(m:Mv w0 H0 V (A++⟨d.lb,69,((b.G.set k s1).flatMap gu.v).toArray⟩::R))(i:Nat)(x:Value)(hi:i<5)(hv:s2.v=s1.v.set i x):Mv w0 H0 (V.setCell ⟨d.lb,k*5+i,N_⟩ x) (A++⟨d.lb,69,((b.G.set k s2).flatMap gu.v).toArray⟩::R):=by
 have m2:=Mv.setAt m (k*5+i) x;have e:((b.G.set k s1).flatMap gu.v).toArray.setIfInBounds (k*5+i) x=((b.G.set k s2).flatMap gu.v).toArray:=by rw[bf,jh gu.v 5 gu.jw (b.G.set k s1) k s1 _ (dJ hk) i hi x hv,jo]
 rw[e]at m2;exact m2
def uP(ah e:Nat):Nat→List (Int×Bool)→List (Int×Bool)
 |0,ps=>ps
 |p+1,ps=>uP ah e p (ps++[((e:Int),uH ah ps.length)])
def OL(ah:Nat)(s:og)(p:Nat)(data:List UInt8):og:={s with bs:=s.bs++data,ps:=uP ah (s.bs++data).length p s.ps}
theorem Jp(ah e:Nat)(he:e≤100000000):∀(p:Nat) (ps:List (Int×Bool)),(∀q∈ps,0≤q.1∧q.1≤100000000)→(uP ah e p ps).length=ps.length+p∧∀q∈uP ah e p ps,0≤q.1∧q.1≤100000000
 |0,ps,h=>⟨rfl,h⟩
 |p+1,ps,h=>by
  obtain⟨h1,h2⟩:=Jp ah e he p (ps++[((e:Int),uH ah ps.length)]) (by
   intro q hq;rcases ay.1 hq with hq|hq
   ·exact h q hq
   ·simp only[fJ]at hq;subst hq;exact⟨by simp only;omega,by simp only;omega⟩)
  exact⟨by show(uP ah e p _).length=_;rw[h1,au,List.length_cons,List.length_nil];omega,h2⟩
theorem agG(K:Act→World→Prop)(k g lk nb nd bc dc:Nat)(ba da:Option Addr)(bs data:List UInt8)(Hb R H0:List HB)(w0 w:World)
 (CE:Hid (∀V A',Mv w0 H0 V (A'++R)→V.cell? ⟨g,0,N_⟩=S_ (p_ (S_ ⟨lk,k*5,N_⟩))∧V.cell? ⟨lk,k*5+2,N_⟩=S_ (s_ ba nb bc)∧V.frozen? ⟨lk,k*5+2,N_⟩=F_)) (hnb:bs.length=nb) (hnd:data.length=nd) (hrow:dR (s_ ba nb bc) bs Hb) (hd:BV w (s_ da nd dc) data) (hl:bs.length+data.length≤100000000) (hM:Mv w0 H0 w (Hb++R))
 (hK:∀(t6 t7 t8 t9 t10 t11 t12 t13 t14 t15 t16 t17 t18 t19 t20:Value) (a2:Option Addr) (c2:Nat) (H2:List HB) (w2:World),dR (s_ a2 (nb+nd) c2) (bs++data) H2→Mv w0 H0 w2 (H2++R)→K ⟨List.toArray (s0::s1::(s_ da nd dc)::(p_ (S_ ⟨g,0,N_⟩))::s4::s5::t6::t7::t8::t9::t10::t11::t12::t13::t14::t15::t16::t17::t18::t19::t20::lF::lC::s23::s24::kZ::s26::kW::kR::kY::lu::lJ::lK::lI::lL::lD::s36::lY::lX::mG::ni::mZ::mY::s43::s44::nI::mF::nH::nK::s49::mD::mg::lW::s53::mX::mQ::mP::mO::nX::nJ::[]),[]⟩ (w2.setCell ⟨lk,k*5+2,N_⟩ (s_ a2 (nb+nd) c2))):
 (dQ 1 Tryz.f41).wp P_ (Exit.then K qX) ⟨List.toArray (s0::s1::(s_ da nd dc)::(p_ (S_ ⟨g,0,N_⟩))::s4::s5::s6::s7::s8::s9::s10::s11::s12::s13::s14::s15::s16::l9::kH::kS::s20::lF::lC::s23::s24::kZ::s26::kW::kR::kY::lu::lJ::lK::lI::lL::lD::s36::lY::lX::mG::ni::mZ::mY::s43::s44::nI::mF::nH::nK::s49::mD::mg::lW::s53::mX::mQ::mP::mO::nX::nJ::[]),[]⟩ w:=by
 conv in(dQ _ _)=>whnf
 unfold qX;obtain⟨x0,x2,x3⟩:=CE w.drew Hb hM.drew;have KA:=zO hrow hM.drew (show BV w.drew (s_ da nd dc) data from hd) hl;have HK:=af hK;have HN:=dS hnb hnd;clear hK hrow hM hd hl hnb hnd;go_region_law (first|((with_reducible refine vU (o:=⟨S_ 17,_,_,_,_,_⟩) (v:=s_ ba nb bc) (u:=s_ da nd dc) (l:=bs) (r:=data) (H:=Hb) rfl (.tmp 15) (.tmp 16) rfl ?_ ?_ KA.out.1 KA.out.2.1.sat.left KA.out.2.2.1 KA.out.2.2.2 ?_);simp[Act.eval];simp[Act.eval];intro v2 w2 H2 hr2 m2;obtain⟨a2,c2,rfl⟩:=hr2.slice;rw[au,HN.1,HN.2]at hr2⊢;have K2:=dS hr2 (Mv.call KA.2.1 m2);(have y0:w2.cell? ⟨g,0,N_⟩=S_ (p_ (S_ ⟨lk,k*5,N_⟩)):=(CE w2 H2 K2.2).1);(have y2:w2.cell? ⟨lk,k*5+2,N_⟩=S_ (s_ ba nb bc):=(CE w2 H2 K2.2).2.1);(have y3:w2.frozen? ⟨lk,k*5+2,N_⟩=F_:=(CE w2 H2 K2.2).2.2);clear hr2 m2))
 all_goals exact HK _ _ _ _ _ _ _ _ _ _ _ _ _ _ _ a2 c2 H2 w2 K2.1 K2.2
theorem take_any(d:bu)(b:di)(k ah p n:Nat)(st:gu)(data:List UInt8)(v:Value)(w:World)(ok:b.ok d)(hkn:k<d.n)(hst:b.G[k]?=S_ st)(hs:Sat w (b.heap d))(hv:BV w v data)(hs63:ah≤63)(hp:st.m.ps.length+p≤1000)(hb:st.m.bs.length+data.length≤10000000):Calls P_ 41 #[g_ #[p_ (S_ ⟨d.lb,k*5,N_⟩),p_ (S_ ⟨d.bb,0,N_⟩),i_ l_ k,i_ l_ p,i_ l_ n],i_ l_ ah,v] w fun e w'=>e=r_ (t_ #[])∧ ∃b':di,b'.ok d∧b'.model={b.model with ss:=b.model.ss.set k (OL ah st.m p data)}∧Mv w (b.heap d) w' (b'.heap d):=by
 have hkk:k<4096:=eH hkn ok.small;have hso:=ok.st st (aF hst);obtain⟨pa,pc,hvp⟩:=hso.fZ;obtain⟨ba,bc,hvb⟩:=hso.2.1.slice;obtain⟨R,sm,smb⟩:=di.ahx (d:=d) hst;obtain⟨g,hg⟩:=X_ (w.heap.size);obtain⟨w1,hw1⟩:=Y_ (w.alloc (.cells #[p_ (S_ ⟨d.lb,k*5,N_⟩),p_ (S_ ⟨d.bb,0,N_⟩),i_ l_ k,i_ l_ p,i_ l_ n] 96));obtain⟨BB,hBB⟩:∃BB:HB,BB=⟨g,96,#[p_ (S_ ⟨d.lb,k*5,N_⟩),p_ (S_ ⟨d.bb,0,N_⟩),i_ l_ k,i_ l_ p,i_ l_ n]⟩:=⟨_,rfl⟩;have M1:Mv w (b.heap d) w1 (BB::(jU b d::jY b d::(st.Hp++(st.Hb++R)))):=by have m:=(sm.mv (Mv.refl hs)).alloc 96 #[p_ (S_ ⟨d.lb,k*5,N_⟩),p_ (S_ ⟨d.bb,0,N_⟩),i_ l_ k,i_ l_ p,i_ l_ n];rw[hg,←hw1,←hBB]at m;exact m
 have V1:BV w1 v data:=by rw[hw1];exact hv.keep ((Below.refl _ _).alloc (aN _) _)
 have hkl:k<b.G.length:=(aj.1 hst).1;obtain⟨ST,hST⟩:∃ST:gu→HB,ST=fun s=>⟨d.lb,69,((b.G.set k s).flatMap gu.v).toArray⟩:=⟨_,rfl⟩;have ak8:jY b d=ST st:=by rw[hST];simp only[yR hst];rfl
 rw[ak8]at M1;have CE:Hid (∀V (s1:gu) (A B1:List HB),Mv w (b.heap d) V (A++(BB::(jU b d::(ST s1::B1))))→(V.cell? ⟨g,0,N_⟩=S_ (p_ (S_ ⟨d.lb,k*5,N_⟩))∧V.cell? ⟨g,3,N_⟩=S_ (i_ l_ p))∧V.cell? ⟨d.lb,k*5+1,N_⟩=S_ s1.vp∧V.cell? ⟨d.lb,k*5+2,N_⟩=S_ s1.vb∧V.frozen? ⟨d.lb,k*5+1,N_⟩=F_∧V.frozen? ⟨d.lb,k*5+2,N_⟩=F_):=af (by intro V s1 A B1 m;have s:=m.sat.right;have b0:=s.at_ 0 (by rw[hBB];rfl);have b2:=s.at_ 2 (by rw[hST];rfl);obtain⟨-,z1,z2,-,-,z5⟩:=uZ b2 (dJ hkl);exact⟨⟨b0.cell 0,b0.cell 3⟩,z1,z2,z5 _,z5 _⟩);have SET:Hid (∀V (s1 s2:gu) (A B1:List HB),Mv w (b.heap d) V (A++(BB::(jU b d::(ST s1::B1))))→∀i x,i<5→s2.v=s1.v.set i x→Mv w (b.heap d) (V.setCell ⟨d.lb,k*5+i,N_⟩ x) (A++(BB::(jU b d::(ST s2::B1))))):=af (by intro V s1 s2 A B1 m i x hi hv2;rw[hST]at m⊢;have m2:=take_set (A:=A++[BB,jU b d]) (s2:=s2) hkl (by simpa only[az,List.cons_append,List.nil_append]using m) i x hi hv2;simpa only[az,List.cons_append,List.nil_append]using m2);have FIN:Hid (∀(s1:gu) V,s1.ok→Mv w (b.heap d) V (BB::(jU b d::(ST s1::(s1.Hp++(s1.Hb++R)))))→(b.CJ k s1).ok d∧(b.CJ k s1).model={b.model with ss:=b.model.ss.set k s1.m}∧Mv w (b.heap d) V ((b.CJ k s1).heap d)):=af (by intro s1 V hs1 m;refine⟨di.Z! ok hs1,di.Px _ _ _,(smb s1).symm.mv ?_⟩;rw[hST]at m;exact m.drop1);have hHW:=af hw1;obtain⟨np,xu⟩:=X_ (st.m.ps.length);obtain⟨nb,hnb⟩:=X_ (st.m.bs.length);obtain⟨nd,hnd⟩:=X_ (data.length);rw[xu]at hvp hp;rw[hnb]at hvb hb;rw[hnd]at hb;have V1':=V1;obtain⟨da,dc,hdv,-⟩:=V1';rw[hnd]at hdv;subst hdv;have KI:=H7_ ok hso M1 V1 xu hnb hnd;have hHp:=dS hvp hvb;clear ok hso M1 V1 hw1 hs sm smb hBB hST ak8 hv hst hvp hvb;go_enter Tryz.func41,Tryz.ntmps41;go_upto_region 1 with fail;rw[←hHW.out];clear hHW;have RB:dR (s_ ba nb bc) st.m.bs st.Hb:=by have h:=KI.2.1.2.1;rw[hHp.2]at h;exact h
 obtain⟨R1,hR1⟩:=Y_ (BB::(jU b d::(ST st::(st.Hp++R))));have JI:Mv w (b.heap d) w1 (st.Hb++R1):=by rw[hR1];exact KI.2.2.1.Z_
 have CE1:Hid (∀V A',Mv w (b.heap d) V (A'++R1)→V.cell? ⟨g,0,N_⟩=S_ (p_ (S_ ⟨d.lb,k*5,N_⟩))∧V.cell? ⟨d.lb,k*5+2,N_⟩=S_ (s_ ba nb bc)∧V.frozen? ⟨d.lb,k*5+2,N_⟩=F_):=af (by intro V A' m;rw[hR1]at m;obtain⟨⟨c0,-⟩,-,c2,-,c5⟩:=CE V st A' _ m;exact⟨c0,c2.trans (by rw[hHp.2]),c5⟩);refine ik (agG _ k g d.lb nb nd bc dc ba da st.m.bs data st.Hb R1 (b.heap d) w w1 CE1 KI.2.2.2.2.2.1 KI.2.2.2.2.2.2 RB KI.2.2.2.1 (by rw[KI.2.2.2.2.2.1,KI.2.2.2.2.2.2];omega) JI ?_);rintro _ _ _ _ _ _ _ _ _ _ _ _ _ _ _ a2 c2 H2 w2 hr2 m2;rw[hR1]at m2;obtain⟨e,he⟩:=X_ ((st.m.bs++data).length);have hee:e=nb+nd:=by rw[←he,au,KI.2.2.2.2.2.1,KI.2.2.2.2.2.2]
 rw[←hee]at hr2⊢;obtain⟨s1,hs1⟩:∃s1:gu,s1=⟨{st.m with bs:=st.m.bs++data},st.vp,s_ a2 e c2,st.Hp,H2⟩:=⟨_,rfl⟩;have M3:Mv w (b.heap d) (w2.setCell ⟨d.lb,k*5+2,N_⟩ (s_ a2 e c2)) (BB::(jU b d::(ST s1::(s1.Hp++(s1.Hb++R))))):=by have m:=SET w2 st s1 H2 (st.Hp++R) m2 2 (s_ a2 e c2) (by omega) (by rw[hs1];rfl);rw[show s1.Hp=st.Hp by rw[hs1],show s1.Hb=H2 by rw[hs1]];exact m.Z_
 obtain⟨w3,hw3⟩:=Y_ (w2.setCell ⟨d.lb,k*5+2,N_⟩ (s_ a2 e c2));rw[←hw3]at M3⊢;have aiF:s1.ok:=by have h:=KI.2.1;rw[hs1];refine⟨h.1,?_,⟨h.2.2.np,by simp only;omega,h.2.2.pl,h.2.2.said,h.2.2.lb,h.2.2.ends⟩⟩;show dR (s_ a2 e c2) (st.m.bs++data) H2;exact hr2
 obtain⟨⟨-,x3⟩,-⟩:=CE w3 s1 [] _ M3;have K3:=zO M3 aiF hs1 he;clear hw3 M3 aiF hr2 m2 CE1 JI hR1 RB hs1;go_upto_region 3 with fail;clear x3;go_loopg [23] p (fun gg s23 wx=>∃(j:Nat) (s2:gu),j≤p∧gg=p-j∧s23=i_ l_ j∧s2.ok∧s2.m={st.m with bs:=st.m.bs++data,ps:=s2.m.ps}∧s2.vb=s_ a2 e c2∧s2.m.ps.length=np+j∧uP ah e p st.m.ps=uP ah e (p-j) s2.m.ps∧Mv w (b.heap d) wx (BB::(jU b d::(ST s2::(s2.Hp++(s2.Hb++R))))))
 case atStart=>have h:=K3.2.2.1;refine⟨0,s1,aY _,rfl,rfl,K3.2.1,by rw[h],by rw[h],by rw[h];exact KI.2.2.2.2.1,by rw[h];rfl,K3.1⟩
 case round=>
  obtain⟨wb,rfl⟩:∃wb:World,wb=wr:=⟨_,rfl⟩;obtain⟨j,s2,hj,rfl,rfl,ok2,hm2,ahK,hl2,hE,M4⟩:=hrel;by_cases hlt:j<p
  ·have hlt2:(j:Int)<p:=by omega
   obtain⟨pa2,pc2,ahJ⟩:=ok2.fZ;rw[hl2]at ahJ;obtain⟨R',hR'⟩:∃R',R'=BB::(jU b d::(ST s2::(s2.Hb++R))):=⟨_,rfl⟩;have hM:Mv w (b.heap d) wb (s2.Hp++R'):=by rw[hR'];exact M4.Z_
   have CE2:Hid (∀V A',Mv w (b.heap d) V (A'++R')→V.cell? ⟨g,0,N_⟩=S_ (p_ (S_ ⟨d.lb,k*5,N_⟩))∧V.cell? ⟨d.lb,k*5+1,N_⟩=S_ (s_ pa2 (np+j) pc2)∧V.cell? ⟨d.lb,k*5+2,N_⟩=S_ (s_ a2 e c2)∧V.frozen? ⟨d.lb,k*5+1,N_⟩=F_):=af (by intro V A' m;rw[hR']at m;obtain⟨⟨c0,-⟩,c1,c2,c4,-⟩:=CE V s2 A' _ m;exact⟨c0,c1.trans (by rw[ahJ]),c2.trans (by rw[ahK]),c4⟩);have hrow:dh 142 2 (s_ pa2 (np+j) pc2) (np+j) (jd s2.m.ps) s2.Hp:=by have h:=ok2.1;rw[ahJ,hl2]at h;exact h
   have EN:=af (fun V=>Tq ah (np+j) V hs63 (by omega));obtain⟨tb,htb⟩:=X_ (uH ah (np+j));rw[htb]at EN;have hE2:uP ah e p st.m.ps=uP ah e (p-(j+1)) (s2.m.ps++[((e:Int),tb)]):=by rw[hE,show p-j=(p-(j+1))+1 by omega];show uP ah e (p-(j+1)) (s2.m.ps++[((e:Int),uH ah s2.m.ps.length)])=_;rw[hl2,htb]
   have K4:=NU ok2 hm2 ahK hE2 hrow hM;have alV:np+j≤1000:=by omega
   clear ok2 hm2 ahK hE hE2 hrow hM M4 htb ahJ;go_upto_region 4 with fail;refine lU (agF _ k g d.lb ah (np+j) pc2 e c2 tb pa2 a2 s2.m.ps s2.Hp R' (b.heap d) w wb CE2 EN alV K4.2.2.2.2.1 K4.2.2.2.2.2 ?_);rintro _ _ _ _ _ _ _ _ _ _ _ _ _ _ _ _ _ _ _ _ _ _ _ _ _ _ _ _ _ _ u55 _ _ _ g8 HB Wp W HW h30;obtain⟨a5,c5,rfl⟩:=dh.slice h30;obtain⟨h1,-,-,-,h5,-⟩:=HW;obtain rfl:=h5 rfl;obtain⟨s3,hs3⟩:∃s3:gu,s3={s2 with m:={s2.m with ps:=s2.m.ps++[((e:Int),tb)]},vp:=s_ a5 (np+j+1) c5,Hp:=HB}:=⟨_,rfl⟩;have M5:Mv w (b.heap d) (Wp.setCell ⟨d.lb,k*5+1,N_⟩ (s_ a5 (np+j+1) c5)) (BB::(jU b d::(ST s3::(s3.Hp++(s3.Hb++R))))):=by rw[hR']at h1;have m:=SET Wp s2 s3 ([_]++HB) (s2.Hb++R) (by simpa only[kN,az]using h1) 1 (s_ a5 (np+j+1) c5) (by omega) (by rw[hs3];rfl);rw[show s3.Hp=HB by rw[hs3],show s3.Hb=s2.Hb by rw[hs3]];exact m.Z_
   have ok3:s3.ok:=by
    have h:=K4.1;have hm:=K4.2.1;have hbl:=h.2.2.nb;have hbe:s2.m.bs.length=e:=by rw[hm];exact K3.2.2.2
    rw[hs3];refine⟨?_,h.2.1,⟨?_,h.2.2.nb,h.2.2.pl,?_,h.2.2.lb,?_⟩⟩
    ·show dh 142 2 _ (s2.m.ps++[((e:Int),tb)]).length _ HB;rw[au,hl2];exact h30
    ·show(s2.m.ps++[((e:Int),tb)]).length≤1000;rw[au,hl2];simp only[List.length_cons,List.length_nil];omega
    ·have:=h.2.2.said;show 0≤s2.m.said∧s2.m.said≤((s2.m.ps++[((e:Int),tb)]).length:Nat);rw[au];simp only[List.length_cons,List.length_nil];omega
    ·intro q hq;rcases ay.1 hq with hq|hq
     ·exact h.2.2.ends q hq
     ·simp only[fJ]at hq;subst hq;exact⟨by simp only;omega,by simp only;omega⟩
   have K5:=nY M5 ok3 hs3;clear M5 ok3 h1 h30 h5;obtain⟨w5,hw5⟩:=Y_ (Wp.setCell ⟨d.lb,k*5+1,N_⟩ (s_ a5 (np+j+1) c5));rw[←hw5]at K5⊢;clear hw5;go_wp2_with fail;go_roundg (p-(j+1))
   case measure=>omega
   case rel=>
    have h:=K5.2.2;have hm:=K4.2.1;refine⟨j+1,s3,by omega,rfl,by push_cast;rfl,K5.2.1,?_,by rw[h];exact K4.2.2.1,?_,by rw[h];exact K4.2.2.2.1,K5.1⟩
    ·rw[h];simp only;rw[hm]
    ·rw[h];show(s2.m.ps++[((e:Int),tb)]).length=_;rw[au,hl2];rfl
  ·obtain rfl:j=p:=by omega
   have hlt2:¬(j:Int)<j:=by omega
   have hE2:s2.m=OL ah st.m j data:=by rw[hm2];unfold OL;rw[K3.2.2.2,hE,iI];rfl
   have KF:=dS (FIN s2 wb ok2 M4) hE2;clear ok2 hm2 ahK hl2 hE M4 hE2;go_wp2_with fail;go_end0;obtain⟨⟨q1,q2,q3⟩,q4⟩:=KF.out;rw[q4]at q2
   first
    |exact⟨rfl,b.CJ k s2,q1,q2,q3⟩
    |exact⟨b.CJ k s2,rfl,q1,q2,q3⟩
end
section
open Go.RowKit Go.Shelf
attribute [local go_sem] jR
theorem Xg(l:List UInt8)(m:aT)(s:og)(k aB:Nat)(r:jG):(nV l m s k aB r).1.dA=m.dA:=by unfold nV;split<;>rfl
def uh(n0:Nat)(vo:Value)(nn ee:Int):List HB:=[⟨n0+2,91,#[vo]⟩,⟨n0+3,3,#[i_ l_ nn]⟩,⟨n0+4,35,#[i_ l_ ee]⟩]
def BN(box Lt rb n0:Nat)(A:Option Addr)(nD c:Nat)(ah aB:Int):List HB:= [⟨box,26,#[s_ A nD c]⟩,⟨Lt,165,#[p_ (S_ ⟨rb,0,N_⟩)]⟩,⟨n0+1,3,#[i_ l_ aB]⟩,⟨n0,3,#[i_ l_ ah]⟩]
theorem ah7(n0:Nat)(vo:Value)(nn ee:Int):jQ (uh n0 vo nn ee):=by
 intro x hx;simp only[uh,aC,bP,gQ]at hx;rcases hx with rfl|rfl|rfl
 ·exact(show 91≠66 by decide)
 ·exact(show 3≠66 by decide)
 ·exact(show 35≠66 by decide)
theorem ah6(box Lt rb n0:Nat)(A:Option Addr)(nD c:Nat)(ah aB:Int):jQ (BN box Lt rb n0 A nD c ah aB):=by
 intro x hx;simp only[BN,aC,bP,gQ]at hx;rcases hx with rfl|rfl|rfl|rfl
 ·exact(show 26≠66 by decide)
 ·exact(show 165≠66 by decide)
 ·exact(show 3≠66 by decide)
 ·exact(show 3≠66 by decide)
def XA(box Lt rb n0:Nat)(A:Option Addr)(c:Nat)(D:List bu)(l:List UInt8)(ah aB:Nat)(HL:List HB)(S0:tJ)(pre:List (kU D))(H:List HB):Prop:= ∃(S:tJ) (HR Ho:List HB) (vo:Value) (HB':List HB),uG l ah aB (S_ S0) (pre.map (·.1))=S_ S∧H=(HR++((uh n0 vo 0 0++BN box Lt rb n0 A D.length c ah aB)++(Ho++HL)))++HB'∧jA rb l S.rd HR∧AO vo S.out Ho∧iK D S.M HB'∧(∀d∈D,AQ (S.M d.bb))∧S.rd.left≤8∧S.rd.begun≤90000*pre.length+10∧S.out.length≤178*pre.length
def afM(n0:Nat)(D:List bu)(l:List UInt8)(ah aB:Nat)(S0:tJ)(pre:List (kU D))(H:List HB):Prop:=uG l ah aB (S_ S0) (pre.map (·.1))=N_∧H=uh n0 (s_ N_ 0 0) 0 10
theorem adb(l0:Nat)(D:List bu)(A:Option Addr)(c box Lt rb n0 B:Nat)(HL:List HB)(l:List UInt8)(ah aB:Nat)(S0:tJ)(pre:List (kU D))(x:dF)(hx:x∈aX D)(w:World)(H:List HB)
 (hP:XA box Lt rb n0 A c D l ah aB HL S0 pre H) (hs:Sat w (⟨B,66,x.cells⟩::H)) (hlen:pre.length<200) (hst:ah≤63) (hly:aB≤100) (hll:l.length≤90000000):
 (afU 1 Tryz.f39).wpIn (Fence.wide.inRound l0) 6 P_ (LY w (⟨B,66,x.cells⟩::H) (XA box Lt rb n0 A c D l ah aB HL S0) (afM n0 D l ah aB S0) (pre++[⟨x,hx⟩])) ⟨List.toArray (s0::s1::s2::s3::s4::(p_ (S_ ⟨n0,0,N_⟩))::(p_ (S_ ⟨n0+1,0,N_⟩))::s7::(p_ (S_ ⟨n0+2,0,N_⟩))::(p_ (S_ ⟨n0+3,0,N_⟩))::(p_ (S_ ⟨n0+4,0,N_⟩))::(p_ (S_ ⟨Lt,0,N_⟩))::(p_ (S_ ⟨B,0,N_⟩))::s13::s14::s15::s16::l9::kH::kS::s20::lF::lC::s23::s24::kZ::s26::kW::kR::kY::lu::lJ::lK::lI::lL::lD::s36::lY::lX::mG::ni::mZ::mY::s43::s44::nI::mF::nH::[]),[]⟩ w:=by
 conv in(afU _ _)=>whnf
 obtain⟨S,HR,Ho,vo,HB1,hS,rfl,hr,ho,hB,hg,h8,hbg,hol⟩:=hP;obtain⟨hxd,hxk⟩:=qH hx;obtain⟨d,k⟩:=x;simp only at hxd hxk;obtain⟨PS,TA⟩:=X_ (LY w (⟨B,66,dF.cells ⟨d,k⟩⟩::((HR++((uh n0 vo 0 0++BN box Lt rb n0 A D.length c ah aB)++(Ho++HL)))++HB1)) (XA box Lt rb n0 A c D l ah aB HL S0) (afM n0 D l ah aB S0) (pre++[⟨⟨d,k⟩,hx⟩]));have LP:Hid (¬LetsOut PS):=af (by rw[←TA];rintro⟨a,w,h⟩;exact h);rw[TA];obtain⟨bd,e1,e2,-⟩:=hB.band hxd;have hsl:(S.M d.bb).ss.length=d.n:=by rw[←e1];show(bd.G.map _).length=_;rw[aO];exact e2.len
 have hkn:k<4096:=eH hxk e2.small;clear e1 e2 bd;obtain⟨s,hss⟩:∃s,(S.M d.bb).ss[k]?=S_ s:=⟨_,ai (by rw[hsl];exact hxk)⟩;obtain⟨F1,F2,F3⟩:=aaY hB hxd hss;have GB:=hg d hxd;obtain⟨i1,i2,i3,i4⟩:=Tt l (S.M d.bb) s k aB S.rd h8 F2 hly GB;obtain⟨hm,hhm⟩:=X_ (nV l (S.M d.bb) s k aB S.rd);rw[hhm]at i1 i2 i3 i4;have hstep:uG l ah aB (S_ S0) ((pre++[(⟨⟨d,k⟩,hx⟩:kU D)]).map (fun x=>x.1))=stepD l ah aB S ⟨d,k⟩:=by rw[bU];show uG l ah aB (S_ S0) (pre.map (fun x=>x.1)++[⟨d,k⟩])=_;rw[ξ,hS];rfl
 have hsd:stepD l ah aB S ⟨d,k⟩=if hm.2.1=F_ then S_ ⟨ou S.M d.bb hm.1,S.out,hm.2.2⟩else(readM l ah hm.1 d k s hm.2.2).map fun q=>⟨ou S.M d.bb q.1,S.out++q.2.1,q.2.2⟩:=by unfold stepD;simp only[hss,hhm]
 rw[hsd]at hstep;obtain⟨XX,Oo⟩:∃XX:Value→Int→Int→List HB,XX=fun v a e=>⟨B,66,dF.cells ⟨d,k⟩⟩::(uh n0 v a e++BN box Lt rb n0 A D.length c ah aB):=⟨_,rfl⟩;obtain⟨HH,Gn⟩:=Y_ (⟨B,66,dF.cells ⟨d,k⟩⟩::((HR++((uh n0 vo 0 0++BN box Lt rb n0 A D.length c ah aB)++(Ho++HL)))++HB1));have M0:Mv w HH w ((HR++(XX vo 0 0++(Ho++HL)))++HB1):=by
  have m:Mv w HH w HH:=Mv.refl (by rw[Gn];exact hs);refine m.sub (fun g=>?_) (fun y hy=>?_)
  ·rw[Gn,Oo];simp only[aP,bK];omega
  ·rw[Oo]at hy;rw[Gn];simp only[ay,aC]at hy⊢;grind
 have BX:Hid (∀w' v a e A' R',Mv w HH w' (A'++(XX v a e++R'))→(w'.cell? ⟨B,0,N_⟩=S_ (p_ (S_ ⟨d.lb,k*5,N_⟩))∧w'.cell? ⟨B,1,N_⟩=S_ (p_ (S_ ⟨d.bb,0,N_⟩))∧w'.cell? ⟨B,2,N_⟩=S_ (i_ l_ k))∧(w'.cell? ⟨n0+2,0,N_⟩=S_ v∧w'.frozen? ⟨n0+2,0,N_⟩=F_∧w'.cell? ⟨n0+3,0,N_⟩=S_ (i_ l_ a)∧w'.frozen? ⟨n0+3,0,N_⟩=F_∧w'.cell? ⟨n0+4,0,N_⟩=S_ (i_ l_ e)∧w'.frozen? ⟨n0+4,0,N_⟩=F_)∧w'.cell? ⟨Lt,0,N_⟩=S_ (p_ (S_ ⟨rb,0,N_⟩))∧w'.cell? ⟨n0+1,0,N_⟩=S_ (i_ l_ aB)∧w'.cell? ⟨n0,0,N_⟩=S_ (i_ l_ ah)):=af (by intro w' v a e A' R' m;have a0:Sat w' (XX v a e):=m.sat.right.left;rw[Oo]at a0;have b0:=a0.at_ 0 rfl;have b1:=a0.at_ 1 rfl;have b2:=a0.at_ 2 rfl;have b3:=a0.at_ 3 rfl;have b5:=a0.at_ 5 rfl;have b6:=a0.at_ 6 rfl;have b7:=a0.at_ 7 rfl;exact⟨⟨b0.cell 0,b0.cell 1,b0.cell 2⟩,⟨b1.cell 0,b1.frozen 0,b2.cell 0,b2.frozen 0,b3.cell 0,b3.frozen 0⟩,b5.cell 0,b6.cell 0,b7.cell 0⟩);have FIN:Hid (∀(S':tJ) (a:Act) (w4:World) (HR' Ho':List HB) (v:Value) (HB':List HB),uG l ah aB (S_ S0) ((pre++[(⟨⟨d,k⟩,hx⟩:kU D)]).map (fun x=>x.1))=S_ S'→jA rb l S'.rd HR'→AO v S'.out Ho'→iK D S'.M HB'→(∀d∈D,AQ (S'.M d.bb))→S'.rd.left≤8→S'.rd.begun≤S.rd.begun+90000→S'.out.length≤S.out.length+178→Mv w HH w4 ((HR'++(XX v 0 0++(Ho'++HL)))++HB')→PS .normal a w4):=af (by
  intro S' a w4 HR' Ho' v HB' g0 g1 g2 g3 g4 g5 g6 g7 m4;rw[←TA];refine⟨(HR'++((uh n0 v 0 0++BN box Lt rb n0 A D.length c ah aB)++(Ho'++HL)))++HB',⟨S',HR',Ho',v,HB',g0,rfl,g1,g2,g3,g4,g5,?_,?_⟩,?_⟩
  ·simp only[au,List.length_cons,List.length_nil];omega
  ·simp only[au,List.length_cons,List.length_nil];omega
  ·rw[←Gn];refine m4.sub (fun g=>?_) (fun y hy=>?_)
   ·rw[Oo];simp only[aP,bK];omega
   ·rw[Oo];simp only[ay,aC]at hy⊢;grind)
 have FIX:Hid (∀(a:Act) (w4:World) (R':List HB),uG l ah aB (S_ S0) ((pre++[(⟨⟨d,k⟩,hx⟩:kU D)]).map (fun x=>x.1))=N_→Mv w HH w4 (XX (s_ N_ 0 0) 0 10++R')→PS .ret a w4):=af (by
  intro a w4 R' g0 m4;rw[←TA];refine⟨_,⟨g0,rfl⟩,?_⟩;rw[←Gn];refine m4.sub (fun g=>?_) (fun y hy=>?_)
  ·rw[Oo];simp only[aP,bK];omega
  ·rw[Oo];simp only[ay,aC]at hy⊢;grind)
 have SV:Hid (∀w' v a e A' R',Mv w HH w' (A'++(XX v a e++R'))→(∀v',Mv w HH (w'.setCell ⟨n0+2,0,N_⟩ v') (A'++(XX v' a e++R')))∧(∀a',Mv w HH (w'.setCell ⟨n0+3,0,N_⟩ (i_ l_ a')) (A'++(XX v a' e++R')))∧(∀e',Mv w HH (w'.setCell ⟨n0+4,0,N_⟩ (i_ l_ e')) (A'++(XX v a e'++R')))):=af (by
  intro w' v a e A' R' m;rw[Oo]at m⊢;simp only[uh,BN]at m⊢;refine⟨fun v'=>?_,fun a'=>?_,fun e'=>?_⟩
  ·have m1:Mv w HH w' ((A'++[⟨B,66,dF.cells ⟨d,k⟩⟩])++⟨n0+2,91,#[v]⟩::(⟨n0+3,3,#[i_ l_ a]⟩::(⟨n0+4,35,#[i_ l_ e]⟩::(BN box Lt rb n0 A D.length c ah aB++R')))):=by simpa only[BN,az,List.cons_append,List.nil_append]using m
   have m2:=Mv.setAt m1 0 v';rw[show(#[v]:Array Value).setIfInBounds 0 v'=#[v']from rfl]at m2;simpa only[BN,az,List.cons_append,List.nil_append]using m2
  ·have m1:Mv w HH w' ((A'++[⟨B,66,dF.cells ⟨d,k⟩⟩,⟨n0+2,91,#[v]⟩])++⟨n0+3,3,#[i_ l_ a]⟩::(⟨n0+4,35,#[i_ l_ e]⟩::(BN box Lt rb n0 A D.length c ah aB++R'))):=by simpa only[BN,az,List.cons_append,List.nil_append]using m
   have m2:=Mv.setAt m1 0 (i_ l_ a');rw[show(#[i_ l_ a]:Array Value).setIfInBounds 0 (i_ l_ a')=#[i_ l_ a']from rfl]at m2;simpa only[BN,az,List.cons_append,List.nil_append]using m2
  ·have m1:Mv w HH w' ((A'++[⟨B,66,dF.cells ⟨d,k⟩⟩,⟨n0+2,91,#[v]⟩,⟨n0+3,3,#[i_ l_ a]⟩])++⟨n0+4,35,#[i_ l_ e]⟩::(BN box Lt rb n0 A D.length c ah aB++R')):=by simpa only[BN,az,List.cons_append,List.nil_append]using m
   have m2:=Mv.setAt m1 0 (i_ l_ e');rw[show(#[i_ l_ e]:Array Value).setIfInBounds 0 (i_ l_ e')=#[i_ l_ e']from rfl]at m2;simpa only[BN,az,List.cons_append,List.nil_append]using m2)
 clear Gn TA;obtain⟨⟨x0,x1,x2⟩,-,y0,y1,y2⟩:=BX w vo 0 0 HR ((Ho++HL)++HB1) (by simpa only[az]using M0);have HE:=af (aaX hB hxd hxk hss hr M0 aB hly hll (by omega) h8);rw[hhm]at HE;unfold dF.v at HE;have hs2:(ou S.M d.bb hm.1 d.bb).ss[k]?=S_ s:=by rw[jX,i2];exact hss
 have g2:AQ (ou S.M d.bb hm.1 d.bb):=by rw[jX];exact i1
 have ale:∀m':aT,AQ m'→∀d'∈D,AQ (ou S.M d.bb m' d'.bb):=by
  intro m' gm d' hd';unfold ou;split
  ·exact gm
  ·exact hg d' hd'
 have KS:=NU hstep ho i1 ale hs2 g2;have RDB:S.rd.begun≤18000010:=by omega
 have hlb0:=F1.lb.1;have hs1:hm.1.ss[k]?=S_ s:=by rw[i2];exact hss
 have hzl:hm.1.dA.length≤20:=by rw[←hhm,Xg];exact F3
 clear hstep ho i1 ale hs2 g2 hss hB hr hg hS hs M0 hsd Oo;cases hq:hm.2.1 with
 |false=>
  rw[hq]at HE;have e1:uG l ah aB (S_ S0) ((pre++[(⟨⟨d,k⟩,hx⟩:kU D)]).map (fun x=>x.1))=S_ ⟨ou S.M d.bb hm.1,S.out,hm.2.2⟩:=by rw[KS.1,hq,aK rfl]
  have E1:=af e1;clear e1 hq;gi_wp2_with (refine⟨trivial,?_⟩;gi_at_call 89;refine(CallsIn.inRound l0 (iH.2 HE.out)).mono ?_;rintro e w3 ⟨rfl,HR2,HB2,q1,q2,q3⟩;have K3:=nY q1 q2 q3;clear q1 q2 q3);exact FIN _ _ _ HR2 Ho vo HB2 E1 K3.1 KS.2.1 K3.2.1 (KS.2.2.2.1 _ KS.2.2.1) i3 (by simp only;omega) (by simp only;omega) K3.2.2
 |true=>
  rw[hq]at HE;obtain⟨qq,hqq⟩:=X_ (readM l ah hm.1 d k s hm.2.2);have RE:Hid (∀w3 HR2 HB2,jA rb l hm.2.2 HR2→iK D (ou S.M d.bb hm.1) HB2→Mv w HH w3 ((HR2++(XX vo 0 0++(Ho++HL)))++HB2)→Calls P_ 90 #[g_ #[p_ (S_ ⟨d.lb,k*5,N_⟩),p_ (S_ ⟨d.bb,0,N_⟩),i_ l_ k],p_ (S_ ⟨rb,0,N_⟩),i_ l_ ah] w3 (aiM D (ou S.M d.bb hm.1) d rb l w HH (XX vo 0 0++(Ho++HL)) qq)):=af (by intro w3 HR2 HB2 q1 q2 q3;have h:=aaW q2 hxd hxk KS.2.2.2.2.1 KS.2.2.2.2.2 q1 q3 ah hst hll (by omega) i3;rw[jX,hqq]at h;exact h);have hfo:uG l ah aB (S_ S0) ((pre++[(⟨⟨d,k⟩,hx⟩:kU D)]).map (fun x=>x.1))=qq.map fun q=>⟨ou S.M d.bb q.1,S.out++q.2.1,q.2.2⟩:=by rw[KS.1,hq,aJ (by simp),hqq]
  have HFO:=af hfo;have QI:Hid (∀q,qq=S_ q→AQ q.1∧q.2.2.left≤8∧q.2.2.begun≤hm.2.2.begun+80000∧q.2.1.length≤178):=af (by rintro q rfl;exact Sl i3 hzl KS.2.2.1 hs1 hlb0 hqq);clear hfo hq;gi_upto_region 6 with(refine⟨trivial,?_⟩;gi_at_call 89;refine(CallsIn.inRound l0 (iH.2 HE.out)).mono ?_;rintro e w3 ⟨rfl,HR2,HB2,q1,q2,q3⟩;have K3:=nY q1 q2 q3;clear q1 q2 q3);clear x0 x1 x2 y0 y1 y2;obtain⟨⟨x0,x1,x2⟩,-,y0,y1,y2⟩:=BX w3 vo 0 0 HR2 ((Ho++HL)++HB2) (by simpa only[az]using K3.2.2);have RC:=af (RE w3 HR2 HB2 K3.1 K3.2.1 K3.2.2);clear RE HE hqq;cases qq with
  |none=>gi_upto_region 8 with(refine⟨trivial,?_⟩;gi_at_call 90;refine(CallsIn.inRound l0 (iH.2 RC.out)).mono ?_;rintro e w4 ⟨v,o,rfl,rfl,m4⟩;replace m4:=af m4);obtain⟨-,⟨z1,z2,z3,z4,z5,z6⟩,-⟩:=BX w4 vo 0 0 [] (Ho++HL) m4.out;have M5:=(SV _ _ _ _ [] _ ((SV _ _ _ _ [] _ ((SV w4 vo 0 0 [] (Ho++HL) m4.out).1 (s_ N_ 0 0))).2.1 0)).2.2 10;replace M5:=af M5;clear x0 x1 x2 y0 y1 y2;gi_wp2;exact FIX _ _ _ HFO M5.out
  |some q=>
   obtain⟨q1',q2',q3',q4'⟩:=QI q rfl;gi_upto_region 9 with(refine⟨trivial,?_⟩;gi_at_call 90;refine(CallsIn.inRound l0 (iH.2 RC.out)).mono ?_;rintro e w4 ⟨v,o,rfl,rfl,HR4,Hv,HB4,p1,p2,p3,p4⟩;obtain⟨va,vc,rfl⟩:=p1.slice;have K4:=zO p1 p2 p3 p4;clear p1 p2 p3 p4);obtain⟨-,⟨z1,z2,-⟩,-⟩:=BX w4 vo 0 0 (Hv++HR4) ((Ho++HL)++HB4) (by simpa only[az]using K4.2.2.2);have alS:S.out.length+q.2.1.length≤1000000:=by omega
   have so:Sat w4 Ho:=K4.2.2.2.sat.left.right.right.right.left;have sv:Sat w4 Hv:=K4.2.2.2.sat.left.left;have RD:Reads w4 w4.heap.size 5 va q.2.1.length (Me q.2.1):=Reads.zD (dh.owns K4.1 sv (B:=0) (fun _ _=>aY _));have KP:=dS so RD;clear x0 x1 x2 y0 y1 y2 so sv RD;refine L6 (by kernel_rfl) (fun⟨a,w,h⟩=>LP ⟨a,w,h⟩) ?_;go_wp2_with (at_builtin;refine rY Tryz.underlying91 afa rfl (by decide) (by decide) rfl (.tmp 37) (.tmp 38) rfl vo rfl rfl KS.2.1 KP.1 KP.2 (Wv _) alS ?_;intro v5 w5 Ho5 Ob m5;obtain⟨a5,c5,rfl⟩:=Ob.slice;have M5:Mv w HH w5 ((HR4++(XX vo 0 0++(Ho5++HL)))++HB4):=(Mv.call (H:=Ho) (R:=HR4++(XX vo 0 0++(HL++HB4))) (K4.2.2.2.Z_) m5).Z_;obtain⟨-,⟨u1,u2,-⟩,-⟩:=BX w5 vo 0 0 HR4 ((Ho5++HL)++HB4) (by simpa only[az]using M5);have K5:=dS Ob M5;clear Ob m5 M5);have M6:=(SV w5 vo 0 0 HR4 ((Ho5++HL)++HB4) (by simpa only[az]using K5.2)).1 (s_ a5 (S.out.length+q.2.1.length) c5);refine FIN ⟨ou S.M d.bb q.1,S.out++q.2.1,q.2.2⟩ _ _ HR4 Ho5 (s_ a5 (S.out.length+q.2.1.length) c5) HB4 (by rw[HFO.out];rfl) K4.2.1 ?_ ?_ (KS.2.2.2.1 _ q1') q2' (by simp only;omega) (by simp only[au];omega) (by simpa only[az]using M6)
   ·unfold AO;rw[au,Ny];exact K5.1
   ·have h:=K4.2.2.1;rw[LM]at h;exact h
end
end Go.Proofs.YtjngfhgakokejaaGreat
