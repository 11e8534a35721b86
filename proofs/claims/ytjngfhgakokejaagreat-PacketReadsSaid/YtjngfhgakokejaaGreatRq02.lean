/- PacketReads: part 2. -/
import Derived.Test.YtjngfhgakokejaaGreatRq01
import Derived.RangeFuncNested
import Derived.RangeFuncBound
import Derived.Shelf.RegionOpen
import Derived.OwnWalkIn
import Derived.LoopNIn
import Derived.LoopIn
set_option maxRecDepth 100000
set_option maxHeartbeats 8000000
set_option linter.all false
namespace Go.Proofs.YtjngfhgakokejaaGreat
open Value renaming int→i_,slice→s_,pointer→p_,bool→b_,agg→g_,tuple→t_
open IntKind renaming i64→l_
open Ending renaming returned→r_
open Tryz renaming prog→P_
open Option renaming some→S_,none→N_
open Bool renaming true→T_,false→F_
section
structure QeM where
 qe:Nat
 Fj:Nat
 Tn:Nat
 swap:Bool
deriving DecidableEq
def qeT:List QeM:=[⟨0x5601,1,1,T_⟩,⟨0x3401,2,6,F_⟩,⟨0x1801,3,9,F_⟩,⟨0x0AC1,4,12,F_⟩,⟨0x0521,5,29,F_⟩,⟨0x0221,38,33,F_⟩,⟨0x5601,7,6,T_⟩,⟨0x5401,8,14,F_⟩,⟨0x4801,9,14,F_⟩,⟨0x3801,10,14,F_⟩,⟨0x3001,11,17,F_⟩,⟨0x2401,12,18,F_⟩,⟨0x1C01,13,20,F_⟩,⟨0x1601,29,21,F_⟩,⟨0x5601,15,14,T_⟩,⟨0x5401,16,14,F_⟩,⟨0x5101,17,15,F_⟩,⟨0x4801,18,16,F_⟩,⟨0x3801,19,17,F_⟩,⟨0x3401,20,18,F_⟩,⟨0x3001,21,19,F_⟩,⟨0x2801,22,19,F_⟩,⟨0x2401,23,20,F_⟩,⟨0x2201,24,21,F_⟩,⟨0x1C01,25,22,F_⟩,⟨0x1801,26,23,F_⟩,⟨0x1601,27,24,F_⟩,⟨0x1401,28,25,F_⟩,⟨0x1201,29,26,F_⟩,⟨0x1101,30,27,F_⟩,⟨0x0AC1,31,28,F_⟩,⟨0x09C1,32,29,F_⟩,⟨0x08A1,33,30,F_⟩,⟨0x0521,34,31,F_⟩,⟨0x0441,35,32,F_⟩,⟨0x02A1,36,33,F_⟩,⟨0x0221,37,34,F_⟩,⟨0x0141,38,35,F_⟩,⟨0x0111,39,36,F_⟩,⟨0x0085,40,37,F_⟩,⟨0x0049,41,38,F_⟩,⟨0x0025,42,39,F_⟩,⟨0x0015,43,40,F_⟩,⟨0x0009,44,41,F_⟩,⟨0x0005,45,42,F_⟩,⟨0x0001,45,43,F_⟩,⟨0x5601,46,46,F_⟩]
def Fe(i:Nat):QeM:=qeT.getD i ⟨0,0,0,F_⟩
theorem aez:∀i,i<47→1≤(Fe i).qe∧(Fe i).qe≤0x5601∧(Fe i).Fj<47∧(Fe i).Tn<47:=by decide
structure CG where
 i:Nat
 Fj:Nat
def CG.Ok(c:CG):Prop:=c.i<47∧c.Fj≤1
def jL:List CG:=(List.range 19).map fun k=>⟨if k=0 then 4 else if k=17 then 3 else if k=18 then 46 else 0,0⟩
theorem sZ:jL.length=19∧∀c∈jL,c.Ok:=by
 refine⟨rfl,fun c hc=>?_⟩;simp only[jL,bW,lS]at hc;obtain⟨k,hk,rfl⟩:=hc;refine⟨?_,by simp⟩;simp only;split
 ·omega
 ·split
  ·omega
  ·split<;>omega
structure kV where
 a:Nat
 c:Nat
 ct:Nat
 b:List UInt8
def Aq:kV:=⟨0x8000,0,12,[0]⟩
def wY(e:kV):kV:=if e.b.getLastD 0≠255∧0x8000000≤e.c then{e with b:=e.b.dropLast++[e.b.getLastD 0+1],c:=e.c-0x8000000}else e
def Wq(e:kV):kV:=if e.b.getLastD 0=255 then{e with b:=e.b++[UInt8.ofNat (e.c/2^20)],c:=e.c%2^20,ct:=7}else{e with b:=e.b++[UInt8.ofNat (e.c/2^19)],c:=e.c%2^19,ct:=8}
def yc(e:kV):kV:=Wq (wY e)
def Gp(e:kV):kV:=if e.ct=1 then yc {e with a:=2*e.a,c:=2*e.c,ct:=0}else{e with a:=2*e.a,c:=2*e.c,ct:=e.ct-1}
def normE:Nat→kV→kV
 |0,e=>e
 |k+1,e=>if e.a<0x8000 then normE k (Gp e)else e
def QN(e:kV)(x:CG)(bit:Nat):kV×CG:=
 let s:=Fe x.i;let a:=e.a-s.qe
 if bit=x.Fj then
  if 0x8000≤a then({e with a:=a,c:=e.c+s.qe},x)
  else(if a<s.qe then{e with a:=s.qe}else{e with a:=a,c:=e.c+s.qe},{x with i:=s.Fj})
 else(if a<s.qe then{e with a:=a,c:=e.c+s.qe}else{e with a:=s.qe},{i:=s.Tn,Fj:=if s.swap then 1-x.Fj else x.Fj})
def Ia(e:kV)(x:CG)(bit:Nat):kV×CG:=(normE 16 (QN e x bit).1,(QN e x bit).2)
def kV.W(e:kV):Prop:=1≤e.a∧e.a<0x10000∧1≤e.ct∧e.ct≤12∧(e.c+e.a)*2^e.ct≤150994944∧e.b≠[]
def kV.Ok(e:kV):Prop:=e.W∧0x8000≤e.a
theorem IC:Aq.Ok:=by refine⟨⟨?_,?_,?_,?_,?_,?_⟩,?_⟩<;>decide
theorem QM{e:kV}{x:CG}{bit:Nat}(he:e.Ok)(hx:x.Ok):(QN e x bit).1.W∧(QN e x bit).2.Ok:=by
 obtain⟨⟨h1,h2,h3,h4,h5,h6⟩,h7⟩:=he;obtain⟨q1,q2,q3,q4⟩:=aez x.i hx.1;have hx2:=hx.2;have mono:∀s,s≤e.c+e.a→s*2^e.ct≤150994944:=fun s hs=>fD (dK _ hs) h5;unfold QN;generalize Fe x.i=s at*;simp only;split
 ·split
  ·exact⟨⟨by simp only;omega,by simp only;omega,h3,h4,mono _ (by simp only;omega),h6⟩,hx⟩
  ·refine⟨?_,q3,hx2⟩;split
   ·exact⟨q1,by simp only;omega,h3,h4,mono _ (by simp only;omega),h6⟩
   ·exact⟨by simp only;omega,by simp only;omega,h3,h4,mono _ (by simp only;omega),h6⟩
 ·refine⟨?_,q4,by simp only;split<;>omega⟩;split
  ·exact⟨by simp only;omega,by simp only;omega,h3,h4,mono _ (by simp only;omega),h6⟩
  ·exact⟨q1,by simp only;omega,h3,h4,mono _ (by simp only;omega),h6⟩
theorem aag{e:kV}(h1:1≤e.a)(h2:e.a<0x10000):(yc e).a=e.a∧1≤(yc e).ct∧(yc e).ct≤12∧((yc e).c+(yc e).a)*2^(yc e).ct≤150994944∧(yc e).b≠[]:=by
 unfold yc Wq;have ha:(wY e).a=e.a:=by unfold wY;split<;>rfl
 split
 ·refine⟨ha,by simp,by simp,?_,by simp⟩;have:=kP (wY e).c (show 0<2^20 by decide);simp only[ha];omega
 ·refine⟨ha,by simp,by simp,?_,by simp⟩;have:=kP (wY e).c (show 0<2^19 by decide);simp only[ha];omega
theorem QF{e:kV}(h:e.W)(ha:e.a<0x8000):(Gp e).W∧(Gp e).a=2*e.a:=by
 obtain⟨h1,h2,h3,h4,h5,h6⟩:=h;unfold Gp;split
 ·have:=aag (e:={e with a:=2*e.a,c:=2*e.c,ct:=0}) (by simp only;omega) (by simp only;omega);obtain⟨k1,k2,k3,k4,k5⟩:=this;refine⟨⟨by rw[k1];simp only;omega,by rw[k1];simp only;omega,k2,k3,k4,k5⟩,k1⟩
 ·refine⟨⟨by simp only;omega,by simp only;omega,by simp only;omega,by simp only;omega,?_,h6⟩,rfl⟩;have e1:(2*e.c+2*e.a)*2^(e.ct-1)=(e.c+e.a)*2^e.ct:=by obtain⟨k,hk⟩:∃k,e.ct=k+1:=⟨e.ct-1,by omega⟩;rw[hk,gV,Nat.pow_succ,←Nat.mul_add,dX 2 (e.c+e.a),qF,dX 2 (2^k)]
  simp only[e1];exact h5
theorem aaj:∀(k:Nat) {e:kV},e.W→0x8000≤e.a*2^k→(normE k e).Ok
 |0,e,h,hk=>⟨h,by simpa[normE]using hk⟩
 |k+1,e,h,hk=>by
  unfold normE;split
  ·rename_i ha;obtain⟨h1,h2⟩:=QF h ha;refine aaj k h1 ?_;rw[h2,dX 2,qF,←Nat.pow_succ'];exact hk
  ·exact⟨h,by omega⟩
theorem ah4{e:kV}{x:CG}{bit:Nat}(he:e.Ok)(hx:x.Ok):(Ia e x bit).1.Ok∧(Ia e x bit).2.Ok:=by obtain⟨h1,h2⟩:=QM (bit:=bit) he hx;exact⟨aaj 16 h1 (by have:=h1.1;omega),h2⟩
/- the bytes only grow-/
theorem a!(e:kV)(h:e.b≠[]):(wY e).b.length=e.b.length:=by
 have:0<e.b.length:=fP.2 h;unfold wY;split
 ·simp;omega
 ·rfl
theorem Eg(e:kV)(h:e.b≠[]):(yc e).b.length=e.b.length+1:=by unfold yc Wq;split<;>simp[a! e h]
theorem afN(e:kV)(h:e.b≠[]):e.b.length≤(Gp e).b.length:=by
 unfold Gp;split
 ·have:=Eg {e with a:=2*e.a,c:=2*e.c,ct:=0} h;simp only at this;omega
 ·exact aN _
theorem SL:∀(k:Nat) (e:kV),e.W→e.b.length≤(normE k e).b.length
 |0,e,_=>aN _
 |k+1,e,h=>by
  unfold normE;split
  ·rename_i ha;exact fD (afN e h.2.2.2.2.2) (SL k _ (QF h ha).1)
  ·exact aN _
theorem Va(e:kV)(x:CG)(bit:Nat):(QN e x bit).1.b=e.b:=by
 unfold QN;simp only;split
 ·split
  ·rfl
  ·split<;>rfl
 ·split<;>rfl
theorem afG{e:kV}{x:CG}{bit:Nat}(he:e.Ok)(hx:x.Ok):e.b.length≤(Ia e x bit).1.b.length:=by have:=SL 16 _ (QM (bit:=bit) he hx).1;rw[Va]at this;exact this
structure GeoM where
 w:Nat
 h:Nat
 band:Nat
 ah:Nat
 yl:List Nat
 neg:List Nat
structure GeoM.Ok(G:GeoM):Prop where
 w1:1≤G.w
 w2:G.w≤64
 h1:1≤G.h
 h2:G.h≤64
 band:G.band≤3
 ah:G.ah≤63
 yl:G.yl.length=G.w*G.h
 neg:G.neg.length=G.w*G.h
 ajm:∀m∈G.yl,m<1073741824
 aks:∀m∈G.neg,m≤1
structure vO where
 sig:List Bool
 seen:List Bool
 again:List Bool
structure vO.Ok(G:GeoM)(c:vO):Prop where
 sig:c.sig.length=G.w*G.h
 seen:c.seen.length=G.w*G.h
 again:c.again.length=G.w*G.h
def yh(b:Bool):Nat:=if b then 1 else 0
theorem zT(b:Bool):yh b≤1:=by cases b<;>decide
def inM(G:GeoM)(x y:Nat)(dx dy:Int):Bool:=decide (0≤(x:Int)+dx) && (decide ((x:Int)+dx<G.w) && (decide (0≤(y:Int)+dy) && (decide ((y:Int)+dy<G.h) && !(G.ah.testBit 3 && (decide (0<dy) && decide (y%4=3))))))
def atM(G:GeoM)(x y:Nat)(dx dy:Int):Nat:=((y:Int)+dy).toNat*G.w+((x:Int)+dx).toNat
def x8(G:GeoM)(c:vO)(x y:Nat)(dx dy:Int):Bool:=inM G x y dx dy && c.sig.getD (atM G x y dx dy) F_
structure amH where
 h:Nat
 v:Nat
 d:Nat
def FP(G:GeoM)(c:vO)(x y:Nat):amH where
 h:=yh (x8 G c x y (-1) 0)+yh (x8 G c x y 1 0)
 v:=yh (x8 G c x y 0 (-1))+yh (x8 G c x y 0 1)
 d:=yh (x8 G c x y (-1) (-1))+yh (x8 G c x y 1 (-1))+yh (x8 G c x y (-1) 1)+yh (x8 G c x y 1 1)
theorem Ot(G:GeoM)(c:vO)(x y:Nat):(FP G c x y).h≤2∧(FP G c x y).v≤2∧(FP G c x y).d≤4:=by
 have h:=zT;refine⟨?_,?_,?_⟩
 ·have:=h (x8 G c x y (-1) 0);have:=h (x8 G c x y 1 0);simp only[FP];omega
 ·have:=h (x8 G c x y 0 (-1));have:=h (x8 G c x y 0 1);simp only[FP];omega
 ·have:=h (x8 G c x y (-1) (-1));have:=h (x8 G c x y 1 (-1));have:=h (x8 G c x y (-1) 1);have:=h (x8 G c x y 1 1);simp only[FP];omega
def Ox(band h v d:Nat):Nat:=
 if band=3 then(if 3≤d then 8 else if d=2 then 6+min (h+v) 1 else if d=1 then 3+min (h+v) 2 else min (h+v) 2)
 else if band=1 then(if v=2 then 8 else if v=1∧1≤h then 7 else if v=1 then 5+min d 1 else if 0<h then 2+h else min d 2)
 else(if h=2 then 8 else if h=1∧1≤v then 7 else if h=1 then 5+min d 1 else if 0<v then 2+v else min d 2)
theorem age{band h v d:Nat}(h1:h≤2)(h2:v≤2):Ox band h v d≤8:=by
 unfold Ox
 repeat' split
 all_goals omega
def Bo(G:GeoM)(c:vO)(x y:Nat):Nat:=Ox G.band (FP G c x y).h (FP G c x y).v (FP G c x y).d
theorem JK(G:GeoM)(c:vO)(x y:Nat):Bo G c x y≤8:=age (Ot G c x y).1 (Ot G c x y).2.1
def zY(G:GeoM)(c:vO)(x y:Nat)(dx dy:Int):Int:=if x8 G c x y dx dy then 1-2*((G.neg.getD (atM G x y dx dy) 0:Nat):Int)else 0
def BR(z:Int):Int:=max (min z 1) (-1)
theorem II(z:Int): -1≤BR z∧BR z≤1:=by unfold BR;omega
structure alm where
 k:Nat
 turn:Nat
def sctx(h v:Int):alm:=if h<0∨(h=0∧v<0)then(if-h=1 then⟨(12-v).toNat,1⟩else⟨(9-v).toNat,1⟩)else(if h=1 then⟨(12+v).toNat,0⟩else⟨(9+v).toNat,0⟩)
def aa8(G:GeoM)(c:vO)(x y:Nat):alm:=sctx (BR (zY G c x y (-1) 0+zY G c x y 1 0)) (BR (zY G c x y 0 (-1)+zY G c x y 0 1))
theorem V!{h v:Int}(_h1: -1≤h∧h≤1)(h2: -1≤v∧v≤1):(sctx h v).k≤13∧(sctx h v).turn≤1:=by
 unfold sctx;split
 ·split<;>constructor<;>simp only<;>omega
 ·split<;>constructor<;>simp only<;>omega
theorem agP(G:GeoM)(c:vO)(x y:Nat):(aa8 G c x y).k≤13∧(aa8 G c x y).turn≤1:=V! (II _) (II _)
def Uz(first:Bool)(n:Nat):Nat:=if first then(if 0<n then 15 else 14)else 16
structure FU where
 b:List UInt8
 cur:Nat
 free:Nat
 top:Nat
structure FU.Ok(r:FU):Prop where
 f1:1≤r.free
 f2:r.free≤r.top
 top:r.top≤8
 cur:r.cur<256
def Aj:FU:=⟨[],0,8,8⟩
theorem Iw:Aj.Ok:=⟨by decide,by decide,by decide,by decide⟩
def zA(r:FU)(bit:Nat):FU:=
 let c:=r.cur|||bit%2*2^(r.free-1)
 if r.free=1 then(if c=255 then⟨r.b++[UInt8.ofNat c],0,7,7⟩else⟨r.b++[UInt8.ofNat c],0,8,8⟩)else⟨r.b,c,r.free-1,r.top⟩
theorem Sv{r:FU}(h:r.Ok)(bit:Nat):r.cur|||bit%2*2^(r.free-1)<256:=by
 have h3:bit%2*2^(r.free-1)<2^8:=by have h1:2^(r.free-1)≤2^7:=fB (by omega) (by have:=h.f1;have:=h.f2;have:=h.top;omega);have h2:bit%2<2:=kP _ (by decide);have h4:bit%2*2^(r.free-1)≤1*2^(r.free-1):=dK _ (by omega);omega
 exact Nat.or_lt_two_pow (n:=8) h.cur h3
theorem aci{r:FU}(h:r.Ok)(bit:Nat):(zA r bit).Ok:=by
 have hc:=Sv h bit;have h1:=h.f1;have h2:=h.f2;have h3:=h.top;unfold zA;simp only;split
 ·split
  ·exact⟨by simp,by simp,by simp,by simp⟩
  ·exact⟨by simp,by simp,by simp,by simp⟩
 ·exact⟨by simp only;omega,by simp only;omega,h3,hc⟩
theorem Zv(r:FU)(bit:Nat):r.b.length≤(zA r bit).b.length∧(zA r bit).b.length≤r.b.length+1:=by
 unfold zA;simp only;split
 ·split<;>simp
 ·simp
def Dz(r:FU):Nat:=if r.free<r.top then r.b.length+1 else r.b.length
def rO(l:List UInt8):List UInt8:=if l.getLast?=S_ 255 then l.dropLast else l
def zZ(r:FU):List UInt8:=rO (if r.free<r.top then r.b++[UInt8.ofNat r.cur]else r.b)
def sW(e:kV):Nat:=if e.c+e.a≤e.c/65536*65536+65535 then e.c/65536*65536+65535-32768 else e.c/65536*65536+65535
def lG(e:kV):kV:=yc {e with c:=e.c*2^e.ct}
def wX(e:kV):kV:=lG (lG {e with c:=sW e})
def MW(e:kV):List UInt8:=rO ((wX e).b.drop 1)
structure Eo where
 cx:List CG
 e:kV
 r:FU
structure Eo.Ok(s:Eo):Prop where
 len:s.cx.length=19
 cx:∀c∈s.cx,c.Ok
 e:s.e.Ok
 r:s.r.Ok
def Eo.size(s:Eo):Nat:=s.e.b.length+s.r.b.length
def kL(raw:Bool)(s:Eo)(k b:Nat):Eo:=if raw then{s with r:=zA s.r b}else{s with e:=(Ia s.e (s.cx.getD k ⟨0,0⟩) b).1,cx:=s.cx.set k (Ia s.e (s.cx.getD k ⟨0,0⟩) b).2}
theorem AZ{raw:Bool}{s:Eo}(h:s.Ok){k:Nat}(hk:k<19)(b:Nat):(kL raw s k b).Ok:=by
 unfold kL;split
 ·exact⟨h.len,h.cx,h.e,aci h.r b⟩
 ·have hx:(s.cx.getD k ⟨0,0⟩).Ok:=by
   have hk2:k<s.cx.length:=by rw[h.len];exact hk
   rw[ax,ai hk2];exact h.cx _ (kX hk2)
  have:=ah4 (bit:=b) h.e hx;refine⟨by simpa using h.len,fun c hc=>?_,this.1,h.r⟩;rcases cZ hc with h1|h1
  ·exact h.cx c h1
  ·rw[h1];exact this.2
inductive Says(raw:Bool):Nat→Eo→Eo→Prop
 |refl (n:Nat) (s:Eo):Says raw n s s
 |bit {n:Nat} {s s':Eo} (k b:Nat) (hk:k<19) (h:Says raw n s s'):Says raw (n+1) s (kL raw s' k b)
 |fresh {n:Nat} {s s':Eo} (h:Says raw n s s'):Says raw n s {s' with cx:=jL}
theorem Says.ok{raw:Bool}{n:Nat}{s s':Eo}(h:Says raw n s s')(hs:s.Ok):s'.Ok:=by
 induction h with
 |refl=>exact hs
 |bit k b hk _ ih=>exact AZ (ih hs) hk b
 |fresh _ ih=>exact⟨sZ.1,sZ.2,(ih hs).e,(ih hs).r⟩
theorem Says.more{raw:Bool}{n m:Nat}{s s':Eo}(h:Says raw n s s')(hm:n≤m):Says raw m s s':=by
 induction h generalizing m with
 |refl=>exact .refl _ _
 |bit k b hk _ ih=>obtain⟨j,rfl⟩:∃j,m=j+1:=⟨m-1,by omega⟩;exact .bit k b hk (ih (by omega))
 |fresh _ ih=>exact .fresh (ih hm)
theorem Says.trans{raw:Bool}{n m:Nat}{s t u:Eo}(h:Says raw n s t)(k:Says raw m t u):Says raw (n+m) s u:=by
 induction k with
 |refl=>exact h.more (by omega)
 |bit k b hk _ ih=>exact .bit k b hk (ih h)
 |fresh _ ih=>exact .fresh (ih h)
theorem Says.one(raw:Bool)(s:Eo){k:Nat}(b:Nat)(hk:k<19):Says raw 1 s (kL raw s k b):=.bit k b hk (.refl 0 s)
theorem PN:∀(k:Nat) (e:kV),e.W→(normE k e).b.length≤e.b.length+k
 |0,e,_=>aN _
 |k+1,e,h=>by
  unfold normE;split
  ·rename_i ha;have h1:=PN k _ (QF h ha).1;have h2:(Gp e).b.length≤e.b.length+1:=by
    unfold Gp;split
    ·have:=Eg {e with a:=2*e.a,c:=2*e.c,ct:=0} h.2.2.2.2.2;simp only at this;omega
    ·simp
   omega
  ·omega
theorem Wj(r:FU)(h:r.Ok)(b:Nat):Dz r≤Dz (zA r b):=by
 have h1:=h.f1;have h2:=h.f2;unfold Dz zA;simp only;by_cases hf:r.free=1
 ·rw[aK hf];split<;>(split<;>simp)
 ·rw[aJ hf];simp only;have:r.free-1<r.top:=by omega
  rw[aK this];split<;>omega
theorem Says.grow{raw:Bool}{n:Nat}{s s':Eo}(h:Says raw n s s')(hs:s.Ok):s.e.b.length≤s'.e.b.length∧Dz s.r≤Dz s'.r∧s'.size≤s.size+16*n:=by
 induction h with
 |refl=>exact⟨aN _,aN _,by omega⟩
 | @bit n s s' k b hk h ih=>
  obtain⟨i1,i2,i3⟩:=ih hs;have ho:=h.ok hs;unfold kL;split
  ·have h1:=Zv s'.r b;have h2:=Wj s'.r ho.r b;refine⟨i1,fD i2 h2,?_⟩;simp only[Eo.size]at i3⊢;omega
  ·have hx:(s'.cx.getD k ⟨0,0⟩).Ok:=by
    have hk2:k<s'.cx.length:=by rw[ho.len];exact hk
    rw[ax,ai hk2];exact ho.cx _ (kX hk2)
   have h1:=afG (bit:=b) ho.e hx;have h2:=PN 16 _ (QM (bit:=b) ho.e hx).1;rw[Va]at h2;refine⟨fD i1 h1,i2,?_⟩;have h3:(Ia s'.e (s'.cx.getD k ⟨0,0⟩) b).1.b.length≤s'.e.b.length+16:=h2;simp only[Eo.size]at i3⊢;omega
 |fresh h ih=>exact ih hs
structure CS where
 c:vO
 s:Eo
def yF(G:GeoM)(i bY:Nat):Nat:=G.yl.getD i 0/2^bY%2
theorem afX(G:GeoM)(i bY:Nat):yF G i bY≤1:=by unfold yF;omega
section
variable(G:GeoM)(raw:Bool)
def CY(q:CS)(x y:Nat):CS:=⟨{q.c with sig:=q.c.sig.set (y*G.w+x) T_},kL raw q.s (aa8 G q.c x y).k (G.neg.getD (y*G.w+x) 0^^^(if raw then 0 else(aa8 G q.c x y).turn))⟩
def Bq(q:CS)(x y bY k:Nat):CS:=if yF G (y*G.w+x) bY=1 then CY G raw ⟨q.c,kL raw q.s k (yF G (y*G.w+x) bY)⟩ x y else⟨q.c,kL raw q.s k (yF G (y*G.w+x) bY)⟩
def uC(w h n:Nat):Nat:=(n-4*w*(n/w/4))/min 4 (h-4*(n/w/4))
def uB(w h n:Nat):Nat:=4*(n/w/4)+(n-4*w*(n/w/4))%min 4 (h-4*(n/w/4))
def qC(bY:Nat)(q:CS)(n:Nat):CS:=
 if q.c.sig.getD (uB G.w G.h n*G.w+uC G.w G.h n) F_=T_∨Bo G q.c (uC G.w G.h n) (uB G.w G.h n)=0 then q
 else⟨{(Bq G raw q (uC G.w G.h n) (uB G.w G.h n) bY (Bo G q.c (uC G.w G.h n) (uB G.w G.h n))).c with seen:=(Bq G raw q (uC G.w G.h n) (uB G.w G.h n) bY (Bo G q.c (uC G.w G.h n) (uB G.w G.h n))).c.seen.set (uB G.w G.h n*G.w+uC G.w G.h n) T_},(Bq G raw q (uC G.w G.h n) (uB G.w G.h n) bY (Bo G q.c (uC G.w G.h n) (uB G.w G.h n))).s⟩
def aaB(c:vO)(x y:Nat):Nat:=(FP G c x y).h+(FP G c x y).v+(FP G c x y).d
def qO(bY:Nat)(q:CS)(n:Nat):CS:=
 if q.c.sig.getD (uB G.w G.h n*G.w+uC G.w G.h n) F_=F_∨q.c.seen.getD (uB G.w G.h n*G.w+uC G.w G.h n) F_=T_ then q
 else⟨{q.c with again:=q.c.again.set (uB G.w G.h n*G.w+uC G.w G.h n) T_},kL raw q.s (Uz (!q.c.again.getD (uB G.w G.h n*G.w+uC G.w G.h n) F_) (aaB G q.c (uC G.w G.h n) (uB G.w G.h n))) (yF G (uB G.w G.h n*G.w+uC G.w G.h n) bY)⟩
def FK(c:vO)(x y:Nat):Bool:=!c.sig.getD (y*G.w+x) F_ && (!c.seen.getD (y*G.w+x) F_ && decide (Bo G c x y=0))
def BZ(c:vO)(x y:Nat):Bool:=decide (y+4≤G.h) && (List.range 4).all fun j=>FK G c x (y+j)
def firstM(x y bY:Nat):Nat:=if yF G ((y+0)*G.w+x) bY=1 then 0 else if yF G ((y+1)*G.w+x) bY=1 then 1 else if yF G ((y+2)*G.w+x) bY=1 then 2 else if yF G ((y+3)*G.w+x) bY=1 then 3 else 4
def runM(f:CS→Nat→CS):Nat→Nat→CS→CS
 |0,_,q=>q
 |n+1,k,q=>runM f n (k+1) (f q k)
def zU(x y bY:Nat)(q:CS)(j:Nat):CS:=
 if q.c.sig.getD ((y+j)*G.w+x) F_=T_∨q.c.seen.getD ((y+j)*G.w+x) F_=T_ then q
 else Bq G raw q x (y+j) bY (Bo G q.c x (y+j))
def uT(x y bY j:Nat)(q:CS):CS:=runM (zU G raw x y bY) (min 4 (G.h-y)-j) j q
def Oc(bY y:Nat)(q:CS)(x:Nat):CS:=
 if BZ G q.c x y then
  if firstM G x y bY=4 then⟨q.c,kL raw q.s 17 0⟩
  else uT G raw x y bY (firstM G x y bY+1) (CY G raw ⟨q.c,kL raw (kL raw (kL raw q.s 17 1) 18 (firstM G x y bY/2)) 18 (firstM G x y bY%2)⟩ x (y+firstM G x y bY))
 else uT G raw x y bY 0 q
def Uw(bY:Nat)(q:CS)(t:Nat):CS:=runM (Oc G raw bY (4*t)) G.w 0 q
def aiQ(s:Eo):Eo:=kL raw (kL raw (kL raw (kL raw s 18 1) 18 0) 18 1) 18 0
def BP(bY:Nat)(q:CS):CS:=⟨{(runM (Uw G raw bY) ((G.h+3)/4) 0 q).c with seen:=List.replicate (G.w*G.h) F_},if G.ah.testBit 5 then aiQ raw (runM (Uw G raw bY) ((G.h+3)/4) 0 q).s else(runM (Uw G raw bY) ((G.h+3)/4) 0 q).s⟩
def wS(k:Nat):Nat:=if k=0 then 2 else(k-1)%3
def Bz(q:CS):CS:=if G.ah.testBit 1 then⟨q.c,{q.s with cx:=jL}⟩else q
def J7(aH k:Nat)(q:CS):CS:=
 if wS k=0 then runM (qC G raw (aH-1-(k+2)/3)) (G.w*G.h) 0 (Bz G q)
 else if wS k=1 then runM (qO G raw (aH-1-(k+2)/3)) (G.w*G.h) 0 (Bz G q)
 else BP G raw (aH-1-(k+2)/3) (Bz G q)
end
section
variable{G:GeoM}{raw:Bool}
theorem Jk(q:CS)(x y:Nat):Says raw 1 q.s (CY G raw q x y).s:=Says.one raw _ _ (by have:=(agP G q.c x y).1;omega)
theorem Il(q:CS)(x y bY:Nat){k:Nat}(hk:k<19):Says raw 2 q.s (Bq G raw q x y bY k).s:=by
 unfold Bq;split
 ·exact(Says.one raw q.s _ hk).trans (Jk ⟨q.c,kL raw q.s k _⟩ x y)
 ·exact(Says.one raw q.s _ hk).more (by omega)
theorem Uo(bY:Nat)(q:CS)(n:Nat):Says raw 2 q.s (qC G raw bY q n).s:=by
 unfold qC;split
 ·exact .refl _ _
 ·exact Il q _ _ _ (by have:=JK G q.c (uC G.w G.h n) (uB G.w G.h n);omega)
theorem Y!(first:Bool)(n:Nat):Uz first n<19:=by unfold Uz;repeat' split<;>try omega
theorem Uy(bY:Nat)(q:CS)(n:Nat):Says raw 2 q.s (qO G raw bY q n).s:=by
 unfold qO;split
 ·exact .refl _ _
 ·exact(Says.one raw q.s _ (Y! _ _)).more (by omega)
theorem Bd{f:CS→Nat→CS}{b:Nat}(hf:∀q n,Says raw b q.s (f q n).s):∀(n k:Nat) (q:CS),Says raw (b*n) q.s (runM f n k q).s
 |0,_,q=>.refl _ _
 |n+1,k,q=>((hf q k).trans (Bd hf n (k+1) (f q k))).more (by rw[Nat.mul_succ];omega)
theorem U4(x y bY:Nat)(q:CS)(j:Nat):Says raw 2 q.s (zU G raw x y bY q j).s:=by
 unfold zU;split
 ·exact .refl _ _
 ·exact Il q _ _ _ (by have:=JK G q.c x (y+j);omega)
theorem Kz(x y bY j:Nat)(q:CS):Says raw 8 q.s (uT G raw x y bY j q).s:=(Bd (U4 x y bY) _ _ _).more (by omega)
theorem TV(bY y:Nat)(q:CS)(x:Nat):Says raw 12 q.s (Oc G raw bY y q x).s:=by
 unfold Oc;split
 ·split
  ·exact(Says.one raw q.s _ (by omega)).more (by omega)
  ·exact((((Says.one raw q.s _ (by omega)).trans (Says.one raw _ _ (by omega))).trans (Says.one raw _ _ (by omega))).trans ((Jk (G:=G) ⟨q.c,_⟩ _ _).trans (Kz _ _ _ _ _)))
 ·exact(Kz _ _ _ _ _).more (by omega)
theorem ab4(bY:Nat)(q:CS)(t:Nat):Says raw (12*G.w) q.s (Uw G raw bY q t).s:=Bd (TV bY (4*t)) _ _ _
theorem XH(hh:1≤G.h)(bY:Nat)(q:CS):Says raw (12*(G.w*G.h)+4) q.s (BP G raw bY q).s:=by
 have h:=(Bd (raw:=raw) (ab4 (G:=G) bY) ((G.h+3)/4) 0 q);have hm:12*G.w*((G.h+3)/4)≤12*(G.w*G.h):=by rw[qF];exact l7 _ (l7 _ (by omega))
 unfold BP;simp only;split
 ·exact((((h.trans (Says.one raw _ _ (by omega))).trans (Says.one raw _ _ (by omega))).trans (Says.one raw _ _ (by omega))).trans (Says.one raw _ _ (by omega))).more (by omega)
 ·exact h.more (by omega)
theorem GV(q:CS):Says raw 0 q.s (Bz G q).s:=by
 unfold Bz;split
 ·exact .fresh (.refl _ _)
 ·exact .refl _ _
theorem Fg(hh:1≤G.h)(aH k:Nat)(q:CS):Says raw (12*(G.w*G.h)+4) q.s (J7 G raw aH k q).s:=by
 unfold J7;split
 ·exact((GV (G:=G) q).trans (Bd (Uo _) _ _ _)).more (by omega)
 ·split
  ·exact((GV (G:=G) q).trans (Bd (Uy _) _ _ _)).more (by omega)
  ·exact((GV (G:=G) q).trans (XH hh _ _)).more (by omega)
theorem O3{q:CS}(h:q.c.Ok G)(x y:Nat):(CY G raw q x y).c.Ok G:=⟨by simpa[CY]using h.sig,h.seen,h.again⟩
theorem Oe{q:CS}(h:q.c.Ok G)(x y bY k:Nat):(Bq G raw q x y bY k).c.Ok G:=by
 unfold Bq;split
 ·exact O3 (raw:=raw) (q:=⟨q.c,kL raw q.s k (yF G (y*G.w+x) bY)⟩) h x y
 ·exact h
theorem Yr{q:CS}(h:q.c.Ok G)(bY n:Nat):(qC G raw bY q n).c.Ok G:=by
 unfold qC;split
 ·exact h
 ·have:=Oe (raw:=raw) h (uC G.w G.h n) (uB G.w G.h n) bY (Bo G q.c (uC G.w G.h n) (uB G.w G.h n));exact⟨this.sig,by simpa using this.seen,this.again⟩
theorem Zo{q:CS}(h:q.c.Ok G)(bY n:Nat):(qO G raw bY q n).c.Ok G:=by
 unfold qO;split
 ·exact h
 ·exact⟨h.sig,h.seen,by simpa using h.again⟩
theorem Ir{f:CS→Nat→CS}(hf:∀q n,q.c.Ok G→(f q n).c.Ok G):∀(n k:Nat) (q:CS),q.c.Ok G→(runM f n k q).c.Ok G
 |0,_,_,h=>h
 |n+1,k,q,h=>Ir hf n (k+1) _ (hf q k h)
theorem Ξ{q:CS}(h:q.c.Ok G)(x y bY j:Nat):(zU G raw x y bY q j).c.Ok G:=by
 unfold zU;split
 ·exact h
 ·exact Oe h _ _ _ _
theorem QG{q:CS}(h:q.c.Ok G)(x y bY j:Nat):(uT G raw x y bY j q).c.Ok G:=Ir (fun _ _ h=>Ξ h _ _ _ _) _ _ _ h
theorem aav{q:CS}(h:q.c.Ok G)(bY y x:Nat):(Oc G raw bY y q x).c.Ok G:=by
 unfold Oc;split
 ·split
  ·exact h
  ·exact QG (O3 (raw:=raw) (q:=⟨q.c,kL raw (kL raw (kL raw q.s 17 1) 18 (firstM G x y bY/2)) 18 (firstM G x y bY%2)⟩) h _ _) _ _ _ _
 ·exact QG h _ _ _ _
theorem ag0{q:CS}(h:q.c.Ok G)(bY t:Nat):(Uw G raw bY q t).c.Ok G:=Ir (fun _ _ h=>aav h _ _ _) _ _ _ h
theorem adh{q:CS}(h:q.c.Ok G)(bY:Nat):(BP G raw bY q).c.Ok G:=by have:=Ir (fun _ n h=>ag0 (raw:=raw) h bY n) ((G.h+3)/4) 0 q h;exact⟨this.sig,by simp[BP],this.again⟩
theorem aeF{q:CS}(h:q.c.Ok G)(aH k:Nat):(J7 G raw aH k q).c.Ok G:=by
 have hr:(Bz G q).c.Ok G:=by unfold Bz;split<;>exact h
 unfold J7;split
 ·exact Ir (fun _ _ h=>Yr h _ _) _ _ _ hr
 ·split
  ·exact Ir (fun _ _ h=>Zo h _ _) _ _ _ hr
  ·exact adh hr _
end
def oM(aH:Nat):Nat:=3*aH-2
def UM(ah k:Nat):Bool:=ah.testBit 0 && (decide (10≤k) && !decide (wS k=2))
def uH(ah k:Nat):Bool:=ah.testBit 2||(ah.testBit 0 && ((decide (wS k=2) && decide (9≤k))||(decide (wS k=1) && decide (10≤k))))
structure aiv where
 aH:Nat
 fZ:List (Int×Bool)
 bytes:List UInt8
structure A7 where
 q:CS
 raw:Bool
 fZ:List (Int×Bool)
 bytes:List UInt8
 first:Nat
def FQ(x:List UInt8)(n:Nat):Nat:=if 0<min n x.length∧x[min n x.length-1]?=S_ 255 then min n x.length-1 else min n x.length
theorem aaC(x:List UInt8)(n:Nat):FQ x n≤x.length∧FQ x n≤n:=by unfold FQ;split<;>omega
theorem adv(x:List UInt8){n m:Nat}(h:n≤m):FQ x n≤FQ x m:=by
 by_cases e:min n x.length=min m x.length
 ·unfold FQ;rw[e];exact aN _
 ·unfold FQ;split<;>split<;>omega
def closeM(at_:Nat)(x:List UInt8):List (Int×Bool)→List (Int×Bool)
 | []=>[]
 | [p]=>[(((at_+x.length:Nat):Int),p.2)]
 |p::p2::l=>(((at_+FQ x p.1.toNat:Nat):Int),p.2)::closeM at_ x (p2::l)
theorem DU(at_:Nat)(x:List UInt8):∀l:List (Int×Bool),(closeM at_ x l).length=l.length
 | []=>rfl
 | [p]=>rfl
 |p::p2::l=>by simp only[closeM,List.length_cons,DU at_ x (p2::l)]
section
variable(G:GeoM)(aH n:Nat)(t:A7)(k:Nat)
def yB:Bool:=if k=t.first then UM G.ah k else t.raw
def Gw:CS:=if k=t.first then⟨t.q.c,⟨t.q.s.cx,Aq,Aj⟩⟩else t.q
def Oh:CS:=J7 G (yB G t k) aH k (Gw t k)
def G6(raw:Bool)(s:Eo):Nat:=if raw then Dz s.r else s.e.b.length+4
def F7:Bool:=uH G.ah k||decide (k+1=n)
def Dq:List (Int×Bool):=t.fZ++[(((G6 (yB G t k) (Oh G aH t k).s:Nat):Int),F7 G n k)]
def VN(raw:Bool)(s:Eo):List UInt8:=if raw then zZ s.r else MW s.e
def qP:A7:=
 if F7 G n k then⟨⟨(Oh G aH t k).c,⟨(Oh G aH t k).s.cx,wX (Oh G aH t k).s.e,(Oh G aH t k).s.r⟩⟩,yB G t k,(Dq G aH n t k).take t.first++closeM t.bytes.length (VN (yB G t k) (Oh G aH t k).s) ((Dq G aH n t k).drop t.first),t.bytes++VN (yB G t k) (Oh G aH t k).s,k+1⟩
 else⟨Oh G aH t k,yB G t k,Dq G aH n t k,t.bytes,t.first⟩
def DR:Nat→Nat→A7→A7
 |0,_,t=>t
 |f+1,k,t=>DR f (k+1) (qP G aH n t k)
end
def iO(l:List Nat):Nat:=l.foldl (fun p m=>if m=0 then p else max p (m.log2+1)) 0
def yt(G:GeoM):vO:=⟨List.replicate (G.w*G.h) F_,List.replicate (G.w*G.h) F_,List.replicate (G.w*G.h) F_⟩
def lZ(G:GeoM):A7:=⟨⟨yt G,⟨jL,Aq,Aj⟩⟩,F_,[],[],0⟩
def jv(G:GeoM):aiv:=⟨iO G.yl,(DR G (iO G.yl) (oM (iO G.yl)) (oM (iO G.yl)) 0 (lZ G)).fZ,(DR G (iO G.yl) (oM (iO G.yl)) (oM (iO G.yl)) 0 (lZ G)).bytes⟩
theorem En{e:kV}(h1:1≤e.a)(h2:e.a<0x10000):(lG e).a=e.a∧1≤(lG e).ct∧(lG e).ct≤12∧((lG e).c+(lG e).a)*2^(lG e).ct≤150994944∧(lG e).b≠[]:=aag (e:={e with c:=e.c*2^e.ct}) h1 h2
theorem TF{e:kV}(h:e.Ok):(wX e).Ok:=by
 have h1:=En (e:={e with c:=sW e}) h.1.1 h.1.2.1;have ha:(lG {e with c:=sW e}).a=e.a:=h1.1;have h2:=En (e:=lG {e with c:=sW e}) (by rw[ha];exact h.1.1) (by rw[ha];exact h.1.2.1);have hb:(wX e).a=e.a:=by unfold wX;rw[h2.1,ha]
 exact⟨⟨by rw[hb];exact h.1.1,by rw[hb];exact h.1.2.1,h2.2.1,h2.2.2.1,h2.2.2.2.1,h2.2.2.2.2⟩,by rw[hb];exact h.2⟩
theorem Qq{e:kV}(h:e.Ok):(wX e).b.length=e.b.length+2:=by have h1:=En (e:={e with c:=sW e}) h.1.1 h.1.2.1;have e1:(lG {e with c:=sW e}).b.length=e.b.length+1:=Eg _ h.1.2.2.2.2.2;have e2:(wX e).b.length=(lG {e with c:=sW e}).b.length+1:=Eg {lG {e with c:=sW e}with c:=(lG {e with c:=sW e}).c*2^(lG {e with c:=sW e}).ct} h1.2.2.2.2;omega
theorem Ja(l:List UInt8):(rO l).length≤l.length:=by unfold rO;split<;>simp
theorem O7{raw:Bool}{s:Eo}(h:s.Ok):(VN raw s).length≤s.size+2:=by
 unfold VN;split
 ·unfold zZ;refine fD (Ja _) ?_;unfold Eo.size;split
  ·simp;omega
  ·omega
 ·unfold MW;refine fD (Ja _) ?_;rw[fH,Qq h.e];unfold Eo.size;omega
structure A7.Ok(G:GeoM)(t:A7)(k:Nat):Prop where
 c:t.q.c.Ok G
 s:t.q.s.Ok
 len:t.fZ.length=k
 first:t.first≤k
 /-- those that were laid-/
 pos:∀p∈t.fZ,0≤p.1
 up:(t.fZ.take t.first).Pairwise fun a b=>a.1≤b.1
 top:∀p∈t.fZ.take t.first,p.1≤(t.bytes.length:Int)
 last:t.first≠0→((t.fZ.take t.first).getLast?.map (·.1))=S_ (t.bytes.length:Int)
 none:t.first=0→t.bytes=[]
 /-- those on their way-/
 up2:(t.fZ.drop t.first).Pairwise fun a b=>a.1≤b.1
 alx:∀p∈t.fZ.drop t.first,p.1≤(G6 t.raw t.q.s:Int)
theorem JE(at_:Nat)(x:List UInt8):∀(l:List (Int×Bool)) (c:Int×Bool),c∈closeM at_ x l→c.1=(at_+x.length:Nat)∨∃q∈l,c.1=(at_+FQ x q.1.toNat:Nat)
 | [],_,h=>by cases h
 | [p],c,h=>by simp only[closeM,fJ]at h;subst h;exact .inl rfl
 |p::p2::l,c,h=>by
  simp only[closeM,aC]at h;rcases h with rfl|h
  ·exact .inr ⟨p,aG,rfl⟩
  ·rcases JE at_ x (p2::l) c h with h|⟨q,hq,h⟩
   ·exact .inl h
   ·exact .inr ⟨q,aU _ hq,h⟩
theorem U6(at_:Nat)(x:List UInt8)(l:List (Int×Bool))(c:Int×Bool)(h:c∈closeM at_ x l):(at_:Int)≤c.1∧c.1≤((at_+x.length:Nat):Int):=by
 rcases JE at_ x l c h with h|⟨q,-,h⟩
 ·omega
 ·have:=(aaC x q.1.toNat).1;omega
theorem TZ(at_:Nat)(x:List UInt8):∀(l:List (Int×Bool)),l.Pairwise (fun a b=>a.1≤b.1)→(closeM at_ x l).Pairwise (fun a b=>a.1≤b.1)
 | [],_=>List.Pairwise.nil
 | [p],_=>by simp[closeM]
 |p::p2::l,h=>by
  rw[closeM];obtain⟨h1,h2⟩:=List.pairwise_cons.1 h;refine List.pairwise_cons.2 ⟨fun c hc=>?_,TZ at_ x (p2::l) h2⟩;rcases JE at_ x (p2::l) c hc with h|⟨q,hq,h⟩
  ·have:=(aaC x p.1.toNat).1;simp only;omega
  ·have:=adv x (n:=p.1.toNat) (m:=q.1.toNat) (by have:=h1 q hq;omega);simp only;omega
theorem NS(at_:Nat)(x:List UInt8):∀(l:List (Int×Bool)),l≠[]→(closeM at_ x l).getLast?.map (·.1)=S_ ((at_+x.length:Nat):Int)
 | [],h=>absurd rfl h
 | [p],_=>rfl
 |p::p2::l,_=>by
  rw[closeM];have h:=NS at_ x (p2::l) (by simp);have hl:=DU at_ x (p2::l);cases hc:closeM at_ x (p2::l)with
  |nil=>rw[hc]at hl;simp at hl
  |cons a b=>rw[hc]at h;rw[List.getLast?_cons_cons];exact h
theorem acp{raw:Bool}{n:Nat}{s s':Eo}(h:Says raw n s s')(hs:s.Ok):G6 raw s≤G6 raw s':=by obtain⟨h1,h2,-⟩:=h.grow hs;unfold G6;split<;>omega
section
variable{G:GeoM}{aH n:Nat}{t:A7}{k:Nat}
theorem Og(h:t.Ok G k):(Gw t k).c.Ok G∧(Gw t k).s.Ok:=by
 unfold Gw;split
 ·exact⟨h.c,h.s.len,h.s.cx,IC,Iw⟩
 ·exact⟨h.c,h.s⟩
theorem Ym(hg:1≤G.h)(h:t.Ok G k):(Oh G aH t k).c.Ok G∧(Oh G aH t k).s.Ok:=⟨aeF (Og h).1 _ _,(Fg hg _ _ _).ok (Og h).2⟩
theorem zu(h:t.Ok G k):(Dq G aH n t k).take t.first=t.fZ.take t.first:=by unfold Dq;rw[List.take_append_of_le_length (by rw[h.len];exact h.first)]
theorem aa4(h:t.Ok G k):(Dq G aH n t k).drop t.first=t.fZ.drop t.first++[(((G6 (yB G t k) (Oh G aH t k).s:Nat):Int),F7 G n k)]:=by unfold Dq;rw[List.drop_append_of_le_length (by rw[h.len];exact h.first)]
theorem O!(hg:1≤G.h)(h:t.Ok G k):((Dq G aH n t k).drop t.first).Pairwise (fun a b=>a.1≤b.1)∧∀p∈(Dq G aH n t k).drop t.first,p.1≤(G6 (yB G t k) (Oh G aH t k).s:Int):=by
 have hd:∀p∈t.fZ.drop t.first,p.1≤(G6 (yB G t k) (Oh G aH t k).s:Int):=by
  intro p hp;by_cases hk:k=t.first
  ·have:t.fZ.drop t.first=[]:=jq (by rw[h.len];omega);rw[this]at hp;cases hp
  ·have h1:=h.alx p hp;have h2:G6 t.raw t.q.s≤G6 (yB G t k) (Oh G aH t k).s:=by unfold Oh yB Gw;rw[aJ hk,aJ hk];exact acp (Fg hg _ _ _) h.s
   omega
 rw[aa4 h];refine⟨List.pairwise_append.2 ⟨h.up2,by simp,fun a ha b hb=>?_⟩,fun p hp=>?_⟩
 ·rw[fJ]at hb;subst hb;exact hd a ha
 ·rcases ay.1 hp with hp|hp
  ·exact hd p hp
  ·rw[fJ]at hp;subst hp;exact gG _
theorem VD(h:t.Ok G k):∀p∈Dq G aH n t k,0≤p.1:=by
 intro p hp;rcases ay.1 hp with hp|hp
 ·exact h.pos p hp
 ·rw[fJ]at hp;subst hp;exact Int.natCast_nonneg _
theorem adZ(h:t.Ok G k):(Dq G aH n t k).length=k+1:=by simp[Dq,h.len]
theorem Qu(hg:1≤G.h)(h:t.Ok G k):(qP G aH n t k).Ok G (k+1):=by
 obtain⟨q1,q2⟩:=Ym (aH:=aH) hg h;obtain⟨u1,u2⟩:=O! (aH:=aH) (n:=n) hg h;have hp:=VD (aH:=aH) (n:=n) h;have hl:=adZ (aH:=aH) (n:=n) h;have hf:=h.first;unfold qP;split
 ·obtain⟨x,hx⟩:=X_ (VN (yB G t k) (Oh G aH t k).s);rw[hx];have hd:(Dq G aH n t k).drop t.first≠[]:=by intro e;have:=fM List.length e;rw[fH,hl,List.length_nil]at this;omega
  have hlen:((Dq G aH n t k).take t.first++closeM t.bytes.length x ((Dq G aH n t k).drop t.first)).length=k+1:=by rw[au,DU,bT,fH,hl];omega
  have hT:∀p∈t.fZ.take t.first,p.1≤(t.bytes.length:Int):=h.top;have hR:=U6 t.bytes.length x ((Dq G aH n t k).drop t.first);refine⟨q1,⟨q2.len,q2.cx,TF q2.e,q2.r⟩,hlen,aN _,fun p hp'=>?_,?_,fun p hp'=>?_,fun _=>?_,fun e=>by simp at e,?_,?_⟩
  ·rcases ay.1 hp' with h1|h1
   ·exact hp p (List.mem_of_mem_take h1)
   ·have:=(hR p h1).1;omega
  ·rw[dC (by rw[hlen];exact aN _)];refine List.pairwise_append.2 ⟨by rw[zu h];exact h.up,TZ _ _ _ u1,fun a ha b hb=>?_⟩;rw[zu h]at ha;have h1:=hT a ha;have h2:=(hR b hb).1;omega
  ·have hp2:=List.mem_of_mem_take hp';simp only[au];rcases ay.1 hp2 with h1|h1
   ·rw[zu h]at h1;have:=hT p h1;push_cast;omega
   ·have:=(hR p h1).2;exact this
  ·rw[dC (by rw[hlen];exact aN _)];have h1:=NS t.bytes.length x _ hd;rw[List.getLast?_append];cases hc:(closeM t.bytes.length x ((Dq G aH n t k).drop t.first)).getLast? with
   |none=>rw[hc]at h1;cases h1
   |some c=>rw[hc]at h1;simpa using h1
  ·rw[jq (by rw[hlen];exact aN _)];exact List.Pairwise.nil
  ·rw[jq (by rw[hlen];exact aN _)];intro p hp';cases hp'
 ·exact⟨q1,q2,hl,Nat.le_succ_of_le hf,hp,by rw[zu h];exact h.up,by rw[zu h];exact h.top,by rw[zu h];exact h.last,h.none,u1,u2⟩
theorem Xu(h:k+1=n):(qP G aH n t k).first=k+1:=by unfold qP;rw[aK (by simp[F7,h])]
def A7.Few(B:Nat)(t:A7)(k:Nat):Prop:=t.bytes.length+(if t.first=k then 0 else t.q.s.size)≤k*B
theorem VC(hg:1≤G.h)(h:t.Ok G k)(B:Nat)(hB:16*(12*(G.w*G.h)+4)+4≤B)(hf:t.Few B k):t.bytes.length+(Oh G aH t k).s.size+3≤(k+1)*B∧t.bytes.length+(Gw t k).s.size≤k*B+1:=by
 have h1:=((Fg (raw:=yB G t k) (G:=G) hg aH k (Gw t k)).grow (Og h).2).2.2;have h2:(Oh G aH t k).s.size≤(Gw t k).s.size+16*(12*(G.w*G.h)+4):=h1;have h3:t.bytes.length+(Gw t k).s.size≤k*B+1:=by
  unfold A7.Few at hf;unfold Gw;by_cases hk:k=t.first
  ·rw[aK hk];rw[aK hk.symm]at hf;have:Eo.size ⟨t.q.s.cx,Aq,Aj⟩=1:=rfl;rw[this];omega
  ·rw[aJ hk];rw[aJ (fun e=>hk e.symm)]at hf;omega
 rw[jW];omega
theorem NJ(hg:1≤G.h)(h:t.Ok G k)(B:Nat)(hB:16*(12*(G.w*G.h)+4)+4≤B)(hf:t.Few B k):(qP G aH n t k).Few B (k+1):=by
 have h1:=(VC (aH:=aH) hg h B hB hf).1;have h2:=O7 (raw:=yB G t k) (Ym (aH:=aH) hg h).2;have h3:=h.first;unfold A7.Few qP;split
 ·simp only[au,ji];omega
 ·simp only;split<;>omega
end
theorem NK(G:GeoM):(lZ G).Ok G 0:=⟨⟨by simp[lZ,yt],by simp[lZ,yt],by simp[lZ,yt]⟩,⟨sZ.1,sZ.2,IC,Iw⟩,rfl,aN _,fun p hp=>by simp[lZ]at hp,by simp[lZ],fun p hp=>by simp[lZ]at hp,fun e=>absurd rfl e,fun _=>rfl,by simp[lZ],fun p hp=>by simp[lZ]at hp⟩
theorem TJ{G:GeoM}{aH n:Nat}(hg:1≤G.h)(B:Nat)(hB:16*(12*(G.w*G.h)+4)+4≤B):∀(f k:Nat) (t:A7),t.Ok G k→t.Few B k→(DR G aH n f k t).Ok G (k+f)∧(DR G aH n f k t).Few B (k+f)
 |0,k,t,h,hf=>⟨h,hf⟩
 |f+1,k,t,h,hf=>by have:=TJ (aH:=aH) (n:=n) hg B hB f (k+1) _ (Qu (aH:=aH) (n:=n) hg h) (NJ (aH:=aH) (n:=n) hg h B hB hf);rw[show k+(f+1)=k+1+f by omega];exact this
theorem Kv{G:GeoM}{aH n:Nat}:∀(f k:Nat) (t:A7),0<f→k+f=n→(DR G aH n f k t).first=n
 |0,k,t,h,_=>absurd h (by omega)
 |f+1,k,t,_,e=>by
  by_cases hf:f=0
  ·subst hf;show(qP G aH n t k).first=n;rw[Xu e];exact e
  ·exact Kv f (k+1) _ (by omega) (by omega)
structure aiv.Ok(b:aiv):Prop where
 len:b.fZ.length=oM b.aH
 pos:∀p∈b.fZ,0≤p.1∧p.1≤(b.bytes.length:Int)
 up:b.fZ.Pairwise fun a b=>a.1≤b.1
 last:b.fZ≠[]→(b.fZ.getLast?.map (·.1))=S_ (b.bytes.length:Int)
 none:b.fZ=[]→b.bytes=[]
theorem Jz(G:GeoM)(hg:1≤G.h):(jv G).Ok∧(jv G).bytes.length≤oM (jv G).aH*(16*(12*(G.w*G.h)+4)+4):=by
 obtain⟨h,hf⟩:=TJ (aH:=iO G.yl) (n:=oM (iO G.yl)) hg _ (aN _) (oM (iO G.yl)) 0 (lZ G) (NK G) (by unfold A7.Few;simp[lZ]);rw[dH]at h hf;by_cases h0:oM (iO G.yl)=0
 ·have e:jv G=⟨iO G.yl,[],[]⟩:=by unfold jv;rw[h0];rfl
  rw[e];exact⟨⟨by rw[h0];rfl,fun p hp=>by(cases hp),List.Pairwise.nil,fun e=>absurd rfl e,fun _=>rfl⟩,by simp⟩
 ·have e:=Kv (G:=G) (aH:=iO G.yl) (n:=oM (iO G.yl)) (oM (iO G.yl)) 0 (lZ G) (by omega) (by omega);obtain⟨t,ht⟩:=X_ (DR G (iO G.yl) (oM (iO G.yl)) (oM (iO G.yl)) 0 (lZ G));have e2:jv G=⟨iO G.yl,t.fZ,t.bytes⟩:=by unfold jv;rw[ht]
  rw[ht]at h hf e;have et:t.fZ.take t.first=t.fZ:=dC (by rw[h.len,e];exact aN _);have k1:=h.up;have k2:=h.top;have k3:=h.last;rw[et]at k1 k2 k3;rw[e2];refine⟨⟨h.len,fun p hp=>⟨h.pos p hp,k2 p hp⟩,k1,fun _=>k3 (by omega),fun e3=>?_⟩,?_⟩
  ·have:=h.len;simp only at e3;rw[e3]at this;simp at this;omega
  ·unfold A7.Few at hf;simp only;omega
def D9(p m:Nat):Nat:=if m=0 then p else max p (m.log2+1)
theorem Rk(l:List Nat)(i:Nat){m:Nat}(h:l[i]?=S_ m):iO (l.take (i+1))=D9 (iO (l.take i)) m:=by unfold iO;rw[eU,h,dP];rfl
theorem Nw(l:List Nat)(B:Nat)(h:∀m∈l,m<2^B):iO l≤B:=by
 have key:∀(l:List Nat) (p:Nat),(∀m∈l,m<2^B)→p≤B→l.foldl (fun p m=>if m=0 then p else max p (m.log2+1)) p≤B:=by
  intro l
  induction l with
  |nil=>intro p _ hp;exact hp
  |cons m l ih=>
   intro p hm hp;refine ih _ (fun m h=>hm m (aU _ h)) ?_;show(if m=0 then p else max p (m.log2+1))≤B;split
   ·exact hp
   ·next h0=>
    have:=(uV h0 (k:=B)).2 (hm m aG);omega
 exact key l 0 h (aY _)
theorem Yj{p q m:Nat}(h:0<m/2^q):q+1≤D9 p m:=by
 have h1:2^q≤m:=by
  rcases Nat.lt_or_ge m (2^q)with h2|h2
  ·rw[Nat.div_eq_of_lt h2]at h;exact absurd h (by decide)
  ·exact h2
 have h0:m≠0:=by have:=rF q;omega
 have h2:=(Nat.le_log2 h0 (k:=q)).2 h1;unfold D9;rw[aJ h0];omega
theorem Yk{p q m:Nat}(h:¬0<m/2^q)(hp:p≤q)(hq:q≤D9 p m):q=D9 p m:=by
 have h1:m<2^q:=by
  rcases Nat.lt_or_ge m (2^q)with h2|h2
  ·exact h2
  ·exact absurd (Nat.div_pos h2 (rF q)) h
 unfold D9 at hq⊢;split at hq
 ·next h0=>rw[aK h0];omega
 ·next h0=>
  rw[aJ h0];have:=(uV h0 (k:=q)).2 h1;omega
def zG(l:List Nat)(i:Nat):List Nat:=l.take i++List.replicate (l.length-i) 0
theorem Tf(l:List Nat):zG l 0=List.replicate l.length 0:=by simp[zG]
theorem WT(l:List Nat):zG l l.length=l:=by simp[zG]
theorem P6(l:List Nat)(i:Nat)(h:i≤l.length):(zG l i).length=l.length:=by simp[zG];omega
theorem WS(l:List Nat)(i:Nat){m:Nat}(h:l[i]?=S_ m):(zG l i).set i m=zG l (i+1):=by have hi:=(aj.1 h).1;unfold zG;rw[eU,h,dZ _ _ (by rw[bT];omega),bT,show i-min i l.length=0 by omega,show l.length-i=(l.length-(i+1))+1 by omega,List.replicate_succ];simp
theorem aeV(l:List Nat)(i:Nat){m:Nat}(h:l[i]?=S_ m):(zG l (i+1))[i]?=S_ m:=by have hi:=(aj.1 h).1;unfold zG;rw[df (by rw[bT];omega),iC,aK (by omega),h]
def C!(at_:Nat)(x:List UInt8)(ps:List (Int×Bool))(first j:Nat)(cur:List (Int×Bool)):Prop:= ∀i,cur[i]?=if first≤i∧i<j then(ps[i]?).map fun p=>(((at_+FQ x p.1.toNat:Nat):Int),p.2)else ps[i]?
theorem C!.start(at_:Nat)(x:List UInt8)(ps:List (Int×Bool))(first:Nat):C! at_ x ps first first ps:=by intro i;rw[aJ (by omega)]
theorem C!.len{at_:Nat}{x:List UInt8}{ps cur:List (Int×Bool)}{first j:Nat}(h:C! at_ x ps first j cur):cur.length=ps.length:=by
 have hl:∀i,i<cur.length↔i<ps.length:=by
  intro i;have h1:=h i;have e1:i<cur.length↔(cur[i]?).isSome=T_:=by simp
  have e2:i<ps.length↔(ps[i]?).isSome=T_:=by simp
  rw[e1,e2,h1];split
  ·simp
  ·rfl
 have h1:=hl cur.length;have h2:=hl ps.length;omega
theorem C!.get{at_:Nat}{x:List UInt8}{ps cur:List (Int×Bool)}{first j:Nat}(h:C! at_ x ps first j cur){p:Int×Bool}(hp:ps[j]?=S_ p):cur[j]?=S_ p:=by rw[h j,aJ (by omega),hp]
theorem C!.step{at_:Nat}{x:List UInt8}{ps cur:List (Int×Bool)}{first j:Nat}(h:C! at_ x ps first j cur)(hf:first≤j){p:Int×Bool}(hp:ps[j]?=S_ p):C! at_ x ps first (j+1) (cur.set j (((at_+FQ x p.1.toNat:Nat):Int),p.2)):=by
 intro i;rw[fQ];have hl:=h.len;have hj:=(aj.1 hp).1;by_cases e:j=i
 ·subst e;rw[aK rfl,aK (by omega),aK (by omega),hp];rfl
 ·rw[aJ e,h i];by_cases h1:first≤i∧i<j
  ·rw[aK h1,aK (by omega)]
  ·rw[aJ h1,aJ (by omega)]
theorem QK(at_:Nat)(x:List UInt8):∀(l:List (Int×Bool)) (i:Nat),(closeM at_ x l)[i]?=if i+1=l.length then(l[i]?).map fun p=>(((at_+x.length:Nat):Int),p.2)else(l[i]?).map fun p=>(((at_+FQ x p.1.toNat:Nat):Int),p.2)
 | [],i=>by simp[closeM]
 | [p],0=>rfl
 | [p],i+1=>by simp[closeM]
 |p::p2::l,0=>by rw[aJ (by simp)];rfl
 |p::p2::l,i+1=>by
  have:=QK at_ x (p2::l) i;rw[closeM,List.getElem?_cons_succ,this];simp only[List.length_cons,List.getElem?_cons_succ];by_cases e:i+1=l.length+1
  ·rw[aK e,aK (by omega)]
  ·rw[aJ e,aJ (by omega)]
theorem C!.all{at_:Nat}{x:List UInt8}{ps cur:List (Int×Bool)}{first k:Nat}(h:C! at_ x ps first (k+1) cur)(hl:ps.length=k+1)(hf:first≤k){p:Int×Bool}(hp:cur[k]?=S_ p):cur.set k (((at_+x.length:Nat):Int),p.2)=ps.take first++closeM at_ x (ps.drop first):=by
 apply fU;intro i;have hcl:=h.len;have htl:(ps.take first).length=first:=by rw[bT];omega
 rw[fQ];by_cases h1:i<first
 ·rw[aJ (by omega),h i,aJ (by omega),df (by omega),iC,aK h1]
 ·rw[aZ (by omega),htl,QK,fH,nZ,show first+(i-first)=i by omega];by_cases e:k=i
  ·subst e;rw[aK rfl,aK (by omega),aK (by omega)];have h2:=h k;rw[aK (by omega),hp]at h2;cases hq:ps[k]? with
   |none=>rw[hq]at h2;cases h2
   |some q=>rw[hq]at h2;simp only[Option.map_some,dG]at h2;simp only[Option.map_some];rw[h2]
  ·rw[aJ e,aJ (by omega),h i];by_cases h3:i<k+1
   ·rw[aK (by omega)]
   ·rw[aJ (by omega),iQ (by omega)];rfl
end
section
open Go.RowKit
def F8:List Value:=qeT.flatMap fun s=>[i_ l_ s.qe,i_ l_ s.Fj,i_ l_ s.Tn,i_ l_ (if s.swap then 1 else 0)]
def buildAll(P:Program):List Oper→Act→Option Act
 | [],a=>S_ a
 |o::l,a=>
  match o.guard,o.op with
  |none,.build t parts=>match P.built t (parts.map fun(i,x)=>(i,a.eval x)).toList with
   |some c=>buildAll P l (a.put o.dst (g_ c))
   |none=>N_
  |_,_=>N_
theorem F5{P:Program}{ops:Array Oper}{rest:List Oper}{w:World}{Q:Exit→Act→World→Prop}:∀(l:List Oper) (a a':Act),buildAll P l a=S_ a'→wpList P ops Q rest a' w→wpList P ops Q (l++rest) a w
 | [],a,a',h,k=>by simp only[buildAll,dG]at h;subst h;exact k
 |o::l,a,a',h,k=>by
  unfold buildAll at h;split at h
  ·rename_i t parts hg ho;split at h
   ·rename_i c hc;refine wpList_build hg t parts ho (by rw[hc];rfl) ?_;rw[hc];exact F5 l _ a' h k
   ·cases h
  ·cases h
theorem zx{w:World}{g:Nat}{t:TypeId}{old cs:Array Value}(hb:zh w g t old):Mv w [⟨g,t,old⟩] (w.setRow g cs) [⟨g,t,cs⟩]:=Mv.WI ⟨rfl,rfl,rfl,by simp,fun k hk hn=>setRow_other w g k cs (fun e=>hn (by rw[e]))⟩ (setRow_heap w g old cs t (0,0) hb)
theorem Gg{P:Program}:∀(l:List Oper) (a a':Act),buildAll P l a=S_ a'→a'.defers=a.defers
 | [],a,a',h=>by simp only[buildAll,dG]at h;rw[h]
 |o::l,a,a',h=>by
  unfold buildAll at h;split at h
  ·split at h
   ·have:=Gg l _ a' h;rw[this];cases o.dst<;>rfl
   ·cases h
  ·cases h
theorem Ug{P:Program}{ops:Array Oper}{L:List Oper}{o:Oper}{a:Act}{w:World}{Q:Exit→Act→World→Prop}(n g:Nat)(ty t:TypeId)(x y:Operand)(cells old:Array Value)
 (h:(buildAll P (L.take n) a).map (fun a'=>(a'.eval x,a'.eval y))=S_ (p_ (S_ ⟨g,0,N_⟩),g_ cells)) (hd:L.drop n=[o]) (ho:o.op=.store ty x y) (hgd:o.guard=N_) (hds:o.dst=N_)
 (hb:zh w g t old) (hi:(P.info? ty).map (·.size)=S_ cells.size) (hold:old.size=cells.size) (h1:cells.all (·.oneCell')=T_)
 (hQ:∀a':Act,a'.eval x=p_ (S_ ⟨g,0,N_⟩)→a'.defers=a.defers→Q .normal (a'.put N_ undef) (w.setRow g cells)):wpList P ops Q L a w:=by
 obtain⟨a',h2,h3⟩:=iU.1 h;simp only[fK]at h3;rw[←iP n L,hd];refine F5 _ _ _ h2 (tK hgd ty x y ho g cells h3.1 h3.2 t old hb hi hold h1 ?_);rw[hds];exact hQ a' h3.1 (Gg _ _ _ h2)
theorem ab2(w:World):Calls P_ 141 #[] w fun e w'=>e=r_ (g_ F8.toArray)∧Mv w [] w' []:=by obtain⟨w1,hw1⟩:=Y_ (w.alloc (.cells Tryz.zeroCells225 225));have M1:=iF w 225 Tryz.zeroCells225;rw[←hw1]at M1;have M2:=M1.trans (zx (cs:=F8.toArray) (M1.sat.2 _ aG));have HB:zh w1 w.heap.size 225 Tryz.zeroCells225:=M1.sat.2 _ aG;go_enter Tryz.func141,Tryz.ntmps141;go_upto_region 1 with fail;rw[←hw1];refine wp_region_list ?_;refine Ug 48 w.heap.size 225 225 (.tmp 0) (.tmp 48) F8.toArray Tryz.zeroCells225 (by kernel_rfl) rfl rfl rfl rfl HB (by kernel_rfl) (by kernel_rfl) (by kernel_rfl) ?_;intro a' e1 e2;rename_i K hK;refine hK _ _ ?_;refine wp_ret ?_;refine dU (v:=g_ F8.toArray) (iT Tryz.results141 _ _ w.heap.size 225 _ (0,0) _ (by simpa[Act.put,Act.eval]using e1) (M2.sat.2 _ aG) Tryz.underlying225 rfl (by kernel_rfl)) (e2.trans rfl) (And.intro rfl M2.drop1)
theorem NV{P:Program}{ops:Array Oper}{rest:List Oper}{o:Oper}{a:Act}{w:World}{Q:Exit→Act→World→Prop}(hg:o.guard=N_)(t:TypeId)(parts:Array (Nat×Operand))(ho:o.op=.build t parts)(cells:Array Value)(hf:P.built t (parts.map fun(i,x)=>(i,a.eval x)).toList=S_ cells)(h:wpList P ops Q rest (a.put o.dst (g_ cells)) w):wpList P ops Q (o::rest) a w:=wpList_build hg t parts ho (by rw[hf];rfl) (by rw[hf];exact h)
theorem Mv.behind{w0 w:World}{H0 B:List HB}{x y:HB}(h:Mv w0 H0 w (x::y::B)):Mv w0 H0 w (B++[x,y]):=h.Z_
theorem Mv.second{w0 w:World}{H0 A:List HB}{x y:HB}(h:Mv w0 H0 w (A++[x,y])):Mv w0 H0 w (y::A):=h.Z_
def y8(eg a c ct:Nat)(v:Value):HB:=⟨eg,187,#[i_ l_ a,i_ l_ c,i_ l_ ct,v]⟩
def Ou(eg:Nat)(e:kV)(H:List HB):Prop:=∃vb Hb,H=y8 eg e.a e.c e.ct vb::Hb∧dR vb e.b Hb
theorem ahA(w:World):Calls P_ 57 #[] w fun e w'=>∃eg H,e=r_ (p_ (S_ ⟨eg,0,N_⟩))∧Ou eg Aq H∧Mv w [] w' H:=by have M:=(iF w 5 #[i_ .u8 0]).alloc 187 #[i_ l_ 32768,i_ l_ 0,i_ l_ 12,s_ (S_ ⟨w.heap.size,0,N_⟩) 1 1];rw[jV]at M;have K:=af M;clear M;go_enter Tryz.func57,Tryz.ntmps57;go_wp2_with fail;go_ret;exact⟨_,_,rfl,⟨_,_,rfl,dR.lit w.heap.size [0] 1 rfl (by decide)⟩,K.out⟩
theorem LU(n:Nat):(n:Int)%256=((UInt8.ofNat n).toNat:Int):=by rw[uq];omega
theorem XI(c d:Nat):IntKind.u8.wrap ((c:Int)/(d:Int))=((UInt8.ofNat (c/d)).toNat:Int):=by rw[xQ,←LU,Int.natCast_ediv]
theorem WV(i c:Nat)(hi:i≤63)(hc:c<9223372036854775808):bits .and l_ (c:Int) ((2:Int)^i-1)=((c%2^i:Nat):Int):=by rw[af4 i hi c (by omega) (by omega)];push_cast;rfl
theorem aeZ(c:Nat)(hc:c<9223372036854775808):bits .and l_ (c:Int) 1048575=((c%2^20:Nat):Int):=WV 20 c (by decide) hc
theorem ae0(c:Nat)(hc:c<9223372036854775808):bits .and l_ (c:Int) 524287=((c%2^19:Nat):Int):=WV 19 c (by decide) hc
theorem aiy(c:Nat):IntKind.u8.wrap ((c:Int)/1048576)=((UInt8.ofNat (c/2^20)).toNat:Int):=XI c (2^20)
theorem aiz(c:Nat):IntKind.u8.wrap ((c:Int)/524288)=((UInt8.ofNat (c/2^19)).toNat:Int):=XI c (2^19)
theorem Gv{q:UInt8}(h:q≠255):¬((q.toNat:Int)=255):=fun e=>h (gU.1 (show q.toNat=255 by omega))
theorem Ik{q:UInt8}(h:q≠255):((q.toNat:Int)==255)=F_:=bF.2 (Gv h)
theorem adL(q:UInt8)(h:q≠255):((q+1).toNat:Int)=q.toNat+1:=by have h1:q.toNat≠255:=fun e=>h (gU.1 (by rw[e];rfl));have h2:=q.toNat_lt;rw[UInt8.toNat_add];have:(1:UInt8).toNat=1:=rfl;rw[this];omega
theorem akp(eg:Nat)(e:kV)(w:World)(H:List HB)(h:Ou eg e H)(hs:Sat w H)(hb:e.b≠[])(hl:e.b.length≤90000000)(hc:e.c≤1000000000000)(hq:e.b.getLastD 0=255):Calls P_ 104 #[p_ (S_ ⟨eg,0,N_⟩)] w fun e0 w'=>e0=r_ (t_ #[])∧∃H',Ou eg (yc e) H'∧Mv w H w' H':=by
 obtain⟨a,cc,ct,b⟩:=e;simp only at hb hl hc hq;have EO:yc ⟨a,cc,ct,b⟩=⟨a,cc%2^20,7,b++[UInt8.ofNat (cc/2^20)]⟩:=by unfold yc wY Wq;simp only[hq,ne_eq,not_true_eq_false,false_and,iJ,ji]
 rw[EO];obtain⟨vb,Hb,rfl,hr⟩:=h;simp only at hr;have hb0:0<b.length:=fP.2 hb;obtain⟨g,cp,rfl,-,-⟩:=hr.last (hs.right (A:=[_])) hb0;have M0:=Mv.refl hs;obtain⟨n,hn⟩:=X_ (b.length);have hn0:0<n:=by omega
 have hnl:n≤90000000:=by omega
 rw[hn]at hr M0⊢;simp only at M0;have c0:w.cell? ⟨eg,3,N_⟩=S_ (s_ (S_ ⟨g,0,N_⟩) n cp):=M0.cell 0 rfl 3;have c1:w.cell? ⟨eg,1,N_⟩=S_ (i_ l_ cc):=M0.cell 0 rfl 1;obtain⟨k1,k2⟩:=hr.xX (hs.right (A:=[_])) hn hn0;have f1:w.frozen? ⟨eg,1,N_⟩=F_:=M0.frozen 0 rfl 1;have d2:(n:Int)-1=((n-1:Nat):Int):=by omega
 have d3:(((n-1:Nat):Int))<(n:Int):=by omega
 rw[hq]at k1;obtain⟨x,hx⟩:=X_ (UInt8.ofNat (cc/2^20));have XZ:=aiy cc;have hm:=aeZ cc (by omega);rw[hx]at XZ⊢;have K:=nY hr M0 hn;clear hn hr M0 hs hb hl hb0 hq EO hx;go_enter Tryz.func104,Tryz.ntmps104;go_upto_region 5 with fail;have JI:=K.2.1.alloc 5 #[i_ .u8 (x.toNat:Int)];have y7:=JI.cell 1 rfl 3;have A1:Hid (BV (w.alloc (.cells #[i_ .u8 (x.toNat:Int)] 5)).drew (s_ (S_ ⟨w.heap.size,0,N_⟩) 1 1) [x]):=af (BU w x _ rfl);have K1:=af (Mv.behind JI.drew);clear JI;go_region_law (first|((with_reducible refine vU (o:=⟨S_ 61,_,_,_,_,_⟩) (v:=s_ (S_ ⟨g,0,N_⟩) n cp) (u:=s_ (S_ ⟨w.heap.size,0,N_⟩) 1 1) (l:=b) (r:=[x]) (H:=Hb) rfl (.tmp 53) (.tmp 60) rfl ?_ ?_ K.out.1 K1.out.sat.left A1.out ?_ ?_);simp[Act.eval];simp[Act.eval];(rw[K.2.2];simp;omega);intro v6 w6 H6 yN m6;obtain⟨a6,c6,rfl⟩:=yN.slice;have M6:=Mv.second (Mv.call K1 m6);have y3:=M6.cell 0 rfl 3;have y1:=M6.cell 0 rfl 1;have z3:=M6.frozen 0 rfl 3;have K6:=dS yN M6;clear yN m6 M6))
 all_goals have M7:=K6.2.set 3 (s_ a6 (b.length+1) c6);obtain⟨w7,hw7⟩:=Y_ (w6.setCell ⟨eg,3,N_⟩ (s_ a6 (b.length+1) c6));rw[←hw7]at M7⊢;have e1:=M7.cell 0 rfl 1;have f1:=M7.frozen 0 rfl 1;have e2:=M7.cell 0 rfl 2;have f2:=M7.frozen 0 rfl 2;have K7:=af M7;clear hw7 M7 y1 y3 z3;go_wp2_with fail;have M9:=(K7.out.set 1 (i_ l_ (cc%2^20:Nat))).set 2 (i_ l_ 7);have h6:=K6.1;simp only[au,List.length_cons,List.length_nil,dH]at h6;exact dU (bH rfl _ _ _) rfl ⟨rfl,_,⟨_,H6,rfl,h6⟩,M9⟩
theorem ako(eg:Nat)(e:kV)(w:World)(H:List HB)(h:Ou eg e H)(hs:Sat w H)(hb:e.b≠[])(hl:e.b.length≤90000000)(hc:e.c≤1000000000000)(hq:e.b.getLastD 0≠255)(hcc:e.c<134217728):Calls P_ 104 #[p_ (S_ ⟨eg,0,N_⟩)] w fun e0 w'=>e0=r_ (t_ #[])∧∃H',Ou eg (yc e) H'∧Mv w H w' H':=by
 obtain⟨a,cc,ct,b⟩:=e;simp only at hb hl hc hq hcc;have EO:yc ⟨a,cc,ct,b⟩=⟨a,cc%2^19,8,b++[UInt8.ofNat (cc/2^19)]⟩:=by
  have h1:¬(b.getLastD 0≠255∧134217728≤cc):=fun k=>by omega
  unfold yc wY Wq;rw[aJ h1,aJ hq]
 rw[EO];obtain⟨vb,Hb,rfl,hr⟩:=h;simp only at hr;have hb0:0<b.length:=fP.2 hb;obtain⟨g,cp,rfl,-,-⟩:=hr.last (hs.right (A:=[_])) hb0;have M0:=Mv.refl hs;obtain⟨n,hn⟩:=X_ (b.length);have hn0:0<n:=by omega
 have hnl:n≤90000000:=by omega
 rw[hn]at hr M0⊢;simp only at M0;have c0:w.cell? ⟨eg,3,N_⟩=S_ (s_ (S_ ⟨g,0,N_⟩) n cp):=M0.cell 0 rfl 3;have c1:w.cell? ⟨eg,1,N_⟩=S_ (i_ l_ cc):=M0.cell 0 rfl 1;obtain⟨k1,k2⟩:=hr.xX (hs.right (A:=[_])) hn hn0;have f1:w.frozen? ⟨eg,1,N_⟩=F_:=M0.frozen 0 rfl 1;have d2:(n:Int)-1=((n-1:Nat):Int):=by omega
 have d3:(((n-1:Nat):Int))<(n:Int):=by omega
 obtain⟨q,hqq⟩:=X_ (b.getLastD 0);rw[hqq]at k1 hq;have ig:q≠255:=hq;have q0:=Ik ig;have q9:=Gv ig;have d5:decide ((134217728:Int)≤cc)=F_:=by simp;omega
 obtain⟨x,hx⟩:=X_ (UInt8.ofNat (cc/2^19));have XZ:=aiz cc;have hm:=ae0 cc (by omega);rw[hx]at XZ⊢;have K:=nY hr M0 hn;clear hn hr M0 hs hb hl hb0 hq EO hx hqq hcc ig;go_enter Tryz.func104,Tryz.ntmps104;go_upto_region 8 with fail;have JI:=K.2.1.alloc 5 #[i_ .u8 (x.toNat:Int)];have y7:=JI.cell 1 rfl 3;have A1:Hid (BV (w.alloc (.cells #[i_ .u8 (x.toNat:Int)] 5)).drew (s_ (S_ ⟨w.heap.size,0,N_⟩) 1 1) [x]):=af (BU w x _ rfl);have K1:=af (Mv.behind JI.drew);clear JI;go_region_law (first|((with_reducible refine vU (o:=⟨S_ 87,_,_,_,_,_⟩) (v:=s_ (S_ ⟨g,0,N_⟩) n cp) (u:=s_ (S_ ⟨w.heap.size,0,N_⟩) 1 1) (l:=b) (r:=[x]) (H:=Hb) rfl (.tmp 79) (.tmp 86) rfl ?_ ?_ K.out.1 K1.out.sat.left A1.out ?_ ?_);simp[Act.eval];simp[Act.eval];(rw[K.2.2];simp;omega);intro v6 w6 H6 yN m6;obtain⟨a6,c6,rfl⟩:=yN.slice;have M6:=Mv.second (Mv.call K1 m6);have y3:=M6.cell 0 rfl 3;have y1:=M6.cell 0 rfl 1;have z3:=M6.frozen 0 rfl 3;have K6:=dS yN M6;clear yN m6 M6))
 all_goals have M7:=K6.2.set 3 (s_ a6 (b.length+1) c6);obtain⟨w7,hw7⟩:=Y_ (w6.setCell ⟨eg,3,N_⟩ (s_ a6 (b.length+1) c6));rw[←hw7]at M7⊢;have e1:=M7.cell 0 rfl 1;have f1:=M7.frozen 0 rfl 1;have e2:=M7.cell 0 rfl 2;have f2:=M7.frozen 0 rfl 2;have K7:=af M7;clear hw7 M7 y1 y3 z3;go_wp2_with fail;have M9:=(K7.out.set 1 (i_ l_ (cc%2^19:Nat))).set 2 (i_ l_ 8);have h6:=K6.1;simp only[au,List.length_cons,List.length_nil,dH]at h6;exact dm (bH rfl _ _ _) rfl ⟨rfl,_,⟨_,H6,rfl,h6⟩,M9⟩
theorem ajb(eg:Nat)(e:kV)(w:World)(H:List HB)(h:Ou eg e H)(hs:Sat w H)(hb:e.b≠[])(hl:e.b.length≤90000000)(hc:e.c≤1000000000000)(hq:e.b.getLastD 0=254)(hcc:134217728≤e.c):Calls P_ 104 #[p_ (S_ ⟨eg,0,N_⟩)] w fun e0 w'=>e0=r_ (t_ #[])∧∃H',Ou eg (yc e) H'∧Mv w H w' H':=by
 obtain⟨a,cc,ct,b⟩:=e;simp only at hb hl hc hq hcc;have EO:yc ⟨a,cc,ct,b⟩=⟨a,(cc-134217728)%2^20,7,b.dropLast++[b.getLastD 0+1]++[UInt8.ofNat ((cc-134217728)/2^20)]⟩:=by
  have h1:b.getLastD 0≠255∧134217728≤cc:=⟨by rw[hq];decide,hcc⟩;have h2:(b.dropLast++[b.getLastD 0+1]).getLastD 0=b.getLastD 0+1:=by simp
  unfold yc wY Wq;rw[aK h1];simp only[h2];rw[aK (by rw[hq];rfl)]
 rw[EO];obtain⟨vb,Hb,rfl,hr⟩:=h;simp only at hr;have hb0:0<b.length:=fP.2 hb;obtain⟨g,cp,rfl,-,-⟩:=hr.last (hs.right (A:=[_])) hb0;have M0:=Mv.refl hs;obtain⟨n,hn⟩:=X_ (b.length);have hn0:0<n:=by omega
 have hnl:n≤90000000:=by omega
 rw[hn]at hr M0⊢;simp only at M0;have c0:w.cell? ⟨eg,3,N_⟩=S_ (s_ (S_ ⟨g,0,N_⟩) n cp):=M0.cell 0 rfl 3;have c1:w.cell? ⟨eg,1,N_⟩=S_ (i_ l_ cc):=M0.cell 0 rfl 1;obtain⟨k1,k2⟩:=hr.xX (hs.right (A:=[_])) hn hn0;have f1:w.frozen? ⟨eg,1,N_⟩=F_:=M0.frozen 0 rfl 1;have d2:(n:Int)-1=((n-1:Nat):Int):=by omega
 have d3:(((n-1:Nat):Int))<(n:Int):=by omega
 obtain⟨q,hqq⟩:=X_ (b.getLastD 0);rw[hqq]at k1 hq;have ig:q≠255:=by rw[hq];decide
 have aiG:q=254:=hq;have q0:=Ik ig;have q9:=Gv ig;have q1:=(adL q ig).symm;have ql:(q.toNat:Int)<255:=by have:=(q+1).toNat_lt;omega
 have d5:decide ((134217728:Int)≤cc)=T_:=by simp;omega
 have cw:(cc:Int)-134217728=((cc-134217728:Nat):Int):=by omega
 have cl:cc-134217728≤1000000000000:=by omega
 obtain⟨c1',hc1'⟩:∃c1',cc-134217728=c1':=⟨_,rfl⟩;rw[hc1']at cw cl⊢;rw[hqq];obtain⟨H1,j1,j2⟩:=dR.GG (by rw[hn];exact hr) (hs.right (A:=[_])) (by omega) (q+1);rw[hn]at j1 j2;have M1:=Mv.call (R:=[y8 eg a cc ct (s_ (S_ ⟨g,0,N_⟩) n cp)]) (M0.sub (H1:=Hb++[y8 eg a cc ct (s_ (S_ ⟨g,0,N_⟩) n cp)]) (fun g=>by simp only[aP,bK,gI];omega) (fun c hc=>by simp only[ay,aC]at hc⊢;grind)) j2;have M2:Mv w _ _ (y8 eg a cc ct (s_ (S_ ⟨g,0,N_⟩) n cp)::H1):=M1.Z_;have g1:=M2.cell 0 rfl 1;have g2:=M2.frozen 0 rfl 1;have M3:=M2.set 1 (i_ l_ c1');obtain⟨q',hq'⟩:∃q',q+1=q':=⟨_,rfl⟩;rw[hq']at M1 M2 M3 g1 g2 q1 j1⊢;obtain⟨b1,hb1⟩:=X_ (b.dropLast++[q']);rw[hb1]at j1⊢;have hn1:b1.length=n:=by rw[←hb1,au,iV,List.length_singleton];omega
 have hl1:b1.getLastD 0=q':=by rw[←hb1];simp
 obtain⟨x,hx⟩:=X_ (UInt8.ofNat (c1'/2^20));have XZ:=aiy c1';have hm:=aeZ c1' (by omega);rw[hx]at XZ⊢;obtain⟨kk1,kk2⟩:=j1.xX (M3.sat.right (A:=[_])) hn1 hn0;rw[hl1]at kk1;have y0:=M3.cell 0 rfl 3;have y1:=M3.cell 0 rfl 1;have K:=nY j1 M3 hn1;obtain⟨w1,hw1⟩:=Y_ ((w.setCell ⟨g,n-1,N_⟩ (i_ .u8 (q'.toNat:Int))).setCell ⟨eg,1,N_⟩ (i_ l_ c1'));rw[←hw1]at kk1 kk2 y0 y1 K;have HW:=af hw1;clear hn hr M0 hs hb hl hb0 hq EO j1 j2 M1 M2 M3 hb1 hn1 hl1 hx hqq hc1' hcc ig hw1;have q2:((q'.toNat:Int)==255)=T_:=by rw[←q1,aiG];rfl
 clear aiG hq';go_enter Tryz.func104,Tryz.ntmps104;have Q1:=af q1;have CW:=af cw;clear q1 cw;go_upto_region 2 with fail;have q1:=Q1.out;go_upto_region 3 with fail;clear q1;have cw:=CW.out;go_upto_region 4 with fail;clear cw;rw[←HW.out];clear HW c0 c1 k1 k2 f1 g1 g2;go_upto_region 5 with fail;have JI:=K.2.1.alloc 5 #[i_ .u8 (x.toNat:Int)];have y7:=JI.cell 1 rfl 3;have A1:Hid (BV (w1.alloc (.cells #[i_ .u8 (x.toNat:Int)] 5)).drew (s_ (S_ ⟨w1.heap.size,0,N_⟩) 1 1) [x]):=af (BU w1 x _ rfl);have K1:=af (Mv.behind JI.drew);clear JI;go_region_law (first|((with_reducible refine vU (o:=⟨S_ 61,_,_,_,_,_⟩) (v:=s_ (S_ ⟨g,0,N_⟩) n cp) (u:=s_ (S_ ⟨w1.heap.size,0,N_⟩) 1 1) (l:=b1) (r:=[x]) (H:=H1) rfl (.tmp 53) (.tmp 60) rfl ?_ ?_ K.out.1 K1.out.sat.left A1.out ?_ ?_);simp[Act.eval];simp[Act.eval];(rw[K.2.2];simp;omega);intro v6 w6 H6 yN m6;obtain⟨a6,c6,rfl⟩:=yN.slice;have M6:=Mv.second (Mv.call K1 m6);have y3:=M6.cell 0 rfl 3;have y1:=M6.cell 0 rfl 1;have z3:=M6.frozen 0 rfl 3;have K6:=dS yN M6;clear yN m6 M6))
 all_goals have M7:=K6.2.set 3 (s_ a6 (b1.length+1) c6);obtain⟨w7,hw7⟩:=Y_ (w6.setCell ⟨eg,3,N_⟩ (s_ a6 (b1.length+1) c6));rw[←hw7]at M7⊢;have e1:=M7.cell 0 rfl 1;have f1:=M7.frozen 0 rfl 1;have e2:=M7.cell 0 rfl 2;have f2:=M7.frozen 0 rfl 2;have K7:=af M7;clear hw7 M7 y1 y3 z3;go_wp2_with fail;have M9:=(K7.out.set 1 (i_ l_ (c1'%2^20:Nat))).set 2 (i_ l_ 7);have h6:=K6.1;simp only[au,List.length_cons,List.length_nil,dH]at h6;exact dU (bH rfl _ _ _) rfl ⟨rfl,_,⟨_,H6,rfl,h6⟩,M9⟩
theorem aja(eg:Nat)(e:kV)(w:World)(H:List HB)(h:Ou eg e H)(hs:Sat w H)(hb:e.b≠[])(hl:e.b.length≤90000000)(hc:e.c≤1000000000000)(hq:e.b.getLastD 0≠255)(hq2:e.b.getLastD 0≠254)(hcc:134217728≤e.c):Calls P_ 104 #[p_ (S_ ⟨eg,0,N_⟩)] w fun e0 w'=>e0=r_ (t_ #[])∧∃H',Ou eg (yc e) H'∧Mv w H w' H':=by
 obtain⟨a,cc,ct,b⟩:=e;simp only at hb hl hc hq hcc hq2;have EO:yc ⟨a,cc,ct,b⟩=⟨a,(cc-134217728)%2^19,8,b.dropLast++[b.getLastD 0+1]++[UInt8.ofNat ((cc-134217728)/2^19)]⟩:=by
  have h1:b.getLastD 0≠255∧134217728≤cc:=⟨hq,hcc⟩;have h2:(b.dropLast++[b.getLastD 0+1]).getLastD 0=b.getLastD 0+1:=by simp
  unfold yc wY Wq;rw[aK h1];simp only[h2];rw[aJ (fun k=>hq2 (by have:=fM (fun x=>x-1) k;simpa using this))]
 rw[EO];obtain⟨vb,Hb,rfl,hr⟩:=h;simp only at hr;have hb0:0<b.length:=fP.2 hb;obtain⟨g,cp,rfl,-,-⟩:=hr.last (hs.right (A:=[_])) hb0;have M0:=Mv.refl hs;obtain⟨n,hn⟩:=X_ (b.length);have hn0:0<n:=by omega
 have hnl:n≤90000000:=by omega
 rw[hn]at hr M0⊢;simp only at M0;have c0:w.cell? ⟨eg,3,N_⟩=S_ (s_ (S_ ⟨g,0,N_⟩) n cp):=M0.cell 0 rfl 3;have c1:w.cell? ⟨eg,1,N_⟩=S_ (i_ l_ cc):=M0.cell 0 rfl 1;obtain⟨k1,k2⟩:=hr.xX (hs.right (A:=[_])) hn hn0;have f1:w.frozen? ⟨eg,1,N_⟩=F_:=M0.frozen 0 rfl 1;have d2:(n:Int)-1=((n-1:Nat):Int):=by omega
 have d3:(((n-1:Nat):Int))<(n:Int):=by omega
 obtain⟨q,hqq⟩:=X_ (b.getLastD 0);rw[hqq]at k1 hq hq2;have ig:q≠255:=hq;have hq3:q≠254:=hq2;have q0:=Ik ig;have q9:=Gv ig;have q1:=(adL q ig).symm;have ql:(q.toNat:Int)<255:=by have:=(q+1).toNat_lt;omega
 have d5:decide ((134217728:Int)≤cc)=T_:=by simp;omega
 have cw:(cc:Int)-134217728=((cc-134217728:Nat):Int):=by omega
 have cl:cc-134217728≤1000000000000:=by omega
 obtain⟨c1',hc1'⟩:∃c1',cc-134217728=c1':=⟨_,rfl⟩;rw[hc1']at cw cl⊢;rw[hqq];obtain⟨H1,j1,j2⟩:=dR.GG (by rw[hn];exact hr) (hs.right (A:=[_])) (by omega) (q+1);rw[hn]at j1 j2;have M1:=Mv.call (R:=[y8 eg a cc ct (s_ (S_ ⟨g,0,N_⟩) n cp)]) (M0.sub (H1:=Hb++[y8 eg a cc ct (s_ (S_ ⟨g,0,N_⟩) n cp)]) (fun g=>by simp only[aP,bK,gI];omega) (fun c hc=>by simp only[ay,aC]at hc⊢;grind)) j2;have M2:Mv w _ _ (y8 eg a cc ct (s_ (S_ ⟨g,0,N_⟩) n cp)::H1):=M1.Z_;have g1:=M2.cell 0 rfl 1;have g2:=M2.frozen 0 rfl 1;have M3:=M2.set 1 (i_ l_ c1');obtain⟨q',hq'⟩:∃q',q+1=q':=⟨_,rfl⟩;rw[hq']at M1 M2 M3 g1 g2 q1 j1⊢;obtain⟨b1,hb1⟩:=X_ (b.dropLast++[q']);rw[hb1]at j1⊢;have hn1:b1.length=n:=by rw[←hb1,au,iV,List.length_singleton];omega
 have hl1:b1.getLastD 0=q':=by rw[←hb1];simp
 obtain⟨x,hx⟩:=X_ (UInt8.ofNat (c1'/2^19));have XZ:=aiz c1';have hm:=ae0 c1' (by omega);rw[hx]at XZ⊢;obtain⟨kk1,kk2⟩:=j1.xX (M3.sat.right (A:=[_])) hn1 hn0;rw[hl1]at kk1;have y0:=M3.cell 0 rfl 3;have y1:=M3.cell 0 rfl 1;have K:=nY j1 M3 hn1;obtain⟨w1,hw1⟩:=Y_ ((w.setCell ⟨g,n-1,N_⟩ (i_ .u8 (q'.toNat:Int))).setCell ⟨eg,1,N_⟩ (i_ l_ c1'));rw[←hw1]at kk1 kk2 y0 y1 K;have HW:=af hw1;clear hn hr M0 hs hb hl hb0 hq EO j1 j2 M1 M2 M3 hb1 hn1 hl1 hx hqq hq2 hc1' hcc ig hw1;have aft:q'≠255:=fun e=>hq3 (by rw[←hq']at e;have:=fM (fun x=>x-1) e;simpa using this);have q2:=Ik aft;have q3:=Gv aft;clear aft;clear hq3 hq';go_enter Tryz.func104,Tryz.ntmps104;have Q1:=af q1;have CW:=af cw;clear q1 cw;go_upto_region 2 with fail;have q1:=Q1.out;go_upto_region 3 with fail;clear q1;have cw:=CW.out;go_upto_region 4 with fail;clear cw;rw[←HW.out];clear HW c0 c1 k1 k2 f1 g1 g2;go_upto_region 8 with fail;have JI:=K.2.1.alloc 5 #[i_ .u8 (x.toNat:Int)];have y7:=JI.cell 1 rfl 3;have A1:Hid (BV (w1.alloc (.cells #[i_ .u8 (x.toNat:Int)] 5)).drew (s_ (S_ ⟨w1.heap.size,0,N_⟩) 1 1) [x]):=af (BU w1 x _ rfl);have K1:=af (Mv.behind JI.drew);clear JI;go_region_law (first|((with_reducible refine vU (o:=⟨S_ 87,_,_,_,_,_⟩) (v:=s_ (S_ ⟨g,0,N_⟩) n cp) (u:=s_ (S_ ⟨w1.heap.size,0,N_⟩) 1 1) (l:=b1) (r:=[x]) (H:=H1) rfl (.tmp 79) (.tmp 86) rfl ?_ ?_ K.out.1 K1.out.sat.left A1.out ?_ ?_);simp[Act.eval];simp[Act.eval];(rw[K.2.2];simp;omega);intro v6 w6 H6 yN m6;obtain⟨a6,c6,rfl⟩:=yN.slice;have M6:=Mv.second (Mv.call K1 m6);have y3:=M6.cell 0 rfl 3;have y1:=M6.cell 0 rfl 1;have z3:=M6.frozen 0 rfl 3;have K6:=dS yN M6;clear yN m6 M6))
 all_goals have M7:=K6.2.set 3 (s_ a6 (b1.length+1) c6);obtain⟨w7,hw7⟩:=Y_ (w6.setCell ⟨eg,3,N_⟩ (s_ a6 (b1.length+1) c6));rw[←hw7]at M7⊢;have e1:=M7.cell 0 rfl 1;have f1:=M7.frozen 0 rfl 1;have e2:=M7.cell 0 rfl 2;have f2:=M7.frozen 0 rfl 2;have K7:=af M7;clear hw7 M7 y1 y3 z3;go_wp2_with fail;have M9:=(K7.out.set 1 (i_ l_ (c1'%2^19:Nat))).set 2 (i_ l_ 8);have h6:=K6.1;simp only[au,List.length_cons,List.length_nil,dH]at h6;exact dm (bH rfl _ _ _) rfl ⟨rfl,_,⟨_,H6,rfl,h6⟩,M9⟩
theorem aaf(eg:Nat)(e:kV)(w:World)(H:List HB)(h:Ou eg e H)(hs:Sat w H)(hb:e.b≠[])(hl:e.b.length≤90000000)(hc:e.c≤1000000000000):Calls P_ 104 #[p_ (S_ ⟨eg,0,N_⟩)] w fun e0 w'=>e0=r_ (t_ #[])∧∃H',Ou eg (yc e) H'∧Mv w H w' H':=by
 by_cases h1:e.b.getLastD 0=255
 ·exact akp eg e w H h hs hb hl hc h1
 ·by_cases h2:e.c<134217728
  ·exact ako eg e w H h hs hb hl hc h1 h2
  ·by_cases h3:e.b.getLastD 0=254
   ·exact ajb eg e w H h hs hb hl hc h3 (by omega)
   ·exact aja eg e w H h hs hb hl hc h1 h3 (by omega)
end
section
open Go.RowKit Go.Shelf
attribute [local go_sem] jR
structure bu where
 bb:Nat
 lb:Nat
 n:Nat
structure dF where
 d:bu
 k:Nat
def dF.v(x:dF):Value:=g_ #[p_ (S_ ⟨x.d.lb,x.k*5,N_⟩),p_ (S_ ⟨x.d.bb,0,N_⟩),i_ l_ x.k]
def tY(d:bu)(k:Nat):List dF:=(List.range k).map fun j=>⟨d,j⟩
def aX(D:List bu):List dF:=D.flatMap fun d=>tY d d.n
def Ve(W:World)(box:Nat)(A:Option Addr)(c:Nat)(D:List bu):Prop:=
 W.cell? ⟨box,0,N_⟩=S_ (s_ A D.length c)∧
 (∀j d,D[j]?=S_ d→∃ga,A=S_ ⟨ga,0,N_⟩∧W.cell? ⟨ga,j,N_⟩=S_ (p_ (S_ ⟨d.bb,0,N_⟩)))∧
 (∀d∈D,W.cell? ⟨d.bb,0,N_⟩=S_ (s_ (S_ ⟨d.lb,0,N_⟩) d.n d.n))
theorem CV(d:bu)(k:Nat):tY d (k+1)=tY d k++[⟨d,k⟩]:=by simp[tY,fO]
theorem Un(D:List bu)(i:Nat)(d:bu)(h:D[i]?=S_ d):aX (D.take (i+1))=aX (D.take i)++tY d d.n:=by rw[eU,h];simp[aX]
theorem Q8(d:bu)(k:Nat)(h:k≤d.n):tY d k<+:tY d d.n:=by
 refine⟨(List.range' k (d.n-k)).map fun j=>⟨d,j⟩,?_⟩;unfold tY;rw[←bU];congr 1;apply List.ext_getElem
 ·simp;omega
 ·intro i h1 h2;by_cases hi:i<k
  ·rw[List.getElem_append_left (by simpa using hi)];simp
  ·rw[List.getElem_append_right (by simp;omega)];simp;omega
theorem Eu(D:List bu)(i:Nat)(d:bu)(h:D[i]?=S_ d)(k:Nat)(hk:k≤d.n):aX (D.take i)++tY d k<+:aX D:=by
 obtain⟨t,ht⟩:=Q8 d k hk;obtain⟨hi,hd⟩:=aj.1 h;have e:D=D.take i++d::D.drop (i+1):=by rw[←hd];simp
 refine⟨t++aX (D.drop (i+1)),?_⟩
 conv=>rhs;rw[e]
 rw[show aX (D.take i++d::D.drop (i+1))=aX (D.take i)++(tY d d.n++aX (D.drop (i+1)))from by simp[aX],←ht];simp
theorem aa7(F:Fence)(n:Nat)(h7:F.fn 68)(hro:F.round=N_)(hn:1≤n)(l box c:Nat)(A:Option Addr)(D:List bu)(hD:D.length≤100000)(hDn:∀d∈D,d.n≤100000)(J Jx:List dF→World→Prop)
 (hY:∀pre x W,J pre W→x∈aX D→pre.length<(aX D).length→YieldAt F (n-1) P_ l #[x.v] W fun e W'=>(e=r_ (b_ T_)∧J (pre++[x]) W'∧(Ve W box A c D→Ve W' box A c D))∨(e=r_ (b_ F_)∧Jx (pre++[x]) W'))
 (W:World) (hR:Ve W box A c D) (h0:J [] W):
 CallsIn F n P_ 68 #[.func (.yield l) #[] #[],p_ (S_ ⟨box,0,N_⟩)] W fun e W'=>(∃v,e=r_ v)∧((∃ys,ys=aX D∧J ys W')∨(∃pre,pre<+:aX D∧Jx pre W')):=by
 refine callsIn_of_wp Tryz.func68 rfl h7 ?_ hro;simp only[Tryz.ntmps68,pJ,List.length_cons,List.length_nil,Nat.reduceAdd,Nat.reduceSub,oD,Array.replicate_zero,rW,qw,List.nil_append,List.cons_append];have c0:=hR.1;have KR:=af hR;clear hR;gi_wp2;gi_loopw [4,8,18] (fun _ s8 _ wr=>∃i:Nat,i≤D.length∧s8=i_ l_ i∧J (aX (D.take i)) wr∧Ve wr box A c D) (fun _ s8 _ _=>D.length-(intOf s8).toNat)
 case atStart=>exact⟨0,aY _,rfl,by simpa[aX]using h0,KR.out⟩
 case round=>
  obtain⟨i,hi,rfl,hJ,hr⟩:=hrel;by_cases hlt:i<D.length
  ·obtain⟨d,hd⟩:∃d,D[i]?=S_ d:=⟨_,ai hlt⟩;obtain⟨ga,rfl,e1⟩:=hr.2.1 i d hd;have hmem:d∈D:=aF hd;have e2:=hr.2.2 d hmem;have hdn:=hDn d hmem;have hii:(i:Int)<D.length:=by omega
   have KI:=zO hd hJ hr hmem;clear hd hJ hr hmem;gi_wp2;gi_loopw [5,18] (fun _ kH wx=>∃k:Nat,k≤d.n∧kH=i_ l_ k∧J (aX (D.take i)++tY d k) wx∧Ve wx box (S_ ⟨ga,0,N_⟩) c D) (fun _ kH _=>d.n-(intOf kH).toNat)
   case atStart=>exact⟨0,aY _,rfl,by simpa[tY]using KI.2.1,KI.2.2.1⟩
   case round=>
    obtain⟨k,hk,rfl,hJ,hr⟩:=hrel;have e2:=hr.2.2 d KI.2.2.2;by_cases hlk:k<d.n
    ·have hkk:(k:Int)<d.n:=by omega
     have hpl:(aX (D.take i)++tY d k).length<(aX D).length:=by have h1:=(Eu D i d KI.1 (k+1) (by omega)).length_le;rw[CV,←az,au]at h1;simp at h1⊢;omega
     have hme:(⟨d,k⟩:dF)∈aX D:=(Eu D i d KI.1 (k+1) (by omega)).subset (by rw[CV];simp);obtain⟨fn,tmps,assign,body,hy,hR⟩:=hY _ ⟨d,k⟩ wr hJ hme hpl;simp only[dF.v]at hy;have KK:=dS hJ hr;clear hJ hr;gi_wp2;refine hR.mono ?_;rintro e W3 (⟨rfl,hJ3,hk3⟩|⟨rfl,hJx3⟩)
     ·gi_wp2;go_roundw
      case rel=>exact⟨k+1,by omega,by simp,by rw[CV,←az];exact hJ3,hk3 KK.2⟩
      case measure=>simp[intOf];omega
     ·gi_wp2;refine dU (bH rfl _ _ _) rfl ?_;have hp:=Eu D i d KI.1 (k+1) (by omega);rw[CV,←az]at hp;exact⟨⟨_,rfl⟩,.inr ⟨_,hp,hJx3⟩⟩
    ·obtain rfl:k=d.n:=by omega
     have KK:=dS hJ hr;clear hJ hr;gi_wp2;go_roundw
     case rel=>exact⟨i+1,by omega,by simp,by rw[Un D i d KI.1];exact KK.1,KK.2⟩
     case measure=>simp[intOf];omega
  ·obtain rfl:i=D.length:=by omega
   gi_wp2;go_end0;exact⟨⟨_,rfl⟩,.inl ⟨_,rfl,by rw[vP]at hJ;exact hJ⟩⟩
theorem Ve.below{W W':World}{box c:Nat}{A:Option Addr}{D:List bu}(h:Ve W box A c D)(hb:Below W.heap.size W W'):Ve W' box A c D:=by have key:∀(p:Addr) (v:Value),W.cell? p=S_ v→W'.cell? p=S_ v:=fun p v hv=>(hb.cell (gZ W p hv)).trans hv;refine⟨key _ _ h.1,fun j d hd=>?_,fun d hd=>key _ _ (h.2.2 d hd)⟩;obtain⟨ga,e,hc⟩:=h.2.1 j d hd;exact⟨ga,e,key _ _ hc⟩
abbrev kU(D:List bu):={x:dF//x∈aX D}
theorem VE(n:Nat)(hn:1≤n)(box c:Nat)(A:Option Addr)(D:List bu)(hD:D.length≤100000)(hDn:∀d∈D,d.n≤100000)(w:World)(hR:Ve w box A c D):SeqStopsK Fence.wide n P_ 68 #[p_ (S_ ⟨box,0,N_⟩)] (fun x:kU D=>#[x.1.v]) (fun W W'=>Ve W box A c D→Ve W' box A c D) (fun ys=>ys.map (·.1)=aX D) (fun pre=>pre.map (·.1)<+:aX D) (aX D).length w:=by
 intro l J Jx W hW _ _ hY h0;refine(aa7 Fence.wide n trivial rfl hn l box c A D hD hDn (fun pre W=>∃pre':List (kU D),pre'.map (·.1)=pre∧J pre' W) (fun pre W=>∃pre':List (kU D),pre'.map (·.1)=pre∧Jx pre' W) ?_ W (hR.below hW) ⟨[],rfl,h0⟩).mono ?_
 ·rintro pre x W1 ⟨pre',rfl,hJ⟩ hx hlen;obtain⟨fn,tmps,assign,body,hy,hr⟩:=hY pre' ⟨x,hx⟩ W1 hJ (by simpa using hlen);refine⟨fn,tmps,assign,body,hy,hr.mono ?_⟩;rintro e W' (⟨rfl,h1,h2⟩|⟨rfl,h1⟩)
  ·exact .inl ⟨rfl,⟨_,by simp,h1⟩,h2⟩
  ·exact .inr ⟨rfl,_,by simp,h1⟩
 ·rintro e W' ⟨hv,⟨ys,rfl,ys',h1,h2⟩|⟨pre,hp,pre',h1,h2⟩⟩
  ·exact⟨hv,.inl ⟨ys',h1,h2⟩⟩
  ·exact⟨hv,.inr ⟨pre',by show List.map (fun x=>x.1) pre'<+:aX D;rw[h1];exact hp,h2⟩⟩
end
section
open Go.RowKit Go.Shelf
def dF.cells(x:dF):Array Value:=#[p_ (S_ ⟨x.d.lb,x.k*5,N_⟩),p_ (S_ ⟨x.d.bb,0,N_⟩),i_ l_ x.k]
theorem Sat.aeK{w:World}{H:List HB}(h:Sat w H){g:Nat}(hg:g∈keys H){o:Obj}(ho:w.heap[g]?=S_ o)(hc:o.isCells=F_):False:=by obtain⟨b,hb,rfl⟩:=bW.1 hg;have h1:=h.2 b hb;unfold zh at h1;rw[ho]at h1;cases h1;cases hc
theorem Mv.grown{w0 w w':World}{H0 H:List HB}(h:Mv w0 H0 w H){row:Option Nat}(hg:w.grownBy w' row)(hr:∀r,row=S_ r→w0.heap.size≤r∧∃o:Obj,w.heap[r]?=S_ o∧o.isCells=F_):Mv w0 H0 w' H:=by
 refine⟨⟨h.sat.1,fun b hb=>?_⟩,⟨hg.os.trans h.only.os,hg.tape.trans h.only.tape,hg.output.trans h.only.output,fD h.only.size hg.size,fun k hk hn=>?_⟩,h.new⟩
 ·have hl:=(h.sat.2 b hb).lt;refine(hg.block _ hl fun e=>?_).trans (h.sat.2 b hb);obtain⟨-,o,ho,hc⟩:=hr _ e.symm;exact h.sat.aeK (mem_keys hb) ho hc
 ·refine(hg.block k (eH hk h.only.size) fun e=>?_).trans (h.only.block k hk hn);have:=(hr _ e.symm).1;omega
theorem Mv.putObj{w0 w:World}{H0 H:List HB}(h:Mv w0 H0 w H){l:Nat}{o:Obj}(o':Obj)(hB:w0.heap.size≤l)(hl:w.heap[l]?=S_ o)(ho:o.isCells=F_):Mv w0 H0 (w.putObj l o') H:=h.grown (grownBy_putObj' w l o') (fun r e=>by cases e;exact⟨hB,o,hl,ho⟩)
theorem Jt{β:Type}{w0:World}{H0:List HB}(P:β→List HB→Prop){B:Nat}(hB:w0.heap.size≤B):OwnFrom B (fun s W=>∃H,P s H∧Mv w0 H0 W H):=by rintro s W W' row ⟨H,hP,hM⟩ hg hr;exact⟨H,hP,hM.grown hg fun r e=>⟨fD hB (hr r e).1,(hr r e).2⟩⟩
theorem Mv.MM{w w':World}{H H':List HB}(h:Mv w H w' H')(hs:Sat w H)(B:Nat):KeepsFrom B w w':=⟨h.only.size,fun k o _ hk ho=>h.others hs k o hk (fun c t f e=>by subst e;cases ho)⟩
theorem XK{β:Type}(B g:Nat)(t:TypeId)(cs:Array Value):OwnFrom B (fun(_:β) W=>zh W g t cs):=by intro s W W' row hs hg hr;refine(hg.block _ hs.lt fun e=>?_).trans hs;obtain⟨-,o,ho,hc⟩:=hr _ e.symm;unfold zh at hs;rw[hs]at ho;cases ho;cases hc
theorem Ve.put{box c:Nat}{A:Option Addr}{D:List bu}(W:World)(l:Nat)(o o':Obj)(hl:W.heap[l]?=S_ o)(ho:o.isCells=F_)(h:Ve W box A c D):Ve (W.putObj l o') box A c D:=by have key:∀(p:Addr) (v:Value),W.cell? p=S_ v→(W.putObj l o').cell? p=S_ v:=fun p v hv=>(cell_kept hv (grownBy_putObj' W l o') (fun r e=>by cases e;exact⟨o,hl,ho⟩));refine⟨key _ _ h.1,fun j d hd=>?_,fun d hd=>key _ _ (h.2.2 d hd)⟩;obtain⟨ga,e,hc⟩:=h.2.1 j d hd;exact⟨ga,e,key _ _ hc⟩
def LY{D:List bu}(w0:World)(H0:List HB)(P:List (kU D)→List HB→Prop)(PX:List (kU D)→List HB→Prop)(pre:List (kU D)):Exit→Act→World→Prop
 | .normal,_,W'=>∃H',P pre H'∧Mv w0 H0 W' H'
 | .ret,_,W'=>∃H',PX pre H'∧Mv w0 H0 W' H'
 |_,_,_=>False
theorem Wl{n:Nat}(hn:3≤n){g:Operand}{ps:Array Tmp}{assign body:Code}{Q:Exit→Act→World→Prop}{a:Act}{w:World}(w0:World)(H0:List HB)(hsz:w0.heap.size≤w.heap.size)
 {box c:Nat} {A:Option Addr} {D:List bu} (hg:a.eval g=.func (.func 68) #[] #[p_ (S_ ⟨box,0,N_⟩)]) (hps:ps.size=1) (hD:D.length≤100000) (hDn:∀d∈D,d.n≤100000)
 (P PX:List (kU D)→List HB→Prop) (hP:∀pre H W,P pre H→Sat W H→Ve W box A c D) (hT:∀pre H,P pre H→∀b∈H,b.t≠66)
 (h0:∃H,P [] H∧Mv w0 H0 w H) (a₁:kU D→Nat→Act)
 (hassign:∀(l:Nat) (x:kU D) (W:World) (K:Act→World→Prop),K (a₁ x W.heap.size) (W.alloc (.cells x.1.cells 66))→assign.wpIn (Fence.wide.inRound l) (n-1-1) P_ (Exit.then K (fun _ _ _=>False)) {tmps:=(ps.zip #[x.1.v]).foldl (fun t (p,v)=>t.setIfInBounds p v) a.tmps,defers:=[]} W)
 (hbody:∀(l:Nat) (pre:List (kU D)) (x:kU D) (B:Nat) (W:World) (H:List HB),(∃r,W.heap[l]?=S_ (.loop r))→P pre H→Sat W (⟨B,66,x.1.cells⟩::H)→pre.length<(aX D).length→body.wpIn (Fence.wide.inRound l) (n-1-1) P_ (LY W (⟨B,66,x.1.cells⟩::H) P PX (pre++[x])) (a₁ x B) W)
 (hdone:∀(K:Nat) (ys:List (kU D)) (W:World) (H:List HB),w0.heap.size≤K→ys.map (·.1)=aX D→P ys H→Mv w0 H0 W H→W.heap[K]?=S_ (.deferred (S_ []))→Q .normal {a with defers:={target:=.collected K,args:=#[]}::a.defers} W)
 (hstop:∀(K:Nat) (pre:List (kU D)) (W:World) (H:List HB),w0.heap.size≤K→pre.map (·.1)<+:aX D→PX pre H→Mv w0 H0 W H→W.heap[K]?=S_ (.deferred (S_ []))→Code.ret.wpIn Fence.wide n P_ Q {a with defers:={target:=.collected K,args:=#[]}::a.defers} W):
 (Code.rangeFunc g ps assign body).wpIn Fence.wide n P_ Q a w:=by
 obtain⟨Hi,hPi,hMi⟩:=h0;refine wpIn_rangeFunc_ownH (F:=Fence.wide) rfl (by omega) hg trivial (enters_of Tryz.func68 (by kernel_rfl) rfl) (VE (n-1) (by omega) box c A D hD hDn w (hP _ _ _ hPi hMi.sat))
  (fun{X Y Z} h k s=>k (h s)) (fun W l o o' _ hl ho _ hs=>Ve.put W l o o' hl ho hs) (Below.refl _ _) (fun _=>by simpa using hps.symm)
  (fun pre W=>∃H,P pre H∧Mv w0 H0 W H) (fun c pre W=>c=.ret∧∃H,PX pre H∧Mv w0 H0 W H) (Jt P hsz) (fun c=>OwnFrom.and (ownFrom_pure _ (fun _=>c=.ret)) (Jt PX hsz)) ⟨Hi,hPi,hMi⟩
  (fun x a' W=>∃B,w0.heap.size≤B∧zh W B 66 x.1.cells∧a'=a₁ x B) (fun x a'=>?_) ?_ ?_ ?_ ?_
 ·rintro s W W' row ⟨B,h1,h2,h3⟩ hgr hr;exact⟨B,h1,XK (β:=Unit) _ B _ _ () W W' row h2 hgr hr,h3⟩
 ·rintro l pre x W K ⟨H,hPp,hM⟩ hK;refine hassign l x W K (hK _ _ ((KeepsOthers.alloc _ _).from _) (fun hs=>hs.below ((Below.refl _ W).alloc (aN _) _)) ⟨H,hPp,?_⟩ ⟨W.heap.size,hM.only.size,zh.new _ _ _,rfl⟩);exact(hM.alloc 66 x.1.cells).drop1
 ·rintro l pre x a' W hl hr ⟨H,hPp,hM⟩ ⟨B,hB,hBl,rfl⟩ hlen;have hne:B∉keys H:=fun e=>by obtain⟨b,hb,rfl⟩:=bW.1 e;have h1:=hM.sat.2 b hb;unfold zh at h1 hBl;rw[h1]at hBl;have:=hT _ _ hPp b hb;simp only[dG,Obj.cells.injEq]at hBl;exact this hBl.2.1
  have hM1:Mv w0 H0 W (⟨B,66,x.1.cells⟩::H):=⟨⟨by rw[keys_cons];exact mf.2 ⟨hne,hM.sat.1⟩,fun b hb=>by
   rcases aC.1 hb with rfl|hb
   ·exact hBl
   ·exact hM.sat.2 b hb⟩,hM.only,fun k hk=>by
   rw[keys_cons]at hk;rcases aC.1 hk with rfl|hk
   ·exact .inr hB
   ·exact hM.new k hk⟩
  refine wpIn_mono (hbody l pre x B W H hr hPp hM1.sat hlen) ?_;rintro e a3 W3 hp;cases e with
  |normal=>obtain⟨H',h1,h2⟩:=hp;exact⟨h2.MM hM1.sat _,fun _=>hP _ _ _ h1 h2.sat,H',h1,hM1.trans h2⟩
  |ret=>obtain⟨H',h1,h2⟩:=hp;exact⟨h2.MM hM1.sat _,rfl,H',h1,hM1.trans h2⟩
  |exit id=>exact hp.elim
  |goto t=>exact hp.elim
  |panic ch=>exact hp.elim
  |outgrown=>exact hp.elim
 ·rintro K ys W hK hS ⟨H,h1,h2⟩ hk;exact hdone K ys W H (by omega) hS h1 h2 hk
 ·rintro K c pre W hK hS ⟨rfl,H,h1,h2⟩ hk;exact hstop K pre W H (by omega) hS h1 h2 hk
theorem Fb{n:Nat}(hn:3≤n){g:Operand}{p:Tmp}(q:Tmp){assign body:Code}{Q:Exit→Act→World→Prop}{a:Act}{w:World}(w0:World)(H0:List HB)(hsz:w0.heap.size≤w.heap.size)
 {box c:Nat} {A:Option Addr} {D:List bu} (hg:a.eval g=.func (.func 68) #[] #[p_ (S_ ⟨box,0,N_⟩)]) (hD:D.length≤100000) (hDn:∀d∈D,d.n≤100000)
 (P PX:List (kU D)→List HB→Prop) (hP:∀pre H W,P pre H→Sat W H→Ve W box A c D) (hT:∀pre H,P pre H→∀b∈H,b.t≠66)
 (h0:∃H,P [] H∧Mv w0 H0 w H)
 (hassign:∀(l:Nat) (x y:Option Addr) (z:Int) (W:World) (K:Act→World→Prop),K {tmps:=(a.tmps.setIfInBounds p (g_ #[.pointer x,.pointer y,i_ l_ z])).setIfInBounds q (p_ (S_ ⟨W.heap.size,0,N_⟩)),defers:=[]} (W.alloc (.cells #[.pointer x,.pointer y,i_ l_ z] 66))→assign.wpIn (Fence.wide.inRound l) (n-1-1) P_ (Exit.then K (fun _ _ _=>False)) {tmps:=a.tmps.setIfInBounds p (g_ #[.pointer x,.pointer y,i_ l_ z]),defers:=[]} W)
 (hbody:∀(l:Nat) (pre:List (kU D)) (x:dF) (hx:x∈aX D) (B:Nat) (W:World) (H:List HB),(∃r,W.heap[l]?=S_ (.loop r))→P pre H→Sat W (⟨B,66,x.cells⟩::H)→pre.length<(aX D).length→body.wpIn (Fence.wide.inRound l) (n-1-1) P_ (LY W (⟨B,66,x.cells⟩::H) P PX (pre++[⟨x,hx⟩])) {tmps:=(a.tmps.setIfInBounds p x.v).setIfInBounds q (p_ (S_ ⟨B,0,N_⟩)),defers:=[]} W)
 (hdone:∀(K:Nat) (ys:List (kU D)) (W:World) (H:List HB),w0.heap.size≤K→ys.map (·.1)=aX D→P ys H→Mv w0 H0 W H→W.heap[K]?=S_ (.deferred (S_ []))→Q .normal {a with defers:={target:=.collected K,args:=#[]}::a.defers} W)
 (hstop:∀(K:Nat) (pre:List (kU D)) (W:World) (H:List HB),w0.heap.size≤K→pre.map (·.1)<+:aX D→PX pre H→Mv w0 H0 W H→W.heap[K]?=S_ (.deferred (S_ []))→Code.ret.wpIn Fence.wide n P_ Q {a with defers:={target:=.collected K,args:=#[]}::a.defers} W):
 (Code.rangeFunc g #[p] assign body).wpIn Fence.wide n P_ Q a w:=
 Wl hn w0 H0 hsz hg rfl hD hDn P PX hP hT h0 (fun x B=>{tmps:=(a.tmps.setIfInBounds p x.1.v).setIfInBounds q (p_ (S_ ⟨B,0,N_⟩)),defers:=[]})
  (fun l x W K hK=>by have:=hassign l _ _ _ W K hK;simpa[dF.v]using this)
  (fun l pre x B W H hr h1 h2 h3=>hbody l pre x.1 x.2 B W H hr h1 h2 h3) hdone hstop
theorem Mv.setAt{w0 w:World}{H0 A R:List HB}{g:Nat}{t:TypeId}{cs:Array Value}(h:Mv w0 H0 w (A++⟨g,t,cs⟩::R))(i:Nat)(v:Value):Mv w0 H0 (w.setCell ⟨g,i,N_⟩ v) (A++⟨g,t,cs.setIfInBounds i v⟩::R):=by have h1:Mv w0 H0 w (⟨g,t,cs⟩::(A++R)):=h.sub (fun k=>by simp only[aP,bK];omega) (fun b hb=>by simp only[ay,aC]at hb⊢;grind);exact(h1.set i v).sub (fun k=>by simp only[aP,bK];omega) (fun b hb=>by simp only[ay,aC]at hb⊢;grind)
end
section
structure dY where
 n:Int
 low:Int
 said:Bool
structure bV where
 w:Nat
 h:Nat
 l:List dY
def Dims:List bV→Prop
 | []=>True
 | [L]=>L.w=1∧L.h=1∧L.l.length=L.w*L.h
 |L::M::T=>1≤L.w∧1≤L.h∧L.l.length=L.w*L.h∧M.w=(L.w+1)/2∧M.h=(L.h+1)/2∧Dims (M::T)
theorem Dims.len{T:List bV}(h:Dims T){i:Nat}{L:bV}(hL:T[i]?=S_ L):L.l.length=L.w*L.h:=by
 induction T generalizing i with
 |nil=>simp at hL
 |cons L0 T ih=>
  cases T with
  |nil=>
   cases i with
   |zero=>simp at hL;subst hL;exact h.2.2
   |succ i=>simp at hL
  |cons M T=>
   cases i with
   |zero=>simp at hL;subst hL;exact h.2.2.1
   |succ i=>exact ih h.2.2.2.2.2 (by simpa using hL)
theorem Dims.at_{T:List bV}(h:Dims T){L0:bV}{x y:Nat}(h0:T[0]?=S_ L0)(hx:x<L0.w)(hy:y<L0.h){i:Nat}{L:bV}(hL:T[i]?=S_ L):x/2^i<L.w∧y/2^i<L.h:=by
 induction T generalizing i L0 x y with
 |nil=>simp at hL
 |cons K T ih=>
  simp at h0;subst h0;cases i with
  |zero=>simp at hL;subst hL;simpa using⟨hx,hy⟩
  |succ i=>
   cases T with
   |nil=>simp at hL
   |cons M T=>obtain⟨-,-,-,hw,hh,hd⟩:=h;have:=ih (L0:=M) (x:=x/2) (y:=y/2) hd (by simp) (by omega) (by omega) (i:=i) (by simpa using hL);rw[fE,fE]at this;rw[Nat.pow_succ,dX (2^i) 2];exact this
theorem nU{x y w h:Nat}(hx:x<w)(hy:y<h):y*w+x<w*h:=by have:(y+1)*w≤h*w:=dK w hy;rw[Nat.add_mul,Nat.one_mul]at this;rw[dX w h];omega
end
section
open Go.RowKit
theorem acA(z:Array Value)(n:Nat)(_hz:0<z.size):madeCells z (n*z.size)=(List.replicate n z.toList).flatten.toArray:=by
 apply Array.ext';unfold madeCells;rw[Array.toList_map,Array.toList_range];simp only[]
 induction n with
 |zero=>simp
 |succ n ih=>
  rw[jW,List.range_add,bU,ih,rV,List.flatten_append];congr 1;rw[jc];apply List.ext_getElem
  ·simp
  ·intro i h1 h2;have hi:i<z.size:=by simpa using h1
   simp only[List.getElem_map,List.getElem_range,Function.comp,List.flatten_cons,List.flatten_nil,dD,Nat.mul_add_mod_of_lt hi];simp[hi]
theorem Ec{P:Program}(t e:TypeId)(i:TypeInfo)(z:Value)(size bytes n:Nat)(ht:P.underlying t=S_ (.slice e))(hi:P.info? e=S_ i)(hz:i.zero=S_ z)(hs:i.size=size)(hby:i.bytes=bytes)(hzs:z.cells.size=size)(h0:0<size)(hb:bytes*n≤281474976710656)(h63:n≤9223372036854775807)(W:World):(Instr.makeSlice t (i_ l_ n) (i_ l_ n)).run P W=.ok (s_ (S_ ⟨W.heap.size,0,N_⟩) n n) (W.alloc (.cells (List.replicate n z.cells.toList).flatten.toArray e)):=by
 subst hs hby;have hb2:(i.bytes:Int)*n≤281474976710656:=by
  have:((i.bytes*n:Nat):Int)≤281474976710656:=by omega
  rwa[Int.natCast_mul]at this
 have h:=run_make (P:=P) W t e i z ht hi hz l_ l_ (n:Int) (n:Int) (by omega) (gG _) hb2 (by omega);rw[h,Int.toNat_natCast,←hzs,acA _ _ (by omega)]
def aak(x:dY):List Value:=[i_ l_ x.n,i_ l_ x.low,b_ x.said]
def nC(l:List dY):List Value:=l.flatMap aak
theorem I9(l:List dY):(nC l).length=3*l.length:=by
 induction l with
 |nil=>rfl
 |cons x l ih=>simp only[nC,dE,au]at ih⊢;rw[ih];simp[aak];omega
theorem Jr(l:List dY)(i:Nat)(x:dY)(h:l[i]?=S_ x):(nC l)[3*i]?=S_ (i_ l_ x.n)∧(nC l)[3*i+1]?=S_ (i_ l_ x.low)∧(nC l)[3*i+2]?=S_ (b_ x.said):=by
 induction l generalizing i with
 |nil=>simp at h
 |cons y l ih=>
  have e:nC (y::l)=[i_ l_ y.n,i_ l_ y.low,b_ y.said]++nC l:=by simp[nC,aak]
  rw[e];cases i with
  |zero=>simp at h;subst h;simp
  |succ i=>
   have:=ih i (by simpa using h);refine⟨?_,?_,?_⟩
   ·rw[aZ (by simp;omega)];simpa[Nat.mul_succ]using this.1
   ·rw[aZ (by simp;omega)];simpa[Nat.mul_succ,Nat.add_right_comm _ 3 1]using this.2.1
   ·rw[aZ (by simp;omega)];simpa[Nat.mul_succ,Nat.add_right_comm _ 3 2]using this.2.2
theorem PO(l:List dY)(i:Nat)(x:dY)(h:l[i]?=S_ x)(y:dY):(nC (l.set i y))=(((nC l).set (3*i) (i_ l_ y.n)).set (3*i+1) (i_ l_ y.low)).set (3*i+2) (b_ y.said):=by
 induction l generalizing i with
 |nil=>simp at h
 |cons z l ih=>
  have e:∀(q:dY) (m:List dY),nC (q::m)=i_ l_ q.n::i_ l_ q.low::b_ q.said::nC m:=by intro q m;simp[nC,aak]
  cases i with
  |zero=>simp[e]
  |succ i=>rw[List.set_cons_succ,e,e,ih i (by simpa using h)];simp[Nat.mul_succ]
abbrev oq:=Nat×bV
def IZ(p:oq):List Value:=[i_ l_ p.2.w,i_ l_ p.2.h,s_ (S_ ⟨p.1,0,N_⟩) p.2.l.length p.2.l.length]
def uD(P:List oq):List Value:=P.flatMap IZ
theorem MI(P:List oq)(i:Nat)(p:oq)(h:P[i]?=S_ p):(uD P)[3*i]?=S_ (i_ l_ p.2.w)∧(uD P)[3*i+1]?=S_ (i_ l_ p.2.h)∧(uD P)[3*i+2]?=S_ (s_ (S_ ⟨p.1,0,N_⟩) p.2.l.length p.2.l.length):=by
 induction P generalizing i with
 |nil=>simp at h
 |cons y l ih=>
  have e:uD (y::l)=[i_ l_ y.2.w,i_ l_ y.2.h,s_ (S_ ⟨y.1,0,N_⟩) y.2.l.length y.2.l.length]++uD l:=by simp[uD,IZ]
  rw[e];cases i with
  |zero=>simp at h;subst h;simp
  |succ i=>
   have:=ih i (by simpa using h);refine⟨?_,?_,?_⟩
   ·rw[aZ (by simp;omega)];simpa[Nat.mul_succ]using this.1
   ·rw[aZ (by simp;omega)];simpa[Nat.mul_succ,Nat.add_right_comm _ 3 1]using this.2.1
   ·rw[aZ (by simp;omega)];simpa[Nat.mul_succ,Nat.add_right_comm _ 3 2]using this.2.2
theorem acC(P:List oq):∀u∈uD P,u.oneCell'=T_:=by intro u hu;simp only[uD,iw]at hu;obtain⟨p,-,hu⟩:=hu;simp only[IZ,aC,bP,gQ]at hu;rcases hu with rfl|rfl|rfl<;>rfl
def CO(p:oq):HB:=⟨p.1,184,(nC p.2.l).toArray⟩
def tH(tb:Nat)(P:List oq)(H:List HB):Prop:=∃v Hl,H=⟨tb,178,#[v]⟩::(Hl++P.map CO)∧dh 181 3 v P.length (uD P) Hl
def jE(w h:Nat):bV:=⟨w,h,List.replicate (w*h) ⟨0,0,F_⟩⟩
def treeNew:Nat→Nat→Nat→List bV
 |0,_,_=>[]
 |k+1,w,h=>if w=1∧h=1 then [jE w h]else jE w h::treeNew k ((w+1)/2) ((h+1)/2)
def jr(w h:Int):List bV:=if w<1∨h<1∨64<w∨64<h then []else treeNew 7 w.toNat h.toNat
theorem UU(w h g n c x y:Nat)(W:World)(hxy:y*w+x<n)(hx:x≤1000)(hy:y≤1000)(hw:w≤1000)(hn:n≤100000000):Calls P_ 108 #[g_ #[i_ l_ w,i_ l_ h,s_ (S_ ⟨g,0,N_⟩) n c],i_ l_ x,i_ l_ y] W fun e W'=>e=r_ (p_ (S_ ⟨g,3*(y*w+x),N_⟩))∧Mv W [] W' []:=by
 have hp:y*w≤1000000:=by have:=bZ hy hw;omega
 have M:=af (iF W 181 #[i_ l_ w,i_ l_ h,s_ (S_ ⟨g,0,N_⟩) n c]);have hlt:(y:Int)*w+x<n:=by exact_mod_cast hxy
 have ane:(0:Int)≤y*w:=lT (by omega) (by omega);have hge:(0:Int)≤y*w+x:=by omega
 have htn:((y:Int)*w+x).toNat=y*w+x:=by rw[show(y:Int)*w+x=((y*w+x:Nat):Int)from by push_cast;rfl,Int.toNat_natCast]
 go_enter Tryz.func108,Tryz.ntmps108;go_wp2_with fail;go_ret;refine⟨?_,M.drop1⟩
 first|rfl|(simp[dX];done)|trace_state
theorem afd:(Tryz.prog.info? 184).map (fun i=>(i.zero,i.size,i.bytes))=S_ (S_ (g_ #[i_ l_ 0,i_ l_ 0,b_ F_]),3,24):=by kernel_rfl
theorem π(n:Nat):(List.replicate n (Value.agg #[i_ l_ 0,i_ l_ 0,b_ F_]).cells.toList).flatten=nC (List.replicate n ⟨0,0,F_⟩):=by
 induction n with
 |zero=>rfl
 |succ n ih=>rw[List.replicate_succ,List.replicate_succ,List.flatten_cons,ih];rfl
theorem afu(w h:Nat)(W:World)(hw:w≤64)(hh:h≤64):Calls P_ 98 #[i_ l_ w,i_ l_ h] W fun e W'=> ∃g,e=r_ (g_ (IZ (g,jE w h)).toArray)∧Mv W [] W' [CO (g,jE w h)]:=by have hp:w*h≤4096:=bZ hw hh;obtain⟨i0,hi,hz0,hz1,hz2⟩:=qJ afd;have hm:=fun W=>Ec (P:=P_) 179 184 i0 _ 3 24 (w*h) Tryz.underlying179 hi hz0 hz1 hz2 rfl (by decide) (by omega) (by omega) W;rw[π]at hm;simp only[Int.natCast_mul]at hm;go_enter Tryz.func98,Tryz.ntmps98;go_wp2_with fail;have M1:=iF W 181 #[i_ l_ w,i_ l_ h,s_ (S_ ⟨W.heap.size+1,0,N_⟩) (w*h) (w*h)];have M2:=M1.alloc 184 (nC (List.replicate (w*h) ⟨0,0,F_⟩)).toArray;refine dU (v:=g_ #[i_ l_ w,i_ l_ h,s_ (S_ ⟨W.heap.size+1,0,N_⟩) (w*h) (w*h)]) (iT Tryz.results98 _ _ W.heap.size 181 _ (0,0) _ rfl (M2.blk 1 rfl) Tryz.underlying181 rfl (by kernel_rfl)) rfl ?_;refine⟨W.heap.size+1,by simp[IZ,jE],?_⟩;have M3:=Mv.drop2 (A:=[_]) (B:=[_]) (H:=[]) M2;simpa[CO,jE]using M3
theorem afe:(Tryz.prog.info? 181).map (fun i=>(i.zero,i.size,i.bytes))=S_ (S_ (g_ #[i_ l_ 0,i_ l_ 0,s_ N_ 0 0]),3,40):=by kernel_rfl
theorem aeh{w:World}{v:Value}{P:List oq}{p:oq}{H:List HB}{wb:World}(h:dh 181 3 v P.length (uD P) H)(hs:Sat w H)(hw:w=wb.alloc (.cells (IZ p).toArray 181))(hl:P.length≤1000)(ty:TypeId): ∃v' w' H',(Builtin.append_ #[176,176] ty #[v,s_ (S_ ⟨wb.heap.size,0,N_⟩) 1 1]).run P_ w=.ok v' w'∧dh 181 3 v' (P++[p]).length (uD (P++[p])) H'∧Mv w H w' H':=by
 obtain⟨i0,hti,hz0,hz1,hz2⟩:=qJ afe;have hr:Reads w w.heap.size 3 (S_ ⟨wb.heap.size,0,N_⟩) 1 (IZ p):=by refine⟨rfl,fun _=>⟨_,rfl,by rw[hw];simp,fun j u hu=>?_⟩⟩;rw[hw];exact PW wb (IZ p).toArray _ j u (by simpa using hu)
 obtain⟨v',w',hrun,k1,k2,k3⟩:=tZ (P:=P_) w 0 176 ty 181 i0 _ 3 40 Tryz.underlying176 hti hz0 hz1 hz2 rfl (by decide) v P.length (uD P) (dh.owns h hs (fun _ _=>aY _)) w.heap.size _ 1 1 (IZ p) hr (fun u hu=>acC [p] u (by simpa[uD]using hu)) (by unfold maxLen;omega) (by omega) (aY _);obtain⟨H',k4,k5⟩:=uM h k1 k2 k3;refine⟨v',w',H',hrun,?_,k5⟩;rw[au];simpa[uD]using k4
section
variable{ops:Array Oper}{rest:List Oper}{o:Oper}{a:Act}{w:World}{K:Act→World→Prop}{Q:Exit→Act→World→Prop}{E:Prop}
theorem agf{v:Value}{P:List oq}{p:oq}{H:List HB}{wb:World}(s x:Operand)(ho:o.op=.call {callee:=.builtin .append,args:=#[s,x],argTypes:=#[176,176]})
 (hsv:a.eval s=v) (hxu:a.eval x=s_ (S_ ⟨wb.heap.size,0,N_⟩) 1 1) (h:dh 181 3 v P.length (uD P) H) (hs:Sat w H) (hw:w=wb.alloc (.cells (IZ p).toArray 181)) (hl:P.length≤1000)
 (hK:∀v' w' H',dh 181 3 v' (P++[p]).length (uD (P++[p])) H'→Mv w H w' H'→K (a.put o.dst v') w'):o.wp P_ a w K Q:=by
 obtain⟨v',w',H',hrun,h1,h2⟩:=aeh h hs hw hl o.type;unfold Oper.wp execOp;simp only[ho,resolve,invoke,builtin,rQ,Sem.run_pure,Result.andThen_ok,tN,bJ,gW,hsv,hxu,hrun];exact hK v' w' H' h1 h2
theorem aa1{v:Value}{P:List oq}{p:oq}{H:List HB}{wb:World}(hgd:o.guard=N_)(s x:Operand)(ho:o.op=.call {callee:=.builtin .append,args:=#[s,x],argTypes:=#[176,176]})
 (hsv:a.eval s=v) (hxu:a.eval x=s_ (S_ ⟨wb.heap.size,0,N_⟩) 1 1) (h:dh 181 3 v P.length (uD P) H) (hs:Sat w H) (hw:w=wb.alloc (.cells (IZ p).toArray 181)) (hl:P.length≤1000)
 (hK:∀v' w' H',dh 181 3 v' (P++[p]).length (uD (P++[p])) H'→Mv w H w' H'→K (a.put o.dst v') w'):if Region.wanted o (yielded ops a.tmps)=T_ then Oper.wp P_ o a w K Q else E:=by
 have hwt:Region.wanted o (yielded ops a.tmps)=T_:=by simp[Region.wanted,hgd]
 rw[aK hwt];exact agf s x ho hsv hxu h hs hw hl hK
end
theorem G7(g w h:Nat):IZ (g,jE w h)=[i_ l_ w,i_ l_ h,s_ (S_ ⟨g,0,N_⟩) (w*h) (w*h)]:=by simp[IZ,jE]
theorem acR(w h:Nat)(W:World)(hw:w≤64)(hh:h≤64):Calls P_ 98 #[i_ l_ w,i_ l_ h] W fun e W'=> ∃g,e=r_ (g_ #[i_ l_ w,i_ l_ h,s_ (S_ ⟨g,0,N_⟩) (w*h) (w*h)])∧Mv W [] W' [CO (g,jE w h)]:=by refine(afu w h W hw hh).mono ?_;rintro e W' ⟨g,rfl,m⟩;exact⟨g,by rw[G7],m⟩
theorem Mv.rot{w0 w:World}{H0 X Y:List HB}{a b:HB}(h:Mv w0 H0 w (a::(b::(X++Y)))):Mv w0 H0 w (a::(X++(Y++[b]))):=h.Z_
theorem adN(w h:Int)(W:World):Calls P_ 50 #[i_ l_ w,i_ l_ h] W fun e W'=>∃tb P H,e=r_ (p_ (S_ ⟨tb,0,N_⟩))∧P.map (·.2)=jr w h∧tH tb P H∧Mv W [] W' H:=by
 by_cases hb:w<1∨h<1∨64<w∨64<h
 ·have e0:jr w h=[]:=by unfold jr;rw[aK hb]
  rw[e0];have M:=iF W 178 #[s_ N_ 0 0];have T0:tH W.heap.size [] [⟨W.heap.size,178,#[s_ N_ 0 0]⟩]:=⟨_,[],by simp,dh.nil _ _⟩;have K:=dS M T0;clear M T0;by_cases h1:w<1
  ·have d1:decide (w<1)=T_:=by simpa using h1
   clear hb h1;go_enter Tryz.func50,Tryz.ntmps50;go_wp2_with fail;go_ret;exact⟨_,_,_,rfl,rfl,K.2,K.1⟩
  ·have d1:decide (w<1)=F_:=by simpa using h1
   by_cases h2:h<1
   ·have d2:decide (h<1)=T_:=by simpa using h2
    clear hb h1 h2;go_enter Tryz.func50,Tryz.ntmps50;go_wp2_with fail;go_ret;exact⟨_,_,_,rfl,rfl,K.2,K.1⟩
   ·have d2:decide (h<1)=F_:=by simpa using h2
    by_cases h3:64<w
    ·have d3:decide (64<w)=T_:=by simpa using h3
     clear hb h1 h2 h3;go_enter Tryz.func50,Tryz.ntmps50;go_wp2_with fail;go_ret;exact⟨_,_,_,rfl,rfl,K.2,K.1⟩
    ·have d3:decide (64<w)=F_:=by simpa using h3
     have d4:decide (64<h)=T_:=by simp;omega
     clear hb h1 h2 h3;go_enter Tryz.func50,Tryz.ntmps50;go_wp2_with fail;go_ret;exact⟨_,_,_,rfl,rfl,K.2,K.1⟩
 ·have d1:decide (w<1)=F_:=by simp;omega
  have d2:decide (h<1)=F_:=by simp;omega
  have d3:decide (64<w)=F_:=by simp;omega
  have d4:decide (64<h)=F_:=by simp;omega
  have e0:jr w h=treeNew 7 w.toNat h.toNat:=by unfold jr;rw[aJ hb]
  rw[e0];obtain⟨w,rfl⟩:=dW (a:=w) (by omega);obtain⟨h,rfl⟩:=dW (a:=h) (by omega);simp only[Int.toNat_natCast];have hw1:1≤w∧w≤2^6∧1≤h∧h≤2^6:=by omega
  have M:=iF W 178 #[s_ N_ 0 0];have K:=af M;have KW:=af hw1;clear M hb e0 hw1;go_enter Tryz.func50,Tryz.ntmps50;go_wp2_with fail;go_loopg [0,1] 7 (fun m s0 s1 wx=>∃(f a b:Nat) (P:List oq) (v:Value) (Hl:List HB),m=f+1∧f≤6∧s0=i_ l_ a∧s1=i_ l_ b∧1≤a∧a≤2^f∧1≤b∧b≤2^f∧P.length+f=6∧P.map (·.2)++treeNew (f+1) a b=treeNew 7 w h∧dh 181 3 v P.length (uD P) Hl∧Mv W [] wx (⟨W.heap.size,178,#[v]⟩::(Hl++P.map CO)))
  case atStart=>exact⟨6,w,h,[],_,[],rfl,aN _,rfl,rfl,KW.1,KW.2.1,KW.2.2.1,KW.2.2.2,rfl,by simp,dh.nil _ _,by simpa using K.out⟩
  case round=>
   obtain⟨wa,rfl⟩:∃wa:World,wa=wr:=⟨_,rfl⟩;obtain⟨f,a,b,P,v,Hl,rfl,hf,rfl,rfl,ha1,ha2,hb1,hb2,hP,hT,hr,m⟩:=hrel;have h64:2^f≤64:=fB (n:=2) (by decide) hf;have c0:wa.cell? ⟨W.heap.size,0,N_⟩=S_ v:=m.cell 0 rfl 0;have ahV:a≤64:=by omega
   have hb64:b≤64:=by omega
   have G:=af fun V=>acR a b V ahV hb64;obtain⟨va,vc,rfl⟩:=hr.slice;have KR:=NU hr m hT ha2 hb2 hP;clear hr m hT ha2 hb2 hP h64;go_upto_region 4 with fail;go_region_law (first
    |(go_simp;go_at_call 98;(with_reducible refine(G.out _).mono ?_);rintro e w1 ⟨g,rfl,m1⟩;have M1:=Mv.call (H:=[]) (Mv.drew KR.out.2.1) m1;have y0:w1.cell? ⟨W.heap.size,0,N_⟩=S_ (s_ va P.length vc):=M1.cell 1 rfl 0;have M2:=M1.alloc 181 (IZ (g,jE a b)).toArray;have y1:(w1.alloc (.cells #[i_ l_ a,i_ l_ b,s_ (S_ ⟨g,0,N_⟩) (a*b) (a*b)] 181)).cell? ⟨W.heap.size,0,N_⟩=S_ (s_ va P.length vc):=(by have:=M2.cell 2 rfl 0;rw[G7]at this;exact this);have M3:=Mv.Lu (A:=[_,_,_]) (B:=Hl) (R:=P.map CO) M2;have K1:=dS M3.sat.left M3;clear M1 M2 M3 m1)
    |((with_reducible refine aa1 (o:=⟨S_ 33,_,_,_,_,_⟩) (wb:=w1) (v:=s_ va P.length vc) (P:=P) (p:=(g,jE a b)) (H:=Hl) rfl (.tmp 28) (.tmp 32) rfl ?_ ?_ KR.out.1 ?_ ?_ ?_ ?_);simp[Act.eval];simp[Act.eval];have:=K1.1;rw[G7]at this;exact this;rw[G7];have:=KR.2.2.2.2.2;omega;intro v6 w6 H6 h6 m6;obtain⟨a6,c6,rfl⟩:=h6.slice;have M6:=Mv.drop1 (Mv.Lu (A:=H6) (B:=[_,_,_]) (Mv.call K1.2 (by rw[G7];exact m6)));have M7:=Mv.Lu (A:=[_]) (B:=[_]) M6;have y4:w6.cell? ⟨W.heap.size,0,N_⟩=S_ (s_ va P.length vc):=M7.cell 0 rfl 0;have y5:w6.frozen? ⟨W.heap.size,0,N_⟩=F_:=M7.frozen 0 rfl 0;have K6:=dS h6 M7;clear h6 m6 M6 M7))
   all_goals
    have M8:=Mv.rot (X:=H6) (Y:=P.map CO) (K6.2.set 0 (s_ a6 (P.length+1) c6));have yN:dh 181 3 (s_ a6 (P.length+1) c6) (P++[(g,jE a b)]).length (uD (P++[(g,jE a b)])) H6:=by simpa using K6.1
    generalize w6.setCell ⟨W.heap.size,0,N_⟩ (s_ a6 (P.length+1) c6)=w7 at M8⊢;have K7:=dS yN M8;clear M8 yN y0 y1 y4 y5 K6 K1 G c0;go_wp2_with fail
    ·go_ret;have ea:a=1:=by first|omega|(simp only[beq_iff_eq]at*;omega)
     have eb:b=1:=by first|omega|(simp only[beq_iff_eq]at*;omega)
     subst ea eb;refine⟨_,P++[(g,jE 1 1)],_,rfl,?_,⟨_,H6,by rw[bU];rfl,K7.1⟩,K7.2⟩;have:=KR.2.2.1;simpa[treeNew]using this
    all_goals
     have hne:¬(a=1∧b=1):=by first|omega|(simp only[bF,ne_eq]at*;omega)
     obtain⟨yN,M8⟩:=K7.out;obtain⟨-,-,hT,ha2,hb2,hP⟩:=KR.out;cases f with
     |zero=>exact absurd (show a=1∧b=1 by simp at ha2 hb2;omega) hne
     |succ f=>
      rw[Nat.pow_succ]at ha2 hb2;go_roundg (f+1)
      case measure=>omega
      case rel=>
       refine⟨f,(a+1)/2,(b+1)/2,P++[(g,jE a b)],_,H6,rfl,by omega,by go_num,by go_num,by omega,by omega,by omega,by omega,by simp;omega,?_,yN,by rw[bU];exact M8⟩;rw[←hT];have e:treeNew (f+1+1) a b=jE a b::treeNew (f+1) ((a+1)/2) ((b+1)/2):=by
        conv=>lhs;unfold treeNew
        rw[aJ hne]
       rw[e];simp
def Vw(P:List oq)(x y:Nat):List Value:=P.mapIdx fun i p=>p_ (S_ ⟨p.1,3*((y/2^i)*p.2.w+x/2^i),N_⟩)
theorem uo(P:List oq)(x y:Nat):(Vw P x y).length=P.length:=by simp[Vw]
theorem JL(P:List oq)(x y i:Nat)(p:oq)(h:P[i]?=S_ p):(Vw P x y)[i]?=S_ (p_ (S_ ⟨p.1,3*((y/2^i)*p.2.w+x/2^i),N_⟩)):=by simp[Vw,h]
def uJ(P:List oq):Prop:=Dims (P.map (·.2))∧∀p∈P,1≤p.2.w∧p.2.w≤64∧1≤p.2.h∧p.2.h≤64
theorem uJ.get{P:List oq}(h:uJ P){i:Nat}{p:oq}(hp:P[i]?=S_ p):p.2.l.length=p.2.w*p.2.h∧1≤p.2.w∧p.2.w≤64∧1≤p.2.h∧p.2.h≤64:=⟨h.1.len (i:=i) (by simp[hp]),h.2 p (aF hp)⟩
theorem uJ.at_{P:List oq}(h:uJ P){p0:oq}{x y:Nat}(h0:P[0]?=S_ p0)(hx:x<p0.2.w)(hy:y<p0.2.h){i:Nat}{p:oq}(hp:P[i]?=S_ p):x/2^i<p.2.w∧y/2^i<p.2.h:=h.1.at_ (L0:=p0.2) (by simp[h0]) hx hy (by simp[hp])
theorem ajr:(Tryz.prog.info? 194).map (fun i=>(i.zero,i.size,i.bytes))=S_ (S_ (.pointer N_),1,8):=by kernel_rfl
theorem dh.get{e:TypeId}{size n c:Nat}{A:Option Addr}{xs:List Value}{H:List HB}{w:World}(h:dh e size (s_ A n c) n xs H)(hs:Sat w H)(hn:0<n): ∃g,A=S_ ⟨g,0,N_⟩∧(∀i,i<n*size→w.cell? ⟨g,i,N_⟩=xs[i]?)∧∀i,w.frozen? ⟨g,i,N_⟩=F_:=by obtain⟨g,cap,cur,hv,k1,k2,k3,k4,hH⟩:=h.form hn;cases hv;subst hH;have hb:zh w g e cur:=hs.mem aG;refine⟨g,rfl,fun i hi=>?_,fun i=>hb.frozen i⟩;rw[hb.cell i,←k4,iC,aK hi,kG]
theorem afv(n:Nat):(List.replicate n (Value.pointer N_).cells.toList).flatten=List.replicate n (.pointer N_):=by
 induction n with
 |zero=>rfl
 |succ n ih=>rw[List.replicate_succ,List.replicate_succ,List.flatten_cons,ih];rfl
theorem agQ(n:Nat)(L:List Value)(i q:Nat)(v:Value)(hi:i<n)(hL:L.length=n)(hq:n-1-i=q)(hv:L[i]?=S_ v):(List.replicate (n-i) (Value.pointer N_)++(L.take i).reverse).set q v=List.replicate (n-(i+1)) (Value.pointer N_)++(L.take (i+1)).reverse:=by
 have e1:n-i=(n-(i+1))+1:=by omega
 have e2:q=n-(i+1):=by omega
 have e3:L.take (i+1)=L.take i++[v]:=by rw[eU,hv];rfl
 rw[e3,List.reverse_append,e1,rV,e2];rw[az,dZ _ _ (by simp)];simp
theorem Yb(tb:Nat)(P:List oq)(k:Nat)(p0:oq)(W:World)(H:List HB)(h:tH tb P H)(hs:Sat W H)(hl:P.length≤20)(hd:uJ P)(h0:P[0]?=S_ p0)(hk:k<p0.2.w*p0.2.h):Calls P_ 106 #[p_ (S_ ⟨tb,0,N_⟩),i_ l_ k] W fun e W'=>∃v Hn,e=r_ v∧dh 194 1 v P.length (Vw P (k%p0.2.w) (k/p0.2.w)).reverse Hn∧Mv W H W' (Hn++H):=by
 obtain⟨i0,hti,hz0,hz1,hz2⟩:=qJ ajr;have hm:=fun W=>Ec (P:=P_) 192 194 i0 _ 1 8 P.length Tryz.underlying192 hti hz0 hz1 hz2 rfl (by decide) (by omega) (by omega) W;rw[afv]at hm;obtain⟨v,Hl,rfl,hr⟩:=h;obtain⟨va,vc,rfl⟩:=hr.slice;have hn:0<P.length:=(aj.1 h0).1;obtain⟨g,rfl,hc,hfz⟩:=hr.get (hs.right (A:=[_])).left hn;have c0:W.cell? ⟨tb,0,N_⟩=S_ (s_ (S_ ⟨g,0,N_⟩) P.length vc):=(hs.at_ 0 rfl).cell 0;obtain⟨l1,l2,l3⟩:=MI P 0 p0 h0;have c1:=hc 0 (by omega);have c2:=hc 2 (by omega);rw[l1]at c1;rw[l3,(hd.get h0).1]at c2;have hw0:=(hd.get h0).2;have hx:k%p0.2.w<p0.2.w:=kP _ (by omega);have hy:k/p0.2.w<p0.2.h:=oz hk;have hat:=fun i p hp=>hd.at_ (i:=i) (p:=p) h0 hx hy hp;have d0:((P.length:Int)==0)=F_:=bF.2 (by omega);have d2:decide (((p0.2.w*p0.2.h:Nat):Int)≤k)=F_:=aW (fun h=>Nat.not_le.2 hk (Int.ofNat_le.1 h));have hmm:p0.2.w*p0.2.h≤4096:=bZ hw0.2.1 hw0.2.2.2;have hkb:k≤4096:=Nat.le_of_lt (eH hk hmm);have δ:¬p0.2.w*p0.2.h≤k:=Nat.not_le.2 hk;have d1:decide ((k:Int)<0)=F_:=by simp
 have hk0:(0:Int)≤k:=by omega
 have KP:=NU hr hs hd hat hx hy;have hn0:(0:Int)<P.length:=by omega
 obtain⟨x,hxx⟩:=X_ (k%p0.2.w);obtain⟨y,hyy⟩:=X_ (k/p0.2.w);generalize p0.1=g0 at*;generalize hww:p0.2.w=w0 at*;generalize p0.2.h=h00 at*;generalize w0*h00=m0 at*;have hw1:(w0:Int)≠0:=by omega
 have ajs:x≤64:=by rw[←hxx];have:=kP k (show 0<w0 by omega);omega
 have akz:y≤4096:=by rw[←hyy];have:=pV k w0;omega
 have hxi:(k:Int)%w0=x:=by rw[←hxx];push_cast;rfl
 have hyi:wrap64 ((k:Int)/(w0:Int))=(y:Int):=by
  have e:(k:Int)/(w0:Int)=y:=by rw[←hyy];push_cast;rfl
  rw[e,←IntWalk.i64_left,fF _ (by omega)]
 rw[hxx,hyy]at KP⊢;clear hxx hyy;clear hr hs hd hat hc hfz hx hy h0 l1 l2 l3 hk;go_enter Tryz.func106,Tryz.ntmps106;go_upto_region 3 with fail;go_quiet (fail);go_upto_region 6 with fail;simp only[hxi,hyi];have M0:Mv W _ ((W.drewN nq).alloc (.cells (Array.replicate P.length (.pointer N_)) 194)) (⟨W.heap.size,194,Array.replicate P.length (.pointer N_)⟩::(⟨tb,178,#[s_ (S_ ⟨g,0,N_⟩) P.length vc]⟩::(Hl++P.map CO))):=((Mv.refl KP.2.1).drewN nq).alloc _ _;have R0:dh 194 1 (s_ (S_ ⟨W.heap.size,0,N_⟩) P.length P.length) P.length (List.replicate (P.length-0) (.pointer N_)++((Vw P x y).take 0).reverse) [⟨W.heap.size,194,Array.replicate P.length (.pointer N_)⟩]:=by have:=dh.new 194 W.heap.size P.length (size:=1) (Array.replicate P.length (.pointer N_)) (by simp) (by unfold maxLen;omega);simpa using this
 have K0:=dS R0 M0;obtain⟨w1,ajv⟩:∃w1,w1=(W.drewN nq).alloc (.cells (Array.replicate P.length (.pointer N_)) 194):=⟨_,rfl⟩;rw[←ajv]at K0;simp only[←ajv];clear R0 M0 c0 c1 c2 hm ajv d0 d1 d2 δ hmm hxi hyi;go_wp2_with fail;go_loopg [9,58,72,79] P.length (fun m s9 nX s72 qZ wx=>∃(i:Nat) (Hn:List HB),i≤P.length∧m=P.length-i∧nX=i_ l_ i∧dh 194 1 (s_ (S_ ⟨W.heap.size,0,N_⟩) P.length P.length) P.length (List.replicate (P.length-i) (.pointer N_)++((Vw P x y).take i).reverse) Hn∧Mv W _ wx (Hn++(⟨tb,178,#[s_ (S_ ⟨g,0,N_⟩) P.length vc]⟩::(Hl++P.map CO))))
 case atStart=>exact⟨0,_,aY _,rfl,rfl,K0.1,K0.2⟩
 case round=>
  obtain⟨wa,rfl⟩:∃wa:World,wa=wr:=⟨_,rfl⟩;obtain⟨i,Hn,hi,rfl,rfl,hrn,mn⟩:=hrel;by_cases hlt:i<P.length
  ·obtain⟨p,hp⟩:∃p,P[i]?=S_ p:=⟨_,ai hlt⟩;have mt:=Mv.Lu (A:=Hn) (B:=[_]) mn;have c0:wa.cell? ⟨tb,0,N_⟩=S_ (s_ (S_ ⟨g,0,N_⟩) P.length vc):=mt.cell 0 rfl 0;have sHl:Sat wa Hl:=(Mv.mv2 (A:=Hn) (B:=[_]) (C:=Hl) mn).sat.left;obtain⟨g',eg,hc,-⟩:=KP.1.get sHl hn;obtain rfl:g=g':=by cases eg;rfl
   obtain⟨l1,l2,l3⟩:=MI P i p hp;have e1:=hc (3*i) (by omega);have e2:=hc (3*i+1) (by omega);have e3:=hc (3*i+2) (by omega);rw[l1,dX 3 i]at e1;rw[l2,dX 3 i]at e2;rw[l3,(KP.2.2.1.get hp).1,dX 3 i]at e3;obtain⟨q1,q2⟩:=KP.2.2.2.1 i p hp;have q3:=(KP.2.2.1.get hp).2;have hii:(i:Int)<P.length:=by omega
   have hxq:x/2^i≤64:=fD (pV _ _) ajs;have hyq:y/2^i≤64:=by omega
   have hpl:y/2^i*p.2.w+x/2^i<p.2.w*p.2.h:=nU q1 q2;have G0:=fun V=>UU p.2.w p.2.h p.1 (p.2.w*p.2.h) (p.2.w*p.2.h) (x/2^i) (y/2^i) V hpl (by omega) (by omega) (by omega) (by have:=bZ q3.2.1 q3.2.2.2;omega);simp only[Int.natCast_ediv,Int.natCast_pow,Int.cast_ofNat_Int]at G0;have G:=af G0;clear G0;have EP:=nY hp hrn mn;have akZ:i≤20:=by omega
   obtain⟨q,hq⟩:=X_ (P.length-1-i);have hwi:IntKind.i64.wrap (IntKind.i64.wrap ((P.length:Int)-1)-(i:Int))=(q:Int):=by rw[fF ((P.length:Int)-1) (by omega),fF _ (by omega)];omega
   have hql:(q:Int)<P.length:=by omega
   have hqn:q<P.length-i:=by omega
   have HQ:=dS hq hqn;clear hq hqn;have FX:Hid (∀w2,Mv wa.drew [] w2 []→Mv W (⟨tb,178,#[s_ (S_ ⟨g,0,N_⟩) P.length vc]⟩::(Hl++P.map CO)) w2 (Hn++(⟨tb,178,#[s_ (S_ ⟨g,0,N_⟩) P.length vc]⟩::(Hl++P.map CO)))∧w2.cell? ⟨W.heap.size,q,N_⟩=S_ (.pointer N_)∧w2.frozen? ⟨W.heap.size,q,N_⟩=F_):=af (by intro w2 m2;have m3:Mv W _ w2 (Hn++(⟨tb,178,#[s_ (S_ ⟨g,0,N_⟩) P.length vc]⟩::(Hl++P.map CO))):=Mv.call (H:=[]) (H':=[]) (Mv.drew EP.2.2) m2;have z:=dh.cell EP.2.1 m3.sat.left rfl q (by omega);refine⟨m3,?_,z.2⟩;rw[z.1,df (by simpa using HQ.2),jH,aK HQ.2]);have d7:decide ((i:Int)<P.length)=T_:=by simpa using hlt
   generalize hpw:p.2.w*p.2.h=pn at*;generalize hpg:p.1=pg at*;generalize alP:p.2.w=pw at*;generalize p.2.h=ph at*;clear hrn mn mt hc l1 l2 l3 sHl hp q1 q2 hpw eg;go_upto_region 9 with fail;go_region_law (first|(go_simp;go_at_call 108;(with_reducible refine(G.out _).mono ?_);rintro e w2 ⟨rfl,m2⟩;obtain⟨m3,y1,y2⟩:=FX.out w2 m2;have K2:=af m3;clear m2 m3))
   all_goals
    obtain⟨H3,r3,m3⟩:=dh.set EP.2.1 K2.sat.left rfl q (p_ (S_ ⟨pg,3*(y/2^i*pw+x/2^i),N_⟩)) (by omega);have m4:=Mv.call K2 m3;have K4:=dS r3 m4;clear r3 m3 m4 y1 y2 K2;go_wp2_with fail;go_roundg (P.length-(i+1))
    case measure=>omega
    case rel=>refine⟨i+1,H3,by omega,rfl,by go_num,?_,K4.2⟩;have hv:=JL P x y i p EP.1;rw[hpg,alP]at hv;have:=K4.1;rw[agQ _ _ i q _ hlt (uo P x y) HQ.1 hv]at this;exact this
  ·obtain rfl:i=P.length:=by omega
   have d7:decide ((P.length:Int)<P.length)=F_:=by simp
   have EP:=dS hrn mn;clear hrn mn;go_wp2_with fail;go_ret;refine⟨_,Hn,rfl,?_,EP.2⟩;have:=EP.1;rw[iI,dC (by rw[uo];exact aN _)]at this;simpa using this
def Eh:dY:=⟨0,0,F_⟩
def bV.at_(L:bV)(x y:Nat):dY:=L.l.getD (y*L.w+x) Eh
def Bh(L:bV)(x y dx dy:Nat)(n:Int):Int:=if 2*x+dx<L.w∧2*y+dy<L.h then min n (L.at_ (2*x+dx) (2*y+dy)).n else n
def leastRow(L:bV)(x y dy:Nat)(n:Int):Int:=Bh L x y 1 dy (Bh L x y 0 dy n)
def zI(L:bV)(x y:Nat):Int:=leastRow L x y 1 (leastRow L x y 0 (L.at_ (2*x) (2*y)).n)
def Ju(L:bV)(x y dy:Nat)(n:Int)(i:Nat):Int:=if i=0 then n else if i=1 then Bh L x y 0 dy n else leastRow L x y dy n
def MJ(L:bV)(x y:Nat)(j:Nat):Int:=if j=0 then(L.at_ (2*x) (2*y)).n else if j=1 then leastRow L x y 0 (L.at_ (2*x) (2*y)).n else zI L x y
theorem Xd(L:bV)(x y dy:Nat)(n:Int)(i:Nat)(hi:i<2):Ju L x y dy n (i+1)=Bh L x y i dy (Ju L x y dy n i):=by
 have:i=0∨i=1:=by omega
 rcases this with rfl|rfl<;>rfl
theorem Xc(L:bV)(x y j:Nat)(hj:j<2):MJ L x y (j+1)=Ju L x y j (MJ L x y j) 2:=by
 have:j=0∨j=1:=by omega
 rcases this with rfl|rfl<;>rfl
theorem Bg{tb:Nat}{P:List oq}{H R:List HB}{w w0:World}{H0:List HB}(h:tH tb P H)(m:Mv w0 H0 w (R++H))(hd:uJ P){i:Nat}{p:oq}(hp:P[i]?=S_ p){x y:Nat}(hx:x<p.2.w)(hy:y<p.2.h):w.cell? ⟨p.1,3*(y*p.2.w+x),N_⟩=S_ (i_ l_ (p.2.at_ x y).n)∧w.cell? ⟨p.1,3*(y*p.2.w+x)+1,N_⟩=S_ (i_ l_ (p.2.at_ x y).low)∧w.cell? ⟨p.1,3*(y*p.2.w+x)+2,N_⟩=S_ (b_ (p.2.at_ x y).said)∧∀k,w.frozen? ⟨p.1,k,N_⟩=F_:=by
 obtain⟨v,Hl,rfl,hr⟩:=h;have hb:zh w p.1 184 (nC p.2.l).toArray:=m.sat.2 (CO p) (by refine aS _ (aU _ (aS _ ?_));exact bW.2 ⟨p,aF hp,rfl⟩);have hl:y*p.2.w+x<p.2.l.length:=by rw[(hd.get hp).1];exact nU hx hy
 have hg:p.2.l[y*p.2.w+x]?=S_ (p.2.at_ x y):=by unfold bV.at_;rw[ax,ai hl];rfl
 obtain⟨k1,k2,k3⟩:=Jr _ _ _ hg;refine⟨?_,?_,?_,fun k=>hb.frozen k⟩
 ·rw[hb.cell];simpa using k1
 ·rw[hb.cell];simpa using k2
 ·rw[hb.cell];simpa using k3
theorem Qb{tb:Nat}{P:List oq}{H R:List HB}{w w0:World}{H0:List HB}(h:tH tb P H)(m:Mv w0 H0 w (R++H))(hd:uJ P)(hn:0<P.length): ∃g c,w.cell? ⟨tb,0,N_⟩=S_ (s_ (S_ ⟨g,0,N_⟩) P.length c)∧∀i p,P[i]?=S_ p→w.cell? ⟨g,i*3,N_⟩=S_ (i_ l_ p.2.w)∧w.cell? ⟨g,i*3+1,N_⟩=S_ (i_ l_ p.2.h)∧w.cell? ⟨g,i*3+2,N_⟩=S_ (s_ (S_ ⟨p.1,0,N_⟩) (p.2.w*p.2.h) (p.2.w*p.2.h)):=by obtain⟨v,Hl,rfl,hr⟩:=h;obtain⟨va,vc,rfl⟩:=hr.slice;have s1:=m.sat.right (A:=R);obtain⟨g,rfl,hc,-⟩:=hr.get (s1.right (A:=[_])).left hn;refine⟨g,vc,(s1.at_ 0 rfl).cell 0,fun i p hp=>?_⟩;obtain⟨l1,l2,l3⟩:=MI P i p hp;have hi:=(aj.1 hp).1;have e1:=hc (3*i) (by omega);have e2:=hc (3*i+1) (by omega);have e3:=hc (3*i+2) (by omega);rw[l1,dX 3 i]at e1;rw[l2,dX 3 i]at e2;rw[l3,(hd.get hp).1,dX 3 i]at e3;exact⟨e1,e2,e3⟩
theorem acD(tb:Nat)(P:List oq)(i:Nat)(p:oq)(x y:Nat)(W:World)(H:List HB)(h:tH tb P H)(hs:Sat W H)(hd:uJ P)(hp:P[i]?=S_ p)(hl:P.length≤20)(hx:2*x<p.2.w)(hy:2*y<p.2.h):Calls P_ 107 #[p_ (S_ ⟨tb,0,N_⟩),i_ l_ ((i:Int)+1),i_ l_ x,i_ l_ y] W fun e W'=>e=r_ (i_ l_ (zI p.2 x y))∧Mv W H W' H:=by
 have hi:i<P.length:=(aj.1 hp).1;obtain⟨g,c,c0,hc⟩:=Qb (R:=[]) h (Mv.refl hs) hd (by omega);obtain⟨e1,e2,e3⟩:=hc i p hp;have hii:(i:Int)<P.length:=by omega
 have akZ:i≤20:=by omega
 have q:=hd.get hp;have ajs:2*x<64:=by omega
 have akz:2*y<64:=by omega
 have K:=LH h hs hd hp q;have GA:=af fun(a b:Nat) (V:World) (ha:a<p.2.w) (hb:b<p.2.h)=>UU p.2.w p.2.h p.1 (p.2.w*p.2.h) (p.2.w*p.2.h) a b V (nU ha hb) (by omega) (by omega) (by omega) (by have:=bZ q.2.2.1 q.2.2.2.2;omega);have NC:=af fun(w:World) (R:List HB) (m:Mv W H w (R++H)) (a b:Nat) (ha:a<p.2.w) (hb:b<p.2.h)=>Bg h m hd hp ha hb;have KX:=dS hx hy;clear h hs hd hc q;rw[show zI p.2 x y=MJ p.2 x y 2 from rfl];go_enter Tryz.func107,Tryz.ntmps107;go_upto_region 2 with fail;have M1:=(Mv.refl K.2.1).alloc 181 #[i_ l_ p.2.w,i_ l_ p.2.h,s_ (S_ ⟨p.1,0,N_⟩) (p.2.w*p.2.h) (p.2.w*p.2.h)];obtain⟨w1,hw1⟩:=Y_ (W.alloc (.cells #[i_ l_ p.2.w,i_ l_ p.2.h,s_ (S_ ⟨p.1,0,N_⟩) (p.2.w*p.2.h) (p.2.w*p.2.h)] 181));rw[←hw1]at M1;simp only[←hw1];have BX:Hid (∀w,Mv W H w (⟨W.heap.size,181,#[i_ l_ p.2.w,i_ l_ p.2.h,s_ (S_ ⟨p.1,0,N_⟩) (p.2.w*p.2.h) (p.2.w*p.2.h)]⟩::H)→w.cell? ⟨W.heap.size,0,N_⟩=S_ (i_ l_ p.2.w)∧w.cell? ⟨W.heap.size,1,N_⟩=S_ (i_ l_ p.2.h)∧w.cell? ⟨W.heap.size,2,N_⟩=S_ (s_ (S_ ⟨p.1,0,N_⟩) (p.2.w*p.2.h) (p.2.w*p.2.h))):=af fun w m=>⟨m.cell 0 rfl 0,m.cell 0 rfl 1,m.cell 0 rfl 2⟩;have FX:Hid (∀wa w2 a b,a<p.2.w→b<p.2.h→Mv W H wa (⟨W.heap.size,181,#[i_ l_ p.2.w,i_ l_ p.2.h,s_ (S_ ⟨p.1,0,N_⟩) (p.2.w*p.2.h) (p.2.w*p.2.h)]⟩::H)→Mv wa [] w2 []→Mv W H w2 (⟨W.heap.size,181,#[i_ l_ p.2.w,i_ l_ p.2.h,s_ (S_ ⟨p.1,0,N_⟩) (p.2.w*p.2.h) (p.2.w*p.2.h)]⟩::H)∧w2.cell? ⟨p.1,3*(b*p.2.w+a),N_⟩=S_ (i_ l_ (p.2.at_ a b).n)):=af (by intro wa w2 a b ha hb m m2;have m3:=Mv.call (H:=[]) (H':=[]) m m2;exact⟨m3,(NC w2 [_] m3 a b ha hb).1⟩);have KM:=af M1;have G1:=fun V=>GA (2*x) (2*y) V KX.1 KX.2;simp only[Int.natCast_mul,Int.cast_ofNat_Int]at G1;have G1:=af G1;have Z0:=af (show MJ p.2 x y 0=(p.2.at_ (2*x) (2*y)).n from rfl);obtain⟨b0,b1,b2⟩:=BX w1 M1;clear hw1 M1 c0 e1 e2 e3 NC;go_upto_region 3 with(go_at_call 108;with_reducible refine(G1.out _).mono ?_;rintro e w2 ⟨rfl,m2⟩;obtain⟨m3,y1⟩:=FX.out w1 w2 (2*x) (2*y) KX.out.1 KX.out.2 KM.out m2;have K2:=af m3;clear m2 m3);go_wp2_with fail;go_loopg [10,11,12,30,33] 2 (fun m s10 _ _ lu _ wx=>∃j:Nat,j≤2∧m=2-j∧lu=i_ l_ j∧s10=i_ l_ (MJ p.2 x y j)∧Mv W H wx (⟨W.heap.size,181,#[i_ l_ p.2.w,i_ l_ p.2.h,s_ (S_ ⟨p.1,0,N_⟩) (p.2.w*p.2.h) (p.2.w*p.2.h)]⟩::H))
 case atStart=>exact⟨0,by omega,rfl,rfl,by rw[Z0.out],K2.out⟩
 case round=>
  obtain⟨wa,rfl⟩:∃wa:World,wa=wr:=⟨_,rfl⟩;obtain⟨j,hj,rfl,rfl,rfl,ma⟩:=hrel;have KA:=af ma;clear ma y1 b0 b1 b2;by_cases hlt:j<2
  ·have d1:decide ((j:Int)<2)=T_:=by simp;omega
   have ES:=af (Xc p.2 x y j hlt);obtain⟨z,hz⟩:=X_ (MJ p.2 x y j);rw[hz]at ES⊢;clear hz;go_wp2_with fail;go_loopg [10,12,33] 2 (fun m s10 _ lI wx=>∃i':Nat,i'≤2∧m=2-i'∧lI=i_ l_ i'∧s10=i_ l_ (Ju p.2 x y j z i')∧Mv W H wx (⟨W.heap.size,181,#[i_ l_ p.2.w,i_ l_ p.2.h,s_ (S_ ⟨p.1,0,N_⟩) (p.2.w*p.2.h) (p.2.w*p.2.h)]⟩::H))
   case atStart=>exact⟨0,by omega,rfl,rfl,rfl,KA.out⟩
   case round=>
    obtain⟨wb,rfl⟩:∃wb:World,wb=wr:=⟨_,rfl⟩;obtain⟨i',hi',rfl,rfl,rfl,mb⟩:=hrel;obtain⟨b0,b1,b2⟩:=BX wb mb;have KB:=af mb;clear mb;by_cases hlt':i'<2
    ·have d2:decide ((i':Int)<2)=T_:=by simp;omega
     have EI:=af (Xd p.2 x y j z i' hlt');obtain⟨z',hz'⟩:∃z',Ju p.2 x y j z i'=z':=⟨_,rfl⟩;rw[hz']at EI⊢;clear hz';by_cases hin:2*x+i'<p.2.w∧2*y+j<p.2.h
     ·have t1:2*(x:Int)+i'<p.2.w:=by omega
      have t2:2*(y:Int)+j<p.2.h:=by omega
      have E2:Hid (Ju p.2 x y j z (i'+1)=min z' (p.2.at_ (2*x+i') (2*y+j)).n):=af (by rw[EI.out];unfold Bh;rw[aK hin]);have G2:=fun V=>GA (2*x+i') (2*y+j) V hin.1 hin.2;have F2:=af fun w2=>FX wb w2 (2*x+i') (2*y+j) hin.1 hin.2 KB.out;simp only[Int.natCast_add,Int.natCast_mul,Int.cast_ofNat_Int]at G2;have G3:=af G2;obtain⟨nn,hnn⟩:=X_ ((p.2.at_ (2*x+i') (2*y+j)).n);rw[hnn]at E2 F2;clear G2 hnn hin EI;go_wp2_with (go_at_call 108;with_reducible refine(G3.out _).mono ?_;rintro e w2 ⟨rfl,m2⟩;obtain⟨m3,y1⟩:=F2.out w2 m2;have K2:=af m3;clear m2 m3)
      all_goals
       go_roundg (2-(i'+1))
       case measure=>omega
       case rel=>exact⟨i'+1,by omega,rfl,by go_num,by rw[E2.out];exact fM _ (by omega),K2.out⟩
     ·have E2:Hid (Ju p.2 x y j z (i'+1)=z'):=af (by rw[EI.out];unfold Bh;rw[aJ hin]);by_cases hin1:2*x+i'<p.2.w
      ·have t1:2*(x:Int)+i'<p.2.w:=by omega
       have t2:¬2*(y:Int)+j<p.2.h:=by omega
       clear hin EI hin1;go_wp2_with fail;go_roundg (2-(i'+1))
       case measure=>omega
       case rel=>exact⟨i'+1,by omega,rfl,by go_num,by rw[E2.out],KB.out⟩
      ·have t1:¬2*(x:Int)+i'<p.2.w:=by omega
       clear hin EI hin1;go_wp2_with fail;go_roundg (2-(i'+1))
       case measure=>omega
       case rel=>exact⟨i'+1,by omega,rfl,by go_num,by rw[E2.out],KB.out⟩
    ·obtain rfl:i'=2:=by omega
     have d2:decide ((2:Int)<2)=F_:=by decide
     rw[←ES.out];go_wp2_with fail;go_roundg (2-(j+1))
     case measure=>omega
     case rel=>exact⟨j+1,by omega,rfl,by go_num,rfl,KB.out⟩
  ·obtain rfl:j=2:=by omega
   have d1:decide ((2:Int)<2)=F_:=by decide
   go_wp2_with fail;go_ret;exact⟨rfl,KA.drop1⟩
end
end Go.Proofs.YtjngfhgakokejaaGreat
