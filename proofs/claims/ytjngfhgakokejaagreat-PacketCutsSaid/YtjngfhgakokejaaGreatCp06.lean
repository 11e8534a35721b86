/- The arithmetic coder by itself: its states, its encoder. Code-blocks as they are coded: what a coder keeps, what each pass says. No program in sight. A code-block that is coded: its passes, its bytes; where its passes end. No program in sight. A code-block's planes are counted; a segment's ends are laid one by one. No program in sight. waveletref3: the coder's states. -/
import Derived.Test.YtjngfhgakokejaaGreatCp01
import Derived.Test.YtjngfhgakokejaaGreatProg
import Derived.Laws.Rows
import Derived.Laws.Tables
import Derived.RegionTactic
import Derived.BigRegion
import Derived.OwnWalk
set_option maxRecDepth 100000
set_option maxHeartbeats 8000000
set_option linter.all false
namespace Go.Proofs.YtjngfhgakokejaaGreat
section
structure QeM where
 qe:Nat
 mps:Nat
 lps:Nat
 swap:Bool
deriving DecidableEq
def qeT:List QeM:=[⟨0x5601,1,1,true⟩,⟨0x3401,2,6,false⟩,⟨0x1801,3,9,false⟩,⟨0x0AC1,4,12,false⟩,⟨0x0521,5,29,false⟩,⟨0x0221,38,33,false⟩,⟨0x5601,7,6,true⟩,⟨0x5401,8,14,false⟩,⟨0x4801,9,14,false⟩,⟨0x3801,10,14,false⟩,⟨0x3001,11,17,false⟩,⟨0x2401,12,18,false⟩,⟨0x1C01,13,20,false⟩,⟨0x1601,29,21,false⟩,⟨0x5601,15,14,true⟩,⟨0x5401,16,14,false⟩,⟨0x5101,17,15,false⟩,⟨0x4801,18,16,false⟩,⟨0x3801,19,17,false⟩,⟨0x3401,20,18,false⟩,⟨0x3001,21,19,false⟩,⟨0x2801,22,19,false⟩,⟨0x2401,23,20,false⟩,⟨0x2201,24,21,false⟩,⟨0x1C01,25,22,false⟩,⟨0x1801,26,23,false⟩,⟨0x1601,27,24,false⟩,⟨0x1401,28,25,false⟩,⟨0x1201,29,26,false⟩,⟨0x1101,30,27,false⟩,⟨0x0AC1,31,28,false⟩,⟨0x09C1,32,29,false⟩,⟨0x08A1,33,30,false⟩,⟨0x0521,34,31,false⟩,⟨0x0441,35,32,false⟩,⟨0x02A1,36,33,false⟩,⟨0x0221,37,34,false⟩,⟨0x0141,38,35,false⟩,⟨0x0111,39,36,false⟩,⟨0x0085,40,37,false⟩,⟨0x0049,41,38,false⟩,⟨0x0025,42,39,false⟩,⟨0x0015,43,40,false⟩,⟨0x0009,44,41,false⟩,⟨0x0005,45,42,false⟩,⟨0x0001,45,43,false⟩,⟨0x5601,46,46,false⟩]
def qeAt (i:Nat):QeM:=qeT.getD i ⟨0,0,0,false⟩
theorem qeT_ok:∀ i,i<47→1≤(qeAt i).qe∧(qeAt i).qe≤0x5601∧(qeAt i).mps<47∧(qeAt i).lps<47:=by decide
structure CxM where
 i:Nat
 mps:Nat
def CxM.Ok (c:CxM):Prop:=c.i<47∧c.mps≤1
def cxFresh:List CxM:=(List.range 19).map fun k=>⟨if k=0 then 4 else if k=17 then 3 else if k=18 then 46 else 0,0⟩
theorem cxFresh_ok:cxFresh.length=19∧∀ c∈cxFresh,c.Ok:=by
 refine⟨rfl,fun c hc=>?_⟩
 simp only[cxFresh,List.mem_map,List.mem_range] at hc
 obtain⟨k,hk,rfl⟩:=hc
 refine⟨?_,by simp⟩
 simp only
 split
 ·omega
 ·split
  ·omega
  ·split <;> omega
structure EncM where
 a:Nat
 c:Nat
 ct:Nat
 b:List UInt8
def encNew:EncM:=⟨0x8000,0,12,[0]⟩
def carryE (e:EncM):EncM:=if e.b.getLastD 0≠255∧0x8000000≤e.c then { e with b:=e.b.dropLast++[e.b.getLastD 0+1],c:=e.c - 0x8000000 } else e
def putE (e:EncM):EncM:=if e.b.getLastD 0=255 then { e with b:=e.b++[UInt8.ofNat (e.c / 2 ^ 20)],c:=e.c % 2 ^ 20,ct:=7 } else { e with b:=e.b++[UInt8.ofNat (e.c / 2 ^ 19)],c:=e.c % 2 ^ 19,ct:=8 }
def outE (e:EncM):EncM:=putE (carryE e)
def dblE (e:EncM):EncM:=if e.ct=1 then outE { e with a:=2 * e.a,c:=2 * e.c,ct:=0 } else { e with a:=2 * e.a,c:=2 * e.c,ct:=e.ct - 1 }
def normE:Nat→EncM→EncM
 | 0,e=>e
 | k+1,e=>if e.a<0x8000 then normE k (dblE e) else e
def bitE (e:EncM) (x:CxM) (bit:Nat):EncM × CxM :=
 let s:=qeAt x.i
 let a:=e.a - s.qe
 if bit=x.mps then
  if 0x8000≤a then ({ e with a:=a,c:=e.c+s.qe },x)
  else (if a<s.qe then { e with a:=s.qe } else { e with a:=a,c:=e.c+s.qe },{ x with i:=s.mps })
 else (if a<s.qe then { e with a:=a,c:=e.c+s.qe } else { e with a:=s.qe },{ i:=s.lps,mps:=if s.swap then 1 - x.mps else x.mps })
def encE (e:EncM) (x:CxM) (bit:Nat):EncM × CxM:=(normE 16 (bitE e x bit).1,(bitE e x bit).2)
def EncM.W (e:EncM):Prop:=1≤e.a∧e.a<0x10000∧1≤e.ct∧e.ct≤12∧(e.c+e.a) * 2 ^ e.ct≤150994944∧e.b≠[]
def EncM.Ok (e:EncM):Prop:=e.W∧0x8000≤e.a
theorem encNew_ok:encNew.Ok:=by
 refine⟨⟨?_,?_,?_,?_,?_,?_⟩,?_⟩ <;> decide
theorem bitE_w {e:EncM} {x:CxM} {bit:Nat} (he:e.Ok) (hx:x.Ok):(bitE e x bit).1.W∧(bitE e x bit).2.Ok:=by
 obtain⟨⟨h1,h2,h3,h4,h5,h6⟩,h7⟩:=he
 obtain⟨q1,q2,q3,q4⟩:=qeT_ok x.i hx.1
 have hx2:=hx.2
 have mono:∀ s,s≤e.c+e.a→s * 2 ^ e.ct≤150994944:=fun s hs=>Nat.le_trans (Nat.mul_le_mul_right _ hs) h5
 unfold bitE
 generalize qeAt x.i=s at *
 simp only
 split
 ·split
  ·exact⟨⟨by simp only;omega,by simp only;omega,h3,h4,mono _ (by simp only;omega),h6⟩,hx⟩
  ·refine⟨?_,q3,hx2⟩
   split
   ·exact⟨q1,by simp only;omega,h3,h4,mono _ (by simp only;omega),h6⟩
   ·exact⟨by simp only;omega,by simp only;omega,h3,h4,mono _ (by simp only;omega),h6⟩
 ·refine⟨?_,q4,by simp only;split <;> omega⟩
  split
  ·exact⟨by simp only;omega,by simp only;omega,h3,h4,mono _ (by simp only;omega),h6⟩
  ·exact⟨q1,by simp only;omega,h3,h4,mono _ (by simp only;omega),h6⟩
theorem outE_ok {e:EncM} (h1:1≤e.a) (h2:e.a<0x10000):(outE e).a=e.a∧1≤(outE e).ct∧(outE e).ct≤12∧((outE e).c+(outE e).a) * 2 ^ (outE e).ct≤150994944∧(outE e).b≠[]:=by
 unfold outE putE
 have ha:(carryE e).a=e.a:=by unfold carryE;split <;> rfl
 split
 ·refine⟨ha,by simp,by simp,?_,by simp⟩
  have:=Nat.mod_lt (carryE e).c (show 0<2 ^ 20 by decide)
  simp only[ha]
  omega
 ·refine⟨ha,by simp,by simp,?_,by simp⟩
  have:=Nat.mod_lt (carryE e).c (show 0<2 ^ 19 by decide)
  simp only[ha]
  omega
theorem dblE_w {e:EncM} (h:e.W) (ha:e.a<0x8000):(dblE e).W∧(dblE e).a=2 * e.a:=by
 obtain⟨h1,h2,h3,h4,h5,h6⟩:=h
 unfold dblE
 split
 ·have:=outE_ok (e:={ e with a:=2 * e.a,c:=2 * e.c,ct:=0 }) (by simp only;omega) (by simp only;omega)
  obtain⟨k1,k2,k3,k4,k5⟩:=this
  refine⟨⟨by rw[k1];simp only;omega,by rw[k1];simp only;omega,k2,k3,k4,k5⟩,k1⟩
 ·refine⟨⟨by simp only;omega,by simp only;omega,by simp only;omega,by simp only;omega,?_,h6⟩,rfl⟩
  have e1:(2 * e.c+2 * e.a) * 2 ^ (e.ct - 1)=(e.c+e.a) * 2 ^ e.ct:=by
   obtain⟨k,hk⟩:∃ k,e.ct=k+1:=⟨e.ct - 1,by omega⟩
   rw[hk,Nat.add_sub_cancel,Nat.pow_succ,← Nat.mul_add,Nat.mul_comm 2 (e.c+e.a),Nat.mul_assoc,Nat.mul_comm 2 (2 ^ k)]
  simp only[e1]
  exact h5
theorem normE_w:∀ (k:Nat) {e:EncM},e.W→0x8000≤e.a * 2 ^ k→(normE k e).Ok
 | 0,e,h,hk=>⟨h,by simpa [normE] using hk⟩
 | k+1,e,h,hk=>by
  unfold normE
  split
  ·rename_i ha
   obtain⟨h1,h2⟩:=dblE_w h ha
   refine normE_w k h1 ?_
   rw[h2,Nat.mul_comm 2,Nat.mul_assoc,← Nat.pow_succ']
   exact hk
  ·exact⟨h,by omega⟩
theorem encE_ok {e:EncM} {x:CxM} {bit:Nat} (he:e.Ok) (hx:x.Ok):(encE e x bit).1.Ok∧(encE e x bit).2.Ok:=by
 obtain⟨h1,h2⟩:=bitE_w (bit:=bit) he hx
 exact⟨normE_w 16 h1 (by have:=h1.1;omega),h2⟩
/- the bytes only grow -/
theorem carryE_len (e:EncM) (h:e.b≠[]):(carryE e).b.length=e.b.length:=by
 have:0<e.b.length:=List.length_pos_iff.2 h
 unfold carryE
 split
 ·simp;omega
 ·rfl
theorem outE_len (e:EncM) (h:e.b≠[]):(outE e).b.length=e.b.length+1:=by
 unfold outE putE
 split <;> simp[carryE_len e h]
theorem dblE_len (e:EncM) (h:e.b≠[]):e.b.length≤(dblE e).b.length:=by
 unfold dblE
 split
 ·have:=outE_len { e with a:=2 * e.a,c:=2 * e.c,ct:=0 } h
  simp only at this
  omega
 ·exact Nat.le_refl _
theorem normE_len:∀ (k:Nat) (e:EncM),e.W→e.b.length≤(normE k e).b.length
 | 0,e,_=>Nat.le_refl _
 | k+1,e,h=>by
  unfold normE
  split
  ·rename_i ha
   exact Nat.le_trans (dblE_len e h.2.2.2.2.2) (normE_len k _ (dblE_w h ha).1)
  ·exact Nat.le_refl _
theorem bitE_b (e:EncM) (x:CxM) (bit:Nat):(bitE e x bit).1.b=e.b:=by
 unfold bitE
 simp only
 split
 ·split
  ·rfl
  ·split <;> rfl
 ·split <;> rfl
theorem encE_len {e:EncM} {x:CxM} {bit:Nat} (he:e.Ok) (hx:x.Ok):e.b.length≤(encE e x bit).1.b.length:=by
 have:=normE_len 16 _ (bitE_w (bit:=bit) he hx).1
 rw[bitE_b] at this
 exact this
end
section
structure GeoM where
 w:Nat
 h:Nat
 band:Nat
 style:Nat
 mag:List Nat
 neg:List Nat
structure GeoM.Ok (G:GeoM):Prop where
 w1:1≤G.w
 w2:G.w≤64
 h1:1≤G.h
 h2:G.h≤64
 band:G.band≤3
 style:G.style≤63
 mag:G.mag.length=G.w * G.h
 neg:G.neg.length=G.w * G.h
 magB:∀ m∈G.mag,m<1073741824
 negB:∀ m∈G.neg,m≤1
structure CodM where
 sig:List Bool
 seen:List Bool
 again:List Bool
structure CodM.Ok (G:GeoM) (c:CodM):Prop where
 sig:c.sig.length=G.w * G.h
 seen:c.seen.length=G.w * G.h
 again:c.again.length=G.w * G.h
def oneN (b:Bool):Nat:=if b then 1 else 0
theorem oneN_le (b:Bool):oneN b≤1:=by cases b <;> decide
def inM (G:GeoM) (x y:Nat) (dx dy:Int):Bool :=
 decide (0≤(x:Int)+dx) && (decide ((x:Int)+dx<(G.w:Int)) && (decide (0≤(y:Int)+dy) && (decide ((y:Int)+dy<(G.h:Int)) && !(G.style.testBit 3 && (decide (0<dy) && decide (y % 4=3))))))
def atM (G:GeoM) (x y:Nat) (dx dy:Int):Nat:=((y:Int)+dy).toNat * G.w+((x:Int)+dx).toNat
def sigM (G:GeoM) (c:CodM) (x y:Nat) (dx dy:Int):Bool:=inM G x y dx dy && c.sig.getD (atM G x y dx dy) false
structure ArdM where
 h:Nat
 v:Nat
 d:Nat
def ardM (G:GeoM) (c:CodM) (x y:Nat):ArdM where
 h:=oneN (sigM G c x y (-1) 0)+oneN (sigM G c x y 1 0)
 v:=oneN (sigM G c x y 0 (-1))+oneN (sigM G c x y 0 1)
 d:=oneN (sigM G c x y (-1) (-1))+oneN (sigM G c x y 1 (-1))+oneN (sigM G c x y (-1) 1)+oneN (sigM G c x y 1 1)
theorem ardM_le (G:GeoM) (c:CodM) (x y:Nat):(ardM G c x y).h≤2∧(ardM G c x y).v≤2∧(ardM G c x y).d≤4:=by
 have h:=oneN_le
 refine⟨?_,?_,?_⟩
 ·have:=h (sigM G c x y (-1) 0);have:=h (sigM G c x y 1 0);simp only[ardM];omega
 ·have:=h (sigM G c x y 0 (-1));have:=h (sigM G c x y 0 1);simp only[ardM];omega
 ·have:=h (sigM G c x y (-1) (-1));have:=h (sigM G c x y 1 (-1));have:=h (sigM G c x y (-1) 1);have:=h (sigM G c x y 1 1);simp only[ardM];omega
def zctx (band h v d:Nat):Nat :=
 if band=3 then (if 3≤d then 8 else if d=2 then 6+min (h+v) 1 else if d=1 then 3+min (h+v) 2 else min (h+v) 2)
 else if band=1 then (if v=2 then 8 else if v=1∧1≤h then 7 else if v=1 then 5+min d 1 else if 0<h then 2+h else min d 2)
 else (if h=2 then 8 else if h=1∧1≤v then 7 else if h=1 then 5+min d 1 else if 0<v then 2+v else min d 2)
theorem zctx_le {band h v d:Nat} (h1:h≤2) (h2:v≤2):zctx band h v d≤8:=by
 unfold zctx
 repeat' split
 all_goals omega
def zeroM (G:GeoM) (c:CodM) (x y:Nat):Nat:=zctx G.band (ardM G c x y).h (ardM G c x y).v (ardM G c x y).d
theorem zeroM_le (G:GeoM) (c:CodM) (x y:Nat):zeroM G c x y≤8:=zctx_le (ardM_le G c x y).1 (ardM_le G c x y).2.1
def saysM (G:GeoM) (c:CodM) (x y:Nat) (dx dy:Int):Int:=if sigM G c x y dx dy then 1 - 2 * ((G.neg.getD (atM G x y dx dy) 0:Nat):Int) else 0
def clampI (z:Int):Int:=max (min z 1) (-1)
theorem clampI_bd (z:Int) : -1≤clampI z∧clampI z≤1:=by unfold clampI;omega
structure SgnM where
 k:Nat
 turn:Nat
def sctx (h v:Int):SgnM :=
 if h<0∨(h=0∧v<0) then (if -h=1 then ⟨(12 - v).toNat,1⟩ else ⟨(9 - v).toNat,1⟩) else (if h=1 then ⟨(12+v).toNat,0⟩ else ⟨(9+v).toNat,0⟩)
def sgnM (G:GeoM) (c:CodM) (x y:Nat):SgnM :=
 sctx (clampI (saysM G c x y (-1) 0+saysM G c x y 1 0)) (clampI (saysM G c x y 0 (-1)+saysM G c x y 0 1))
theorem sctx_le {h v:Int} (_h1 : -1≤h∧h≤1) (h2 : -1≤v∧v≤1):(sctx h v).k≤13∧(sctx h v).turn≤1:=by
 unfold sctx
 split
 ·split <;> constructor <;> simp only <;> omega
 ·split <;> constructor <;> simp only <;> omega
theorem sgnM_le (G:GeoM) (c:CodM) (x y:Nat):(sgnM G c x y).k≤13∧(sgnM G c x y).turn≤1:=sctx_le (clampI_bd _) (clampI_bd _)
def rctx (first:Bool) (n:Nat):Nat:=if first then (if 0<n then 15 else 14) else 16
structure RawM where
 b:List UInt8
 cur:Nat
 free:Nat
 top:Nat
structure RawM.Ok (r:RawM):Prop where
 f1:1≤r.free
 f2:r.free≤r.top
 top:r.top≤8
 cur:r.cur<256
def rawNew:RawM:=⟨[],0,8,8⟩
theorem rawNew_ok:rawNew.Ok:=⟨by decide,by decide,by decide,by decide⟩
def rawBit (r:RawM) (bit:Nat):RawM :=
 let c:=r.cur ||| bit % 2 * 2 ^ (r.free - 1)
 if r.free=1 then (if c=255 then ⟨r.b++[UInt8.ofNat c],0,7,7⟩ else ⟨r.b++[UInt8.ofNat c],0,8,8⟩) else ⟨r.b,c,r.free - 1,r.top⟩
theorem rawCur_lt {r:RawM} (h:r.Ok) (bit:Nat):r.cur ||| bit % 2 * 2 ^ (r.free - 1)<256:=by
 have h3:bit % 2 * 2 ^ (r.free - 1)<2 ^ 8:=by
  have h1:2 ^ (r.free - 1)≤2 ^ 7:=Nat.pow_le_pow_right (by omega) (by have:=h.f1;have:=h.f2;have:=h.top;omega)
  have h2:bit % 2<2:=Nat.mod_lt _ (by decide)
  have h4:bit % 2 * 2 ^ (r.free - 1)≤1 * 2 ^ (r.free - 1):=Nat.mul_le_mul_right _ (by omega)
  omega
 exact Nat.or_lt_two_pow (n:=8) h.cur h3
theorem rawBit_ok {r:RawM} (h:r.Ok) (bit:Nat):(rawBit r bit).Ok:=by
 have hc:=rawCur_lt h bit
 have h1:=h.f1
 have h2:=h.f2
 have h3:=h.top
 unfold rawBit
 simp only
 split
 ·split
  ·exact⟨by simp,by simp,by simp,by simp⟩
  ·exact⟨by simp,by simp,by simp,by simp⟩
 ·exact⟨by simp only;omega,by simp only;omega,h3,hc⟩
theorem rawBit_len (r:RawM) (bit:Nat):r.b.length≤(rawBit r bit).b.length∧(rawBit r bit).b.length≤r.b.length+1:=by
 unfold rawBit
 simp only
 split
 ·split <;> simp
 ·simp
def rawOut (r:RawM):Nat:=if r.free<r.top then r.b.length+1 else r.b.length
def noLast255 (l:List UInt8):List UInt8:=if l.getLast?=some 255 then l.dropLast else l
def rawFlush (r:RawM):List UInt8:=noLast255 (if r.free<r.top then r.b++[UInt8.ofNat r.cur] else r.b)
def flushC (e:EncM):Nat:=if e.c+e.a≤e.c / 65536 * 65536+65535 then e.c / 65536 * 65536+65535 - 32768 else e.c / 65536 * 65536+65535
def flush1 (e:EncM):EncM:=outE { e with c:=e.c * 2 ^ e.ct }
def flushE (e:EncM):EncM:=flush1 (flush1 { e with c:=flushC e })
def flushB (e:EncM):List UInt8:=noLast255 ((flushE e).b.drop 1)
structure WrM where
 cx:List CxM
 e:EncM
 r:RawM
structure WrM.Ok (s:WrM):Prop where
 len:s.cx.length=19
 cx:∀ c∈s.cx,c.Ok
 e:s.e.Ok
 r:s.r.Ok
def WrM.size (s:WrM):Nat:=s.e.b.length+s.r.b.length
def bitW (raw:Bool) (s:WrM) (k b:Nat):WrM :=
 if raw then { s with r:=rawBit s.r b } else { s with e:=(encE s.e (s.cx.getD k ⟨0,0⟩) b).1,cx:=s.cx.set k (encE s.e (s.cx.getD k ⟨0,0⟩) b).2 }
theorem bitW_ok {raw:Bool} {s:WrM} (h:s.Ok) {k:Nat} (hk:k<19) (b:Nat):(bitW raw s k b).Ok:=by
 unfold bitW
 split
 ·exact⟨h.len,h.cx,h.e,rawBit_ok h.r b⟩
 ·have hx:(s.cx.getD k ⟨0,0⟩).Ok:=by
   have hk2:k<s.cx.length:=by rw[h.len];exact hk
   rw[List.getD_eq_getElem?_getD,List.getElem?_eq_getElem hk2]
   exact h.cx _ (List.getElem_mem hk2)
  have:=encE_ok (bit:=b) h.e hx
  refine⟨by simpa using h.len,fun c hc=>?_,this.1,h.r⟩
  rcases List.mem_or_eq_of_mem_set hc with h1 | h1
  ·exact h.cx c h1
  ·rw[h1];exact this.2
inductive Says (raw:Bool):Nat→WrM→WrM→Prop
 | refl (n:Nat) (s:WrM):Says raw n s s
 | bit {n:Nat} {s s':WrM} (k b:Nat) (hk:k<19) (h:Says raw n s s'):Says raw (n+1) s (bitW raw s' k b)
 | fresh {n:Nat} {s s':WrM} (h:Says raw n s s'):Says raw n s { s' with cx:=cxFresh }
theorem Says.ok {raw:Bool} {n:Nat} {s s':WrM} (h:Says raw n s s') (hs:s.Ok):s'.Ok:=by
 induction h with
 | refl=>exact hs
 | bit k b hk _ ih=>exact bitW_ok (ih hs) hk b
 | fresh _ ih=>exact⟨cxFresh_ok.1,cxFresh_ok.2,(ih hs).e,(ih hs).r⟩
theorem Says.more {raw:Bool} {n m:Nat} {s s':WrM} (h:Says raw n s s') (hm:n≤m):Says raw m s s':=by
 induction h generalizing m with
 | refl=>exact .refl _ _
 | bit k b hk _ ih =>
  obtain⟨j,rfl⟩:∃ j,m=j+1:=⟨m - 1,by omega⟩
  exact .bit k b hk (ih (by omega))
 | fresh _ ih=>exact .fresh (ih hm)
theorem Says.trans {raw:Bool} {n m:Nat} {s t u:WrM} (h:Says raw n s t) (k:Says raw m t u):Says raw (n+m) s u:=by
 induction k with
 | refl=>exact h.more (by omega)
 | bit k b hk _ ih=>exact .bit k b hk (ih h)
 | fresh _ ih=>exact .fresh (ih h)
theorem Says.one (raw:Bool) (s:WrM) {k:Nat} (b:Nat) (hk:k<19):Says raw 1 s (bitW raw s k b):=.bit k b hk (.refl 0 s)
theorem normE_len2:∀ (k:Nat) (e:EncM),e.W→(normE k e).b.length≤e.b.length+k
 | 0,e,_=>Nat.le_refl _
 | k+1,e,h=>by
  unfold normE
  split
  ·rename_i ha
   have h1:=normE_len2 k _ (dblE_w h ha).1
   have h2:(dblE e).b.length≤e.b.length+1:=by
    unfold dblE
    split
    ·have:=outE_len { e with a:=2 * e.a,c:=2 * e.c,ct:=0 } h.2.2.2.2.2
     simp only at this
     omega
    ·simp
   omega
  ·omega
theorem rawOut_mono (r:RawM) (h:r.Ok) (b:Nat):rawOut r≤rawOut (rawBit r b):=by
 have h1:=h.f1
 have h2:=h.f2
 unfold rawOut rawBit
 simp only
 by_cases hf:r.free=1
 ·rw[if_pos hf]
  split <;> (split <;> simp)
 ·rw[if_neg hf]
  simp only
  have:r.free - 1<r.top:=by omega
  rw[if_pos this]
  split <;> omega
theorem Says.grow {raw:Bool} {n:Nat} {s s':WrM} (h:Says raw n s s') (hs:s.Ok):s.e.b.length≤s'.e.b.length∧rawOut s.r≤rawOut s'.r∧s'.size≤s.size+16 * n:=by
 induction h with
 | refl=>exact⟨Nat.le_refl _,Nat.le_refl _,by omega⟩
 | @bit n s s' k b hk h ih =>
  obtain⟨i1,i2,i3⟩:=ih hs
  have ho:=h.ok hs
  unfold bitW
  split
  ·have h1:=rawBit_len s'.r b
   have h2:=rawOut_mono s'.r ho.r b
   refine⟨i1,Nat.le_trans i2 h2,?_⟩
   simp only[WrM.size] at i3 ⊢
   omega
  ·have hx:(s'.cx.getD k ⟨0,0⟩).Ok:=by
    have hk2:k<s'.cx.length:=by rw[ho.len];exact hk
    rw[List.getD_eq_getElem?_getD,List.getElem?_eq_getElem hk2]
    exact ho.cx _ (List.getElem_mem hk2)
   have h1:=encE_len (bit:=b) ho.e hx
   have h2:=normE_len2 16 _ (bitE_w (bit:=b) ho.e hx).1
   rw[bitE_b] at h2
   refine⟨Nat.le_trans i1 h1,i2,?_⟩
   have h3:(encE s'.e (s'.cx.getD k ⟨0,0⟩) b).1.b.length≤s'.e.b.length+16:=h2
   simp only[WrM.size] at i3 ⊢
   omega
 | fresh h ih=>exact ih hs
structure CS where
 c:CodM
 s:WrM
def bitOf (G:GeoM) (i plane:Nat):Nat:=G.mag.getD i 0 / 2 ^ plane % 2
theorem bitOf_le (G:GeoM) (i plane:Nat):bitOf G i plane≤1:=by unfold bitOf;omega
section
variable (G:GeoM) (raw:Bool)
def signM (q:CS) (x y:Nat):CS:=⟨{ q.c with sig:=q.c.sig.set (y * G.w+x) true },bitW raw q.s (sgnM G q.c x y).k (G.neg.getD (y * G.w+x) 0 ^^^ (if raw then 0 else (sgnM G q.c x y).turn))⟩
def tryM (q:CS) (x y plane k:Nat):CS :=
 if bitOf G (y * G.w+x) plane=1 then signM G raw ⟨q.c,bitW raw q.s k (bitOf G (y * G.w+x) plane)⟩ x y else ⟨q.c,bitW raw q.s k (bitOf G (y * G.w+x) plane)⟩
def scanX (w h n:Nat):Nat:=(n - 4 * w * (n / w / 4)) / min 4 (h - 4 * (n / w / 4))
def scanY (w h n:Nat):Nat:=4 * (n / w / 4)+(n - 4 * w * (n / w / 4)) % min 4 (h - 4 * (n / w / 4))
def sigStep (plane:Nat) (q:CS) (n:Nat):CS :=
 if q.c.sig.getD (scanY G.w G.h n * G.w+scanX G.w G.h n) false=true∨zeroM G q.c (scanX G.w G.h n) (scanY G.w G.h n)=0 then q
 else ⟨{ (tryM G raw q (scanX G.w G.h n) (scanY G.w G.h n) plane (zeroM G q.c (scanX G.w G.h n) (scanY G.w G.h n))).c with
   seen:=(tryM G raw q (scanX G.w G.h n) (scanY G.w G.h n) plane (zeroM G q.c (scanX G.w G.h n) (scanY G.w G.h n))).c.seen.set (scanY G.w G.h n * G.w+scanX G.w G.h n) true },
  (tryM G raw q (scanX G.w G.h n) (scanY G.w G.h n) plane (zeroM G q.c (scanX G.w G.h n) (scanY G.w G.h n))).s⟩
def aroundN (c:CodM) (x y:Nat):Nat:=(ardM G c x y).h+(ardM G c x y).v+(ardM G c x y).d
def refStep (plane:Nat) (q:CS) (n:Nat):CS :=
 if q.c.sig.getD (scanY G.w G.h n * G.w+scanX G.w G.h n) false=false∨q.c.seen.getD (scanY G.w G.h n * G.w+scanX G.w G.h n) false=true then q
 else ⟨{ q.c with again:=q.c.again.set (scanY G.w G.h n * G.w+scanX G.w G.h n) true },
  bitW raw q.s (rctx (!q.c.again.getD (scanY G.w G.h n * G.w+scanX G.w G.h n) false) (aroundN G q.c (scanX G.w G.h n) (scanY G.w G.h n))) (bitOf G (scanY G.w G.h n * G.w+scanX G.w G.h n) plane)⟩
def blank1 (c:CodM) (x y:Nat):Bool:=!c.sig.getD (y * G.w+x) false && (!c.seen.getD (y * G.w+x) false && decide (zeroM G c x y=0))
def blankM (c:CodM) (x y:Nat):Bool:=decide (y+4≤G.h) && (List.range 4).all fun j=>blank1 G c x (y+j)
def firstM (x y plane:Nat):Nat :=
 if bitOf G ((y+0) * G.w+x) plane=1 then 0 else if bitOf G ((y+1) * G.w+x) plane=1 then 1 else if bitOf G ((y+2) * G.w+x) plane=1 then 2 else if bitOf G ((y+3) * G.w+x) plane=1 then 3 else 4
def runM (f:CS→Nat→CS):Nat→Nat→CS→CS
 | 0,_,q=>q
 | n+1,k,q=>runM f n (k+1) (f q k)
def colStep (x y plane:Nat) (q:CS) (j:Nat):CS :=
 if q.c.sig.getD ((y+j) * G.w+x) false=true∨q.c.seen.getD ((y+j) * G.w+x) false=true then q
 else tryM G raw q x (y+j) plane (zeroM G q.c x (y+j))
def colFrom (x y plane j:Nat) (q:CS):CS:=runM (colStep G raw x y plane) (min 4 (G.h - y) - j) j q
def colM (plane y:Nat) (q:CS) (x:Nat):CS :=
 if blankM G q.c x y then
  if firstM G x y plane=4 then ⟨q.c,bitW raw q.s 17 0⟩
  else colFrom G raw x y plane (firstM G x y plane+1) (signM G raw ⟨q.c,bitW raw (bitW raw (bitW raw q.s 17 1) 18 (firstM G x y plane / 2)) 18 (firstM G x y plane % 2)⟩ x (y+firstM G x y plane))
 else colFrom G raw x y plane 0 q
def rowM (plane:Nat) (q:CS) (t:Nat):CS:=runM (colM G raw plane (4 * t)) G.w 0 q
def symM (s:WrM):WrM:=bitW raw (bitW raw (bitW raw (bitW raw s 18 1) 18 0) 18 1) 18 0
def cleanM (plane:Nat) (q:CS):CS :=
 ⟨{ (runM (rowM G raw plane) ((G.h+3) / 4) 0 q).c with seen:=List.replicate (G.w * G.h) false },if G.style.testBit 5 then symM raw (runM (rowM G raw plane) ((G.h+3) / 4) 0 q).s else (runM (rowM G raw plane) ((G.h+3) / 4) 0 q).s⟩
def kindM (k:Nat):Nat:=if k=0 then 2 else (k - 1) % 3
def resetM (q:CS):CS:=if G.style.testBit 1 then ⟨q.c,{ q.s with cx:=cxFresh }⟩ else q
def passM (planes k:Nat) (q:CS):CS :=
 if kindM k=0 then runM (sigStep G raw (planes - 1 - (k+2) / 3)) (G.w * G.h) 0 (resetM G q)
 else if kindM k=1 then runM (refStep G raw (planes - 1 - (k+2) / 3)) (G.w * G.h) 0 (resetM G q)
 else cleanM G raw (planes - 1 - (k+2) / 3) (resetM G q)
end
section
variable {G:GeoM} {raw:Bool}
theorem signM_says (q:CS) (x y:Nat):Says raw 1 q.s (signM G raw q x y).s:=Says.one raw _ _ (by have:=(sgnM_le G q.c x y).1;omega)
theorem tryM_says (q:CS) (x y plane:Nat) {k:Nat} (hk:k<19):Says raw 2 q.s (tryM G raw q x y plane k).s:=by
 unfold tryM
 split
 ·exact(Says.one raw q.s _ hk).trans (signM_says ⟨q.c,bitW raw q.s k _⟩ x y)
 ·exact(Says.one raw q.s _ hk).more (by omega)
theorem sigStep_says (plane:Nat) (q:CS) (n:Nat):Says raw 2 q.s (sigStep G raw plane q n).s:=by
 unfold sigStep
 split
 ·exact .refl _ _
 ·exact tryM_says q _ _ _ (by have:=zeroM_le G q.c (scanX G.w G.h n) (scanY G.w G.h n);omega)
theorem rctx_le (first:Bool) (n:Nat):rctx first n<19:=by unfold rctx;repeat' split <;> try omega
theorem refStep_says (plane:Nat) (q:CS) (n:Nat):Says raw 2 q.s (refStep G raw plane q n).s:=by
 unfold refStep
 split
 ·exact .refl _ _
 ·exact(Says.one raw q.s _ (rctx_le _ _)).more (by omega)
theorem runM_says {f:CS→Nat→CS} {b:Nat} (hf:∀ q n,Says raw b q.s (f q n).s):∀ (n k:Nat) (q:CS),Says raw (b * n) q.s (runM f n k q).s
 | 0,_,q=>.refl _ _
 | n+1,k,q=>((hf q k).trans (runM_says hf n (k+1) (f q k))).more (by rw[Nat.mul_succ];omega)
theorem colStep_says (x y plane:Nat) (q:CS) (j:Nat):Says raw 2 q.s (colStep G raw x y plane q j).s:=by
 unfold colStep
 split
 ·exact .refl _ _
 ·exact tryM_says q _ _ _ (by have:=zeroM_le G q.c x (y+j);omega)
theorem colFrom_says (x y plane j:Nat) (q:CS):Says raw 8 q.s (colFrom G raw x y plane j q).s:=(runM_says (colStep_says x y plane) _ _ _).more (by omega)
theorem colM_says (plane y:Nat) (q:CS) (x:Nat):Says raw 12 q.s (colM G raw plane y q x).s:=by
 unfold colM
 split
 ·split
  ·exact(Says.one raw q.s _ (by omega)).more (by omega)
  ·exact((((Says.one raw q.s _ (by omega)).trans (Says.one raw _ _ (by omega))).trans (Says.one raw _ _ (by omega))).trans ((signM_says (G:=G) ⟨q.c,_⟩ _ _).trans (colFrom_says _ _ _ _ _)))
 ·exact(colFrom_says _ _ _ _ _).more (by omega)
theorem rowM_says (plane:Nat) (q:CS) (t:Nat):Says raw (12 * G.w) q.s (rowM G raw plane q t).s:=runM_says (colM_says plane (4 * t)) _ _ _
theorem cleanM_says (hh:1≤G.h) (plane:Nat) (q:CS):Says raw (12 * (G.w * G.h)+4) q.s (cleanM G raw plane q).s:=by
 have h:=(runM_says (raw:=raw) (rowM_says (G:=G) plane) ((G.h+3) / 4) 0 q)
 have hm:12 * G.w * ((G.h+3) / 4)≤12 * (G.w * G.h):=by rw[Nat.mul_assoc];exact Nat.mul_le_mul_left _ (Nat.mul_le_mul_left _ (by omega))
 unfold cleanM
 simp only
 split
 ·exact((((h.trans (Says.one raw _ _ (by omega))).trans (Says.one raw _ _ (by omega))).trans (Says.one raw _ _ (by omega))).trans (Says.one raw _ _ (by omega))).more (by omega)
 ·exact h.more (by omega)
theorem resetM_says (q:CS):Says raw 0 q.s (resetM G q).s:=by
 unfold resetM
 split
 ·exact .fresh (.refl _ _)
 ·exact .refl _ _
theorem passM_says (hh:1≤G.h) (planes k:Nat) (q:CS):Says raw (12 * (G.w * G.h)+4) q.s (passM G raw planes k q).s:=by
 unfold passM
 split
 ·exact((resetM_says (G:=G) q).trans (runM_says (sigStep_says _) _ _ _)).more (by omega)
 ·split
  ·exact((resetM_says (G:=G) q).trans (runM_says (refStep_says _) _ _ _)).more (by omega)
  ·exact((resetM_says (G:=G) q).trans (cleanM_says hh _ _)).more (by omega)
theorem signM_ok {q:CS} (h:q.c.Ok G) (x y:Nat):(signM G raw q x y).c.Ok G:=⟨by simpa [signM] using h.sig,h.seen,h.again⟩
theorem tryM_ok {q:CS} (h:q.c.Ok G) (x y plane k:Nat):(tryM G raw q x y plane k).c.Ok G:=by
 unfold tryM
 split
 ·exact signM_ok (raw:=raw) (q:=⟨q.c,bitW raw q.s k (bitOf G (y * G.w+x) plane)⟩) h x y
 ·exact h
theorem sigStep_ok {q:CS} (h:q.c.Ok G) (plane n:Nat):(sigStep G raw plane q n).c.Ok G:=by
 unfold sigStep
 split
 ·exact h
 ·have:=tryM_ok (raw:=raw) h (scanX G.w G.h n) (scanY G.w G.h n) plane (zeroM G q.c (scanX G.w G.h n) (scanY G.w G.h n))
  exact⟨this.sig,by simpa using this.seen,this.again⟩
theorem refStep_ok {q:CS} (h:q.c.Ok G) (plane n:Nat):(refStep G raw plane q n).c.Ok G:=by
 unfold refStep
 split
 ·exact h
 ·exact⟨h.sig,h.seen,by simpa using h.again⟩
theorem runM_ok {f:CS→Nat→CS} (hf:∀ q n,q.c.Ok G→(f q n).c.Ok G):∀ (n k:Nat) (q:CS),q.c.Ok G→(runM f n k q).c.Ok G
 | 0,_,_,h=>h
 | n+1,k,q,h=>runM_ok hf n (k+1) _ (hf q k h)
theorem colStep_ok {q:CS} (h:q.c.Ok G) (x y plane j:Nat):(colStep G raw x y plane q j).c.Ok G:=by
 unfold colStep
 split
 ·exact h
 ·exact tryM_ok h _ _ _ _
theorem colFrom_ok {q:CS} (h:q.c.Ok G) (x y plane j:Nat):(colFrom G raw x y plane j q).c.Ok G:=runM_ok (fun _ _ h=>colStep_ok h _ _ _ _) _ _ _ h
theorem colM_ok {q:CS} (h:q.c.Ok G) (plane y x:Nat):(colM G raw plane y q x).c.Ok G:=by
 unfold colM
 split
 ·split
  ·exact h
  ·exact colFrom_ok (signM_ok (raw:=raw) (q:=⟨q.c,bitW raw (bitW raw (bitW raw q.s 17 1) 18 (firstM G x y plane / 2)) 18 (firstM G x y plane % 2)⟩) h _ _) _ _ _ _
 ·exact colFrom_ok h _ _ _ _
theorem rowM_ok {q:CS} (h:q.c.Ok G) (plane t:Nat):(rowM G raw plane q t).c.Ok G:=runM_ok (fun _ _ h=>colM_ok h _ _ _) _ _ _ h
theorem cleanM_ok {q:CS} (h:q.c.Ok G) (plane:Nat):(cleanM G raw plane q).c.Ok G:=by
 have:=runM_ok (fun _ n h=>rowM_ok (raw:=raw) h plane n) ((G.h+3) / 4) 0 q h
 exact⟨this.sig,by simp[cleanM],this.again⟩
theorem passM_ok {q:CS} (h:q.c.Ok G) (planes k:Nat):(passM G raw planes k q).c.Ok G:=by
 have hr:(resetM G q).c.Ok G:=by unfold resetM;split <;> exact h
 unfold passM
 split
 ·exact runM_ok (fun _ _ h=>sigStep_ok h _ _) _ _ _ hr
 ·split
  ·exact runM_ok (fun _ _ h=>refStep_ok h _ _) _ _ _ hr
  ·exact cleanM_ok hr _
end
end
section
def countM (planes:Nat):Nat:=3 * planes - 2
def isRawM (style k:Nat):Bool:=style.testBit 0 && (decide (10≤k) && !decide (kindM k=2))
def endsM (style k:Nat):Bool:=style.testBit 2 || (style.testBit 0 && ((decide (kindM k=2) && decide (9≤k)) || (decide (kindM k=1) && decide (10≤k))))
structure BlkM where
 planes:Nat
 passes:List (Int × Bool)
 bytes:List UInt8
structure EncS where
 q:CS
 raw:Bool
 passes:List (Int × Bool)
 bytes:List UInt8
 first:Nat
def adjM (x:List UInt8) (n:Nat):Nat:=if 0<min n x.length∧x[min n x.length - 1]?=some 255 then min n x.length - 1 else min n x.length
theorem adjM_le (x:List UInt8) (n:Nat):adjM x n≤x.length∧adjM x n≤n:=by unfold adjM;split <;> omega
theorem adjM_mono (x:List UInt8) {n m:Nat} (h:n≤m):adjM x n≤adjM x m:=by
 by_cases e:min n x.length=min m x.length
 ·unfold adjM;rw[e];exact Nat.le_refl _
 ·unfold adjM
  split <;> split <;> omega
def closeM (at_:Nat) (x:List UInt8):List (Int × Bool)→List (Int × Bool)
 | []=>[]
 | [p]=>[(((at_+x.length:Nat):Int),p.2)]
 | p::p2::l=>(((at_+adjM x p.1.toNat:Nat):Int),p.2)::closeM at_ x (p2::l)
theorem closeM_length (at_:Nat) (x:List UInt8):∀ l:List (Int × Bool),(closeM at_ x l).length=l.length
 | []=>rfl
 | [p]=>rfl
 | p::p2::l=>by simp only[closeM,List.length_cons,closeM_length at_ x (p2::l)]
section
variable (G:GeoM) (planes n:Nat) (t:EncS) (k:Nat)
def stRaw:Bool:=if k=t.first then isRawM G.style k else t.raw
def stQ0:CS:=if k=t.first then ⟨t.q.c,⟨t.q.s.cx,encNew,rawNew⟩⟩ else t.q
def stQ:CS:=passM G (stRaw G t k) planes k (stQ0 t k)
def outM (raw:Bool) (s:WrM):Nat:=if raw then rawOut s.r else s.e.b.length+4
def stEnd:Bool:=endsM G.style k || decide (k+1=n)
def stPs:List (Int × Bool):=t.passes++[(((outM (stRaw G t k) (stQ G planes t k).s:Nat):Int),stEnd G n k)]
def segM (raw:Bool) (s:WrM):List UInt8:=if raw then rawFlush s.r else flushB s.e
def encStep:EncS :=
 if stEnd G n k then
  ⟨⟨(stQ G planes t k).c,⟨(stQ G planes t k).s.cx,flushE (stQ G planes t k).s.e,(stQ G planes t k).s.r⟩⟩,stRaw G t k,
   (stPs G planes n t k).take t.first++closeM t.bytes.length (segM (stRaw G t k) (stQ G planes t k).s) ((stPs G planes n t k).drop t.first),t.bytes++segM (stRaw G t k) (stQ G planes t k).s,k+1⟩
 else ⟨stQ G planes t k,stRaw G t k,stPs G planes n t k,t.bytes,t.first⟩
def encRun:Nat→Nat→EncS→EncS
 | 0,_,t=>t
 | f+1,k,t=>encRun f (k+1) (encStep G planes n t k)
end
def planesOf (l:List Nat):Nat:=l.foldl (fun p m=>if m=0 then p else max p (m.log2+1)) 0
def codNew (G:GeoM):CodM:=⟨List.replicate (G.w * G.h) false,List.replicate (G.w * G.h) false,List.replicate (G.w * G.h) false⟩
def encStart (G:GeoM):EncS:=⟨⟨codNew G,⟨cxFresh,encNew,rawNew⟩⟩,false,[],[],0⟩
def encodeM (G:GeoM):BlkM :=
 ⟨planesOf G.mag,(encRun G (planesOf G.mag) (countM (planesOf G.mag)) (countM (planesOf G.mag)) 0 (encStart G)).passes,(encRun G (planesOf G.mag) (countM (planesOf G.mag)) (countM (planesOf G.mag)) 0 (encStart G)).bytes⟩
theorem flush1_ok {e:EncM} (h1:1≤e.a) (h2:e.a<0x10000):(flush1 e).a=e.a∧1≤(flush1 e).ct∧(flush1 e).ct≤12∧((flush1 e).c+(flush1 e).a) * 2 ^ (flush1 e).ct≤150994944∧(flush1 e).b≠[] :=
 outE_ok (e:={ e with c:=e.c * 2 ^ e.ct }) h1 h2
theorem flushE_ok {e:EncM} (h:e.Ok):(flushE e).Ok:=by
 have h1:=flush1_ok (e:={ e with c:=flushC e }) h.1.1 h.1.2.1
 have ha:(flush1 { e with c:=flushC e }).a=e.a:=h1.1
 have h2:=flush1_ok (e:=flush1 { e with c:=flushC e }) (by rw[ha];exact h.1.1) (by rw[ha];exact h.1.2.1)
 have hb:(flushE e).a=e.a:=by unfold flushE;rw[h2.1,ha]
 exact⟨⟨by rw[hb];exact h.1.1,by rw[hb];exact h.1.2.1,h2.2.1,h2.2.2.1,h2.2.2.2.1,h2.2.2.2.2⟩,by rw[hb];exact h.2⟩
theorem flushE_len {e:EncM} (h:e.Ok):(flushE e).b.length=e.b.length+2:=by
 have h1:=flush1_ok (e:={ e with c:=flushC e }) h.1.1 h.1.2.1
 have e1:(flush1 { e with c:=flushC e }).b.length=e.b.length+1:=outE_len _ h.1.2.2.2.2.2
 have e2:(flushE e).b.length=(flush1 { e with c:=flushC e }).b.length+1:=outE_len { flush1 { e with c:=flushC e } with c:=(flush1 { e with c:=flushC e }).c * 2 ^ (flush1 { e with c:=flushC e }).ct } h1.2.2.2.2
 omega
theorem noLast255_len (l:List UInt8):(noLast255 l).length≤l.length:=by unfold noLast255;split <;> simp
theorem segM_len {raw:Bool} {s:WrM} (h:s.Ok):(segM raw s).length≤s.size+2:=by
 unfold segM
 split
 ·unfold rawFlush
  refine Nat.le_trans (noLast255_len _) ?_
  unfold WrM.size
  split
  ·simp;omega
  ·omega
 ·unfold flushB
  refine Nat.le_trans (noLast255_len _) ?_
  rw[List.length_drop,flushE_len h.e]
  unfold WrM.size
  omega
structure EncS.Ok (G:GeoM) (t:EncS) (k:Nat):Prop where
 c:t.q.c.Ok G
 s:t.q.s.Ok
 len:t.passes.length=k
 first:t.first≤k
 /-- those that were laid -/
 pos:∀ p∈t.passes,0≤p.1
 up:(t.passes.take t.first).Pairwise fun a b=>a.1≤b.1
 top:∀ p∈t.passes.take t.first,p.1≤(t.bytes.length:Int)
 last:t.first≠0→((t.passes.take t.first).getLast?.map (·.1))=some (t.bytes.length:Int)
 none:t.first=0→t.bytes=[]
 /-- those on their way -/
 up2:(t.passes.drop t.first).Pairwise fun a b=>a.1≤b.1
 top2:∀ p∈t.passes.drop t.first,p.1≤(outM t.raw t.q.s:Int)
theorem closeM_mem (at_:Nat) (x:List UInt8):∀ (l:List (Int × Bool)) (c:Int × Bool),c∈closeM at_ x l→c.1=(at_+x.length:Nat)∨∃ q∈l,c.1=(at_+adjM x q.1.toNat:Nat)
 | [],_,h=>by cases h
 | [p],c,h=>by
  simp only[closeM,List.mem_singleton] at h
  subst h
  exact .inl rfl
 | p::p2::l,c,h=>by
  simp only[closeM,List.mem_cons] at h
  rcases h with rfl | h
  ·exact .inr ⟨p,List.mem_cons_self,rfl⟩
  ·rcases closeM_mem at_ x (p2::l) c h with h | ⟨q,hq,h⟩
   ·exact .inl h
   ·exact .inr ⟨q,List.mem_cons_of_mem _ hq,h⟩
theorem closeM_range (at_:Nat) (x:List UInt8) (l:List (Int × Bool)) (c:Int × Bool) (h:c∈closeM at_ x l):(at_:Int)≤c.1∧c.1≤((at_+x.length:Nat):Int):=by
 rcases closeM_mem at_ x l c h with h | ⟨q,-,h⟩
 ·omega
 ·have:=(adjM_le x q.1.toNat).1
  omega
theorem closeM_up (at_:Nat) (x:List UInt8):∀ (l:List (Int × Bool)),l.Pairwise (fun a b=>a.1≤b.1)→(closeM at_ x l).Pairwise (fun a b=>a.1≤b.1)
 | [],_=>List.Pairwise.nil
 | [p],_=>by simp[closeM]
 | p::p2::l,h=>by
  rw[closeM]
  obtain⟨h1,h2⟩:=List.pairwise_cons.1 h
  refine List.pairwise_cons.2 ⟨fun c hc=>?_,closeM_up at_ x (p2::l) h2⟩
  rcases closeM_mem at_ x (p2::l) c hc with h | ⟨q,hq,h⟩
  ·have:=(adjM_le x p.1.toNat).1
   simp only
   omega
  ·have:=adjM_mono x (n:=p.1.toNat) (m:=q.1.toNat) (by have:=h1 q hq;omega)
   simp only
   omega
theorem closeM_last (at_:Nat) (x:List UInt8):∀ (l:List (Int × Bool)),l≠[]→(closeM at_ x l).getLast?.map (·.1)=some ((at_+x.length:Nat):Int)
 | [],h=>absurd rfl h
 | [p],_=>rfl
 | p::p2::l,_=>by
  rw[closeM]
  have h:=closeM_last at_ x (p2::l) (by simp)
  have hl:=closeM_length at_ x (p2::l)
  cases hc:closeM at_ x (p2::l) with
  | nil=>rw[hc] at hl;simp at hl
  | cons a b=>rw[hc] at h;rw[List.getLast?_cons_cons];exact h
theorem outM_mono {raw:Bool} {n:Nat} {s s':WrM} (h:Says raw n s s') (hs:s.Ok):outM raw s≤outM raw s':=by
 obtain⟨h1,h2,-⟩:=h.grow hs
 unfold outM
 split <;> omega
section
variable {G:GeoM} {planes n:Nat} {t:EncS} {k:Nat}
theorem stQ0_ok (h:t.Ok G k):(stQ0 t k).c.Ok G∧(stQ0 t k).s.Ok:=by
 unfold stQ0
 split
 ·exact⟨h.c,h.s.len,h.s.cx,encNew_ok,rawNew_ok⟩
 ·exact⟨h.c,h.s⟩
theorem stQ_ok (hg:1≤G.h) (h:t.Ok G k):(stQ G planes t k).c.Ok G∧(stQ G planes t k).s.Ok :=
 ⟨passM_ok (stQ0_ok h).1 _ _,(passM_says hg _ _ _).ok (stQ0_ok h).2⟩
theorem stPs_take (h:t.Ok G k):(stPs G planes n t k).take t.first=t.passes.take t.first:=by
 unfold stPs
 rw[List.take_append_of_le_length (by rw[h.len];exact h.first)]
theorem stPs_drop (h:t.Ok G k):(stPs G planes n t k).drop t.first=t.passes.drop t.first++[(((outM (stRaw G t k) (stQ G planes t k).s:Nat):Int),stEnd G n k)]:=by
 unfold stPs
 rw[List.drop_append_of_le_length (by rw[h.len];exact h.first)]
theorem stPs_up (hg:1≤G.h) (h:t.Ok G k):((stPs G planes n t k).drop t.first).Pairwise (fun a b=>a.1≤b.1)∧∀ p∈(stPs G planes n t k).drop t.first,p.1≤(outM (stRaw G t k) (stQ G planes t k).s:Int):=by
 have hd:∀ p∈t.passes.drop t.first,p.1≤(outM (stRaw G t k) (stQ G planes t k).s:Int):=by
  intro p hp
  by_cases hk:k=t.first
  ·have:t.passes.drop t.first=[]:=List.drop_eq_nil_of_le (by rw[h.len];omega)
   rw[this] at hp
   cases hp
  ·have h1:=h.top2 p hp
   have h2:outM t.raw t.q.s≤outM (stRaw G t k) (stQ G planes t k).s:=by
    unfold stQ stRaw stQ0
    rw[if_neg hk,if_neg hk]
    exact outM_mono (passM_says hg _ _ _) h.s
   omega
 rw[stPs_drop h]
 refine⟨List.pairwise_append.2 ⟨h.up2,by simp,fun a ha b hb=>?_⟩,fun p hp=>?_⟩
 ·rw[List.mem_singleton] at hb
  subst hb
  exact hd a ha
 ·rcases List.mem_append.1 hp with hp | hp
  ·exact hd p hp
  ·rw[List.mem_singleton] at hp
   subst hp
   exact Int.le_refl _
theorem stPs_pos (h:t.Ok G k):∀ p∈stPs G planes n t k,0≤p.1:=by
 intro p hp
 rcases List.mem_append.1 hp with hp | hp
 ·exact h.pos p hp
 ·rw[List.mem_singleton] at hp
  subst hp
  exact Int.natCast_nonneg _
theorem stPs_len (h:t.Ok G k):(stPs G planes n t k).length=k+1:=by simp[stPs,h.len]
theorem encStep_ok (hg:1≤G.h) (h:t.Ok G k):(encStep G planes n t k).Ok G (k+1):=by
 obtain⟨q1,q2⟩:=stQ_ok (planes:=planes) hg h
 obtain⟨u1,u2⟩:=stPs_up (planes:=planes) (n:=n) hg h
 have hp:=stPs_pos (planes:=planes) (n:=n) h
 have hl:=stPs_len (planes:=planes) (n:=n) h
 have hf:=h.first
 unfold encStep
 split
 ·obtain⟨x,hx⟩:∃ x,segM (stRaw G t k) (stQ G planes t k).s=x:=⟨_,rfl⟩
  rw[hx]
  have hd:(stPs G planes n t k).drop t.first≠[]:=by
   intro e
   have:=congrArg List.length e
   rw[List.length_drop,hl,List.length_nil] at this
   omega
  have hlen:((stPs G planes n t k).take t.first++closeM t.bytes.length x ((stPs G planes n t k).drop t.first)).length=k+1:=by
   rw[List.length_append,closeM_length,List.length_take,List.length_drop,hl]
   omega
  have hT:∀ p∈t.passes.take t.first,p.1≤(t.bytes.length:Int):=h.top
  have hR:=closeM_range t.bytes.length x ((stPs G planes n t k).drop t.first)
  refine⟨q1,⟨q2.len,q2.cx,flushE_ok q2.e,q2.r⟩,hlen,Nat.le_refl _,fun p hp'=>?_,?_,fun p hp'=>?_,fun _=>?_,fun e=>by simp at e,?_,?_⟩
  ·rcases List.mem_append.1 hp' with h1 | h1
   ·exact hp p (List.mem_of_mem_take h1)
   ·have:=(hR p h1).1
    omega
  ·rw[List.take_of_length_le (by rw[hlen];exact Nat.le_refl _)]
   refine List.pairwise_append.2 ⟨by rw[stPs_take h];exact h.up,closeM_up _ _ _ u1,fun a ha b hb=>?_⟩
   rw[stPs_take h] at ha
   have h1:=hT a ha
   have h2:=(hR b hb).1
   omega
  ·have hp2:=List.mem_of_mem_take hp'
   simp only[List.length_append]
   rcases List.mem_append.1 hp2 with h1 | h1
   ·rw[stPs_take h] at h1
    have:=hT p h1
    push_cast
    omega
   ·have:=(hR p h1).2
    exact this
  ·rw[List.take_of_length_le (by rw[hlen];exact Nat.le_refl _)]
   have h1:=closeM_last t.bytes.length x _ hd
   rw[List.getLast?_append]
   cases hc:(closeM t.bytes.length x ((stPs G planes n t k).drop t.first)).getLast? with
   | none=>rw[hc] at h1;cases h1
   | some c=>rw[hc] at h1;simpa using h1
  ·rw[List.drop_eq_nil_of_le (by rw[hlen];exact Nat.le_refl _)]
   exact List.Pairwise.nil
  ·rw[List.drop_eq_nil_of_le (by rw[hlen];exact Nat.le_refl _)]
   intro p hp'
   cases hp'
 ·exact⟨q1,q2,hl,Nat.le_succ_of_le hf,hp,by rw[stPs_take h];exact h.up,by rw[stPs_take h];exact h.top,by rw[stPs_take h];exact h.last,h.none,u1,u2⟩
theorem encStep_end (h:k+1=n):(encStep G planes n t k).first=k+1:=by
 unfold encStep
 rw[if_pos (by simp[stEnd,h])]
def EncS.Few (B:Nat) (t:EncS) (k:Nat):Prop:=t.bytes.length+(if t.first=k then 0 else t.q.s.size)≤k * B
theorem stQ_size (hg:1≤G.h) (h:t.Ok G k) (B:Nat) (hB:16 * (12 * (G.w * G.h)+4)+4≤B) (hf:t.Few B k):t.bytes.length+(stQ G planes t k).s.size+3≤(k+1) * B∧t.bytes.length+(stQ0 t k).s.size≤k * B+1:=by
 have h1:=((passM_says (raw:=stRaw G t k) (G:=G) hg planes k (stQ0 t k)).grow (stQ0_ok h).2).2.2
 have h2:(stQ G planes t k).s.size≤(stQ0 t k).s.size+16 * (12 * (G.w * G.h)+4):=h1
 have h3:t.bytes.length+(stQ0 t k).s.size≤k * B+1:=by
  unfold EncS.Few at hf
  unfold stQ0
  by_cases hk:k=t.first
  ·rw[if_pos hk]
   rw[if_pos hk.symm] at hf
   have:WrM.size ⟨t.q.s.cx,encNew,rawNew⟩=1:=rfl
   rw[this]
   omega
  ·rw[if_neg hk]
   rw[if_neg (fun e=>hk e.symm)] at hf
   omega
 rw[Nat.succ_mul]
 omega
theorem encStep_few (hg:1≤G.h) (h:t.Ok G k) (B:Nat) (hB:16 * (12 * (G.w * G.h)+4)+4≤B) (hf:t.Few B k):(encStep G planes n t k).Few B (k+1):=by
 have h1:=(stQ_size (planes:=planes) hg h B hB hf).1
 have h2:=segM_len (raw:=stRaw G t k) (stQ_ok (planes:=planes) hg h).2
 have h3:=h.first
 unfold EncS.Few encStep
 split
 ·simp only[List.length_append,if_true]
  omega
 ·simp only
  split <;> omega
end
theorem encStart_ok (G:GeoM):(encStart G).Ok G 0 :=
 ⟨⟨by simp[encStart,codNew],by simp[encStart,codNew],by simp[encStart,codNew]⟩,⟨cxFresh_ok.1,cxFresh_ok.2,encNew_ok,rawNew_ok⟩,rfl,Nat.le_refl _,fun p hp=>by simp[encStart] at hp,by simp[encStart],fun p hp=>by simp[encStart] at hp,fun e=>absurd rfl e,fun _=>rfl,by simp[encStart],fun p hp=>by simp[encStart] at hp⟩
theorem encRun_ok {G:GeoM} {planes n:Nat} (hg:1≤G.h) (B:Nat) (hB:16 * (12 * (G.w * G.h)+4)+4≤B):∀ (f k:Nat) (t:EncS),t.Ok G k→t.Few B k→(encRun G planes n f k t).Ok G (k+f)∧(encRun G planes n f k t).Few B (k+f)
 | 0,k,t,h,hf=>⟨h,hf⟩
 | f+1,k,t,h,hf=>by
  have:=encRun_ok (planes:=planes) (n:=n) hg B hB f (k+1) _ (encStep_ok (planes:=planes) (n:=n) hg h) (encStep_few (planes:=planes) (n:=n) hg h B hB hf)
  rw[show k+(f+1)=k+1+f by omega]
  exact this
theorem encRun_first {G:GeoM} {planes n:Nat}:∀ (f k:Nat) (t:EncS),0<f→k+f=n→(encRun G planes n f k t).first=n
 | 0,k,t,h,_=>absurd h (by omega)
 | f+1,k,t,_,e=>by
  by_cases hf:f=0
  ·subst hf
   show (encStep G planes n t k).first=n
   rw[encStep_end e]
   exact e
  ·exact encRun_first f (k+1) _ (by omega) (by omega)
structure BlkM.Ok (b:BlkM):Prop where
 len:b.passes.length=countM b.planes
 pos:∀ p∈b.passes,0≤p.1∧p.1≤(b.bytes.length:Int)
 up:b.passes.Pairwise fun a b=>a.1≤b.1
 last:b.passes≠[]→(b.passes.getLast?.map (·.1))=some (b.bytes.length:Int)
 none:b.passes=[]→b.bytes=[]
theorem encodeM_ok (G:GeoM) (hg:1≤G.h):(encodeM G).Ok∧(encodeM G).bytes.length≤countM (encodeM G).planes * (16 * (12 * (G.w * G.h)+4)+4):=by
 obtain⟨h,hf⟩:=encRun_ok (planes:=planesOf G.mag) (n:=countM (planesOf G.mag)) hg _ (Nat.le_refl _) (countM (planesOf G.mag)) 0 (encStart G) (encStart_ok G) (by unfold EncS.Few;simp[encStart])
 rw[Nat.zero_add] at h hf
 by_cases h0:countM (planesOf G.mag)=0
 ·have e:encodeM G=⟨planesOf G.mag,[],[]⟩:=by unfold encodeM;rw[h0];rfl
  rw[e]
  exact⟨⟨by rw[h0];rfl,fun p hp=>by (cases hp),List.Pairwise.nil,fun e=>absurd rfl e,fun _=>rfl⟩,by simp⟩
 ·have e:=encRun_first (G:=G) (planes:=planesOf G.mag) (n:=countM (planesOf G.mag)) (countM (planesOf G.mag)) 0 (encStart G) (by omega) (by omega)
  obtain⟨t,ht⟩:∃ t,encRun G (planesOf G.mag) (countM (planesOf G.mag)) (countM (planesOf G.mag)) 0 (encStart G)=t:=⟨_,rfl⟩
  have e2:encodeM G=⟨planesOf G.mag,t.passes,t.bytes⟩:=by unfold encodeM;rw[ht]
  rw[ht] at h hf e
  have et:t.passes.take t.first=t.passes:=List.take_of_length_le (by rw[h.len,e];exact Nat.le_refl _)
  have k1:=h.up
  have k2:=h.top
  have k3:=h.last
  rw[et] at k1 k2 k3
  rw[e2]
  refine⟨⟨h.len,fun p hp=>⟨h.pos p hp,k2 p hp⟩,k1,fun _=>k3 (by omega),fun e3=>?_⟩,?_⟩
  ·have:=h.len
   simp only at e3
   rw[e3] at this
   simp at this
   omega
  ·unfold EncS.Few at hf
   simp only
   omega
end
section
def stepP (p m:Nat):Nat:=if m=0 then p else max p (m.log2+1)
theorem planesOf_take (l:List Nat) (i:Nat) {m:Nat} (h:l[i]?=some m):planesOf (l.take (i+1))=stepP (planesOf (l.take i)) m:=by
 unfold planesOf
 rw[List.take_add_one,h,List.foldl_append]
 rfl
theorem planesOf_le (l:List Nat) (B:Nat) (h:∀ m∈l,m<2 ^ B):planesOf l≤B:=by
 have key:∀ (l:List Nat) (p:Nat),(∀ m∈l,m<2 ^ B)→p≤B→l.foldl (fun p m=>if m=0 then p else max p (m.log2+1)) p≤B:=by
  intro l
  induction l with
  | nil=>intro p _ hp;exact hp
  | cons m l ih =>
   intro p hm hp
   refine ih _ (fun m h=>hm m (List.mem_cons_of_mem _ h)) ?_
   show (if m=0 then p else max p (m.log2+1))≤B
   split
   ·exact hp
   ·next h0 =>
    have:=(Nat.log2_lt h0 (k:=B)).2 (hm m List.mem_cons_self)
    omega
 exact key l 0 h (Nat.zero_le _)
theorem stepP_more {p q m:Nat} (h:0<m / 2 ^ q):q+1≤stepP p m:=by
 have h1:2 ^ q≤m:=by
  rcases Nat.lt_or_ge m (2 ^ q) with h2 | h2
  ·rw[Nat.div_eq_of_lt h2] at h
   exact absurd h (by decide)
  ·exact h2
 have h0:m≠0:=by have:=Nat.two_pow_pos q;omega
 have h2:=(Nat.le_log2 h0 (k:=q)).2 h1
 unfold stepP
 rw[if_neg h0]
 omega
theorem stepP_done {p q m:Nat} (h:¬ 0<m / 2 ^ q) (hp:p≤q) (hq:q≤stepP p m):q=stepP p m:=by
 have h1:m<2 ^ q:=by
  rcases Nat.lt_or_ge m (2 ^ q) with h2 | h2
  ·exact h2
  ·exact absurd (Nat.div_pos h2 (Nat.two_pow_pos q)) h
 unfold stepP at hq ⊢
 split at hq
 ·next h0=>rw[if_pos h0];omega
 ·next h0 =>
  rw[if_neg h0]
  have:=(Nat.log2_lt h0 (k:=q)).2 h1
  omega
def midN (l:List Nat) (i:Nat):List Nat:=l.take i++List.replicate (l.length - i) 0
theorem midN_zero (l:List Nat):midN l 0=List.replicate l.length 0:=by simp[midN]
theorem midN_all (l:List Nat):midN l l.length=l:=by simp[midN]
theorem midN_len (l:List Nat) (i:Nat) (h:i≤l.length):(midN l i).length=l.length:=by simp[midN];omega
theorem midN_set (l:List Nat) (i:Nat) {m:Nat} (h:l[i]?=some m):(midN l i).set i m=midN l (i+1):=by
 have hi:=(List.getElem?_eq_some_iff.1 h).1
 unfold midN
 rw[List.take_add_one,h,List.set_append_right _ _ (by rw[List.length_take];omega),List.length_take,show i - min i l.length=0 by omega,show l.length - i=(l.length - (i+1))+1 by omega,List.replicate_succ]
 simp
theorem midN_get (l:List Nat) (i:Nat) {m:Nat} (h:l[i]?=some m):(midN l (i+1))[i]?=some m:=by
 have hi:=(List.getElem?_eq_some_iff.1 h).1
 unfold midN
 rw[List.getElem?_append_left (by rw[List.length_take];omega),List.getElem?_take,if_pos (by omega),h]
def Clo (at_:Nat) (x:List UInt8) (ps:List (Int × Bool)) (first j:Nat) (cur:List (Int × Bool)):Prop :=
 ∀ i,cur[i]?=if first≤i∧i<j then (ps[i]?).map fun p=>(((at_+adjM x p.1.toNat:Nat):Int),p.2) else ps[i]?
theorem Clo.start (at_:Nat) (x:List UInt8) (ps:List (Int × Bool)) (first:Nat):Clo at_ x ps first first ps:=by
 intro i
 rw[if_neg (by omega)]
theorem Clo.len {at_:Nat} {x:List UInt8} {ps cur:List (Int × Bool)} {first j:Nat} (h:Clo at_ x ps first j cur):cur.length=ps.length:=by
 have hl:∀ i,i<cur.length↔i<ps.length:=by
  intro i
  have h1:=h i
  have e1:i<cur.length↔(cur[i]?).isSome=true:=by simp
  have e2:i<ps.length↔(ps[i]?).isSome=true:=by simp
  rw[e1,e2,h1]
  split
  ·simp
  ·rfl
 have h1:=hl cur.length
 have h2:=hl ps.length
 omega
theorem Clo.get {at_:Nat} {x:List UInt8} {ps cur:List (Int × Bool)} {first j:Nat} (h:Clo at_ x ps first j cur) {p:Int × Bool} (hp:ps[j]?=some p):cur[j]?=some p:=by
 rw[h j,if_neg (by omega),hp]
theorem Clo.step {at_:Nat} {x:List UInt8} {ps cur:List (Int × Bool)} {first j:Nat} (h:Clo at_ x ps first j cur) (hf:first≤j) {p:Int × Bool} (hp:ps[j]?=some p):Clo at_ x ps first (j+1) (cur.set j (((at_+adjM x p.1.toNat:Nat):Int),p.2)):=by
 intro i
 rw[List.getElem?_set]
 have hl:=h.len
 have hj:=(List.getElem?_eq_some_iff.1 hp).1
 by_cases e:j=i
 ·subst e
  rw[if_pos rfl,if_pos (by omega),if_pos (by omega),hp]
  rfl
 ·rw[if_neg e,h i]
  by_cases h1:first≤i∧i<j
  ·rw[if_pos h1,if_pos (by omega)]
  ·rw[if_neg h1,if_neg (by omega)]
theorem closeM_get (at_:Nat) (x:List UInt8):∀ (l:List (Int × Bool)) (i:Nat),(closeM at_ x l)[i]?=if i+1=l.length then (l[i]?).map fun p=>(((at_+x.length:Nat):Int),p.2) else (l[i]?).map fun p=>(((at_+adjM x p.1.toNat:Nat):Int),p.2)
 | [],i=>by simp[closeM]
 | [p],0=>rfl
 | [p],i+1=>by simp[closeM]
 | p::p2::l,0=>by
  rw[if_neg (by simp)]
  rfl
 | p::p2::l,i+1=>by
  have:=closeM_get at_ x (p2::l) i
  rw[closeM,List.getElem?_cons_succ,this]
  simp only[List.length_cons,List.getElem?_cons_succ]
  by_cases e:i+1=l.length+1
  ·rw[if_pos e,if_pos (by omega)]
  ·rw[if_neg e,if_neg (by omega)]
theorem Clo.all {at_:Nat} {x:List UInt8} {ps cur:List (Int × Bool)} {first k:Nat} (h:Clo at_ x ps first (k+1) cur) (hl:ps.length=k+1) (hf:first≤k) {p:Int × Bool} (hp:cur[k]?=some p):cur.set k (((at_+x.length:Nat):Int),p.2)=ps.take first++closeM at_ x (ps.drop first):=by
 apply List.ext_getElem?
 intro i
 have hcl:=h.len
 have htl:(ps.take first).length=first:=by rw[List.length_take];omega
 rw[List.getElem?_set]
 by_cases h1:i<first
 ·rw[if_neg (by omega),h i,if_neg (by omega),List.getElem?_append_left (by omega),List.getElem?_take,if_pos h1]
 ·rw[List.getElem?_append_right (by omega),htl,closeM_get,List.length_drop,List.getElem?_drop,show first+(i - first)=i by omega]
  by_cases e:k=i
  ·subst e
   rw[if_pos rfl,if_pos (by omega),if_pos (by omega)]
   have h2:=h k
   rw[if_pos (by omega),hp] at h2
   cases hq:ps[k]? with
   | none=>rw[hq] at h2;cases h2
   | some q =>
    rw[hq] at h2
    simp only[Option.map_some,Option.some.injEq] at h2
    simp only[Option.map_some]
    rw[h2]
  ·rw[if_neg e,if_neg (by omega),h i]
   by_cases h3:i<k+1
   ·rw[if_pos (by omega)]
   ·rw[if_neg (by omega),List.getElem?_eq_none (by omega)]
    rfl
end
section
open Go.RowKit
def rowsV:List Value:=qeT.flatMap fun s=>[.int .i64 s.qe,.int .i64 s.mps,.int .i64 s.lps,.int .i64 (if s.swap then 1 else 0)]
def buildAll (P:Program):List Oper→Act→Option Act
 | [],a=>some a
 | o::l,a =>
  match o.guard,o.op with
  | none,.build t parts=>match P.built t (parts.map fun (i,x)=>(i,a.eval x)).toList with
   | some c=>buildAll P l (a.put o.dst (.agg c))
   | none=>none
  | _,_=>none
theorem wpList_buildAll {P:Program} {ops:Array Oper} {rest:List Oper} {w:World} {Q:Exit→Act→World→Prop}:∀ (l:List Oper) (a a':Act),buildAll P l a=some a'→wpList P ops Q rest a' w→wpList P ops Q (l++rest) a w
 | [],a,a',h,k=>by
  simp only[buildAll,Option.some.injEq] at h
  subst h
  exact k
 | o::l,a,a',h,k=>by
  unfold buildAll at h
  split at h
  ·rename_i t parts hg ho
   split at h
   ·rename_i c hc
    refine wpList_build hg t parts ho (by rw[hc];rfl) ?_
    rw[hc]
    exact wpList_buildAll l _ a' h k
   ·cases h
  ·cases h
theorem setRow_eq {w:World} {g:Nat} {t:TypeId} {old cs:Array Value} (hb:Blk w g t old):Mv w [⟨g,t,old⟩] (w.setRow g cs) [⟨g,t,cs⟩] :=
 Mv.of_grown ⟨rfl,rfl,rfl,by simp,fun k hk hn=>setRow_other w g k cs (fun e=>hn (by rw[e]))⟩ (setRow_heap w g old cs t (0,0) hb)
theorem buildAll_defers {P:Program}:∀ (l:List Oper) (a a':Act),buildAll P l a=some a'→a'.defers=a.defers
 | [],a,a',h=>by
  simp only[buildAll,Option.some.injEq] at h
  rw[h]
 | o::l,a,a',h=>by
  unfold buildAll at h
  split at h
  ·split at h
   ·have:=buildAll_defers l _ a' h
    rw[this]
    cases o.dst <;> rfl
   ·cases h
  ·cases h
theorem wpList_table {P:Program} {ops:Array Oper} {L:List Oper} {o:Oper} {a:Act} {w:World} {Q:Exit→Act→World→Prop} (n g:Nat) (ty t:TypeId) (x y:Operand) (cells old:Array Value)
  (h:(buildAll P (L.take n) a).map (fun a'=>(a'.eval x,a'.eval y))=some (.pointer (some ⟨g,0,none⟩),.agg cells)) (hd:L.drop n=[o]) (ho:o.op=.store ty x y) (hgd:o.guard=none) (hds:o.dst=none)
  (hb:Blk w g t old) (hi:(P.info? ty).map (·.size)=some cells.size) (hold:old.size=cells.size) (h1:cells.all (·.oneCell')=true)
  (hQ:∀ a':Act,a'.eval x=.pointer (some ⟨g,0,none⟩)→a'.defers=a.defers→Q .normal (a'.put none undef) (w.setRow g cells)):wpList P ops Q L a w:=by
 obtain⟨a',h2,h3⟩:=Option.map_eq_some_iff.1 h
 simp only[Prod.mk.injEq] at h3
 rw[← List.take_append_drop n L,hd]
 refine wpList_buildAll _ _ _ h2 (wpList_store_row hgd ty x y ho g cells h3.1 h3.2 t old hb hi hold h1 ?_)
 rw[hds]
 exact hQ a' h3.1 (buildAll_defers _ _ _ h2)
theorem rows3_any (w:World):Calls Tryz.prog 141 #[] w fun e w'=>e=.returned (.agg rowsV.toArray)∧Mv w [] w' []:=by
 obtain⟨w1,hw1⟩:∃ w1,w1=w.alloc (.cells Tryz.zeroCells225 225):=⟨_,rfl⟩
 have M1:=mv_alloc w 225 Tryz.zeroCells225
 rw[← hw1] at M1
 have M2:=M1.trans (setRow_eq (cs:=rowsV.toArray) (M1.sat.2 _ List.mem_cons_self))
 have HB:Blk w1 w.heap.size 225 Tryz.zeroCells225:=M1.sat.2 _ List.mem_cons_self
 go_enter Tryz.func141,Tryz.ntmps141
 go_upto_region 1 with fail
 rw[← hw1]
 refine wp_region_list ?_
 refine wpList_table 48 w.heap.size 225 225 (.tmp 0) (.tmp 48) rowsV.toArray Tryz.zeroCells225 (by kernel_rfl) rfl rfl rfl rfl HB (by kernel_rfl) (by kernel_rfl) (by kernel_rfl) ?_
 intro a' e1 e2
 rename_i K hK
 refine hK _ _ ?_
 refine wp_ret ?_
 refine bodyPost_ret (v:=.agg rowsV.toArray) (results_cell_row Tryz.results141 _ _ w.heap.size 225 _ (0,0) _ (by simpa [Act.put,Act.eval] using e1) (M2.sat.2 _ List.mem_cons_self) Tryz.underlying225 rfl (by kernel_rfl)) (e2.trans rfl) (And.intro rfl M2.drop1)
end
end Go.Proofs.YtjngfhgakokejaaGreat
