/- Tag trees of the program: Encode. Tag trees of the program: what a reader's bits say of a node: the plain model; the walk's state. Tag trees of the program: Decode. All blocks of some bands: the program's iterator over them. A loop over all blocks of some bands: the law, with heaplets. -/
import Derived.Test.YtjngfhgakokejaaGreatCp03
import Derived.Test.YtjngfhgakokejaaGreatCp02
import Derived.Test.YtjngfhgakokejaaGreatCp01
import Derived.RangeFuncNested
import Derived.RangeFuncBound
import Derived.RangeFuncCalls
import Derived.RangeFuncLeaves
import Derived.Shelf.Abstract
import Derived.Shelf.RegionOpen
import Derived.WalkKit
import Derived.OwnWalkIn
import Derived.TacticsInMore
import Derived.LoopNIn
import Derived.LoopIn
set_option maxRecDepth 100000
set_option maxHeartbeats 8000000
set_option linter.all false
namespace Go.Proofs.YtjngfhgakokejaaGreat
section
open Go.RowKit
def midE (P:List LvG) (x y:Nat) (b:Int) (m:Nat):List LvG:=P.take m++(encP (P.drop m) (x / 2 ^ m) (y / 2 ^ m) b).t
theorem midE_shape (P:List LvG) (x y:Nat) (b:Int) (m:Nat):(midE P x y b m).map (fun p=>shapeL p.2)=P.map (fun p=>shapeL p.2):=by
 unfold midE
 rw[List.map_append,(encP_shape _ _ _ _).1,List.map_take,List.map_drop,List.take_append_drop]
theorem midE_get (P:List LvG) (x y:Nat) (b:Int) (m:Nat) (p:LvG) (hp:P[m]?=some p):(midE P x y b (m+1))[m]?=some p:=by
 have hm:=(List.getElem?_eq_some_iff.1 hp).1
 unfold midE
 rw[List.getElem?_append_left (by simp;omega),List.getElem?_take,if_pos (by omega),hp]
theorem midE_step (P:List LvG) (x y:Nat) (b:Int) (m:Nat) (p:LvG) (hp:P[m]?=some p) :
  let r:=encP (P.drop (m+1)) (x / 2 ^ (m+1)) (y / 2 ^ (m+1)) b
  let e:=encNode (p.2.at_ (x / 2 ^ m) (y / 2 ^ m)) r.low b
  (midE P x y b (m+1)).set m (p.1,p.2.set_ (x / 2 ^ m) (y / 2 ^ m) e.1)=midE P x y b m∧(encP (P.drop m) (x / 2 ^ m) (y / 2 ^ m) b).low=e.1.low∧(encP (P.drop m) (x / 2 ^ m) (y / 2 ^ m) b).bs=r.bs++e.2:=by
 obtain⟨hm,hpe⟩:=List.getElem?_eq_some_iff.1 hp
 have e1:P.drop m=p::P.drop (m+1):=by rw[List.drop_eq_getElem_cons hm,hpe]
 have e2:∀ z:Nat,z / 2 ^ m / 2=z / 2 ^ (m+1):=fun z=>by rw[Nat.div_div_eq_div_mul,Nat.pow_succ]
 intro r e
 rw[e1]
 simp only[encP,e2]
 refine⟨?_,rfl,rfl⟩
 unfold midE
 rw[e1]
 simp only[encP,e2]
 rw[List.take_add_one,hp]
 rw[List.append_assoc,List.set_append_right _ _ (by simp;omega)]
 have e3:m - (P.take m).length=0:=by simp;omega
 rw[e3]
 rfl
theorem midE_all (P:List LvG) (x y:Nat) (b:Int):midE P x y b P.length=P:=by simp[midE,encP]
theorem midE_zero (P:List LvG) (x y:Nat) (b:Int):midE P x y b 0=(encP P x y b).t:=by simp[midE]
theorem enc_tree (tb wb:Nat) (P:List LvG) (bs:List Bool) (k:Nat) (b:Int) (p0:LvG) (W:World) (HT HW:List HB) (h:TreeH tb P HT) (hw:WrB wb bs HW) (hs:Sat W (HW++HT)) (hl:P.length≤20) (hd:PDims P) (h0:P[0]?=some p0) (hk:k<p0.2.w * p0.2.h)
  (hb:b≤1000) (hbs:bs.length≤60000000) :
  Calls Tryz.prog 73 #[.pointer (some ⟨tb,0,none⟩),.pointer (some ⟨wb,0,none⟩),.int .i64 (k:Int),.int .i64 b] W fun e W'=>e=.returned (.tuple #[]) ∧
   ∃ HT' HW',TreeH tb (encP P (k % p0.2.w) (k / p0.2.w) b).t HT'∧WrB wb (bs++(encP P (k % p0.2.w) (k / p0.2.w) b).bs) HW'∧Mv W (HW++HT) W' (HW'++HT'):=by
 have WO:=Lib.hid (way_ok tb P k p0 W HT h hs.right hl hd h0 hk)
 have hn:0<P.length:=(List.getElem?_eq_some_iff.1 h0).1
 have q:=hd.get h0
 have hx:k % p0.2.w<p0.2.w:=Nat.mod_lt _ (by omega)
 have hy:k / p0.2.w<p0.2.h:=Nat.div_lt_of_lt_mul hk
 have AT:=Lib.hid fun i p hp=>PDims.at_ (i:=i) (p:=p) hd h0 hx hy hp
 generalize k % p0.2.w=x at *
 generalize k / p0.2.w=y at *
 have K:=Lib.hid (And.intro h (And.intro hw (And.intro hs hd)))
 clear h hw hs hd q h0 hk hx hy
 have hn0:(0:Int)<(P.length:Int):=by omega
 rw[← midE_zero]
 go_enter Tryz.func73,Tryz.ntmps73
 go_wp2_with (go_at_call 106;refine WO.out.mono ?_;rintro e w1 ⟨v1,H1,rfl,r1,m1⟩;obtain⟨a1,c1,rfl⟩:=r1.slice;have K1:=Lib.hid (And.intro r1 m1);clear r1 m1)
 go_loopg [8,10,15] P.length (fun g s8 _ s15 wx=>∃ (m:Nat) (HTm HWm:List HB),m≤P.length∧m=g∧s15=.int .i64 ((P.length - m:Nat):Int)∧s8=.int .i64 (encP (P.drop m) (x / 2 ^ m) (y / 2 ^ m) b).low ∧
  TreeH tb (midE P x y b m) HTm∧WrB wb (bs++(encP (P.drop m) (x / 2 ^ m) (y / 2 ^ m) b).bs) HWm∧Mv W (HW++HT) wx (HWm++(HTm++H1)))
 case atStart =>
  refine⟨P.length,HT,HW,Nat.le_refl _,rfl,by simp,by simp[encP],by rw[midE_all];exact K.out.1,by simpa [encP] using K.out.2.1,?_⟩
  have:=Mv.call (Mv.mv1 (A:=HW) (B:=HT) (R:=[]) (by simpa using Mv.refl K.out.2.2.1)) K1.out.2
  exact Mv.sub this (fun g=>by simp only[cnt_append,cnt_nil];omega) (fun c hc=>by simp only[List.mem_append,List.not_mem_nil,or_false] at hc ⊢;grind)
 case round =>
  obtain⟨wa,rfl⟩:∃ wa:World,wa=wr:=⟨_,rfl⟩
  obtain⟨m,HTm,HWm,hm,rfl,rfl,rfl,tm,bm,mm⟩:=hrel
  by_cases hm0:m=0
  ·subst hm0
   have KE:=Lib.hid (And.intro tm (And.intro bm mm))
   clear tm bm mm K1
   simp only[Nat.sub_zero,List.drop_zero,Nat.pow_zero,Nat.div_one] at KE ⊢
   have d9:¬ (P.length:Int)<(P.length:Int):=by omega
   go_wp2_with fail
   go_end0
   exact⟨rfl,HTm,KE.out.1,HWm,KE.out.2.1,Mv.sub KE.out.2.2 (fun g=>by simp only[cnt_append];omega) (fun c hc=>by simp only[List.mem_append] at hc ⊢;grind)⟩
  ·obtain⟨m,rfl⟩:∃ m',m=m'+1:=⟨m - 1,by omega⟩
   obtain⟨p,hp⟩:∃ p,P[m]?=some p:=⟨_,List.getElem?_eq_getElem (by omega)⟩
   obtain⟨g1,eg1,hc1,-⟩:=K1.out.1.get mm.sat.right.right (by omega)
   obtain⟨j,hj⟩:∃ j,P.length - (m+1)=j:=⟨_,rfl⟩
   have hjn:j<P.length:=by omega
   have cj:=hc1 j (by omega)
   rw[List.getElem?_reverse (by rw[wayV_length];exact hjn),wayV_length,show P.length - 1 - j=m from by omega,wayV_get P x y m p hp] at cj
   subst eg1
   have hT:=midE_get P x y b m p hp
   have hst:=midE_step P x y b m p hp
   have hdT:PDims (midE P x y b (m+1)):=K.out.2.2.2.congr (midE_shape P x y b (m+1))
   have hXY:=AT.out m p hp
   have hlw:=encP_inv (P.drop (m+1)) (x / 2 ^ (m+1)) (y / 2 ^ (m+1)) b
   have hbl:(encP (P.drop (m+1)) (x / 2 ^ (m+1)) (y / 2 ^ (m+1)) b).bs.length≤20000:=by
    refine Nat.le_trans hlw.2 (Nat.le_trans (Nat.mul_le_mul (show (P.drop (m+1)).length≤20 by simp;omega) (show b.toNat≤1000 by omega)) (by omega))
   have hlow:=hlw.1
   generalize hX:x / 2 ^ m=X at *
   generalize hY:y / 2 ^ m=Y at *
   have HX:=Lib.hid (And.intro hX hY)
   clear hX hY
   generalize encP (P.drop (m+1)) (x / 2 ^ (m+1)) (y / 2 ^ (m+1)) b=E at *
   have hTs:(midE P x y b (m+1)).set m (p.1,p.2.set_ X Y (p.2.at_ X Y))=midE P x y b (m+1):=by
    rw[LevM.set_at _ _ _ (by rw[(K.out.2.2.2.get hp).1];exact place_lt hXY.1 hXY.2)]
    obtain⟨h1,h2⟩:=List.getElem?_eq_some_iff.1 hT
    conv=>rhs;rw[← List.set_getElem_self h1]
    rw[h2]
   have S0:Sta W (HW++HT) wa tb wb (midE P x y b (m+1)) m p X Y (p.2.at_ X Y) (bs++E.bs) H1:=⟨HTm,HWm,by rw[hTs];exact tm,bm,mm⟩
   simp only at hst
   generalize p.2.at_ X Y=z0 at *
   generalize midE P x y b (m+1)=T at *
   have CE:=fun w z bs (h:Sta W (HW++HT) w tb wb T m p X Y z bs H1)=>h.cells hdT hT hXY.1 hXY.2
   have SE:=fun w z bs z' f v (h:Sta W (HW++HT) w tb wb T m p X Y z bs H1)=>h.set hdT hT hXY.1 hXY.2 z' f v
   generalize 3 * (Y * p.2.w+X)=kk at *
   have KS:=Lib.hid S0
   obtain⟨y0,y1,y2,fz⟩:=CE wa z0 _ S0
   have CE:=Lib.hid CE
   have SE:=Lib.hid SE
   have HS:=Lib.hid hst
   have KM:=Lib.hid (And.intro hm hj)
   obtain⟨lo,hlo⟩:∃ lo,E.low=lo:=⟨_,rfl⟩
   rw[hlo] at hlow HS ⊢
   rw[hj]
   clear tm bm mm hc1 hT hst hdT hXY hlw hTs S0 hp hlo hj hm hm0
   go_upto_region 5 with fail
   all_goals
    obtain⟨lw,hlw⟩:∃ lw,max z0.low lo=lw:=⟨_,rfl⟩
    have S1:=SE.out wa z0 _ { z0 with low:=max z0.low lo } 1 (.int .i64 (max z0.low lo)) KS.out (.inl ⟨rfl,rfl,rfl⟩)
    have hmx:max z0.low lo=lo∧lo=lw∨max z0.low lo=z0.low∧z0.low=lw:=by omega
    have hw5:∃ w5,w5=wa.setCell ⟨p.1,kk+1,none⟩ (.int .i64 (max z0.low lo)):=⟨_,rfl⟩
    obtain⟨w5,hw5⟩:=hw5
    rw[← hw5] at S1
    have EN:encNode z0 lo b=encL (b - lw).toNat { z0 with low:=lw } b:=by unfold encNode;rw[hlw]
    rw[hlw] at S1
    have hlb:0≤lw:=by omega
    first
     | (have h5:max z0.low lo=lo:=by omega)
     | (have h5:max z0.low lo=z0.low:=by omega)
    rw[h5] at hw5
    simp only[← hw5]
    have EN:=Lib.hid EN
    have KS1:=Lib.hid S1
    clear y0 y1 y2 fz hw5 S1 h5 hmx hlw cj
    go_loopg [28] (b - lw).toNat (fun g _ wx=>∃ (z:NodeM) (d:List Bool),(b - z.low).toNat=g∧encL (b - lw).toNat { z0 with low:=lw } b=((encL g z b).1,d++(encL g z b).2)∧Sta W (HW++HT) wx tb wb T m p X Y z (bs++E.bs++d) H1∧0≤z.low∧z.n=z0.n)
    case atStart=>exact⟨_,[],rfl,rfl,by simpa using KS1.out,hlb,rfl⟩
    case round =>
     obtain⟨wd,rfl⟩:∃ wd:World,wd=wr:=⟨_,rfl⟩
     obtain⟨z,d,rfl,hE,hS,hz0,hzn⟩:=hrel
     obtain⟨y0,y1,y2,fz⟩:=CE.out wd z _ hS
     have hdl:d.length≤1000:=by
      have h1:=(encL_inv (b - lw).toNat { z0 with low:=lw } b).1
      rw[hE,List.length_append] at h1
      omega
     have KZ:=Lib.hid (And.intro hE (And.intro hS hzn))
     have f1:=fz (kk+1)
     have f2:=fz (kk+2)
     clear hE hS fz hzn
     by_cases hlt:z.low<b
     ·by_cases hsd:z.said=true
      ·rw[hsd] at y2
       have EQ:Hid (encNode z0 lo b=(z,d)):=Lib.hid (by rw[EN.out,KZ.out.1,encL_said _ _ _ (by rw[hsd];simp)];simp)
       have K9:=Lib.hid KZ.out.2.1
       clear hsd
       go_wp2_with fail
       go_roundg m
       case measure=>omega
       case rel =>
        obtain⟨HT9,HW9,q1,q2,q3⟩:=K9.out
        obtain⟨s1,s2,s3⟩:=HS.out
        rw[EQ.out] at s1 s2 s3
        rw[← HX.out.1,← HX.out.2] at s1 s2 s3
        refine⟨m,HT9,HW9,by have:=KM.out.1;omega,rfl,?_,?_,by rw[← s1,HX.out.1,HX.out.2];exact q1,by rw[s3,← List.append_assoc];exact q2,q3⟩
        ·have:=KM.out;first | (congr 1;omega) | go_num
        ·rw[s2]
      ·rw[Bool.not_eq_true] at hsd
       rw[hsd] at y2
       by_cases hnl:z.n≤z.low
       ·have d3:decide (z.n≤z.low)=true:=by simpa using hnl
        have S6:=(SE.out wd z _ { z with said:=true } 2 (.bool true) KZ.out.2.1 (.inr ⟨rfl,rfl,rfl⟩)).drew
        have EQ:Hid (encNode z0 lo b=({ z with said:=true },d++[true])):=Lib.hid (by rw[EN.out,KZ.out.1,encL_one _ _ _ ⟨hlt,hsd⟩ hnl rfl])
        go_upto_region 6 with fail
        go_region
        all_goals
         obtain⟨w6,hw6⟩:∃ w6,w6=(wd.setCell ⟨p.1,kk+2,none⟩ (.bool true)).drew:=⟨_,rfl⟩
         rw[← hw6] at S6
         simp only[← hw6]
         clear hw6 y0 y1 y2 f1 f2
         obtain⟨-,y1,y2,-⟩:=CE.out w6 _ _ S6
         have B6:=Lib.hid (S6.bit 1 (by simp only[List.length_append];omega))
         clear S6
         go_wp2_with (go_at_call 71;with_reducible refine B6.out.mono ?_;rintro e w7 ⟨rfl,S7⟩;obtain⟨-,x1,-,-⟩:=CE.out w7 _ _ S7;have K9:=Lib.hid S7;clear S7)
         have K9:Hid (Sta W (HW++HT) w7 tb wb T m p X Y { z with said:=true } (bs++E.bs++(d++[true])) H1):=Lib.hid (by rw[← List.append_assoc];simpa using K9.out)
         go_roundg m
         case measure=>omega
         case rel =>
          obtain⟨HT9,HW9,q1,q2,q3⟩:=K9.out
          obtain⟨s1,s2,s3⟩:=HS.out
          rw[EQ.out] at s1 s2 s3
          rw[← HX.out.1,← HX.out.2] at s1 s2 s3
          refine⟨m,HT9,HW9,by have:=KM.out.1;omega,rfl,?_,?_,by rw[← s1,HX.out.1,HX.out.2];exact q1,by rw[s3,← List.append_assoc];exact q2,q3⟩
          ·have:=KM.out;first | (congr 1;omega) | go_num
          ·rw[s2]
       ·have d3:decide (z.n≤z.low)=false:=by simpa using hnl
        have S6:=(SE.out wd z _ { z with said:=false } 2 (.bool false) KZ.out.2.1 (.inr ⟨rfl,rfl,rfl⟩)).drew
        obtain⟨hf,EZ⟩:=encL_zero _ z b ⟨hlt,hsd⟩ hnl rfl
        have EQ:=Lib.hid EZ
        clear EZ
        go_upto_region 6 with fail
        go_region
        all_goals
         obtain⟨w6,hw6⟩:∃ w6,w6=(wd.setCell ⟨p.1,kk+2,none⟩ (.bool false)).drew:=⟨_,rfl⟩
         rw[← hw6] at S6
         simp only[← hw6]
         clear hw6 y0 y1 y2 f1 f2
         obtain⟨-,y1,y2,-⟩:=CE.out w6 _ _ S6
         have B6:=Lib.hid (S6.bit 0 (by simp only[List.length_append];omega))
         clear S6
         go_wp2_with (go_at_call 71;with_reducible refine B6.out.mono ?_;rintro e w7 ⟨rfl,S7⟩;obtain⟨-,x1,-,fz⟩:=CE.out w7 _ _ S7;have fx:=fz (kk+1);have K9:=Lib.hid S7;clear S7 fz)
         have S8:=SE.out w7 _ _ { z with said:=false,low:=z.low+1 } 1 (.int .i64 (z.low+1)) K9.out (.inl ⟨rfl,rfl,rfl⟩)
         have K8:Hid (Sta W (HW++HT) (w7.setCell ⟨p.1,kk+1,none⟩ (.int .i64 (z.low+1))) tb wb T m p X Y { z with said:=false,low:=z.low+1 } (bs++E.bs++(d++[false])) H1):=Lib.hid (by rw[← List.append_assoc];simpa using S8)
         clear S8
         go_roundg (b - (z.low+1)).toNat
         case measure=>omega
         case rel =>
          refine⟨_,d++[false],rfl,?_,K8.out,by simp only;omega,KZ.out.2.2⟩
          rw[KZ.out.1,EQ.out]
          simp
     ·have EQ:Hid (encNode z0 lo b=(z,d)):=Lib.hid (by rw[EN.out,KZ.out.1,encL_said _ _ _ (fun e=>hlt e.1)];simp)
      have K9:=Lib.hid KZ.out.2.1
      go_wp2_with fail
      go_roundg m
      case measure=>omega
      case rel =>
       obtain⟨HT9,HW9,q1,q2,q3⟩:=K9.out
       obtain⟨s1,s2,s3⟩:=HS.out
       rw[EQ.out] at s1 s2 s3
       rw[← HX.out.1,← HX.out.2] at s1 s2 s3
       refine⟨m,HT9,HW9,by have:=KM.out.1;omega,rfl,?_,?_,by rw[← s1,HX.out.1,HX.out.2];exact q1,by rw[s3,← List.append_assoc];exact q2,q3⟩
       ·have:=KM.out;first | (congr 1;omega) | go_num
       ·rw[s2]
end
section
open Go.RowKit
def decL (l:List UInt8):Nat→NodeM→Int→RdM→NodeM × RdM
 | 0,x,_,r=>(x,r)
 | f+1,x,b,r=>if x.low<b∧x.said=false then (if (rdBit l r).1=1 then ({ x with said:=true,n:=x.low },(rdBit l r).2) else decL l f { x with low:=x.low+1,said:=false } b (rdBit l r).2) else (x,r)
def decNode (l:List UInt8) (x:NodeM) (low b:Int) (r:RdM):NodeM × RdM:=decL l (b - max x.low low).toNat { x with low:=max x.low low } b r
structure DecR where
 t:List LvG
 low:Int
 rd:RdM
def decP (l:List UInt8):List LvG→Nat→Nat→Int→RdM→DecR
 | [],_,_,_,r=>⟨[],0,r⟩
 | p::R,x,y,b,r =>
  let q:=decP l R (x / 2) (y / 2) b r
  let e:=decNode l (p.2.at_ x y) q.low b q.rd
  ⟨(p.1,p.2.set_ x y e.1)::q.t,e.1.low,e.2⟩
theorem decP_shape (l:List UInt8) (P:List LvG) (x y:Nat) (b:Int) (r:RdM):(decP l P x y b r).t.map (fun p=>shapeL p.2)=P.map (fun p=>shapeL p.2)∧(decP l P x y b r).t.map (·.1)=P.map (·.1):=by
 induction P generalizing x y with
 | nil=>exact⟨rfl,rfl⟩
 | cons q R ih =>
  obtain⟨h1,h2⟩:=ih (x / 2) (y / 2)
  simp only[decP,List.map_cons,h1,h2,List.cons.injEq,and_true]
  exact LevM.set_shape _ _ _ _
theorem decL_inv (l:List UInt8):∀ (f:Nat) (x:NodeM) (b:Int) (r:RdM),r.left≤8→(decL l f x b r).2.left≤8∧(decL l f x b r).2.begun≤r.begun+f∧x.low≤(decL l f x b r).1.low
 | 0,x,b,r,h=>⟨h,Nat.le_refl _,Int.le_refl _⟩
 | f+1,x,b,r,h=>by
  obtain⟨-,k2,k3⟩:=rdBit_inv l r h
  unfold decL
  split
  ·split
   ·exact⟨k2,by simp only;omega,Int.le_refl _⟩
   ·obtain⟨h1,h2,h3⟩:=decL_inv l f { x with low:=x.low+1,said:=false } b (rdBit l r).2 k2
    refine⟨h1,by omega,?_⟩
    simp only at h3
    omega
  ·exact⟨h,by simp only;omega,Int.le_refl _⟩
theorem decP_inv (l:List UInt8) (P:List LvG) (x y:Nat) (b:Int) (r:RdM) (h:r.left≤8):0≤(decP l P x y b r).low∧(decP l P x y b r).rd.left≤8∧(decP l P x y b r).rd.begun≤r.begun+P.length * b.toNat:=by
 induction P generalizing x y with
 | nil=>exact⟨Int.le_refl _,h,by simp[decP]⟩
 | cons q R ih =>
  obtain⟨h1,h2,h3⟩:=ih (x / 2) (y / 2)
  obtain⟨k1,k2,k3⟩:=decL_inv l (b - max (q.2.at_ x y).low (decP l R (x / 2) (y / 2) b r).low).toNat { q.2.at_ x y with low:=max (q.2.at_ x y).low (decP l R (x / 2) (y / 2) b r).low } b (decP l R (x / 2) (y / 2) b r).rd h2
  simp only[decP,decNode]
  refine⟨?_,k1,?_⟩
  ·simp only at k3
   omega
  ·rw[List.length_cons,Nat.succ_mul,← Nat.add_assoc]
   exact Nat.le_trans k2 (Nat.add_le_add h3 (by omega))
theorem decL_said (l:List UInt8) (f:Nat) (x:NodeM) (b:Int) (r:RdM) (h:¬ (x.low<b∧x.said=false)):decL l f x b r=(x,r):=by
 cases f with
 | zero=>rfl
 | succ f=>unfold decL;rw[if_neg h]
theorem decL_one (l:List UInt8) (f:Nat) (x:NodeM) (b:Int) (r:RdM) (h:x.low<b∧x.said=false) (hn:(rdBit l r).1=1) (hf:f=(b - x.low).toNat):decL l f x b r=({ x with said:=true,n:=x.low },(rdBit l r).2):=by
 cases f with
 | zero=>omega
 | succ f=>unfold decL;rw[if_pos h,if_pos hn]
theorem decL_zero (l:List UInt8) (f:Nat) (x:NodeM) (b:Int) (r:RdM) (h:x.low<b∧x.said=false) (hn:¬ (rdBit l r).1=1) (hf:f=(b - x.low).toNat):f=(b - (x.low+1)).toNat+1∧decL l f x b r=decL l (b - (x.low+1)).toNat { x with low:=x.low+1,said:=false } b (rdBit l r).2:=by
 obtain⟨f',rfl⟩:∃ f',f=f'+1:=⟨f - 1,by omega⟩
 have e:f'=(b - (x.low+1)).toNat:=by omega
 refine⟨by omega,?_⟩
 rw[← e]
 conv=>lhs;unfold decL
 rw[if_pos h,if_neg hn]
theorem tree_setW {tb:Nat} {P:List LvG} {H:List HB} {w:World} (h:TreeH tb P H) (hs:Sat w H) (hd:PDims P) {i:Nat} {p:LvG} (hp:P[i]?=some p) {x y:Nat} (hx:x<p.2.w) (hy:y<p.2.h) (z:NodeM) (f:Nat) (v:Value)
  (hv:(f=0∧z={ p.2.at_ x y with n:=z.n }∧v=.int .i64 z.n)∨(f=1∧z={ p.2.at_ x y with low:=z.low }∧v=.int .i64 z.low)∨(f=2∧z={ p.2.at_ x y with said:=z.said }∧v=.bool z.said)) :
  ∃ H',TreeH tb (P.set i (p.1,p.2.set_ x y z)) H'∧Mv w H (w.setCell ⟨p.1,3 * (y * p.2.w+x)+f,none⟩ v) H':=by
 rcases hv with ⟨rfl,hz,rfl⟩ | hv
 ·refine tree_set h hs hp _ (LevM.set_shape _ _ _ _) _ _ ?_
  have:=nodes_setN p.2 x y z.n (by rw[(hd.get hp).1];exact place_lt hx hy)
  unfold LevM.setN at this
  rw[← hz] at this
  exact this
 ·exact tree_setZ h hs hd hp hx hy z f v hv
def StD (w0:World) (H0:List HB) (w:World) (tb rb:Nat) (l:List UInt8) (T:List LvG) (m:Nat) (p:LvG) (X Y:Nat) (z:NodeM) (r:RdM) (Hn:List HB):Prop :=
 ∃ HT HR,TreeH tb (T.set m (p.1,p.2.set_ X Y z)) HT∧ReadH rb l r HR∧Mv w0 H0 w (HR++(HT++Hn))
section
variable {w0 w:World} {H0:List HB} {tb rb:Nat} {l:List UInt8} {T:List LvG} {m:Nat} {p:LvG} {X Y:Nat} {z:NodeM} {r:RdM} {Hn:List HB}
theorem StD.cells (h:StD w0 H0 w tb rb l T m p X Y z r Hn) (hd:PDims T) (hp:T[m]?=some p) (hx:X<p.2.w) (hy:Y<p.2.h) :
  w.cell? ⟨p.1,3 * (Y * p.2.w+X),none⟩=some (.int .i64 z.n)∧w.cell? ⟨p.1,3 * (Y * p.2.w+X)+1,none⟩=some (.int .i64 z.low)∧w.cell? ⟨p.1,3 * (Y * p.2.w+X)+2,none⟩=some (.bool z.said)∧∀ k,w.frozen? ⟨p.1,k,none⟩=false:=by
 obtain⟨HT,HR,h1,h2,h3⟩:=h
 have hm:=(List.getElem?_eq_some_iff.1 hp).1
 have:=node_cellS h1 h3.sat.right.left (hd.congr (setT_shape hp z)) (i:=m) (p:=(p.1,p.2.set_ X Y z)) (by rw[List.getElem?_set,if_pos rfl,if_pos hm]) (x:=X) (y:=Y) hx hy
 rw[LevM.at_set _ _ _ _ (by rw[(hd.get hp).1];exact place_lt hx hy)] at this
 exact this
theorem StD.set (h:StD w0 H0 w tb rb l T m p X Y z r Hn) (hd:PDims T) (hp:T[m]?=some p) (hx:X<p.2.w) (hy:Y<p.2.h) (z':NodeM) (f:Nat) (v:Value)
  (hv:(f=0∧z'={ z with n:=z'.n }∧v=.int .i64 z'.n)∨(f=1∧z'={ z with low:=z'.low }∧v=.int .i64 z'.low)∨(f=2∧z'={ z with said:=z'.said }∧v=.bool z'.said)) :
  StD w0 H0 (w.setCell ⟨p.1,3 * (Y * p.2.w+X)+f,none⟩ v) tb rb l T m p X Y z' r Hn:=by
 obtain⟨HT,HR,h1,h2,h3⟩:=h
 have hm:=(List.getElem?_eq_some_iff.1 hp).1
 have ha:=LevM.at_set p.2 X Y z (by rw[(hd.get hp).1];exact place_lt hx hy)
 obtain⟨HT',k1,k2⟩:=tree_setW h1 h3.sat.right.left (hd.congr (setT_shape hp z)) (i:=m) (p:=(p.1,p.2.set_ X Y z)) (by rw[List.getElem?_set,if_pos rfl,if_pos hm]) (x:=X) (y:=Y) hx hy z' f v (by rw[ha];exact hv)
 rw[List.set_set,LevM.set_set] at k1
 exact⟨HT',HR,k1,h2,Mv.mv1 (A:=HT') (B:=HR) (R:=Hn) (Mv.call (Mv.mv1 (A:=HR) (B:=HT) (R:=Hn) h3) k2)⟩
theorem StD.bit (h:StD w0 H0 w tb rb l T m p X Y z r Hn) (hl:l.length≤90000000) (hb:r.begun≤90000000) (h8:r.left≤8) (q:Nat) (hq:(rdBit l r).1=q) :
  Calls Tryz.prog 88 #[.pointer (some ⟨rb,0,none⟩)] w fun e w'=>e=.returned (.int .i64 (q:Int))∧StD w0 H0 w' tb rb l T m p X Y z (rdBit l r).2 Hn:=by
 obtain⟨HT,HR,h1,h2,h3⟩:=h
 refine(bit_rd rb l r w HR h2 h3.sat.left hl hb h8).mono ?_
 rintro e w' ⟨rfl,HR',k1,k2⟩
 exact⟨by rw[hq],HT,HR',h1,k1,Mv.call h3 k2⟩
end
def midD (l:List UInt8) (P:List LvG) (x y:Nat) (b:Int) (r:RdM) (m:Nat):List LvG:=P.take m++(decP l (P.drop m) (x / 2 ^ m) (y / 2 ^ m) b r).t
theorem midD_shape (l:List UInt8) (P:List LvG) (x y:Nat) (b:Int) (r:RdM) (m:Nat):(midD l P x y b r m).map (fun p=>shapeL p.2)=P.map (fun p=>shapeL p.2):=by
 unfold midD
 rw[List.map_append,(decP_shape _ _ _ _ _ _).1,List.map_take,List.map_drop,List.take_append_drop]
theorem midD_get (l:List UInt8) (P:List LvG) (x y:Nat) (b:Int) (r:RdM) (m:Nat) (p:LvG) (hp:P[m]?=some p):(midD l P x y b r (m+1))[m]?=some p:=by
 have hm:=(List.getElem?_eq_some_iff.1 hp).1
 unfold midD
 rw[List.getElem?_append_left (by simp;omega),List.getElem?_take,if_pos (by omega),hp]
theorem midD_step (l:List UInt8) (P:List LvG) (x y:Nat) (b:Int) (r:RdM) (m:Nat) (p:LvG) (hp:P[m]?=some p) :
  let q:=decP l (P.drop (m+1)) (x / 2 ^ (m+1)) (y / 2 ^ (m+1)) b r
  let e:=decNode l (p.2.at_ (x / 2 ^ m) (y / 2 ^ m)) q.low b q.rd
  (midD l P x y b r (m+1)).set m (p.1,p.2.set_ (x / 2 ^ m) (y / 2 ^ m) e.1)=midD l P x y b r m∧(decP l (P.drop m) (x / 2 ^ m) (y / 2 ^ m) b r).low=e.1.low∧(decP l (P.drop m) (x / 2 ^ m) (y / 2 ^ m) b r).rd=e.2:=by
 obtain⟨hm,hpe⟩:=List.getElem?_eq_some_iff.1 hp
 have e1:P.drop m=p::P.drop (m+1):=by rw[List.drop_eq_getElem_cons hm,hpe]
 have e2:∀ z:Nat,z / 2 ^ m / 2=z / 2 ^ (m+1):=fun z=>by rw[Nat.div_div_eq_div_mul,Nat.pow_succ]
 intro q e
 rw[e1]
 simp only[decP,e2]
 refine⟨?_,rfl,rfl⟩
 unfold midD
 rw[e1]
 simp only[decP,e2]
 rw[List.take_add_one,hp]
 rw[List.append_assoc,List.set_append_right _ _ (by simp;omega)]
 have e3:m - (P.take m).length=0:=by simp;omega
 rw[e3]
 rfl
theorem midD_all (l:List UInt8) (P:List LvG) (x y:Nat) (b:Int) (r:RdM):midD l P x y b r P.length=P:=by simp[midD,decP]
theorem midD_zero (l:List UInt8) (P:List LvG) (x y:Nat) (b:Int) (r:RdM):midD l P x y b r 0=(decP l P x y b r).t:=by simp[midD]
def leafD (P:List LvG) (x y:Nat):NodeM:=match P with
 | []=>⟨0,0,false⟩
 | p::_=>p.2.at_ x y
def belowM (z:NodeM) (b:Int):Bool:=z.said && decide (z.n<b)
end
section
open Go.RowKit
theorem dec_tree (tb rb:Nat) (l:List UInt8) (P:List LvG) (r:RdM) (k:Nat) (b:Int) (p0:LvG) (W:World) (HT HR:List HB) (h:TreeH tb P HT) (hw:ReadH rb l r HR) (hs:Sat W (HR++HT)) (hl:P.length≤20) (hd:PDims P) (h0:P[0]?=some p0) (hk:k<p0.2.w * p0.2.h)
  (hb:b≤1000) (hll:l.length≤90000000) (hrb:r.begun≤80000000) (hr8:r.left≤8) :
  Calls Tryz.prog 112 #[.pointer (some ⟨tb,0,none⟩),.pointer (some ⟨rb,0,none⟩),.int .i64 (k:Int),.int .i64 b] W fun e W'=>e=.returned (.bool (belowM (leafD (decP l P (k % p0.2.w) (k / p0.2.w) b r).t (k % p0.2.w) (k / p0.2.w)) b)) ∧
   ∃ HT' HR',TreeH tb (decP l P (k % p0.2.w) (k / p0.2.w) b r).t HT'∧ReadH rb l (decP l P (k % p0.2.w) (k / p0.2.w) b r).rd HR'∧Mv W (HR++HT) W' (HR'++HT'):=by
 have WO:=Lib.hid (way_ok tb P k p0 W HT h hs.right hl hd h0 hk)
 have hn:0<P.length:=(List.getElem?_eq_some_iff.1 h0).1
 have q:=hd.get h0
 have hx:k % p0.2.w<p0.2.w:=Nat.mod_lt _ (by omega)
 have hy:k / p0.2.w<p0.2.h:=Nat.div_lt_of_lt_mul hk
 have AT:=Lib.hid fun i p hp=>PDims.at_ (i:=i) (p:=p) hd h0 hx hy hp
 generalize k % p0.2.w=x at *
 generalize k / p0.2.w=y at *
 have K:=Lib.hid (And.intro h (And.intro hw (And.intro hs (And.intro hd h0))))
 clear h hw hs hd q h0 hk hx hy
 have hn0:(0:Int)<(P.length:Int):=by omega
 rw[← midD_zero]
 go_enter Tryz.func112,Tryz.ntmps112
 go_wp2_with (go_at_call 106;refine WO.out.mono ?_;rintro e w1 ⟨v1,H1,rfl,r1,m1⟩;obtain⟨a1,c1,rfl⟩:=r1.slice;have K1:=Lib.hid (And.intro r1 m1);clear r1 m1)
 go_loopg [9,12,18] P.length (fun g s9 _ s18 wx=>∃ (m:Nat) (HTm HRm:List HB),m≤P.length∧m=g∧s18=.int .i64 ((P.length - m:Nat):Int)∧s9=.int .i64 (decP l (P.drop m) (x / 2 ^ m) (y / 2 ^ m) b r).low ∧
  TreeH tb (midD l P x y b r m) HTm∧ReadH rb l (decP l (P.drop m) (x / 2 ^ m) (y / 2 ^ m) b r).rd HRm∧Mv W (HR++HT) wx (HRm++(HTm++H1)))
 case atStart =>
  refine⟨P.length,HT,HR,Nat.le_refl _,rfl,by simp,by simp[decP],by rw[midD_all];exact K.out.1,by simpa [decP] using K.out.2.1,?_⟩
  have:=Mv.call (Mv.mv1 (A:=HR) (B:=HT) (R:=[]) (by simpa using Mv.refl K.out.2.2.1)) K1.out.2
  exact Mv.sub this (fun g=>by simp only[cnt_append,cnt_nil];omega) (fun c hc=>by simp only[List.mem_append,List.not_mem_nil,or_false] at hc ⊢;grind)
 case round =>
  obtain⟨wa,rfl⟩:∃ wa:World,wa=wr:=⟨_,rfl⟩
  obtain⟨m,HTm,HRm,hm,rfl,rfl,rfl,tm,bm,mm⟩:=hrel
  by_cases hm0:m=0
  ·subst hm0
   obtain⟨g1,eg1,hc1,-⟩:=K1.out.1.get mm.sat.right.right (by omega)
   have cj:=hc1 (P.length - 1) (by omega)
   rw[List.getElem?_reverse (by rw[wayV_length];omega),wayV_length,show P.length - 1 - (P.length - 1)=0 from by omega,wayV_get P x y 0 p0 K.out.2.2.2.2] at cj
   subst eg1
   have hsh:=midD_shape l P x y b r 0
   have hdT:PDims (midD l P x y b r 0):=K.out.2.2.2.1.congr hsh
   obtain⟨pz,hpz⟩:∃ pz,(midD l P x y b r 0)[0]?=some pz:=⟨_,List.getElem?_eq_getElem (by have:=congrArg List.length hsh;simp only[List.length_map] at this;omega)⟩
   have hpw:pz.1=p0.1∧pz.2.w=p0.2.w∧pz.2.h=p0.2.h:=by
    have e1:=congrArg (fun l=>l[0]?) hsh
    have e2:=congrArg (fun l=>l[0]?) (decP_shape l P x y b r).2
    rw[midD_zero] at e1 hpz
    simp only[List.getElem?_map,hpz,K.out.2.2.2.2,Option.map_some,Option.some.injEq,shapeL,Prod.mk.injEq] at e1 e2
    exact⟨e2,e1.1,e1.2.1⟩
   have hxy:=AT.out 0 p0 K.out.2.2.2.2
   simp only[Nat.pow_zero,Nat.div_one] at hxy cj
   obtain⟨y0,y1,y2,-⟩:=node_cell (R:=HRm++H1) tm (mm.sub (fun g=>by simp only[cnt_append];omega) (fun c hc=>by simp only[List.mem_append] at hc ⊢;grind)) hdT hpz (x:=x) (y:=y) (by rw[hpw.2.1];exact hxy.1) (by rw[hpw.2.2];exact hxy.2)
   have hlf:leafD (midD l P x y b r 0) x y=pz.2.at_ x y:=by
    obtain⟨T,hT⟩:∃ T,midD l P x y b r 0=T:=⟨_,rfl⟩
    rw[hT] at hpz ⊢
    cases T with
    | nil=>simp at hpz
    | cons a T=>simp at hpz;subst hpz;rfl
   rw[hpw.1,hpw.2.1] at y0 y1 y2
   obtain⟨z,hz⟩:∃ z,pz.2.at_ x y=z:=⟨_,rfl⟩
   rw[hz] at y0 y1 y2 hlf
   have HLF:=Lib.hid hlf
   clear hz
   have KE:=Lib.hid (And.intro tm (And.intro bm mm))
   clear tm bm mm K1 hc1 hsh hdT hpz hpw hxy hlf y1
   simp only[Nat.sub_zero,List.drop_zero,Nat.pow_zero,Nat.div_one] at KE ⊢
   have d9:¬ (P.length:Int)<(P.length:Int):=by omega
   have d8:decide ((0:Int)<(P.length:Int))=true:=decide_eq_true hn0
   by_cases hsd:z.said=true
   ·rw[hsd] at y2
    obtain⟨bb,hbb⟩:∃ bb,decide (z.n<b)=bb:=⟨_,rfl⟩
    have hbm:belowM z b=bb:=by unfold belowM;rw[hsd,hbb];rfl
    have HBM:=Lib.hid hbm
    clear hbm hsd
    go_wp2_with fail
    go_ret
    exact⟨by show Ending.returned (.bool _)=_;rw[HLF.out,HBM.out],HTm,KE.out.1,HRm,KE.out.2.1,Mv.sub KE.out.2.2 (fun g=>by simp only[cnt_append];omega) (fun c hc=>by simp only[List.mem_append] at hc ⊢;grind)⟩
   ·rw[Bool.not_eq_true] at hsd
    rw[hsd] at y2
    have hbm:belowM z b=false:=by unfold belowM;rw[hsd];rfl
    have HBM:=Lib.hid hbm
    clear hbm hsd
    go_wp2_with fail
    go_ret
    exact⟨by show Ending.returned (.bool _)=_;rw[HLF.out,HBM.out],HTm,KE.out.1,HRm,KE.out.2.1,Mv.sub KE.out.2.2 (fun g=>by simp only[cnt_append];omega) (fun c hc=>by simp only[List.mem_append] at hc ⊢;grind)⟩
  ·obtain⟨m,rfl⟩:∃ m',m=m'+1:=⟨m - 1,by omega⟩
   obtain⟨p,hp⟩:∃ p,P[m]?=some p:=⟨_,List.getElem?_eq_getElem (by omega)⟩
   obtain⟨g1,eg1,hc1,-⟩:=K1.out.1.get mm.sat.right.right (by omega)
   obtain⟨j,hj⟩:∃ j,P.length - (m+1)=j:=⟨_,rfl⟩
   have hjn:j<P.length:=by omega
   have cj:=hc1 j (by omega)
   rw[List.getElem?_reverse (by rw[wayV_length];exact hjn),wayV_length,show P.length - 1 - j=m from by omega,wayV_get P x y m p hp] at cj
   subst eg1
   have hT:=midD_get l P x y b r m p hp
   have hst:=midD_step l P x y b r m p hp
   have hdT:PDims (midD l P x y b r (m+1)):=K.out.2.2.2.1.congr (midD_shape l P x y b r (m+1))
   have hXY:=AT.out m p hp
   obtain⟨hlow,he8,heb⟩:=decP_inv l (P.drop (m+1)) (x / 2 ^ (m+1)) (y / 2 ^ (m+1)) b r hr8
   have hbl:(decP l (P.drop (m+1)) (x / 2 ^ (m+1)) (y / 2 ^ (m+1)) b r).rd.begun≤80020000:=by
    have:=Nat.mul_le_mul (show (P.drop (m+1)).length≤20 by simp;omega) (show b.toNat≤1000 by omega)
    omega
   clear heb
   generalize hX:x / 2 ^ m=X at *
   generalize hY:y / 2 ^ m=Y at *
   have HX:=Lib.hid (And.intro hX hY)
   clear hX hY
   generalize decP l (P.drop (m+1)) (x / 2 ^ (m+1)) (y / 2 ^ (m+1)) b r=E at *
   have hTs:(midD l P x y b r (m+1)).set m (p.1,p.2.set_ X Y (p.2.at_ X Y))=midD l P x y b r (m+1):=by
    rw[LevM.set_at _ _ _ (by rw[(K.out.2.2.2.1.get hp).1];exact place_lt hXY.1 hXY.2)]
    obtain⟨h1,h2⟩:=List.getElem?_eq_some_iff.1 hT
    conv=>rhs;rw[← List.set_getElem_self h1]
    rw[h2]
   have S0:StD W (HR++HT) wa tb rb l (midD l P x y b r (m+1)) m p X Y (p.2.at_ X Y) E.rd H1:=⟨HTm,HRm,by rw[hTs];exact tm,bm,mm⟩
   simp only at hst
   generalize p.2.at_ X Y=z0 at *
   generalize midD l P x y b r (m+1)=T at *
   have CE:=fun w z r (h:StD W (HR++HT) w tb rb l T m p X Y z r H1)=>h.cells hdT hT hXY.1 hXY.2
   have SE:=fun w z r z' f v (h:StD W (HR++HT) w tb rb l T m p X Y z r H1)=>h.set hdT hT hXY.1 hXY.2 z' f v
   generalize 3 * (Y * p.2.w+X)=kk at *
   have KS:=Lib.hid S0
   obtain⟨y0,y1,y2,fz⟩:=CE wa z0 _ S0
   have CE:=Lib.hid CE
   have SE:=Lib.hid SE
   have HS:=Lib.hid hst
   have KM:=Lib.hid (And.intro hm hj)
   obtain⟨lo,hlo⟩:∃ lo,E.low=lo:=⟨_,rfl⟩
   obtain⟨re,hre⟩:∃ re,E.rd=re:=⟨_,rfl⟩
   rw[hlo] at hlow HS ⊢
   rw[hre] at HS he8 hbl KS
   rw[hj]
   clear tm bm mm hc1 hT hst hdT hXY hTs S0 hp hlo hj hm hm0 hre
   go_upto_region 7 with fail
   all_goals
    obtain⟨lw,hlw⟩:∃ lw,max z0.low lo=lw:=⟨_,rfl⟩
    have S1:=SE.out wa z0 _ { z0 with low:=max z0.low lo } 1 (.int .i64 (max z0.low lo)) KS.out (.inr (.inl ⟨rfl,rfl,rfl⟩))
    have hmx:max z0.low lo=lo∧lo=lw∨max z0.low lo=z0.low∧z0.low=lw:=by omega
    have hw5:∃ w5,w5=wa.setCell ⟨p.1,kk+1,none⟩ (.int .i64 (max z0.low lo)):=⟨_,rfl⟩
    obtain⟨w5,hw5⟩:=hw5
    rw[← hw5] at S1
    have EN:decNode l z0 lo b re=decL l (b - lw).toNat { z0 with low:=lw } b re:=by unfold decNode;rw[hlw]
    rw[hlw] at S1
    have hlb:0≤lw:=by omega
    first
     | (have h5:max z0.low lo=lo:=by omega)
     | (have h5:max z0.low lo=z0.low:=by omega)
    rw[h5] at hw5
    simp only[← hw5]
    have EN:=Lib.hid EN
    have KS1:=Lib.hid S1
    clear y0 y1 y2 fz hw5 S1 h5 hmx hlw cj
    go_loopg [31] (b - lw).toNat (fun g _ wx=>∃ (z:NodeM) (r':RdM),(b - z.low).toNat=g∧decL l (b - lw).toNat { z0 with low:=lw } b re=decL l g z b r'∧StD W (HR++HT) wx tb rb l T m p X Y z r' H1∧0≤z.low∧r'.left≤8∧r'.begun+g≤re.begun+(b - lw).toNat)
    case atStart=>exact⟨_,re,rfl,rfl,KS1.out,hlb,he8,Nat.le_refl _⟩
    case round =>
     obtain⟨wd,rfl⟩:∃ wd:World,wd=wr:=⟨_,rfl⟩
     obtain⟨z,r',rfl,hE,hS,hz0,hr8',hrb'⟩:=hrel
     obtain⟨y0,y1,y2,fz⟩:=CE.out wd z _ hS
     have KZ:=Lib.hid (And.intro hE hS)
     have f0:=fz kk
     have f1:=fz (kk+1)
     have f2:=fz (kk+2)
     clear hE hS fz
     by_cases hlt:z.low<b
     ·by_cases hsd:z.said=true
      ·rw[hsd] at y2
       have EQ:Hid (decNode l z0 lo b re=(z,r')):=Lib.hid (by rw[EN.out,KZ.out.1,decL_said _ _ _ _ _ (fun e=>by rw[hsd] at e;cases e.2)])
       have K9:=Lib.hid KZ.out.2
       clear hsd
       go_wp2_with fail
       --[r1
       go_roundg m
       case measure=>omega
       case rel =>
        obtain⟨HT9,HR9,q1,q2,q3⟩:=K9.out
        obtain⟨s1,s2,s3⟩:=HS.out
        rw[EQ.out] at s1 s2 s3
        rw[← HX.out.1,← HX.out.2] at s1 s2 s3
        refine⟨m,HT9,HR9,by have:=KM.out.1;omega,rfl,?_,?_,by rw[← s1,HX.out.1,HX.out.2];exact q1,by rw[s3];exact q2,q3⟩
        ·have:=KM.out;first | (congr 1;omega) | go_num
        ·rw[s2]
       --]r1
      ·rw[Bool.not_eq_true] at hsd
       rw[hsd] at y2
       by_cases hq:(rdBit l r').1=1
       ·have EQ:Hid (decNode l z0 lo b re=({ z with said:=true,n:=z.low },(rdBit l r').2)):=Lib.hid (by rw[EN.out,KZ.out.1,decL_one _ _ _ _ _ ⟨hlt,hsd⟩ hq rfl])
        have B6:=Lib.hid (KZ.out.2.bit hll (by omega) hr8' 1 hq)
        have S6:Hid (∀ w',StD W (HR++HT) w' tb rb l T m p X Y z (rdBit l r').2 H1→StD W (HR++HT) ((w'.setCell ⟨p.1,kk+2,none⟩ (.bool true)).setCell ⟨p.1,kk,none⟩ (.int .i64 z.low)) tb rb l T m p X Y { z with said:=true,n:=z.low } (rdBit l r').2 H1):=Lib.hid (fun w' h=>by
         have s6:=SE.out w' z _ { z with said:=true } 2 (.bool true) h (.inr (.inr ⟨rfl,rfl,rfl⟩))
         exact SE.out _ _ _ { z with said:=true,n:=z.low } 0 (.int .i64 z.low) s6 (.inl ⟨rfl,rfl,rfl⟩))
        clear hsd hq
        go_wp2_with (go_at_call 88;with_reducible refine B6.out.mono ?_;rintro e w7 ⟨rfl,S7⟩;obtain⟨x0,x1,x2,fz⟩:=CE.out w7 _ _ S7;have f0:=fz kk;have f1:=fz (kk+1);have f2:=fz (kk+2);have K7:=Lib.hid S7;clear S7 fz)
        --[r2
        have K9:=Lib.hid (S6.out w7 K7.out)
        go_roundg m
        case measure=>omega
        case rel =>
         obtain⟨HT9,HR9,q1,q2,q3⟩:=K9.out
         obtain⟨s1,s2,s3⟩:=HS.out
         rw[EQ.out] at s1 s2 s3
         rw[← HX.out.1,← HX.out.2] at s1 s2 s3
         refine⟨m,HT9,HR9,by have:=KM.out.1;omega,rfl,?_,?_,by rw[← s1,HX.out.1,HX.out.2];exact q1,by rw[s3];exact q2,q3⟩
         ·have:=KM.out;first | (congr 1;omega) | go_num
         ·rw[s2]
        --]r2
       ·obtain⟨hf,EZ⟩:=decL_zero l _ z b r' ⟨hlt,hsd⟩ hq rfl
        have EQ:=Lib.hid EZ
        have hr2:=rdBit_inv l r' hr8'
        have hq0:(rdBit l r').1=0:=by omega
        have B6:=Lib.hid (KZ.out.2.bit hll (by omega) hr8' 0 hq0)
        have S6:Hid (∀ w',StD W (HR++HT) w' tb rb l T m p X Y z (rdBit l r').2 H1→StD W (HR++HT) ((w'.setCell ⟨p.1,kk+2,none⟩ (.bool false)).setCell ⟨p.1,kk+1,none⟩ (.int .i64 (z.low+1))) tb rb l T m p X Y { z with said:=false,low:=z.low+1 } (rdBit l r').2 H1):=Lib.hid (fun w' h=>by
         have s6:=SE.out w' z _ { z with said:=false } 2 (.bool false) h (.inr (.inr ⟨rfl,rfl,rfl⟩))
         exact SE.out _ _ _ { z with said:=false,low:=z.low+1 } 1 (.int .i64 (z.low+1)) s6 (.inr (.inl ⟨rfl,rfl,rfl⟩)))
        have hr3:=hr2.2
        generalize hr4:(rdBit l r').2=r4 at *
        clear EZ hsd hq hq0 hr2 hr4
        go_wp2_with (go_at_call 88;with_reducible refine B6.out.mono ?_;rintro e w7 ⟨rfl,S7⟩;obtain⟨x0,x1,x2,fz⟩:=CE.out w7 _ _ S7;have f0:=fz kk;have f1:=fz (kk+1);have f2:=fz (kk+2);have K7:=Lib.hid S7;clear S7 fz)
        --[r3
        have K8:=Lib.hid (S6.out w7 K7.out)
        go_roundg (b - (z.low+1)).toNat
        case measure=>omega
        case rel =>
         refine⟨_,r4,rfl,?_,K8.out,by first | omega | (simp only;omega),hr3.1,by have:=hr3.2;first | omega | (simp only;omega)⟩
         rw[KZ.out.1,EQ.out]
        --]r3
     ·have EQ:Hid (decNode l z0 lo b re=(z,r')):=Lib.hid (by rw[EN.out,KZ.out.1,decL_said _ _ _ _ _ (fun e=>hlt e.1)])
      have K9:=Lib.hid KZ.out.2
      go_wp2_with fail
      --[r4
      go_roundg m
      case measure=>omega
      case rel =>
       obtain⟨HT9,HR9,q1,q2,q3⟩:=K9.out
       obtain⟨s1,s2,s3⟩:=HS.out
       rw[EQ.out] at s1 s2 s3
       rw[← HX.out.1,← HX.out.2] at s1 s2 s3
       refine⟨m,HT9,HR9,by have:=KM.out.1;omega,rfl,?_,?_,by rw[← s1,HX.out.1,HX.out.2];exact q1,by rw[s3];exact q2,q3⟩
       ·have:=KM.out;first | (congr 1;omega) | go_num
       ·rw[s2]
      --]r4
end
section
open Go.RowKit Go.Shelf
attribute [local go_sem] Oper.semAt_some
structure BandA where
 bb:Nat
 lb:Nat
 n:Nat
structure SpotX where
 d:BandA
 k:Nat
def SpotX.v (x:SpotX):Value:=.agg #[.pointer (some ⟨x.d.lb,x.k * 5,none⟩),.pointer (some ⟨x.d.bb,0,none⟩),.int .i64 (x.k:Int)]
def spotsB (d:BandA) (k:Nat):List SpotX:=(List.range k).map fun j=>⟨d,j⟩
def spotsOf (D:List BandA):List SpotX:=D.flatMap fun d=>spotsB d d.n
def SpR (W:World) (box:Nat) (A:Option Addr) (c:Nat) (D:List BandA):Prop :=
 W.cell? ⟨box,0,none⟩=some (.slice A D.length c) ∧
 (∀ j d,D[j]?=some d→∃ ga,A=some ⟨ga,0,none⟩∧W.cell? ⟨ga,j,none⟩=some (.pointer (some ⟨d.bb,0,none⟩))) ∧
 (∀ d∈D,W.cell? ⟨d.bb,0,none⟩=some (.slice (some ⟨d.lb,0,none⟩) d.n d.n))
theorem spotsB_succ (d:BandA) (k:Nat):spotsB d (k+1)=spotsB d k++[⟨d,k⟩]:=by simp[spotsB,List.range_succ]
theorem spotsOf_snoc (D:List BandA) (i:Nat) (d:BandA) (h:D[i]?=some d):spotsOf (D.take (i+1))=spotsOf (D.take i)++spotsB d d.n:=by
 rw[List.take_add_one,h]
 simp[spotsOf]
theorem spotsB_prefix (d:BandA) (k:Nat) (h:k≤d.n):spotsB d k <+: spotsB d d.n:=by
 refine⟨(List.range' k (d.n - k)).map fun j=>⟨d,j⟩,?_⟩
 unfold spotsB
 rw[← List.map_append]
 congr 1
 apply List.ext_getElem
 ·simp;omega
 ·intro i h1 h2
  by_cases hi:i<k
  ·rw[List.getElem_append_left (by simpa using hi)];simp
  ·rw[List.getElem_append_right (by simp;omega)];simp;omega
theorem spots_prefix (D:List BandA) (i:Nat) (d:BandA) (h:D[i]?=some d) (k:Nat) (hk:k≤d.n):spotsOf (D.take i)++spotsB d k <+: spotsOf D:=by
 obtain⟨t,ht⟩:=spotsB_prefix d k hk
 obtain⟨hi,hd⟩:=List.getElem?_eq_some_iff.1 h
 have e:D=D.take i++d::D.drop (i+1):=by rw[← hd];simp
 refine⟨t++spotsOf (D.drop (i+1)),?_⟩
 conv=>rhs;rw[e]
 rw[show spotsOf (D.take i++d::D.drop (i+1))=spotsOf (D.take i)++(spotsB d d.n++spotsOf (D.drop (i+1))) from by simp[spotsOf],← ht]
 simp
theorem spots1_in (F:Fence) (n:Nat) (h7:F.fn 68) (hro:F.round=none) (hn:1≤n) (l box c:Nat) (A:Option Addr) (D:List BandA) (hD:D.length≤100000) (hDn:∀ d∈D,d.n≤100000) (J Jx:List SpotX→World→Prop)
  (hY:∀ pre x W,J pre W→x∈spotsOf D→pre.length<(spotsOf D).length→YieldAt F (n - 1) Tryz.prog l #[x.v] W fun e W' =>
   (e=.returned (.bool true)∧J (pre++[x]) W'∧(SpR W box A c D→SpR W' box A c D))∨(e=.returned (.bool false)∧Jx (pre++[x]) W'))
  (W:World) (hR:SpR W box A c D) (h0:J [] W) :
  CallsIn F n Tryz.prog 68 #[.func (.yield l) #[] #[],.pointer (some ⟨box,0,none⟩)] W fun e W'=>(∃ v,e=.returned v) ∧
   ((∃ ys,ys=spotsOf D∧J ys W')∨(∃ pre,pre <+: spotsOf D∧Jx pre W')):=by
 refine callsIn_of_wp Tryz.func68 rfl h7 ?_ hro
 simp only[Tryz.ntmps68,List.size_toArray,List.length_cons,List.length_nil,Nat.reduceAdd,Nat.reduceSub,Array.replicate_succ,Array.replicate_zero,List.push_toArray,List.append_toArray,List.nil_append,List.cons_append]
 have c0:=hR.1
 have KR:=Lib.hid hR
 clear hR
 gi_wp2
 gi_loopw [4,8,18] (fun _ s8 _ wr=>∃ i:Nat,i≤D.length∧s8=.int .i64 (i:Int)∧J (spotsOf (D.take i)) wr∧SpR wr box A c D) (fun _ s8 _ _=>D.length - (intOf s8).toNat)
 case atStart=>exact⟨0,Nat.zero_le _,rfl,by simpa [spotsOf] using h0,KR.out⟩
 case round =>
  obtain⟨i,hi,rfl,hJ,hr⟩:=hrel
  by_cases hlt:i<D.length
  ·obtain⟨d,hd⟩:∃ d,D[i]?=some d:=⟨_,List.getElem?_eq_getElem hlt⟩
   obtain⟨ga,rfl,e1⟩:=hr.2.1 i d hd
   have hmem:d∈D:=List.mem_of_getElem? hd
   have e2:=hr.2.2 d hmem
   have hdn:=hDn d hmem
   have hii:(i:Int)<(D.length:Int):=by omega
   have KI:=Lib.hid (And.intro hd (And.intro hJ (And.intro hr hmem)))
   clear hd hJ hr hmem
   gi_wp2
   gi_loopw [5,18] (fun _ s18 wx=>∃ k:Nat,k≤d.n∧s18=.int .i64 (k:Int)∧J (spotsOf (D.take i)++spotsB d k) wx∧SpR wx box (some ⟨ga,0,none⟩) c D) (fun _ s18 _=>d.n - (intOf s18).toNat)
   case atStart=>exact⟨0,Nat.zero_le _,rfl,by simpa [spotsB] using KI.out.2.1,KI.out.2.2.1⟩
   case round =>
    obtain⟨k,hk,rfl,hJ,hr⟩:=hrel
    have e2:=hr.2.2 d KI.out.2.2.2
    by_cases hlk:k<d.n
    ·have hkk:(k:Int)<(d.n:Int):=by omega
     have hpl:(spotsOf (D.take i)++spotsB d k).length<(spotsOf D).length:=by
      have h1:=(spots_prefix D i d KI.out.1 (k+1) (by omega)).length_le
      rw[spotsB_succ,← List.append_assoc,List.length_append] at h1
      simp at h1 ⊢
      omega
     have hme:(⟨d,k⟩:SpotX)∈spotsOf D:=(spots_prefix D i d KI.out.1 (k+1) (by omega)).subset (by rw[spotsB_succ];simp)
     obtain⟨fn,tmps,assign,body,hy,hR⟩:=hY _ ⟨d,k⟩ wr hJ hme hpl
     simp only[SpotX.v] at hy
     have KK:=Lib.hid (And.intro hJ hr)
     clear hJ hr
     gi_wp2
     refine hR.mono ?_
     rintro e W3 (⟨rfl,hJ3,hk3⟩ | ⟨rfl,hJx3⟩)
     ·gi_wp2
      go_roundw
      case rel=>exact⟨k+1,by omega,by simp,by rw[spotsB_succ,← List.append_assoc];exact hJ3,hk3 KK.out.2⟩
      case measure=>simp[intOf];omega
     ·gi_wp2
      refine bodyPost_ret (results_none rfl _ _ _) rfl ?_
      have hp:=spots_prefix D i d KI.out.1 (k+1) (by omega)
      rw[spotsB_succ,← List.append_assoc] at hp
      exact⟨⟨_,rfl⟩,.inr ⟨_,hp,hJx3⟩⟩
    ·obtain rfl:k=d.n:=by omega
     have KK:=Lib.hid (And.intro hJ hr)
     clear hJ hr
     gi_wp2
     go_roundw
     case rel=>exact⟨i+1,by omega,by simp,by rw[spotsOf_snoc D i d KI.out.1];exact KK.out.1,KK.out.2⟩
     case measure=>simp[intOf];omega
  ·obtain rfl:i=D.length:=by omega
   gi_wp2
   go_end0
   exact⟨⟨_,rfl⟩,.inl ⟨_,rfl,by rw[List.take_length] at hJ;exact hJ⟩⟩
theorem SpR.below {W W':World} {box c:Nat} {A:Option Addr} {D:List BandA} (h:SpR W box A c D) (hb:Below W.heap.size W W'):SpR W' box A c D:=by
 have key:∀ (p:Addr) (v:Value),W.cell? p=some v→W'.cell? p=some v:=fun p v hv=>(hb.cell (World.block_lt_of_cell? W p hv)).trans hv
 refine⟨key _ _ h.1,fun j d hd=>?_,fun d hd=>key _ _ (h.2.2 d hd)⟩
 obtain⟨ga,e,hc⟩:=h.2.1 j d hd
 exact⟨ga,e,key _ _ hc⟩
abbrev SpotIn (D:List BandA):={ x:SpotX // x∈spotsOf D }
theorem spots_stops (n:Nat) (hn:1≤n) (box c:Nat) (A:Option Addr) (D:List BandA) (hD:D.length≤100000) (hDn:∀ d∈D,d.n≤100000) (w:World) (hR:SpR w box A c D) :
  SeqStopsK Fence.wide n Tryz.prog 68 #[.pointer (some ⟨box,0,none⟩)] (fun x:SpotIn D=>#[x.1.v]) (fun W W'=>SpR W box A c D→SpR W' box A c D) (fun ys=>ys.map (·.1)=spotsOf D) (fun pre=>pre.map (·.1) <+: spotsOf D) (spotsOf D).length w:=by
 intro l J Jx W hW _ _ hY h0
 refine(spots1_in Fence.wide n trivial rfl hn l box c A D hD hDn (fun pre W=>∃ pre':List (SpotIn D),pre'.map (·.1)=pre∧J pre' W) (fun pre W=>∃ pre':List (SpotIn D),pre'.map (·.1)=pre∧Jx pre' W) ?_ W (hR.below hW) ⟨[],rfl,h0⟩).mono ?_
 ·rintro pre x W1 ⟨pre',rfl,hJ⟩ hx hlen
  obtain⟨fn,tmps,assign,body,hy,hr⟩:=hY pre' ⟨x,hx⟩ W1 hJ (by simpa using hlen)
  refine⟨fn,tmps,assign,body,hy,hr.mono ?_⟩
  rintro e W' (⟨rfl,h1,h2⟩ | ⟨rfl,h1⟩)
  ·exact .inl ⟨rfl,⟨_,by simp,h1⟩,h2⟩
  ·exact .inr ⟨rfl,_,by simp,h1⟩
 ·rintro e W' ⟨hv,⟨ys,rfl,ys',h1,h2⟩ | ⟨pre,hp,pre',h1,h2⟩⟩
  ·exact⟨hv,.inl ⟨ys',h1,h2⟩⟩
  ·exact⟨hv,.inr ⟨pre',by show List.map (fun x=>x.1) pre' <+: spotsOf D;rw[h1];exact hp,h2⟩⟩
end
section
open Go.RowKit Go.Shelf
def SpotX.cells (x:SpotX):Array Value:=#[.pointer (some ⟨x.d.lb,x.k * 5,none⟩),.pointer (some ⟨x.d.bb,0,none⟩),.int .i64 (x.k:Int)]
theorem Sat.notCells {w:World} {H:List HB} (h:Sat w H) {g:Nat} (hg:g∈keys H) {o:Obj} (ho:w.heap[g]?=some o) (hc:o.isCells=false):False:=by
 obtain⟨b,hb,rfl⟩:=List.mem_map.1 hg
 have h1:=h.2 b hb
 unfold Blk at h1
 rw[ho] at h1
 cases h1
 cases hc
theorem Mv.grown {w0 w w':World} {H0 H:List HB} (h:Mv w0 H0 w H) {row:Option Nat} (hg:w.grownBy w' row) (hr:∀ r,row=some r→w0.heap.size≤r∧∃ o:Obj,w.heap[r]?=some o∧o.isCells=false):Mv w0 H0 w' H:=by
 refine⟨⟨h.sat.1,fun b hb=>?_⟩,⟨hg.os.trans h.only.os,hg.tape.trans h.only.tape,hg.output.trans h.only.output,Nat.le_trans h.only.size hg.size,fun k hk hn=>?_⟩,h.new⟩
 ·have hl:=(h.sat.2 b hb).lt
  refine(hg.block _ hl fun e=>?_).trans (h.sat.2 b hb)
  obtain⟨-,o,ho,hc⟩:=hr _ e.symm
  exact h.sat.notCells (mem_keys hb) ho hc
 ·refine(hg.block k (Nat.lt_of_lt_of_le hk h.only.size) fun e=>?_).trans (h.only.block k hk hn)
  have:=(hr _ e.symm).1
  omega
theorem Mv.putObj {w0 w:World} {H0 H:List HB} (h:Mv w0 H0 w H) {l:Nat} {o:Obj} (o':Obj) (hB:w0.heap.size≤l) (hl:w.heap[l]?=some o) (ho:o.isCells=false):Mv w0 H0 (w.putObj l o') H :=
 h.grown (grownBy_putObj' w l o') (fun r e=>by cases e;exact⟨hB,o,hl,ho⟩)
theorem mv_ownFrom {β:Type} {w0:World} {H0:List HB} (P:β→List HB→Prop) {B:Nat} (hB:w0.heap.size≤B):OwnFrom B (fun s W=>∃ H,P s H∧Mv w0 H0 W H):=by
 rintro s W W' row ⟨H,hP,hM⟩ hg hr
 exact⟨H,hP,hM.grown hg fun r e=>⟨Nat.le_trans hB (hr r e).1,(hr r e).2⟩⟩
theorem Mv.keepsFrom {w w':World} {H H':List HB} (h:Mv w H w' H') (hs:Sat w H) (B:Nat):KeepsFrom B w w' :=
 ⟨h.only.size,fun k o _ hk ho=>h.others hs k o hk (fun c t f e=>by subst e;cases ho)⟩
theorem blk_ownFrom {β:Type} (B g:Nat) (t:TypeId) (cs:Array Value):OwnFrom B (fun (_:β) W=>Blk W g t cs):=by
 intro s W W' row hs hg hr
 refine(hg.block _ hs.lt fun e=>?_).trans hs
 obtain⟨-,o,ho,hc⟩:=hr _ e.symm
 unfold Blk at hs
 rw[hs] at ho
 cases ho
 cases hc
theorem SpR.put {box c:Nat} {A:Option Addr} {D:List BandA} (W:World) (l:Nat) (o o':Obj) (hl:W.heap[l]?=some o) (ho:o.isCells=false) (h:SpR W box A c D):SpR (W.putObj l o') box A c D:=by
 have key:∀ (p:Addr) (v:Value),W.cell? p=some v→(W.putObj l o').cell? p=some v:=fun p v hv=>(cell_kept hv (grownBy_putObj' W l o') (fun r e=>by cases e;exact⟨o,hl,ho⟩))
 refine⟨key _ _ h.1,fun j d hd=>?_,fun d hd=>key _ _ (h.2.2 d hd)⟩
 obtain⟨ga,e,hc⟩:=h.2.1 j d hd
 exact⟨ga,e,key _ _ hc⟩
def spPost {D:List BandA} (w0:World) (H0:List HB) (P:List (SpotIn D)→List HB→Prop) (PX:List (SpotIn D)→List HB→Prop) (pre:List (SpotIn D)):Exit→Act→World→Prop
 | .normal,_,W'=>∃ H',P pre H'∧Mv w0 H0 W' H'
 | .ret,_,W'=>∃ H',PX pre H'∧Mv w0 H0 W' H'
 | _,_,_=>False
theorem range_spots {n:Nat} (hn:3≤n) {g:Operand} {ps:Array Tmp} {assign body:Code} {Q:Exit→Act→World→Prop} {a:Act} {w:World} (w0:World) (H0:List HB) (hsz:w0.heap.size≤w.heap.size)
  {box c:Nat} {A:Option Addr} {D:List BandA} (hg:a.eval g=.func (.func 68) #[] #[.pointer (some ⟨box,0,none⟩)]) (hps:ps.size=1) (hD:D.length≤100000) (hDn:∀ d∈D,d.n≤100000)
  (P PX:List (SpotIn D)→List HB→Prop) (hP:∀ pre H W,P pre H→Sat W H→SpR W box A c D) (hT:∀ pre H,P pre H→∀ b∈H,b.t≠66)
  (h0:∃ H,P [] H∧Mv w0 H0 w H) (a₁:SpotIn D→Nat→Act)
  (hassign:∀ (l:Nat) (x:SpotIn D) (W:World) (K:Act→World→Prop),K (a₁ x W.heap.size) (W.alloc (.cells x.1.cells 66)) →
   assign.wpIn (Fence.wide.inRound l) (n - 1 - 1) Tryz.prog (Exit.then K (fun _ _ _=>False)) { tmps:=(ps.zip #[x.1.v]).foldl (fun t (p,v)=>t.setIfInBounds p v) a.tmps,defers:=[] } W)
  (hbody:∀ (l:Nat) (pre:List (SpotIn D)) (x:SpotIn D) (B:Nat) (W:World) (H:List HB),(∃ r,W.heap[l]?=some (.loop r))→P pre H→Sat W (⟨B,66,x.1.cells⟩::H)→pre.length<(spotsOf D).length →
   body.wpIn (Fence.wide.inRound l) (n - 1 - 1) Tryz.prog (spPost W (⟨B,66,x.1.cells⟩::H) P PX (pre++[x])) (a₁ x B) W)
  (hdone:∀ (K:Nat) (ys:List (SpotIn D)) (W:World) (H:List HB),w0.heap.size≤K→ys.map (·.1)=spotsOf D→P ys H→Mv w0 H0 W H→W.heap[K]?=some (.deferred (some []))→Q .normal { a with defers:={ target:=.collected K,args:=#[] }::a.defers } W)
  (hstop:∀ (K:Nat) (pre:List (SpotIn D)) (W:World) (H:List HB),w0.heap.size≤K→pre.map (·.1) <+: spotsOf D→PX pre H→Mv w0 H0 W H→W.heap[K]?=some (.deferred (some []))→Code.ret.wpIn Fence.wide n Tryz.prog Q { a with defers:={ target:=.collected K,args:=#[] }::a.defers } W) :
  (Code.rangeFunc g ps assign body).wpIn Fence.wide n Tryz.prog Q a w:=by
 obtain⟨Hi,hPi,hMi⟩:=h0
 refine wpIn_rangeFunc_ownH (F:=Fence.wide) rfl (by omega) hg trivial (enters_of Tryz.func68 (by kernel_rfl) rfl) (spots_stops (n - 1) (by omega) box c A D hD hDn w (hP _ _ _ hPi hMi.sat))
  (fun {X Y Z} h k s=>k (h s)) (fun W l o o' _ hl ho _ hs=>SpR.put W l o o' hl ho hs) (Below.refl _ _) (fun _=>by simpa using hps.symm)
  (fun pre W=>∃ H,P pre H∧Mv w0 H0 W H) (fun c pre W=>c=.ret∧∃ H,PX pre H∧Mv w0 H0 W H) (mv_ownFrom P hsz) (fun c=>OwnFrom.and (ownFrom_pure _ (fun _=>c=.ret)) (mv_ownFrom PX hsz)) ⟨Hi,hPi,hMi⟩
  (fun x a' W=>∃ B,w0.heap.size≤B∧Blk W B 66 x.1.cells∧a'=a₁ x B) (fun x a'=>?_) ?_ ?_ ?_ ?_
 ·rintro s W W' row ⟨B,h1,h2,h3⟩ hgr hr
  exact⟨B,h1,blk_ownFrom (β:=Unit) _ B _ _ () W W' row h2 hgr hr,h3⟩
 ·rintro l pre x W K ⟨H,hPp,hM⟩ hK
  refine hassign l x W K (hK _ _ ((KeepsOthers.alloc _ _).from _) (fun hs=>hs.below ((Below.refl _ W).alloc (Nat.le_refl _) _)) ⟨H,hPp,?_⟩ ⟨W.heap.size,hM.only.size,Blk.new _ _ _,rfl⟩)
  exact(hM.alloc 66 x.1.cells).drop1
 ·rintro l pre x a' W hl hr ⟨H,hPp,hM⟩ ⟨B,hB,hBl,rfl⟩ hlen
  have hne:B ∉ keys H:=fun e=>by
   obtain⟨b,hb,rfl⟩:=List.mem_map.1 e
   have h1:=hM.sat.2 b hb
   unfold Blk at h1 hBl
   rw[h1] at hBl
   have:=hT _ _ hPp b hb
   simp only[Option.some.injEq,Obj.cells.injEq] at hBl
   exact this hBl.2.1
  have hM1:Mv w0 H0 W (⟨B,66,x.1.cells⟩::H):=⟨⟨by rw[keys_cons];exact List.nodup_cons.2 ⟨hne,hM.sat.1⟩,fun b hb=>by
   rcases List.mem_cons.1 hb with rfl | hb
   ·exact hBl
   ·exact hM.sat.2 b hb⟩,hM.only,fun k hk=>by
   rw[keys_cons] at hk
   rcases List.mem_cons.1 hk with rfl | hk
   ·exact .inr hB
   ·exact hM.new k hk⟩
  refine wpIn_mono (hbody l pre x B W H hr hPp hM1.sat hlen) ?_
  rintro e a3 W3 hp
  cases e with
  | normal =>
   obtain⟨H',h1,h2⟩:=hp
   exact⟨h2.keepsFrom hM1.sat _,fun _=>hP _ _ _ h1 h2.sat,H',h1,hM1.trans h2⟩
  | ret =>
   obtain⟨H',h1,h2⟩:=hp
   exact⟨h2.keepsFrom hM1.sat _,rfl,H',h1,hM1.trans h2⟩
  | exit id=>exact hp.elim
  | goto t=>exact hp.elim
  | panic ch=>exact hp.elim
  | outgrown=>exact hp.elim
 ·rintro K ys W hK hS ⟨H,h1,h2⟩ hk
  exact hdone K ys W H (by omega) hS h1 h2 hk
 ·rintro K c pre W hK hS ⟨rfl,H,h1,h2⟩ hk
  exact hstop K pre W H (by omega) hS h1 h2 hk
theorem range_spots1 {n:Nat} (hn:3≤n) {g:Operand} {p:Tmp} (q:Tmp) {assign body:Code} {Q:Exit→Act→World→Prop} {a:Act} {w:World} (w0:World) (H0:List HB) (hsz:w0.heap.size≤w.heap.size)
  {box c:Nat} {A:Option Addr} {D:List BandA} (hg:a.eval g=.func (.func 68) #[] #[.pointer (some ⟨box,0,none⟩)]) (hD:D.length≤100000) (hDn:∀ d∈D,d.n≤100000)
  (P PX:List (SpotIn D)→List HB→Prop) (hP:∀ pre H W,P pre H→Sat W H→SpR W box A c D) (hT:∀ pre H,P pre H→∀ b∈H,b.t≠66)
  (h0:∃ H,P [] H∧Mv w0 H0 w H)
  (hassign:∀ (l:Nat) (x y:Option Addr) (z:Int) (W:World) (K:Act→World→Prop),K { tmps:=(a.tmps.setIfInBounds p (.agg #[.pointer x,.pointer y,.int .i64 z])).setIfInBounds q (.pointer (some ⟨W.heap.size,0,none⟩)),defers:=[] } (W.alloc (.cells #[.pointer x,.pointer y,.int .i64 z] 66)) →
   assign.wpIn (Fence.wide.inRound l) (n - 1 - 1) Tryz.prog (Exit.then K (fun _ _ _=>False)) { tmps:=a.tmps.setIfInBounds p (.agg #[.pointer x,.pointer y,.int .i64 z]),defers:=[] } W)
  (hbody:∀ (l:Nat) (pre:List (SpotIn D)) (x:SpotX) (hx:x∈spotsOf D) (B:Nat) (W:World) (H:List HB),(∃ r,W.heap[l]?=some (.loop r))→P pre H→Sat W (⟨B,66,x.cells⟩::H)→pre.length<(spotsOf D).length →
   body.wpIn (Fence.wide.inRound l) (n - 1 - 1) Tryz.prog (spPost W (⟨B,66,x.cells⟩::H) P PX (pre++[⟨x,hx⟩])) { tmps:=(a.tmps.setIfInBounds p x.v).setIfInBounds q (.pointer (some ⟨B,0,none⟩)),defers:=[] } W)
  (hdone:∀ (K:Nat) (ys:List (SpotIn D)) (W:World) (H:List HB),w0.heap.size≤K→ys.map (·.1)=spotsOf D→P ys H→Mv w0 H0 W H→W.heap[K]?=some (.deferred (some []))→Q .normal { a with defers:={ target:=.collected K,args:=#[] }::a.defers } W)
  (hstop:∀ (K:Nat) (pre:List (SpotIn D)) (W:World) (H:List HB),w0.heap.size≤K→pre.map (·.1) <+: spotsOf D→PX pre H→Mv w0 H0 W H→W.heap[K]?=some (.deferred (some []))→Code.ret.wpIn Fence.wide n Tryz.prog Q { a with defers:={ target:=.collected K,args:=#[] }::a.defers } W) :
  (Code.rangeFunc g #[p] assign body).wpIn Fence.wide n Tryz.prog Q a w :=
 range_spots hn w0 H0 hsz hg rfl hD hDn P PX hP hT h0 (fun x B=>{ tmps:=(a.tmps.setIfInBounds p x.1.v).setIfInBounds q (.pointer (some ⟨B,0,none⟩)),defers:=[] })
  (fun l x W K hK=>by
   have:=hassign l _ _ _ W K hK
   simpa [SpotX.v] using this)
  (fun l pre x B W H hr h1 h2 h3=>hbody l pre x.1 x.2 B W H hr h1 h2 h3) hdone hstop
theorem Mv.setAt {w0 w:World} {H0 A R:List HB} {g:Nat} {t:TypeId} {cs:Array Value} (h:Mv w0 H0 w (A++⟨g,t,cs⟩::R)) (i:Nat) (v:Value):Mv w0 H0 (w.setCell ⟨g,i,none⟩ v) (A++⟨g,t,cs.setIfInBounds i v⟩::R):=by
 have h1:Mv w0 H0 w (⟨g,t,cs⟩::(A++R)):=h.sub (fun k=>by simp only[cnt_append,cnt_cons];omega) (fun b hb=>by simp only[List.mem_append,List.mem_cons] at hb ⊢;grind)
 exact(h1.set i v).sub (fun k=>by simp only[cnt_append,cnt_cons];omega) (fun b hb=>by simp only[List.mem_append,List.mem_cons] at hb ⊢;grind)
end
end Go.Proofs.YtjngfhgakokejaaGreat
