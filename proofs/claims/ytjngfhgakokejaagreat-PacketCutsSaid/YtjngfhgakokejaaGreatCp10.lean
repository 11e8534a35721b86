/- waveletref8: a cleanup pass. waveletref3, waveletref4: fresh contexts. waveletref8: a pass. waveletref4, waveletref5, waveletref8: where a pass ends; which pass is raw, which one ends a segment; may a block be so? waveletref5: a raw segment is shut. Pieces of a function: its blocks and regions, by number. -/
import Derived.Test.YtjngfhgakokejaaGreatCp09
import Derived.Test.YtjngfhgakokejaaGreatCp08
import Derived.Laws.Rows
import Derived.Deep.MidRow
import Derived.Test.YtjngfhgakokejaaGreatCp01
set_option maxRecDepth 100000
set_option maxHeartbeats 8000000
set_option linter.all false
namespace Go.Proofs.YtjngfhgakokejaaGreat
section
open Go.RowKit
theorem and32:∀ s,s<64→(s &&& 32)=if s.testBit 5 then 32 else 0:=by decide
theorem style32 (s:Nat) (h:s≤63):bits .and .i64 (s:Int) 32=if s.testBit 5 then 32 else 0:=by
 have h1:=i64_and_nat s 32 (by omega) (by omega)
 rw[and32 s (by omega)] at h1
 rw[show ((32:Nat):Int)=32 from rfl] at h1
 rw[h1]
 split <;> rfl
def symS (raw:Bool):Nat→WrM→WrM
 | 0,s=>s
 | k+1,s=>bitW raw (symS raw k s) 18 (1 - k % 2)
theorem symS_four (raw:Bool) (s:WrM):symS raw 4 s=symM raw s:=rfl
theorem symS_says (raw:Bool) (s:WrM):∀ k,Says raw k s (symS raw k s)
 | 0=>.refl _ _
 | k+1=>.bit 18 _ (by decide) (symS_says raw s k)
theorem seen_step (l:List Bool) (i:Nat) (h:i<l.length):(List.replicate i false++l.drop i).set i false=List.replicate (i+1) false++l.drop (i+1):=by
 rw[List.set_append_right _ _ (by simp),List.length_replicate,Nat.sub_self,List.drop_eq_getElem_cons h,List.set_cons_zero,List.replicate_succ',List.append_assoc]
 rfl
def seenAt (c:CodM) (i:Nat):CodM:={ c with seen:=List.replicate i false++c.seen.drop i }
theorem seenAt_ok {G:GeoM} {c:CodM} (h:c.Ok G) {i:Nat} (hi:i≤G.w * G.h):(seenAt c i).Ok G :=
 ⟨h.sig,by have:=h.seen;simp only[seenAt,List.length_append,List.length_replicate,List.length_drop];omega,h.again⟩
theorem runM_succ (f:CS→Nat→CS) (n k:Nat) (q:CS) (h:k<n):runM f (n - k) k q=runM f (n - (k+1)) (k+1) (f q k):=by
 rw[show n - k=(n - (k+1))+1 by omega]
 rfl
theorem cod_clean (A:CodA) (G:GeoM) (q:CS) (raw:Bool) (eg rg plane:Nat) (H:List HB) (w:World) (hg:G.Ok) (hc:q.c.Ok G) (h:CodR A G q raw eg rg H) (hs:Sat w H) (hq:q.s.Ok) (hz:q.s.size+(192 * (G.w * ((G.h+3) / 4))+100)≤79000000) (hp:plane≤40) :
  Calls Tryz.prog 103 #[.pointer (some ⟨A.cb,0,none⟩),.int .i64 (plane:Int)] w fun e w'=>e=.returned (.tuple #[])∧∃ H',CodR A G (cleanM G raw plane q) raw eg rg H'∧Mv w H w' H':=by
 have hh2:=hg.h2
 have hw2:=hg.w2
 obtain⟨T,hT⟩:∃ T,(G.h+3) / 4=T:=⟨_,rfl⟩
 rw[hT] at hz
 have tb:∀ t,t<T↔4 * t<G.h:=by intro t;omega
 have HT:=Lib.hid tb
 have t16:T≤17:=by omega
 obtain⟨R1,hR1⟩:∃ R1,runM (rowM G raw plane) T 0 q=R1:=⟨_,rfl⟩
 have EC:Hid (cleanM G raw plane q=⟨{ R1.c with seen:=List.replicate (G.w * G.h) false },if G.style.testBit 5 then symM raw R1.s else R1.s⟩):=Lib.hid (by unfold cleanM;rw[hT,hR1])
 have K0:=Lib.hid (And.intro h (And.intro (Mv.refl hs) (And.intro hc (And.intro hq (And.intro hz hR1)))))
 have HG:=Lib.hid hg
 clear h hs hc hq hz hR1 hg tb hT
 go_enter Tryz.func103,Tryz.ntmps103
 go_wp2_with fail
 go_loopg [4] T (fun m s4 wx=>∃ (t:Nat) (q1:CS) (H1:List HB),t≤T∧m=T - t∧s4=.int .i64 ((4 * t:Nat):Int)∧CodR A G q1 raw eg rg H1∧Mv w H wx H1∧q1.c.Ok G∧q1.s.Ok∧q1.s.size+(192 * (G.w * (T - t))+100)≤79000000∧runM (rowM G raw plane) (T - t) t q1=R1)
 case atStart=>exact⟨0,q,H,by omega,rfl,rfl,K0.out.1,K0.out.2.1,K0.out.2.2.1,K0.out.2.2.2.1,K0.out.2.2.2.2.1,K0.out.2.2.2.2.2⟩
 case round =>
  obtain⟨t,q1,H1,ht,rfl,rfl,h1,m1,hc1,hq1,hz1,hR⟩:=hrel
  have V:=h1.see HG.out hc1 m1.sat
  have c1:=V.h_
  have K1:=Lib.hid (And.intro h1 (And.intro m1 (And.intro hc1 (And.intro hq1 (And.intro hz1 hR)))))
  clear V h1 m1 hc1 hq1 hz1 hR
  obtain⟨y,hy⟩:∃ y,4 * t=y:=⟨_,rfl⟩
  rw[hy]
  by_cases hlt:t<T
  ·have sy:y<G.h:=by rw[← hy];exact(HT.out t).1 hlt
   have d1:decide ((y:Int)<(G.h:Int))=true:=by simp;omega
   have HY:=Lib.hid hy
   have yb:y≤70:=by omega
   clear hy
   obtain⟨R2,hR2⟩:∃ R2,rowM G raw plane q1 t=R2:=⟨_,rfl⟩
   have R2e:Hid (runM (colM G raw plane y) G.w 0 q1=R2):=Lib.hid (by rw[← hR2,← HY.out];rfl)
   have R3e:Hid (runM (rowM G raw plane) (T - (t+1)) (t+1) R2=R1):=Lib.hid (by have:=K1.out.2.2.2.2.2;rw[runM_succ _ _ _ _ hlt,hR2] at this;exact this)
   have ZB:Hid (q1.s.size+(192 * (G.w+G.w * (T - (t+1)))+100)≤79000000):=Lib.hid (by
    have:=K1.out.2.2.2.2.1
    rw[show T - t=(T - (t+1))+1 by omega,Nat.mul_succ] at this
    omega)
   clear hR2
   go_wp2_with fail
   go_loopg [5] G.w (fun m s5 wx=>∃ (x:Nat) (q2:CS) (H2:List HB),x≤G.w∧m=G.w - x∧s5=.int .i64 (x:Int)∧CodR A G q2 raw eg rg H2∧Mv w H wx H2∧q2.c.Ok G∧q2.s.Ok∧q2.s.size+(192 * ((G.w - x)+G.w * (T - (t+1)))+100)≤79000000∧runM (colM G raw plane y) (G.w - x) x q2=R2)
   case atStart=>exact⟨0,q1,H1,by omega,rfl,rfl,K1.out.1,K1.out.2.1,K1.out.2.2.1,K1.out.2.2.2.1,ZB.out,R2e.out⟩
   case round =>
    rename_i wo
    obtain⟨x,q2,H2,hx,rfl,rfl,h2,m2,hc2,hq2,hz2,hR⟩:=hrel
    have V:=h2.see HG.out hc2 m2.sat
    have c0:=V.w_
    have K2:=Lib.hid (And.intro h2 (And.intro m2 (And.intro hc2 (And.intro hq2 (And.intro hz2 hR)))))
    clear V h2 m2 hc2 hq2 hz2 hR
    by_cases hlx:x<G.w
    ·have d2:decide ((x:Int)<(G.w:Int))=true:=by simp;omega
     have CC:=Lib.hid (cod_col A G q2 raw eg rg x y plane H2 _ HG.out K2.out.2.2.1 K2.out.1 K2.out.2.1.sat K2.out.2.2.2.1 (by have:=K2.out.2.2.2.2.1;omega) hp hlx sy)
     go_wp2_with (go_at_call 126;refine CC.out.mono ?_;rintro e w3 ⟨rfl,H3,h3,m3⟩;have K3:=Lib.hid (And.intro h3 (K2.out.2.1.trans m3));clear h3 m3)
     go_roundg (G.w - (x+1))
     case measure=>omega
     case rel =>
      have e2:=colM_says (raw:=raw) (G:=G) plane y q2 x
      have e3:=(e2.grow K2.out.2.2.2.1).2.2
      have e4:=K2.out.2.2.2.2.2
      rw[runM_succ _ _ _ _ hlx] at e4
      exact⟨x+1,_,H3,by omega,rfl,by push_cast;rfl,K3.out.1,K3.out.2,colM_ok K2.out.2.2.1 plane y x,e2.ok K2.out.2.2.2.1,by have:=K2.out.2.2.2.2.1;omega,e4⟩
    ·have d2:decide ((x:Int)<(G.w:Int))=false:=by simp;omega
     go_wp2_with fail
     go_roundg (T - (t+1))
     case measure=>omega
     case rel =>
      have e4:=K2.out.2.2.2.2.2
      rw[show G.w - x=0 by omega] at e4
      have e5:q2=R2:=e4
      have z5:=K2.out.2.2.2.2.1
      rw[show G.w - x=0 by omega,Nat.zero_add] at z5
      exact⟨t+1,q2,H2,by omega,rfl,congrArg (Value.int .i64) (by have:=HY.out;omega),K2.out.1,K2.out.2.1,K2.out.2.2.1,K2.out.2.2.2.1,z5,by rw[e5];exact R3e.out⟩
  ·have ny:¬ y<G.h:=by rw[← hy];intro h;exact hlt ((HT.out t).2 h)
   have d1:decide ((y:Int)<(G.h:Int))=false:=by simp;omega
   have eR:R1=q1:=by
    have:=K1.out.2.2.2.2.2
    rw[show T - t=0 by omega] at this
    exact this.symm
   have HE:=Lib.hid eR
   obtain⟨n,hn⟩:∃ n,G.w * G.h=n:=⟨_,rfl⟩
   have n4:n≤4096:=by rw[← hn];exact Nat.mul_le_mul hw2 hh2
   have HN:=Lib.hid hn
   clear hy eR hn
   go_wp2_with fail
   go_loopg [6] n (fun m s6 wx=>∃ (i:Nat) (H2:List HB),i≤n∧m=n - i∧s6=.int .i64 (i:Int)∧CodR A G ⟨seenAt q1.c i,q1.s⟩ raw eg rg H2∧Mv w H wx H2)
   case atStart=>exact⟨0,H1,by omega,rfl,rfl,K1.out.1,K1.out.2.1⟩
   case round =>
    rename_i wo
    obtain⟨i,H2,hi,rfl,rfl,h2,m2⟩:=hrel
    have oi:(seenAt q1.c i).Ok G:=seenAt_ok K1.out.2.2.1 (by rw[HN.out];exact hi)
    have V:=h2.see HG.out oi m2.sat
    have c7:=V.e_
    unfold slV at c7
    rw[HN.out] at c7
    have K2:=Lib.hid (And.intro h2 m2)
    by_cases hli:i<n
    ·have d2:decide ((i:Int)<(n:Int))=true:=by simp;omega
     have ci:=V.seen i (by rw[HN.out];exact hli)
     generalize (seenAt q1.c i).seen.getD i false=u at ci
     have fi:=(h2.frozen m2.sat i).2.2.1
     obtain⟨H3,r3,m3⟩:=h2.setSeen m2 i false
     have K3:=Lib.hid (And.intro r3 m3)
     clear V h2 m2 r3 m3 oi
     have i1:(i:Int)<(n:Int):=by omega
     go_wp2_with fail
     go_roundg (n - (i+1))
     case measure=>omega
     case rel =>
      have e1:=seen_step q1.c.seen i (by rw[K1.out.2.2.1.seen,HN.out];exact hli)
      refine⟨i+1,H3,by omega,rfl,by push_cast;rfl,?_,K3.out.2⟩
      have:=K3.out.1
      unfold seenAt at this ⊢
      simp only[e1] at this
      exact this
    ·have d2:decide ((i:Int)<(n:Int))=false:=by simp;omega
     have ei:i=n:=by omega
     have CQ:Hid (CodR A G ⟨{ q1.c with seen:=List.replicate n false },q1.s⟩ raw eg rg H2):=Lib.hid (by
      have e1:seenAt q1.c i={ q1.c with seen:=List.replicate n false }:=by
       unfold seenAt
       rw[ei,List.drop_eq_nil_of_le (by rw[K1.out.2.2.1.seen,HN.out];exact Nat.le_refl _),List.append_nil]
      rw[← e1]
      exact K2.out.1)
     have c3:=V.style
     have e32:=style32 G.style HG.out.style
     have ZS:Hid (q1.s.size+100≤79000000):=Lib.hid (by have:=K1.out.2.2.2.2.1;omega)
     clear V h2 m2 oi ei
     rcases(Bool.eq_false_or_eq_true (G.style.testBit 5)).symm with ht | ht
     ·rw[ht] at e32
      simp only[Bool.false_eq_true,if_false] at e32
      have HTB:=Lib.hid ht
      clear ht
      go_wp2_with fail
      refine bodyPost_end (results_none rfl _ _ _) rfl ⟨rfl,H2,?_,K2.out.2⟩
      rw[EC.out,HTB.out,HE.out,HN.out]
      exact CQ.out
     ·rw[ht] at e32
      simp only[if_true] at e32
      have HTB:=Lib.hid ht
      clear ht
      go_wp2_with fail
      go_loopg [7] 4 (fun m s7 wx=>∃ (k:Nat) (H3:List HB),k≤4∧m=4 - k∧s7=.int .i64 (k:Int)∧CodR A G ⟨{ q1.c with seen:=List.replicate n false },symS raw k q1.s⟩ raw eg rg H3∧Mv w H wx H3)
      case atStart=>exact⟨0,H2,by omega,rfl,rfl,CQ.out,K2.out.2⟩
      case round =>
       rename_i wp
       obtain⟨k,H3,hk,rfl,rfl,h3,m3⟩:=hrel
       have K3:=Lib.hid (And.intro h3 m3)
       clear h3 m3
       by_cases hlk:k<4
       ·have d3:decide ((k:Int)<4)=true:=by simp;omega
        obtain⟨b,hb⟩:∃ b,1 - k % 2=b:=⟨_,rfl⟩
        have eb:(1:Int) - (k:Int) % 2=(b:Int):=by omega
        have SS:=symS_says raw q1.s k
        have SO:=SS.ok K1.out.2.2.2.1
        have SZ:=(SS.grow K1.out.2.2.2.1).2.2
        have BT:Hid (Calls Tryz.prog 127 #[.pointer (some ⟨A.cb,0,none⟩),.int .i64 18,.int .i64 (b:Int)] _ fun e w'=>e=.returned (.int .i64 (b:Int))∧∃ H',CodR A G ⟨{ q1.c with seen:=List.replicate n false },symS raw (k+1) q1.s⟩ raw eg rg H'∧Mv _ H3 w' H'):=Lib.hid (by
         have:=cod_bit A G ⟨{ q1.c with seen:=List.replicate n false },symS raw k q1.s⟩ raw eg rg 18 b H3 _ K3.out.1 K3.out.2.sat SO (by have:=ZS.out;simp only;omega) (by decide) (by omega)
         rw[← hb] at this ⊢
         exact this)
        clear hb SS SO SZ
        go_wp2_with (go_at_call 127;refine BT.out.mono ?_;rintro e w4 ⟨rfl,H4,h4,m4⟩;have K4:=Lib.hid (And.intro h4 (K3.out.2.trans m4));clear h4 m4)
        go_roundg (4 - (k+1))
        case measure=>omega
        case rel=>exact⟨k+1,H4,by omega,rfl,by push_cast;rfl,K4.out.1,K4.out.2⟩
       ·have d3:decide ((k:Int)<4)=false:=by simp;omega
        have ek:k=4:=by omega
        have HK:=Lib.hid ek
        clear ek
        go_wp2_with fail
        refine bodyPost_end (results_none rfl _ _ _) rfl ⟨rfl,H3,?_,K3.out.2⟩
        rw[EC.out,HTB.out,HE.out,HN.out]
        have:=K3.out.1
        rw[HK.out,symS_four] at this
        exact this
end
section
open Go.RowKit
def beginN (k:Nat):Nat:=if k=0 then 4 else if k=17 then 3 else if k=18 then 46 else 0
theorem begin3_any (k:Nat) (w:World):Calls Tryz.prog 119 #[.int .i64 (k:Int)] w fun e w'=>e=.returned (.int .i64 ((beginN k:Nat):Int))∧w'=w:=by
 by_cases h0:k=0
 ·subst h0
  go_enter Tryz.func119,Tryz.ntmps119
  go_wp2_with fail
  go_ret
  exact⟨rfl,rfl⟩
 by_cases h1:k=17
 ·subst h1
  go_enter Tryz.func119,Tryz.ntmps119
  go_wp2_with fail
  go_ret
  exact⟨rfl,rfl⟩
 by_cases h2:k=18
 ·subst h2
  go_enter Tryz.func119,Tryz.ntmps119
  go_wp2_with fail
  go_ret
  exact⟨rfl,rfl⟩
 have e:beginN k=0:=by unfold beginN;rw[if_neg h0,if_neg h1,if_neg h2]
 rw[e]
 have d0:((k:Int) == 0)=false:=beq_eq_false_iff_ne.2 (by omega)
 have d1:((k:Int) == 17)=false:=beq_eq_false_iff_ne.2 (by omega)
 have d2:((k:Int) == 18)=false:=beq_eq_false_iff_ne.2 (by omega)
 have n0:¬ ((k:Int)=0):=by omega
 have n1:¬ ((k:Int)=17):=by omega
 have n2:¬ ((k:Int)=18):=by omega
 clear e h0 h1 h2
 go_enter Tryz.func119,Tryz.ntmps119
 go_wp2_with fail
 go_ret
 exact⟨rfl,rfl⟩
def cxMid (k:Nat):List CxM:=(List.range 19).map fun j=>if j<k then ⟨beginN j,0⟩ else ⟨0,0⟩
theorem cxMid_get (k:Nat) (h:k<19):(cxMid k)[k]?=some ⟨0,0⟩:=by
 unfold cxMid
 rw[List.getElem?_map,List.getElem?_range h]
 simp
theorem cxMid_set (k:Nat):(cxMid k).set k ⟨beginN k,0⟩=cxMid (k+1):=by
 apply List.ext_getElem?
 intro i
 unfold cxMid
 rw[List.getElem?_set]
 by_cases hi:i<19
 ·by_cases e:k=i
  ·subst e
   rw[if_pos rfl,if_pos (by simpa using hi),List.getElem?_map,List.getElem?_range hi]
   simp
  ·rw[if_neg e,List.getElem?_map,List.getElem?_map,List.getElem?_range hi]
   simp only[Option.map_some]
   congr 1
   by_cases h1:i<k
   ·rw[if_pos h1,if_pos (by omega)]
   ·rw[if_neg h1,if_neg (by omega)]
 ·by_cases e:k=i
  ·subst e
   rw[if_pos rfl,if_neg (by simpa using hi),List.getElem?_eq_none (by simp;omega)]
  ·rw[if_neg e,List.getElem?_eq_none (by simp;omega),List.getElem?_eq_none (by simp;omega)]
theorem cxMid_all:cxMid 19=cxFresh:=rfl
theorem cxV_mid (k:Nat) (h:k<19):(cxV (cxMid k)).set (k * 2) (.int .i64 ((beginN k:Nat):Int))=cxV (cxMid (k+1)):=by
 rw[← cxMid_set k]
 exact flat_set (fun c:CxM=>[Value.int .i64 (c.i:Int),.int .i64 (c.mps:Int)]) 2 (fun _=>rfl) (cxMid k) k ⟨0,0⟩ ⟨beginN k,0⟩ (cxMid_get k h) 0 (by omega) _ rfl
theorem fresh4_any (w:World):Calls Tryz.prog 99 #[] w fun e w'=>e=.returned (.agg (cxV cxFresh).toArray)∧Mv w [] w' []:=by
 have hz:(#[.int .i64 0,.int .i64 0,.int .i64 0,.int .i64 0,.int .i64 0,.int .i64 0,.int .i64 0,.int .i64 0,.int .i64 0,.int .i64 0,.int .i64 0,.int .i64 0,.int .i64 0,.int .i64 0,.int .i64 0,.int .i64 0,.int .i64 0,.int .i64 0,.int .i64 0,.int .i64 0,.int .i64 0,.int .i64 0,.int .i64 0,.int .i64 0,.int .i64 0,.int .i64 0,.int .i64 0,.int .i64 0,.int .i64 0,.int .i64 0,.int .i64 0,.int .i64 0,.int .i64 0,.int .i64 0,.int .i64 0,.int .i64 0,.int .i64 0,.int .i64 0]:Array Value)=(cxV (cxMid 0)).toArray:=by kernel_rfl
 have M0:=mv_alloc w 127 (cxV (cxMid 0)).toArray
 have M1:=M0.alloc 127 (cxV (cxMid 0)).toArray
 rw[World.size_alloc] at M1
 have B1:Blk ((w.alloc (.cells (cxV (cxMid 0)).toArray 127)).alloc (.cells (cxV (cxMid 0)).toArray 127)) (w.heap.size+1) 127 (cxV (cxMid 0)).toArray:=M1.blk 0 rfl
 have M2:=Mv.call (H:=[_]) (R:=[⟨w.heap.size,127,(cxV (cxMid 0)).toArray⟩]) M1 (setRow_eq (cs:=(cxV (cxMid 0)).toArray) B1)
 have HB1:=Lib.hid B1
 have K2:=Lib.hid M2
 clear M0 M1 M2 B1
 have HZ:=Lib.hid hz
 clear hz
 go_enter Tryz.func99,Tryz.ntmps99
 go_upto_region 1 with fail
 refine wp_region_lit ?_
 refine wpList_build_to rfl 127 _ rfl (cxV (cxMid 0)).toArray (by kernel_rfl) ?_
 iterate 3 go_step
 rw[HZ.out]
 refine wpList_store_row rfl 127 (.tmp 1) (.tmp 3) rfl (w.heap.size+1) (cxV (cxMid 0)).toArray (by simp[Act.eval]) rfl 127 _ HB1.out (by kernel_rfl) rfl (by kernel_rfl) ?_
 generalize (((w.alloc (.cells (cxV (cxMid 0)).toArray 127)).alloc (.cells (cxV (cxMid 0)).toArray 127)).setRow (w.heap.size+1) (cxV (cxMid 0)).toArray)=w1 at *
 clear HZ HB1
 have BG:=Lib.hid fun k W=>begin3_any k W
 go_wp2_with fail
 go_loopg [2] 19 (fun m s2 wx=>∃ k:Nat,k≤19∧m=19 - k∧s2=.int .i64 (k:Int)∧Mv w [] wx ([⟨w.heap.size+1,127,(cxV (cxMid k)).toArray⟩]++[⟨w.heap.size,127,(cxV (cxMid 0)).toArray⟩]))
 case atStart=>exact⟨0,by omega,rfl,rfl,K2.out⟩
 case round =>
  obtain⟨k,hk,rfl,rfl,m⟩:=hrel
  have KM:=Lib.hid m
  by_cases hlt:k<19
  ·have d1:decide ((k:Int)<19)=true:=by simp;omega
   have d2:(k:Int)<19:=by omega
   have c1:=(((m.blk 0 rfl).cell (k * 2)).trans (by simp only[List.getElem?_toArray];exact(cxV_get (cxMid_get k hlt)).1))
   have f1:=(m.blk 0 rfl).frozen (k * 2)
   have MS:=Lib.hid (m.set (k * 2) (.int .i64 ((beginN k:Nat):Int)))
   clear m
   go_wp2_with (go_at_call 119;refine(BG.out _ _).mono ?_;rintro e w' ⟨rfl,rfl⟩)
   go_roundg (19 - (k+1))
   case measure=>omega
   case rel =>
    refine⟨k+1,by omega,rfl,by push_cast;rfl,?_⟩
    have:=MS.out
    rw[List.setIfInBounds_toArray,cxV_mid k hlt] at this
    exact this
  ·have d1:decide ((k:Int)<19)=false:=by simp;omega
   have ek:k=19:=by omega
   have HK:=Lib.hid ek
   clear m ek
   go_upto_region 6 with fail
   refine wp_region_lit ?_
   refine wpList_load_row rfl 127 (.tmp 1) rfl (w.heap.size+1) rfl 127 (cxV (cxMid k)).toArray (0,0) _ (KM.out.blk 0 rfl) Tryz.underlying127 rfl (by rw[HK.out];kernel_rfl) ?_
   refine wpList_store_row rfl 127 (.tmp 0) (.tmp 13) rfl w.heap.size (cxV (cxMid k)).toArray rfl rfl 127 _ (KM.out.blk 1 rfl) (by rw[HK.out];kernel_rfl) (by rw[HK.out];kernel_rfl) (by rw[HK.out];kernel_rfl) ?_
   have M9:=Mv.call (H:=[⟨w.heap.size,127,(cxV (cxMid 0)).toArray⟩]) (R:=[⟨w.heap.size+1,127,(cxV (cxMid k)).toArray⟩]) (KM.out.sub (fun g=>by simp only[cnt_append,cnt_cons,cnt_nil];omega) (fun c hc=>by simp only[List.mem_append,List.mem_cons] at hc ⊢;grind)) (setRow_eq (cs:=(cxV (cxMid k)).toArray) (KM.out.blk 1 rfl))
   generalize wr.setRow w.heap.size (cxV (cxMid k)).toArray=w9 at *
   obtain⟨V9,hV9⟩:∃ V9,(cxV (cxMid k)).toArray=V9:=⟨_,rfl⟩
   rw[hV9] at M9 ⊢
   have HV:=Lib.hid (hV9.symm.trans (by rw[HK.out,cxMid_all]))
   have KM9:=Lib.hid M9
   clear hV9 M9
   go_wp2_with fail
   rw[← HV.out]
   exact bodyPost_ret (v:=.agg V9) (results_cell_row Tryz.results99 _ _ w.heap.size 127 _ (0,0) _ rfl (KM9.out.blk 0 rfl) Tryz.underlying127 rfl (by rw[HV.out];kernel_rfl)) rfl ⟨rfl,Mv.drop (A:=[_,_]) (H:=[]) (by simpa using KM9.out)⟩
end
section
open Go.RowKit
def putA (cs:Array Value):Nat→List Value→Array Value
 | _,[]=>cs
 | o,v::vs=>putA (cs.setIfInBounds o v) (o+1) vs
theorem putA_mid (C:List Value):∀ (vs A B:List Value),B.length=vs.length→putA (A++(B++C)).toArray A.length vs=(A++(vs++C)).toArray
 | [],A,B,h=>by
  have:B=[]:=List.eq_nil_of_length_eq_zero h
  subst this
  rfl
 | v::vs,A,[],h=>by simp at h
 | v::vs,A,b::B,h=>by
  have ih:=putA_mid C vs (A++[v]) B (by simpa using h)
  rw[List.length_append,List.length_singleton,List.append_assoc,List.append_assoc] at ih
  simp only[putA,List.setIfInBounds_toArray]
  rw[List.set_append_right _ _ (Nat.le_refl _),Nat.sub_self]
  exact ih
theorem Mv.setCells {w0:World} {H0 R:List HB} {g:Nat} {t:TypeId}:∀ (vs:List Value) (w:World) (cs:Array Value) (o:Nat),Mv w0 H0 w (⟨g,t,cs⟩::R)→Mv w0 H0 (w.setCells g o vs) (⟨g,t,putA cs o vs⟩::R)
 | [],_w,_cs,_o,h=>h
 | v::vs,_w,_cs,o,h=>Mv.setCells vs _ _ (o+1) (h.set o v)
theorem CodR.reset {A:CodA} {G:GeoM} {q:CS} {raw:Bool} {eg rg:Nat} {H H0:List HB} {w0 w:World} (h:CodR A G q raw eg rg H) (hq:q.s.Ok) (m:Mv w0 H0 w H):∃ H',CodR A G ⟨q.c,{ q.s with cx:=cxFresh }⟩ raw eg rg H'∧Mv w0 H0 (w.setCells A.cb 9 (cxV cxFresh)) H':=by
 obtain⟨He,Hr,h1,h2,rfl⟩:=h
 have:=Mv.setCells (cxV cxFresh) w _ 9 m
 have e:putA (codV A G q.s.cx raw eg rg).toArray 9 (cxV cxFresh)=(codV A G cxFresh raw eg rg).toArray :=
  putA_mid _ (cxV cxFresh) _ (cxV q.s.cx) (by rw[cxV_length,cxV_length,hq.len];rfl)
 rw[e] at this
 exact⟨_,⟨He,Hr,h1,h2,rfl⟩,this⟩
theorem CodR.there {A:CodA} {G:GeoM} {q:CS} {raw:Bool} {eg rg:Nat} {H:List HB} {w:World} (h:CodR A G q raw eg rg H) (hq:q.s.Ok) (hs:Sat w H):w.there A.cb 9 38:=by
 obtain⟨He,Hr,-,-,rfl⟩:=h
 have b:Blk w A.cb 133 (codV A G q.s.cx raw eg rg).toArray:=hs.at_ 0 (by rfl)
 intro j hj
 refine⟨?_,b.frozen _⟩
 rw[b.cell]
 have hl:(codV A G q.s.cx raw eg rg).length=53:=by
  simp only[codV,List.length_append,List.length_cons,List.length_nil,cxV_length,hq.len]
 rw[List.getElem?_toArray,List.getElem?_eq_getElem (by omega)]
 first | exact⟨_,rfl⟩ | simp
theorem and2:∀ s,s<64→(s &&& 2)=if s.testBit 1 then 2 else 0:=by decide
theorem style2 (s:Nat) (h:s≤63):bits .and .i64 (s:Int) 2=if s.testBit 1 then 2 else 0:=by
 have h1:=i64_and_nat s 2 (by omega) (by omega)
 rw[and2 s (by omega)] at h1
 rw[show ((2:Nat):Int)=2 from rfl] at h1
 rw[h1]
 split <;> rfl
theorem store_cx {w:World} {b:Nat} {V:Array Value} (ht:w.there b 9 V.size) (h1:∀ v∈V.toList,v.oneCell'=true):(storeCells ⟨b,9,none⟩ V.toList).run Tryz.prog w=.ok () (w.setCells b 9 V.toList):=by
 have:=run_storeCells_cells (P:=Tryz.prog) b 9 V.toList 0 w (fun j hj=>by have:=(ht j (by simpa using hj)).1;rw[Nat.add_zero];exact this) (fun j hj=>by rw[Nat.add_zero];exact(ht j (by simpa using hj)).2) h1
 rw[Nat.add_zero] at this
 exact this
theorem cxV_one (l:List CxM):∀ v∈cxV l,v.oneCell'=true:=by
 intro v hv
 simp only[cxV,List.mem_flatMap,List.mem_cons,List.not_mem_nil,or_false] at hv
 obtain⟨c,-,rfl | rfl⟩:=hv <;> rfl
theorem cod_pass (A:CodA) (G:GeoM) (q:CS) (raw:Bool) (eg rg planes k:Nat) (H:List HB) (w:World) (hg:G.Ok) (hc:q.c.Ok G) (h:CodR A G q raw eg rg H) (hs:Sat w H) (hq:q.s.Ok) (hz:q.s.size+(192 * (G.w * G.h)+100)≤79000000) (hp:planes≤40) (hk:k<countM planes) :
  Calls Tryz.prog 59 #[.pointer (some ⟨A.cb,0,none⟩),.int .i64 (k:Int),.int .i64 (planes:Int)] w fun e w'=>e=.returned (.tuple #[])∧∃ H',CodR A G (passM G raw planes k q) raw eg rg H'∧Mv w H w' H':=by
 have V:=h.see hg hc hs
 have c3:=V.style
 have e2:=style2 G.style hg.style
 have kb:k+2<3 * planes:=by unfold countM at hk;omega
 obtain⟨p,hpl⟩:∃ p,planes - 1 - (k+2) / 3=p:=⟨_,rfl⟩
 have pe:(planes:Int) - 1 - ((k:Int)+2) / 3=(p:Int):=by omega
 have p40:p≤40:=by omega
 obtain⟨R,hR⟩:∃ R,passM G raw planes k q=R:=⟨_,rfl⟩
 rw[hR]
 obtain⟨kd,hkd⟩:∃ kd,kindM k=kd:=⟨_,rfl⟩
 obtain⟨q1,hq1⟩:∃ q1,resetM G q=q1:=⟨_,rfl⟩
 have RE:Hid (R=if kd=0 then runM (sigStep G raw p) (G.w * G.h) 0 q1 else if kd=1 then runM (refStep G raw p) (G.w * G.h) 0 q1 else cleanM G raw p q1):=Lib.hid (by rw[← hR];unfold passM;rw[hpl,hkd,hq1])
 have QO:Hid (q1.c.Ok G∧q1.s.Ok∧q1.s.size=q.s.size):=Lib.hid (by
  rw[← hq1]
  unfold resetM
  split
  ·exact⟨hc,⟨cxFresh_ok.1,cxFresh_ok.2,hq.e,hq.r⟩,rfl⟩
  ·exact⟨hc,hq,rfl⟩)
 have KI:Hid (∀ W,Calls Tryz.prog 100 #[.int .i64 (k:Int)] W fun e w'=>e=.returned (.int .i64 (kd:Int))∧w'=W):=Lib.hid fun W=>by
  have:=kind_any k W (by omega)
  rw[hkd] at this
  exact this
 have FR:Hid (∀ W,Calls Tryz.prog 99 #[] W fun e w'=>∃ V,e=.returned (.agg V)∧V=(cxV cxFresh).toArray∧Mv W [] w' []):=Lib.hid fun W=>(fresh4_any W).mono fun _e _w' q=>⟨_,q.1,rfl,q.2⟩
 have K0:=Lib.hid (And.intro h (And.intro (Mv.refl hs) (And.intro hc (And.intro hq hz))))
 have HG:=Lib.hid hg
 have HQ:=Lib.hid hq1
 have kd3:kd≤2:=by rw[← hkd];unfold kindM;split <;> omega
 clear V h hs hc hq hz hR hkd hq1 hg hpl hk
 rcases(Bool.eq_false_or_eq_true (G.style.testBit 1)).symm with ht | ht
 case' inl =>
  rw[ht] at e2
  simp only[Bool.false_eq_true,if_false] at e2
  have Q1:Hid (q1=q):=Lib.hid (by rw[← HQ.out];unfold resetM;rw[ht];rfl)
 case' inr =>
  rw[ht] at e2
  simp only[if_true] at e2
  have Q1:Hid (q1=⟨q.c,{ q.s with cx:=cxFresh }⟩):=Lib.hid (by rw[← HQ.out];unfold resetM;rw[ht];rfl)
 all_goals
  clear ht
  go_enter Tryz.func59,Tryz.ntmps59
 case inl =>
  have KR:Hid (CodR A G q1 raw eg rg H∧Mv w H w H):=Lib.hid ⟨by rw[Q1.out];exact K0.out.1,K0.out.2.1⟩
  go_upto_region 2 with fail
  obtain⟨hw1,hw2⟩:=And.intro HG.out.w2 HG.out.h2
  have ZN:G.w * ((G.h+3) / 4)≤G.w * G.h:=Nat.mul_le_mul_left _ (by have:=HG.out.h1;omega)
  have ZQ:=K0.out.2.2.2.2
  have ZS:=QO.out.2.2
  have S0:Hid (Calls Tryz.prog 101 #[.pointer (some ⟨A.cb,0,none⟩),.int .i64 (p:Int)] w fun e w'=>e=.returned (.tuple #[])∧∃ H',CodR A G (runM (sigStep G raw p) (G.w * G.h) 0 q1) raw eg rg H'∧Mv w H w' H'):=Lib.hid (cod_sigp A G q1 raw eg rg p H w HG.out QO.out.1 KR.out.1 KR.out.2.sat QO.out.2.1 (by omega) p40)
  have S1:Hid (Calls Tryz.prog 102 #[.pointer (some ⟨A.cb,0,none⟩),.int .i64 (p:Int)] w fun e w'=>e=.returned (.tuple #[])∧∃ H',CodR A G (runM (refStep G raw p) (G.w * G.h) 0 q1) raw eg rg H'∧Mv w H w' H'):=Lib.hid (cod_refp A G q1 raw eg rg p H w HG.out QO.out.1 KR.out.1 KR.out.2.sat QO.out.2.1 (by omega) p40)
  have S2:Hid (Calls Tryz.prog 103 #[.pointer (some ⟨A.cb,0,none⟩),.int .i64 (p:Int)] w fun e w'=>e=.returned (.tuple #[])∧∃ H',CodR A G (cleanM G raw p q1) raw eg rg H'∧Mv w H w' H'):=Lib.hid (cod_clean A G q1 raw eg rg p H w HG.out QO.out.1 KR.out.1 KR.out.2.sat QO.out.2.1 (by omega) p40)
  clear hw1 hw2 ZN ZQ ZS
  rcases(show kd=0∨kd=1∨kd=2 by omega) with rfl | rfl | rfl
  ·have RE2:=Lib.hid (RE.out.trans (if_pos rfl))
   go_wp2_with (first
    | (go_at_call 100;refine(KI.out _).mono ?_;rintro e w' ⟨rfl,rfl⟩)
    | (go_at_call 101;refine S0.out.mono ?_;rintro e w5 ⟨rfl,H5,h5,m5⟩;have K5:=Lib.hid (And.intro h5 (KR.out.2.trans m5));clear h5 m5))
   exact bodyPost_end (results_none rfl _ _ _) rfl ⟨rfl,H5,by rw[RE2.out];exact K5.out.1,K5.out.2⟩
  ·have RE2:=Lib.hid (RE.out.trans ((if_neg (by decide)).trans (if_pos rfl)))
   go_wp2_with (first
    | (go_at_call 100;refine(KI.out _).mono ?_;rintro e w' ⟨rfl,rfl⟩)
    | (go_at_call 102;refine S1.out.mono ?_;rintro e w5 ⟨rfl,H5,h5,m5⟩;have K5:=Lib.hid (And.intro h5 (KR.out.2.trans m5));clear h5 m5))
   exact bodyPost_end (results_none rfl _ _ _) rfl ⟨rfl,H5,by rw[RE2.out];exact K5.out.1,K5.out.2⟩
  ·have RE2:=Lib.hid (RE.out.trans ((if_neg (by decide)).trans (if_neg (by decide))))
   go_wp2_with (first
    | (go_at_call 100;refine(KI.out _).mono ?_;rintro e w' ⟨rfl,rfl⟩)
    | (go_at_call 103;refine S2.out.mono ?_;rintro e w5 ⟨rfl,H5,h5,m5⟩;have K5:=Lib.hid (And.intro h5 (KR.out.2.trans m5));clear h5 m5))
   exact bodyPost_end (results_none rfl _ _ _) rfl ⟨rfl,H5,by rw[RE2.out];exact K5.out.1,K5.out.2⟩
 case inr =>
  go_upto_region 2 with (go_at_call 99;refine(FR.out _).mono ?_;rintro e w1 ⟨V,rfl,hV,m1⟩;have M1:=Mv.call (H:=[]) (H':=[]) (R:=H) K0.out.2.1 m1;have hsz:V.size=38:=(by rw[hV];rfl);have hst:=store_cx (w:=w1) (b:=A.cb) (V:=V) (by rw[hsz];exact K0.out.1.there K0.out.2.2.2.1 M1.sat) (by rw[hV];exact cxV_one _);have HVV:=Lib.hid hV;have KM:=Lib.hid M1;clear hV m1 M1)
  have hth:=K0.out.1.reset K0.out.2.2.2.1 KM.out
  have evl:V.toList=cxV cxFresh:=by rw[HVV.out]
  rw[← evl] at hth
  obtain⟨H2,r2,m2⟩:=hth
  generalize w1.setCells A.cb 9 V.toList=w2 at *
  have KR:Hid (CodR A G q1 raw eg rg H2∧Mv w H w2 H2):=Lib.hid ⟨by rw[Q1.out];exact r2,m2⟩
  clear hst evl r2 m2 KM hsz
  obtain⟨hw1,hw2⟩:=And.intro HG.out.w2 HG.out.h2
  have ZN:G.w * ((G.h+3) / 4)≤G.w * G.h:=Nat.mul_le_mul_left _ (by have:=HG.out.h1;omega)
  have ZQ:=K0.out.2.2.2.2
  have ZS:=QO.out.2.2
  have S0:Hid (Calls Tryz.prog 101 #[.pointer (some ⟨A.cb,0,none⟩),.int .i64 (p:Int)] w2 fun e w'=>e=.returned (.tuple #[])∧∃ H',CodR A G (runM (sigStep G raw p) (G.w * G.h) 0 q1) raw eg rg H'∧Mv w2 H2 w' H'):=Lib.hid (cod_sigp A G q1 raw eg rg p H2 w2 HG.out QO.out.1 KR.out.1 KR.out.2.sat QO.out.2.1 (by omega) p40)
  have S1:Hid (Calls Tryz.prog 102 #[.pointer (some ⟨A.cb,0,none⟩),.int .i64 (p:Int)] w2 fun e w'=>e=.returned (.tuple #[])∧∃ H',CodR A G (runM (refStep G raw p) (G.w * G.h) 0 q1) raw eg rg H'∧Mv w2 H2 w' H'):=Lib.hid (cod_refp A G q1 raw eg rg p H2 w2 HG.out QO.out.1 KR.out.1 KR.out.2.sat QO.out.2.1 (by omega) p40)
  have S2:Hid (Calls Tryz.prog 103 #[.pointer (some ⟨A.cb,0,none⟩),.int .i64 (p:Int)] w2 fun e w'=>e=.returned (.tuple #[])∧∃ H',CodR A G (cleanM G raw p q1) raw eg rg H'∧Mv w2 H2 w' H'):=Lib.hid (cod_clean A G q1 raw eg rg p H2 w2 HG.out QO.out.1 KR.out.1 KR.out.2.sat QO.out.2.1 (by omega) p40)
  clear hw1 hw2 ZN ZQ ZS
  rcases(show kd=0∨kd=1∨kd=2 by omega) with rfl | rfl | rfl
  ·have RE2:=Lib.hid (RE.out.trans (if_pos rfl))
   go_wp2_with (first
    | (go_at_call 100;refine(KI.out _).mono ?_;rintro e w' ⟨rfl,rfl⟩)
    | (go_at_call 101;refine S0.out.mono ?_;rintro e w5 ⟨rfl,H5,h5,m5⟩;have K5:=Lib.hid (And.intro h5 (KR.out.2.trans m5));clear h5 m5))
   exact bodyPost_end (results_none rfl _ _ _) rfl ⟨rfl,H5,by rw[RE2.out];exact K5.out.1,K5.out.2⟩
  ·have RE2:=Lib.hid (RE.out.trans ((if_neg (by decide)).trans (if_pos rfl)))
   go_wp2_with (first
    | (go_at_call 100;refine(KI.out _).mono ?_;rintro e w' ⟨rfl,rfl⟩)
    | (go_at_call 102;refine S1.out.mono ?_;rintro e w5 ⟨rfl,H5,h5,m5⟩;have K5:=Lib.hid (And.intro h5 (KR.out.2.trans m5));clear h5 m5))
   exact bodyPost_end (results_none rfl _ _ _) rfl ⟨rfl,H5,by rw[RE2.out];exact K5.out.1,K5.out.2⟩
  ·have RE2:=Lib.hid (RE.out.trans ((if_neg (by decide)).trans (if_neg (by decide))))
   go_wp2_with (first
    | (go_at_call 100;refine(KI.out _).mono ?_;rintro e w' ⟨rfl,rfl⟩)
    | (go_at_call 103;refine S2.out.mono ?_;rintro e w5 ⟨rfl,H5,h5,m5⟩;have K5:=Lib.hid (And.intro h5 (KR.out.2.trans m5));clear h5 m5))
   exact bodyPost_end (results_none rfl _ _ _) rfl ⟨rfl,H5,by rw[RE2.out];exact K5.out.1,K5.out.2⟩
end
section
open Go.RowKit
theorem enc_out (eg:Nat) (e:EncM) (w:World) (H:List HB) (h:MqR eg e H) (hs:Sat w H) (hb:e.b≠[]) (hl:e.b.length≤90000000) :
  Calls Tryz.prog 60 #[.pointer (some ⟨eg,0,none⟩)] w fun e0 w'=>e0=.returned (.int .i64 ((e.b.length - 1:Nat):Int))∧w'=w:=by
 obtain⟨vb,Hb,rfl,hr⟩:=h
 have h1:0<e.b.length:=List.length_pos_iff.2 hb
 obtain⟨a,c,rfl⟩:=hr.slice
 have c3:w.cell? ⟨eg,3,none⟩=some (.slice a e.b.length c):=(Mv.refl hs).cell 0 rfl 3
 obtain⟨n,hn⟩:∃ n,e.b.length=n:=⟨_,rfl⟩
 rw[hn] at c3 hl h1 ⊢
 have d1:(n:Int) - 1=((n - 1:Nat):Int):=by omega
 clear hr hs hn hb
 go_enter Tryz.func60,Tryz.ntmps60
 go_wp2_with fail
 go_ret
 exact⟨rfl,rfl⟩
theorem raw_out (rg:Nat) (r:RawM) (w:World) (H:List HB) (h:RawR rg r H) (hs:Sat w H) (hl:r.b.length≤90000000) :
  Calls Tryz.prog 61 #[.pointer (some ⟨rg,0,none⟩)] w fun e0 w'=>e0=.returned (.int .i64 ((rawOut r:Nat):Int))∧∃ n,w'=w.drewN n:=by
 obtain⟨vb,Hb,rfl,hr⟩:=h
 obtain⟨a,c,rfl⟩:=hr.slice
 have c0:w.cell? ⟨rg,0,none⟩=some (.slice a r.b.length c):=(Mv.refl hs).cell 0 rfl 0
 have c2:w.cell? ⟨rg,2,none⟩=some (.int .i64 (r.free:Int)):=(Mv.refl hs).cell 0 rfl 2
 have c3:w.cell? ⟨rg,3,none⟩=some (.int .i64 (r.top:Int)):=(Mv.refl hs).cell 0 rfl 3
 unfold rawOut
 generalize r.b.length=n at *
 generalize r.free=f at *
 generalize r.top=t at *
 clear hr hs
 by_cases hlt:f<t
 ·rw[if_pos hlt]
  have d1:decide ((f:Int)<(t:Int))=true:=by simp;omega
  go_enter Tryz.func61,Tryz.ntmps61
  go_upto_region 1 with fail
  go_region
  all_goals
   go_wp2_with fail
   go_ret
   refine⟨congrArg (fun z=>Ending.returned (.int .i64 z)) ?_,1,rfl⟩
   omega
 ·rw[if_neg hlt]
  have d1:decide ((f:Int)<(t:Int))=false:=by simp;omega
  go_enter Tryz.func61,Tryz.ntmps61
  go_upto_region 1 with fail
  go_region
  all_goals
   go_wp2_with fail
   go_ret
   refine⟨congrArg (fun z=>Ending.returned (.int .i64 z)) ?_,1,rfl⟩
   omega
theorem and1:∀ s,s<64→(s &&& 1)=if s.testBit 0 then 1 else 0:=by decide
theorem style1 (s:Nat) (h:s≤63):bits .and .i64 (s:Int) 1=if s.testBit 0 then 1 else 0:=by
 have h1:=i64_and_nat s 1 (by omega) (by omega)
 rw[and1 s (by omega)] at h1
 rw[show ((1:Nat):Int)=(1:Int) from rfl] at h1
 rw[h1]
 split <;> rfl
theorem and4:∀ s,s<64→(s &&& 4)=if s.testBit 2 then 4 else 0:=by decide
theorem style4 (s:Nat) (h:s≤63):bits .and .i64 (s:Int) 4=if s.testBit 2 then 4 else 0:=by
 have h1:=i64_and_nat s 4 (by omega) (by omega)
 rw[and4 s (by omega)] at h1
 rw[show ((4:Nat):Int)=(4:Int) from rfl] at h1
 rw[h1]
 split <;> rfl
theorem israw_any (s k:Nat) (w:World) (hs:s≤63) (hk:k≤1000) :
  Calls Tryz.prog 56 #[.int .i64 (s:Int),.int .i64 (k:Int)] w fun e w'=>e=.returned (.bool (isRawM s k))∧w'=w:=by
 have VS:=style1 s hs
 have KA:=fun w=>kind_any k w hk
 unfold isRawM
 rcases(Bool.eq_false_or_eq_true (s.testBit 0)).symm with ht | ht
 ·rw[ht] at VS ⊢
  simp only[Bool.false_eq_true,if_false,Bool.false_and] at VS ⊢
  go_enter Tryz.func56,Tryz.ntmps56
  go_wp2_with fail
  go_ret
  exact⟨rfl,rfl⟩
 ·rw[ht] at VS ⊢
  simp only[if_true,Bool.true_and] at VS ⊢
  by_cases h10:10≤k
  ·have d1:decide ((10:Int)≤(k:Int))=true:=by simp;omega
   rw[decide_eq_true h10,Bool.true_and]
   by_cases h2:kindM k=2
   ·have d2:(((kindM k:Nat):Int) == 2)=true:=by rw[h2];rfl
    rw[decide_eq_true h2]
    go_enter Tryz.func56,Tryz.ntmps56
    go_wp2_with (first | (go_at_call 100;refine(KA _).mono ?_;rintro _ _ ⟨rfl,rfl⟩))
    go_ret
    exact⟨rfl,rfl⟩
   ·have d2:(((kindM k:Nat):Int) == 2)=false:=beq_eq_false_iff_ne.2 (by omega)
    rw[decide_eq_false h2]
    generalize kindM k=kk at *
    clear h2
    go_enter Tryz.func56,Tryz.ntmps56
    go_wp2_with (first | (go_at_call 100;refine(KA _).mono ?_;rintro _ _ ⟨rfl,rfl⟩))
    go_ret
    exact⟨congrArg (fun b=>Ending.returned (.bool b)) (by rw[bne,d2]),rfl⟩
  ·have d1:decide ((10:Int)≤(k:Int))=false:=by simp;omega
   rw[decide_eq_false h10,Bool.false_and]
   go_enter Tryz.func56,Tryz.ntmps56
   go_wp2_with fail
   go_ret
   exact⟨rfl,rfl⟩
theorem kindM_lt (k:Nat):kindM k=0∨kindM k=1∨kindM k=2:=by
 unfold kindM
 split <;> omega
theorem ends_any (s k:Nat) (w:World) (hs:s≤63) (hk:k≤1000) :
  Calls Tryz.prog 62 #[.int .i64 (s:Int),.int .i64 (k:Int)] w fun e w'=>e=.returned (.bool (endsM s k))∧w'=w:=by
 have VS:=style1 s hs
 have V4:=style4 s hs
 have KA:=fun w=>kind_any k w hk
 have hkm:=kindM_lt k
 have d0:decide ((k:Int)<0)=false:=by simp
 have e9:(9≤k)=((9:Int)≤(k:Int)):=by simp only[eq_iff_iff];omega
 have e10:(10≤k)=((10:Int)≤(k:Int)):=by simp only[eq_iff_iff];omega
 unfold endsM
 rcases(Bool.eq_false_or_eq_true (s.testBit 2)).symm with h2 | h2
 ·rw[h2] at V4 ⊢
  rcases(Bool.eq_false_or_eq_true (s.testBit 0)).symm with h0 | h0
  ·rw[h0] at VS ⊢
   simp only[Bool.false_eq_true,if_false,Bool.false_and,Bool.false_or] at VS V4 ⊢
   clear e9 e10 hkm KA
   go_enter Tryz.func62,Tryz.ntmps62
   go_wp2_with fail
   go_ret
   exact⟨rfl,rfl⟩
  ·rw[h0] at VS ⊢
   simp only[Bool.false_eq_true,if_false,if_true,Bool.true_and,Bool.false_or] at VS V4 ⊢
   by_cases h9:9≤k
   ·by_cases h10:10≤k
    ·have d1:decide ((9:Int)≤(k:Int))=true:=by simp;omega
     have d2:decide ((10:Int)≤(k:Int))=true:=by simp;omega
     rw[decide_eq_true h9,decide_eq_true h10]
     clear e9 e10 h9 h10
     rcases hkm with h | h | h <;> rw[h] at KA ⊢ <;> clear h <;> (go_enter Tryz.func62,Tryz.ntmps62;go_wp2_with (first | (go_at_call 100;refine(KA _).mono ?_;rintro _ _ ⟨rfl,rfl⟩));go_ret;exact⟨rfl,rfl⟩)
    ·have d1:decide ((9:Int)≤(k:Int))=true:=by simp;omega
     have d2:decide ((10:Int)≤(k:Int))=false:=by simp;omega
     rw[decide_eq_true h9,decide_eq_false h10]
     clear e9 e10 h9 h10
     rcases hkm with h | h | h <;> rw[h] at KA ⊢ <;> clear h <;> (go_enter Tryz.func62,Tryz.ntmps62;go_wp2_with (first | (go_at_call 100;refine(KA _).mono ?_;rintro _ _ ⟨rfl,rfl⟩));go_ret;exact⟨rfl,rfl⟩)
   ·have h10:¬ 10≤k:=by omega
    have d1:decide ((9:Int)≤(k:Int))=false:=by simp;omega
    have d2:decide ((10:Int)≤(k:Int))=false:=by simp;omega
    rw[decide_eq_false h9,decide_eq_false h10]
    clear e9 e10 h9 h10
    rcases hkm with h | h | h <;> rw[h] at KA ⊢ <;> clear h <;> (go_enter Tryz.func62,Tryz.ntmps62;go_wp2_with (first | (go_at_call 100;refine(KA _).mono ?_;rintro _ _ ⟨rfl,rfl⟩));go_ret;exact⟨rfl,rfl⟩)
 ·rw[h2] at V4 ⊢
  simp only[if_true,Bool.true_or] at V4 ⊢
  clear e9 e10 hkm KA VS
  go_enter Tryz.func62,Tryz.ntmps62
  go_wp2_with fail
  go_ret
  exact⟨rfl,rfl⟩
theorem may_ok (W Hh B S:Nat) (w:World) (h1:1≤W∧W≤64) (h2:1≤Hh∧Hh≤64) (h3:B≤3) (h4:S≤63) :
  Calls Tryz.prog 52 #[.int .i64 (W:Int),.int .i64 (Hh:Int),.int .i64 (B:Int),.int .i64 (S:Int)] w fun e w'=>e=.returned (.bool true)∧w'=w:=by
 have d1:decide ((1:Int)≤(W:Int))=true:=by simp;omega
 have d2:decide ((W:Int)≤64)=true:=by simp;omega
 have d3:decide ((1:Int)≤(Hh:Int))=true:=by simp;omega
 have d4:decide ((Hh:Int)≤64)=true:=by simp;omega
 have d5:decide ((0:Int)≤(B:Int))=true:=by simp
 have d6:decide ((B:Int)≤3)=true:=by simp;omega
 have d7:decide ((0:Int)≤(S:Int))=true:=by simp
 have d8:decide ((S:Int)≤63)=true:=by simp;omega
 go_enter Tryz.func52,Tryz.ntmps52
 go_wp2_with fail
 go_ret
 refine⟨congrArg (fun b=>Ending.returned (.bool b)) ?_,rfl⟩
 first | rfl | exact d8
end
section
open Go.RowKit
theorem RowB.short {g c n:Nat} {l:List UInt8} {H:List HB} (h:RowB (.slice (some ⟨g,0,none⟩) n c) l H) (hn:0<n):n≤c∧c≤maxLen∧RowB (.slice (some ⟨g,0,none⟩) (n - 1) c) l.dropLast H:=by
 have hl:=h.len
 subst hl
 obtain⟨h1,h2⟩:=h
 rcases h2 with ⟨e,-⟩ | ⟨g',cap,cur,e,k1,k2,k3,k4,rfl⟩
 ·cases e
 ·cases e
  have e1:l.dropLast.length=l.length - 1:=List.length_dropLast
  refine⟨k1,k2,?_⟩
  unfold RowB
  rw[e1]
  refine⟨by simp[cellsB],.inr ⟨g,c,cur,rfl,by omega,k2,k3,?_,rfl⟩⟩
  have e2:(l.length - 1) * 1=min (l.length - 1) (l.length * 1):=by omega
  rw[e2,← List.take_take,k4]
  simp only[cellsB,List.dropLast_eq_take,List.map_take]
theorem noLast255_yes {l:List UInt8} (h:l.getLastD 0=255):noLast255 l=l.dropLast:=by
 unfold noLast255
 rw[if_pos (of_eq_true (getLast_255 h))]
theorem noLast255_no {l:List UInt8} (h:¬ l.getLastD 0=255):noLast255 l=l:=by
 unfold noLast255
 rw[if_neg (of_eq_false (getLast_no255 h))]
theorem raw_flush (rg:Nat) (r:RawM) (w:World) (H:List HB) (h:RawR rg r H) (hs:Sat w H) (hl:r.b.length≤80000000) (hc:r.cur<256) :
  Calls Tryz.prog 64 #[.pointer (some ⟨rg,0,none⟩)] w fun e0 w'=>∃ v Hn,e0=.returned v∧RowB v (rawFlush r) Hn∧Mv w H w' (Hn++H):=by
 obtain⟨bs,cur,free,top⟩:=r
 simp only at hl hc
 obtain⟨vb,Hb,rfl,hr⟩:=h
 simp only at hr
 obtain⟨va,vc,rfl⟩:=hr.slice
 obtain⟨x,hx⟩:∃ x,UInt8.ofNat cur=x:=⟨_,rfl⟩
 have RF:Hid (rawFlush ⟨bs,cur,free,top⟩=noLast255 (if free<top then bs++[x] else bs)):=Lib.hid (by unfold rawFlush;simp only[hx])
 have hx8:IntKind.u8.wrap (cur:Int)=(x.toNat:Int):=by rw[IntKind.wrap_u8,← hx,← u8_of_nat]
 obtain⟨F,hF⟩:∃ F,rawFlush ⟨bs,cur,free,top⟩=F:=⟨_,rfl⟩
 rw[hF] at RF ⊢
 clear hF hx
 have M1:=(Mv.refl hs).alloc 5 #[]
 have c0:=M1.cell 1 rfl 0
 have B1:=Lib.hid (hr.bv (M1.sat.right (A:=[_,_])))
 have R1:=Lib.hid (RowB.lit w.heap.size [] 0 rfl (by decide))
 have K1:=Lib.hid M1
 clear hr M1 hs
 go_enter Tryz.func64,Tryz.ntmps64
 go_upto_region 2 with (at_builtin;go_must (refine wpList_appB rfl (.tmp 4) (.tmp 8) rfl _ _ [] bs [_] rfl rfl R1.out K1.out.sat.left B1.out (by simp;omega) ?_;intro v3 w3 H3 hr3 m3;obtain⟨a3,c3,rfl⟩:=hr3.slice;have K3:=Lib.hid (And.intro hr3 (Mv.call (H:=[_]) K1.out m3));clear hr3 m3))
 rw[List.nil_append] at K3
 have S3:=K3.out.2.sat.right (A:=H3)
 have e2:w3.cell? ⟨rg,2,none⟩=some (.int .i64 (free:Int)):=(S3.at_ 0 rfl).cell 2
 have e3:w3.cell? ⟨rg,3,none⟩=some (.int .i64 (top:Int)):=(S3.at_ 0 rfl).cell 3
 clear S3
 by_cases hlt:free<top
 ·rw[if_pos hlt] at RF
  have d1:decide ((free:Int)<(top:Int))=true:=by simp;omega
  have M4:=K3.out.2.drew.alloc 5 #[.int .u8 (x.toNat:Int)]
  have e1:w3.drew.cell? ⟨rg,1,none⟩=some (.int .i64 (cur:Int)):=((K3.out.2.drew.sat.right (A:=H3)).at_ 0 rfl).cell 1
  have A4:=Lib.hid (bv_one w3.drew x w3.heap.size rfl)
  have S4:=Lib.hid ((M4.sat.right (A:=[_])).left)
  have K5:=Lib.hid M4
  clear M4
  go_region
  all_goals
  clear hlt d1 e2 e3
  go_upto_region 4 with (at_builtin;go_must (refine wpList_appB rfl (.tmp 19) (.tmp 25) rfl _ _ bs [x] H3 rfl rfl K3.out.1 S4.out A4.out (by simp;omega) ?_;intro v4 w4 H4 hr4 m4;obtain⟨a4,c4,rfl⟩:=hr4.slice;have K6:=Lib.hid (And.intro hr4 (Mv.call (Mv.mv1 (A:=[_]) (B:=H3) (R:=_) K5.out) m4));clear hr4 m4))
  have K4:Hid (RowB (.slice a4 (bs++[x]).length c4) (bs++[x]) H4∧Mv w (rawB rg cur free top (.slice va bs.length vc)::Hb) w4 (H4++rawB rg cur free top (.slice va bs.length vc)::Hb)):=Lib.hid ⟨K6.out.1,Mv.drop2 (B:=[_]) K6.out.2⟩
  have RF4:=RF
  clear RF K6 K5 K3 S4 A4 e1 hx8
  have hlen:(bs++[x]).length=bs.length+1:=by simp
  rw[hlen] at K4
  generalize bs++[x]=l4 at *
  obtain⟨n4,hn4e⟩:∃ n4,bs.length+1=n4:=⟨_,rfl⟩
  rw[hn4e] at K4 hlen ⊢
  have hn4:=Lib.hid hlen.symm
  have hnl:n4≤90000000:=by omega
  clear hn4e hlen
  have T4:=K4.out.2.sat.left
  by_cases h0:n4=0
  case pos =>
   have hl0:l4=[]:=List.eq_nil_of_length_eq_zero (hn4.out.symm.trans h0)
   have RG:=Lib.hid (RF4.out.trans (noLast255_no (by rw[hl0];decide)))
   have m4:decide ((0:Int)<(n4:Int))=false:=by simp;omega
   have m5:¬ 0<n4:=by omega
   clear h0 hl0 T4
   go_wp2_with fail
   go_ret
   first
    | exact⟨_,H4,rfl,by rw[RG.out];exact K4.out.1,K4.out.2⟩
    | exact⟨_,rfl,H4,by rw[RG.out];exact K4.out.1,K4.out.2⟩
  case neg =>
   have hn0:0<n4:=by omega
   obtain⟨g,ha⟩:∃ g,a4=some ⟨g,0,none⟩:=by
    obtain⟨g,cp,cur4,hv,-⟩:=RowH.form K4.out.1 (by rw[← hn4.out];exact hn0)
    injection hv with ha
    exact⟨g,ha⟩
   subst ha
   obtain⟨s1,s2,s3⟩:=RowB.short K4.out.1 hn0
   obtain⟨k1,-⟩:=RowB.at_last K4.out.1 T4 hn4.out.symm hn0
   obtain⟨q,hq⟩:∃ q,l4.getLastD 0=q:=⟨_,rfl⟩
   rw[hq] at k1
   have HQ:=Lib.hid hq
   have S3:=Lib.hid s3
   have m1:(n4:Int) - 1=((n4 - 1:Nat):Int):=by omega
   have m2:((n4 - 1:Nat):Int)<(n4:Int):=by omega
   have m3:((n4 - 1:Nat):Int)≤(c4:Int):=by omega
   have m4:decide ((0:Int)<(n4:Int))=true:=by simp;omega
   clear hq s3 T4
   by_cases h255:q=255
   ·have d0:((q.toNat:Int) == 255)=true:=by rw[h255];rfl
    have RG:=Lib.hid (RF4.out.trans (noLast255_yes (HQ.out.trans h255)))
    clear h255
    go_wp2_with fail
    go_ret
    first
     | exact⟨_,H4,rfl,by rw[RG.out];exact S3.out,K4.out.2⟩
     | exact⟨_,rfl,H4,by rw[RG.out];exact S3.out,K4.out.2⟩
   ·have d0:((q.toNat:Int) == 255)=false:=by
     have:q.toNat≠255:=fun e=>h255 (UInt8.toNat_inj.1 (by rw[e];rfl))
     exact beq_eq_false_iff_ne.2 (by omega)
    have RG:=Lib.hid (RF4.out.trans (noLast255_no (fun e=>h255 (HQ.out.symm.trans e))))
    clear h255
    go_wp2_with fail
    go_ret
    first
     | exact⟨_,H4,rfl,by rw[RG.out];exact K4.out.1,K4.out.2⟩
     | exact⟨_,rfl,H4,by rw[RG.out];exact K4.out.1,K4.out.2⟩
 ·rw[if_neg hlt] at RF
  have d1:decide ((free:Int)<(top:Int))=false:=by simp;omega
  go_region
  all_goals
  clear hlt d1 e2 e3
  go_upto_region 4 with fail
  have K4:Hid (RowB (.slice a3 bs.length c3) bs H3∧Mv w (rawB rg cur free top (.slice va bs.length vc)::Hb) w3.drew (H3++rawB rg cur free top (.slice va bs.length vc)::Hb)):=Lib.hid ⟨K3.out.1,K3.out.2.drew⟩
  have K4M:=Lib.hid K4.out.2
  have RF4:=RF
  clear RF K3 hx8
  generalize w3.drew=w4 at *
  obtain⟨n4,hn4e⟩:∃ n4,bs.length=n4:=⟨_,rfl⟩
  rw[hn4e] at K4 ⊢
  have hn4:=Lib.hid hn4e.symm
  have hnl:n4≤90000000:=by omega
  clear hn4e
  have T4:=K4.out.2.sat.left
  by_cases h0:n4=0
  case pos =>
   have hl0:bs=[]:=List.eq_nil_of_length_eq_zero (hn4.out.symm.trans h0)
   have RG:=Lib.hid (RF4.out.trans (noLast255_no (by rw[hl0];decide)))
   have m4:decide ((0:Int)<(n4:Int))=false:=by simp;omega
   have m5:¬ 0<n4:=by omega
   clear h0 hl0 T4
   go_wp2_with fail
   go_ret
   first
    | exact⟨_,H3,rfl,by rw[RG.out];exact K4.out.1,K4M.out⟩
    | exact⟨_,rfl,H3,by rw[RG.out];exact K4.out.1,K4M.out⟩
  case neg =>
   have hn0:0<n4:=by omega
   obtain⟨g,ha⟩:∃ g,a3=some ⟨g,0,none⟩:=by
    obtain⟨g,cp,cur4,hv,-⟩:=RowH.form K4.out.1 (by rw[← hn4.out];exact hn0)
    injection hv with ha
    exact⟨g,ha⟩
   subst ha
   obtain⟨s1,s2,s3⟩:=RowB.short K4.out.1 hn0
   obtain⟨k1,-⟩:=RowB.at_last K4.out.1 T4 hn4.out.symm hn0
   obtain⟨q,hq⟩:∃ q,bs.getLastD 0=q:=⟨_,rfl⟩
   rw[hq] at k1
   have HQ:=Lib.hid hq
   have S3:=Lib.hid s3
   have m1:(n4:Int) - 1=((n4 - 1:Nat):Int):=by omega
   have m2:((n4 - 1:Nat):Int)<(n4:Int):=by omega
   have m3:((n4 - 1:Nat):Int)≤(c3:Int):=by omega
   have m4:decide ((0:Int)<(n4:Int))=true:=by simp;omega
   clear hq s3 T4
   by_cases h255:q=255
   ·have d0:((q.toNat:Int) == 255)=true:=by rw[h255];rfl
    have RG:=Lib.hid (RF4.out.trans (noLast255_yes (HQ.out.trans h255)))
    clear h255
    go_wp2_with fail
    go_ret
    first
     | exact⟨_,H3,rfl,by rw[RG.out];exact S3.out,K4M.out⟩
     | exact⟨_,rfl,H3,by rw[RG.out];exact S3.out,K4M.out⟩
   ·have d0:((q.toNat:Int) == 255)=false:=by
     have:q.toNat≠255:=fun e=>h255 (UInt8.toNat_inj.1 (by rw[e];rfl))
     exact beq_eq_false_iff_ne.2 (by omega)
    have RG:=Lib.hid (RF4.out.trans (noLast255_no (fun e=>h255 (HQ.out.symm.trans e))))
    clear h255
    go_wp2_with fail
    go_ret
    first
     | exact⟨_,H3,rfl,by rw[RG.out];exact K4.out.1,K4M.out⟩
     | exact⟨_,rfl,H3,by rw[RG.out];exact K4.out.1,K4M.out⟩
end
section
open Go.RowKit
def getBlock (n:Nat):Code→Option Code
 | .block i b=>if i == n then some (.block i b) else getBlock n b
 | .seq a b=>(getBlock n a).or (getBlock n b)
 | .cond _ a b=>(getBlock n a).or (getBlock n b)
 | .loop b=>getBlock n b
 | .scope b=>getBlock n b
 | _=>none
def blockOf (n:Nat) (f:Func):Code:=((f.body.bind (getBlock n))).getD .skip
def noQ:Exit→Act→World→Prop:=fun _ _ _=>False
theorem wp_piece {P:Program} {c:Code} {K:Act→World→Prop} {Q:Exit→Act→World→Prop} {a:Act} {w:World} (h:c.wp P (Exit.then K noQ) a w):c.wp P (Exit.then K Q) a w:=by
 refine wp_mono h ?_
 intro e a' w' hq
 cases e with
 | normal=>exact hq
 | _=>exact hq.elim
def getRegion (n:Nat):Code→Option Code
 | .region i os b=>if i == n then some (.region i os b) else none
 | .block _ b=>getRegion n b
 | .seq a b=>(getRegion n a).or (getRegion n b)
 | .cond _ a b=>(getRegion n a).or (getRegion n b)
 | .loop b=>getRegion n b
 | .scope b=>getRegion n b
 | _=>none
def regionOf (n:Nat) (f:Func):Code:=((f.body.bind (getRegion n))).getD .skip
end
end Go.Proofs.YtjngfhgakokejaaGreat
