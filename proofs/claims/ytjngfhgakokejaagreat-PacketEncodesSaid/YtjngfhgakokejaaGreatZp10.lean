/- waveletref8: a cleanup pass. waveletref3, waveletref4: fresh contexts. waveletref8: a pass. waveletref4, waveletref5, waveletref8: where a pass ends; which pass is raw, which one ends a segment; may a block be so? waveletref5: a raw segment is shut. waveletref14: Passes, Ends. A region in a round of a loop over a function: what the plain laws of regions say holds there too. No program in sight. A region that draws its order, its callees moving the world within a class, its end a forced row: one walk serves every order; in a round too. No program in sight. The walk of a region in a class of worlds: its steps. No program in sight. -/
import Derived.Test.YtjngfhgakokejaaGreatZp09
import Derived.Test.YtjngfhgakokejaaGreatZp08
import Derived.Laws.Rows
import Derived.Deep.MidRow
import Derived.Test.YtjngfhgakokejaaGreatZp05
import Derived.Test.YtjngfhgakokejaaGreatZp01
import Derived.StillTailTactics
import Derived.OrdersIn
import Derived.Deep.Quiet
import Derived.Deep.QuietTactic
set_option maxRecDepth 100000
set_option maxHeartbeats 8000000
namespace Go.Proofs.YtjngfhgakokejaaGreat
section
open Go.RowKit
theorem and32:∀ s,s<64→(s &&& 32)=if s.testBit 5 then 32 else 0:=by decide
theorem style32 (s:Nat) (h:s≤63):bits .and .i64 (s:Int) 32=if s.testBit 5 then 32 else 0:=by
 have h1:=i64_and_nat s 32 (by omega) (by omega)
 rw [and32 s (by omega)] at h1
 rw [show ((32:Nat):Int)=32 from rfl] at h1
 rw [h1]
 split <;> rfl
def symS (raw:Bool):Nat→WrM→WrM
 | 0,s=>s
 | k+1,s=>bitW raw (symS raw k s) 18 (1 - k % 2)
theorem symS_four (raw:Bool) (s:WrM):symS raw 4 s=symM raw s:=rfl
theorem symS_says (raw:Bool) (s:WrM):∀ k,Says raw k s (symS raw k s)
 | 0=>.refl _ _
 | k+1=>.bit 18 _ (by decide) (symS_says raw s k)
theorem seen_step (l:List Bool) (i:Nat) (h:i<l.length):(List.replicate i false++l.drop i).set i false=List.replicate (i+1) false++l.drop (i+1):=by
 rw [List.set_append_right _ _ (by simp),List.length_replicate,Nat.sub_self,List.drop_eq_getElem_cons h,List.set_cons_zero,List.replicate_succ',List.append_assoc]
 rfl
def seenAt (c:CodM) (i:Nat):CodM:={ c with seen:=List.replicate i false++c.seen.drop i }
theorem seenAt_ok {G:GeoM} {c:CodM} (h:c.Ok G) {i:Nat} (hi:i≤G.w * G.h):(seenAt c i).Ok G :=
 ⟨h.sig,by have:=h.seen;simp only [seenAt,List.length_append,List.length_replicate,List.length_drop];omega,h.again⟩
theorem runM_succ (f:CS→Nat→CS) (n k:Nat) (q:CS) (h:k<n):runM f (n - k) k q=runM f (n - (k+1)) (k+1) (f q k):=by
 rw [show n - k=(n - (k+1))+1 by omega]
 rfl
theorem cod_clean (A:CodA) (G:GeoM) (q:CS) (raw:Bool) (eg rg plane:Nat) (H:List HB) (w:World) (hg:G.Ok) (hc:q.c.Ok G) (h:CodR A G q raw eg rg H) (hs:Sat w H) (hq:q.s.Ok) (hz:q.s.size+(192 * (G.w * ((G.h+3) / 4))+100)≤79000000) (hp:plane≤40) :
  Calls Tryz.prog 103 #[.pointer (some ⟨A.cb,0,none⟩),.int .i64 (plane:Int)] w fun e w'=>e=.returned (.tuple #[])∧∃ H',CodR A G (cleanM G raw plane q) raw eg rg H'∧Mv w H w' H':=by
 have hh2:=hg.h2
 have hw2:=hg.w2
 obtain ⟨T,hT⟩:∃ T,(G.h+3) / 4=T:=⟨_,rfl⟩
 rw [hT] at hz
 have tb:∀ t,t<T↔4 * t<G.h:=by intro t;omega
 have HT:=Lib.hid tb
 have t16:T≤17:=by omega
 obtain ⟨R1,hR1⟩:∃ R1,runM (rowM G raw plane) T 0 q=R1:=⟨_,rfl⟩
 have EC:Hid (cleanM G raw plane q=⟨{ R1.c with seen:=List.replicate (G.w * G.h) false },if G.style.testBit 5 then symM raw R1.s else R1.s⟩):=Lib.hid (by unfold cleanM;rw [hT,hR1])
 have K0:=Lib.hid (And.intro h (And.intro (Mv.refl hs) (And.intro hc (And.intro hq (And.intro hz hR1)))))
 have HG:=Lib.hid hg
 clear h hs hc hq hz hR1 hg tb hT
 go_enter Tryz.func103,Tryz.ntmps103
 go_wp2_with fail
 go_loopg [4] T (fun m s4 wx=>∃ (t:Nat) (q1:CS) (H1:List HB),t≤T∧m=T - t∧s4=.int .i64 ((4 * t:Nat):Int)∧CodR A G q1 raw eg rg H1∧Mv w H wx H1∧q1.c.Ok G∧q1.s.Ok∧q1.s.size+(192 * (G.w * (T - t))+100)≤79000000∧runM (rowM G raw plane) (T - t) t q1=R1)
 case atStart=>exact ⟨0,q,H,by omega,rfl,rfl,K0.out.1,K0.out.2.1,K0.out.2.2.1,K0.out.2.2.2.1,K0.out.2.2.2.2.1,K0.out.2.2.2.2.2⟩
 case round =>
  obtain ⟨t,q1,H1,ht,rfl,rfl,h1,m1,hc1,hq1,hz1,hR⟩:=hrel
  have V:=h1.see HG.out hc1 m1.sat
  have c1:=V.h_
  have K1:=Lib.hid (And.intro h1 (And.intro m1 (And.intro hc1 (And.intro hq1 (And.intro hz1 hR)))))
  clear V h1 m1 hc1 hq1 hz1 hR
  obtain ⟨y,hy⟩:∃ y,4 * t=y:=⟨_,rfl⟩
  rw [hy]
  by_cases hlt:t<T
  ·have sy:y<G.h:=by rw [← hy];exact (HT.out t).1 hlt
   have d1:decide ((y:Int)<(G.h:Int))=true:=by simp;omega
   have HY:=Lib.hid hy
   have yb:y≤70:=by omega
   clear hy
   obtain ⟨R2,hR2⟩:∃ R2,rowM G raw plane q1 t=R2:=⟨_,rfl⟩
   have R2e:Hid (runM (colM G raw plane y) G.w 0 q1=R2):=Lib.hid (by rw [← hR2,← HY.out];rfl)
   have R3e:Hid (runM (rowM G raw plane) (T - (t+1)) (t+1) R2=R1):=Lib.hid (by have:=K1.out.2.2.2.2.2;rw [runM_succ _ _ _ _ hlt,hR2] at this;exact this)
   have ZB:Hid (q1.s.size+(192 * (G.w+G.w * (T - (t+1)))+100)≤79000000):=Lib.hid (by
    have:=K1.out.2.2.2.2.1
    rw [show T - t=(T - (t+1))+1 by omega,Nat.mul_succ] at this
    omega)
   clear hR2
   go_wp2_with fail
   go_loopg [5] G.w (fun m s5 wx=>∃ (x:Nat) (q2:CS) (H2:List HB),x≤G.w∧m=G.w - x∧s5=.int .i64 (x:Int)∧CodR A G q2 raw eg rg H2∧Mv w H wx H2∧q2.c.Ok G∧q2.s.Ok∧q2.s.size+(192 * ((G.w - x)+G.w * (T - (t+1)))+100)≤79000000∧runM (colM G raw plane y) (G.w - x) x q2=R2)
   case atStart=>exact ⟨0,q1,H1,by omega,rfl,rfl,K1.out.1,K1.out.2.1,K1.out.2.2.1,K1.out.2.2.2.1,ZB.out,R2e.out⟩
   case round =>
    rename_i wo
    obtain ⟨x,q2,H2,hx,rfl,rfl,h2,m2,hc2,hq2,hz2,hR⟩:=hrel
    have V:=h2.see HG.out hc2 m2.sat
    have c0:=V.w_
    have K2:=Lib.hid (And.intro h2 (And.intro m2 (And.intro hc2 (And.intro hq2 (And.intro hz2 hR)))))
    clear V h2 m2 hc2 hq2 hz2 hR
    by_cases hlx:x<G.w
    ·have d2:decide ((x:Int)<(G.w:Int))=true:=by simp;omega
     have CC:=Lib.hid (cod_col A G q2 raw eg rg x y plane H2 _ HG.out K2.out.2.2.1 K2.out.1 K2.out.2.1.sat K2.out.2.2.2.1 (by have:=K2.out.2.2.2.2.1;omega) hp hlx sy)
     go_wp2_with (go_at_call 126;refine CC.out.mono ?_;rintro e w3 ⟨rfl,H3,h3,m3⟩;have K3:=Lib.hid (And.intro h3 (K2.out.2.1.trans m3));clear h3 m3)
     go_roundg (G.w - (x+1))
     case measure=>omega
     case rel =>
      have e2:=colM_says (raw:=raw) (G:=G) plane y q2 x
      have e3:=(e2.grow K2.out.2.2.2.1).2.2
      have e4:=K2.out.2.2.2.2.2
      rw [runM_succ _ _ _ _ hlx] at e4
      exact ⟨x+1,_,H3,by omega,rfl,by push_cast;rfl,K3.out.1,K3.out.2,colM_ok K2.out.2.2.1 plane y x,e2.ok K2.out.2.2.2.1,by have:=K2.out.2.2.2.2.1;omega,e4⟩
    ·have d2:decide ((x:Int)<(G.w:Int))=false:=by simp;omega
     go_wp2_with fail
     go_roundg (T - (t+1))
     case measure=>omega
     case rel =>
      have e4:=K2.out.2.2.2.2.2
      rw [show G.w - x=0 by omega] at e4
      have e5:q2=R2:=e4
      have z5:=K2.out.2.2.2.2.1
      rw [show G.w - x=0 by omega,Nat.zero_add] at z5
      exact ⟨t+1,q2,H2,by omega,rfl,congrArg (Value.int .i64) (by have:=HY.out;omega),K2.out.1,K2.out.2.1,K2.out.2.2.1,K2.out.2.2.2.1,z5,by rw [e5];exact R3e.out⟩
  ·have ny:¬ y<G.h:=by rw [← hy];intro h;exact hlt ((HT.out t).2 h)
   have d1:decide ((y:Int)<(G.h:Int))=false:=by simp;omega
   have eR:R1=q1:=by
    have:=K1.out.2.2.2.2.2
    rw [show T - t=0 by omega] at this
    exact this.symm
   have HE:=Lib.hid eR
   obtain ⟨n,hn⟩:∃ n,G.w * G.h=n:=⟨_,rfl⟩
   have n4:n≤4096:=by rw [← hn];exact Nat.mul_le_mul hw2 hh2
   have HN:=Lib.hid hn
   clear hy eR hn
   go_wp2_with fail
   go_loopg [6] n (fun m s6 wx=>∃ (i:Nat) (H2:List HB),i≤n∧m=n - i∧s6=.int .i64 (i:Int)∧CodR A G ⟨seenAt q1.c i,q1.s⟩ raw eg rg H2∧Mv w H wx H2)
   case atStart=>exact ⟨0,H1,by omega,rfl,rfl,K1.out.1,K1.out.2.1⟩
   case round =>
    rename_i wo
    obtain ⟨i,H2,hi,rfl,rfl,h2,m2⟩:=hrel
    have oi:(seenAt q1.c i).Ok G:=seenAt_ok K1.out.2.2.1 (by rw [HN.out];exact hi)
    have V:=h2.see HG.out oi m2.sat
    have c7:=V.e_
    unfold slV at c7
    rw [HN.out] at c7
    have K2:=Lib.hid (And.intro h2 m2)
    by_cases hli:i<n
    ·have d2:decide ((i:Int)<(n:Int))=true:=by simp;omega
     have ci:=V.seen i (by rw [HN.out];exact hli)
     generalize (seenAt q1.c i).seen.getD i false=u at ci
     have fi:=(h2.frozen m2.sat i).2.2.1
     obtain ⟨H3,r3,m3⟩:=h2.setSeen m2 i false
     have K3:=Lib.hid (And.intro r3 m3)
     clear V h2 m2 r3 m3 oi
     have i1:(i:Int)<(n:Int):=by omega
     go_wp2_with fail
     go_roundg (n - (i+1))
     case measure=>omega
     case rel =>
      have e1:=seen_step q1.c.seen i (by rw [K1.out.2.2.1.seen,HN.out];exact hli)
      refine ⟨i+1,H3,by omega,rfl,by push_cast;rfl,?_,K3.out.2⟩
      have:=K3.out.1
      unfold seenAt at this ⊢
      simp only [e1] at this
      exact this
    ·have d2:decide ((i:Int)<(n:Int))=false:=by simp;omega
     have ei:i=n:=by omega
     have CQ:Hid (CodR A G ⟨{ q1.c with seen:=List.replicate n false },q1.s⟩ raw eg rg H2):=Lib.hid (by
      have e1:seenAt q1.c i={ q1.c with seen:=List.replicate n false }:=by
       unfold seenAt
       rw [ei,List.drop_eq_nil_of_le (by rw [K1.out.2.2.1.seen,HN.out];exact Nat.le_refl _),List.append_nil]
      rw [← e1]
      exact K2.out.1)
     have c3:=V.style
     have e32:=style32 G.style HG.out.style
     have ZS:Hid (q1.s.size+100≤79000000):=Lib.hid (by have:=K1.out.2.2.2.2.1;omega)
     clear V h2 m2 oi ei
     rcases (Bool.eq_false_or_eq_true (G.style.testBit 5)).symm with ht | ht
     ·rw [ht] at e32
      simp only [Bool.false_eq_true,if_false] at e32
      have HTB:=Lib.hid ht
      clear ht
      go_wp2_with fail
      refine bodyPost_end (results_none rfl _ _ _) rfl ⟨rfl,H2,?_,K2.out.2⟩
      rw [EC.out,HTB.out,HE.out,HN.out]
      exact CQ.out
     ·rw [ht] at e32
      simp only [if_true] at e32
      have HTB:=Lib.hid ht
      clear ht
      go_wp2_with fail
      go_loopg [7] 4 (fun m s7 wx=>∃ (k:Nat) (H3:List HB),k≤4∧m=4 - k∧s7=.int .i64 (k:Int)∧CodR A G ⟨{ q1.c with seen:=List.replicate n false },symS raw k q1.s⟩ raw eg rg H3∧Mv w H wx H3)
      case atStart=>exact ⟨0,H2,by omega,rfl,rfl,CQ.out,K2.out.2⟩
      case round =>
       rename_i wp
       obtain ⟨k,H3,hk,rfl,rfl,h3,m3⟩:=hrel
       have K3:=Lib.hid (And.intro h3 m3)
       clear h3 m3
       by_cases hlk:k<4
       ·have d3:decide ((k:Int)<4)=true:=by simp;omega
        obtain ⟨b,hb⟩:∃ b,1 - k % 2=b:=⟨_,rfl⟩
        have eb:(1:Int) - (k:Int) % 2=(b:Int):=by omega
        have SS:=symS_says raw q1.s k
        have SO:=SS.ok K1.out.2.2.2.1
        have SZ:=(SS.grow K1.out.2.2.2.1).2.2
        have BT:Hid (Calls Tryz.prog 127 #[.pointer (some ⟨A.cb,0,none⟩),.int .i64 18,.int .i64 (b:Int)] _ fun e w'=>e=.returned (.int .i64 (b:Int))∧∃ H',CodR A G ⟨{ q1.c with seen:=List.replicate n false },symS raw (k+1) q1.s⟩ raw eg rg H'∧Mv _ H3 w' H'):=Lib.hid (by
         have:=cod_bit A G ⟨{ q1.c with seen:=List.replicate n false },symS raw k q1.s⟩ raw eg rg 18 b H3 _ K3.out.1 K3.out.2.sat SO (by have:=ZS.out;simp only;omega) (by decide) (by omega)
         rw [← hb] at this ⊢
         exact this)
        clear hb SS SO SZ
        go_wp2_with (go_at_call 127;refine BT.out.mono ?_;rintro e w4 ⟨rfl,H4,h4,m4⟩;have K4:=Lib.hid (And.intro h4 (K3.out.2.trans m4));clear h4 m4)
        go_roundg (4 - (k+1))
        case measure=>omega
        case rel=>exact ⟨k+1,H4,by omega,rfl,by push_cast;rfl,K4.out.1,K4.out.2⟩
       ·have d3:decide ((k:Int)<4)=false:=by simp;omega
        have ek:k=4:=by omega
        have HK:=Lib.hid ek
        clear ek
        go_wp2_with fail
        refine bodyPost_end (results_none rfl _ _ _) rfl ⟨rfl,H3,?_,K3.out.2⟩
        rw [EC.out,HTB.out,HE.out,HN.out]
        have:=K3.out.1
        rw [HK.out,symS_four] at this
        exact this
end
section
open Go.RowKit
def beginN (k:Nat):Nat:=if k=0 then 4 else if k=17 then 3 else if k=18 then 46 else 0
theorem begin3_any (k:Nat) (w:World):Calls Tryz.prog 119 #[.int .i64 (k:Int)] w fun e w'=>e=.returned (.int .i64 ((beginN k:Nat):Int))∧w'=w:=by
 by_cases h0:k=0
 ·subst h0
  go_enter Tryz.func119,Tryz.ntmps119
  go_wp2_with fail
  go_ret
  exact ⟨rfl,rfl⟩
 by_cases h1:k=17
 ·subst h1
  go_enter Tryz.func119,Tryz.ntmps119
  go_wp2_with fail
  go_ret
  exact ⟨rfl,rfl⟩
 by_cases h2:k=18
 ·subst h2
  go_enter Tryz.func119,Tryz.ntmps119
  go_wp2_with fail
  go_ret
  exact ⟨rfl,rfl⟩
 have e:beginN k=0:=by unfold beginN;rw [if_neg h0,if_neg h1,if_neg h2]
 rw [e]
 have d0:((k:Int) == 0)=false:=beq_eq_false_iff_ne.2 (by omega)
 have d1:((k:Int) == 17)=false:=beq_eq_false_iff_ne.2 (by omega)
 have d2:((k:Int) == 18)=false:=beq_eq_false_iff_ne.2 (by omega)
 have n0:¬ ((k:Int)=0):=by omega
 have n1:¬ ((k:Int)=17):=by omega
 have n2:¬ ((k:Int)=18):=by omega
 clear e h0 h1 h2
 go_enter Tryz.func119,Tryz.ntmps119
 go_wp2_with fail
 go_ret
 exact ⟨rfl,rfl⟩
def cxMid (k:Nat):List CxM:=(List.range 19).map fun j=>if j<k then ⟨beginN j,0⟩ else ⟨0,0⟩
theorem cxMid_get (k:Nat) (h:k<19):(cxMid k)[k]?=some ⟨0,0⟩:=by
 unfold cxMid
 rw [List.getElem?_map,List.getElem?_range h]
 simp
theorem cxMid_set (k:Nat):(cxMid k).set k ⟨beginN k,0⟩=cxMid (k+1):=by
 apply List.ext_getElem?
 intro i
 unfold cxMid
 rw [List.getElem?_set]
 by_cases hi:i<19
 ·by_cases e:k=i
  ·subst e
   rw [if_pos rfl,if_pos (by simpa using hi),List.getElem?_map,List.getElem?_range hi]
   simp
  ·rw [if_neg e,List.getElem?_map,List.getElem?_map,List.getElem?_range hi]
   simp only [Option.map_some]
   congr 1
   by_cases h1:i<k
   ·rw [if_pos h1,if_pos (by omega)]
   ·rw [if_neg h1,if_neg (by omega)]
 ·by_cases e:k=i
  ·subst e
   rw [if_pos rfl,if_neg (by simpa using hi),List.getElem?_eq_none (by simp;omega)]
  ·rw [if_neg e,List.getElem?_eq_none (by simp;omega),List.getElem?_eq_none (by simp;omega)]
theorem cxMid_all:cxMid 19=cxFresh:=rfl
theorem cxV_mid (k:Nat) (h:k<19):(cxV (cxMid k)).set (k * 2) (.int .i64 ((beginN k:Nat):Int))=cxV (cxMid (k+1)):=by
 rw [← cxMid_set k]
 exact flat_set (fun c:CxM=>[Value.int .i64 (c.i:Int),.int .i64 (c.mps:Int)]) 2 (fun _=>rfl) (cxMid k) k ⟨0,0⟩ ⟨beginN k,0⟩ (cxMid_get k h) 0 (by omega) _ rfl
theorem fresh4_any (w:World):Calls Tryz.prog 99 #[] w fun e w'=>e=.returned (.agg (cxV cxFresh).toArray)∧Mv w [] w' []:=by
 have hz:(#[.int .i64 0,.int .i64 0,.int .i64 0,.int .i64 0,.int .i64 0,.int .i64 0,.int .i64 0,.int .i64 0,.int .i64 0,.int .i64 0,.int .i64 0,.int .i64 0,.int .i64 0,.int .i64 0,.int .i64 0,.int .i64 0,.int .i64 0,.int .i64 0,.int .i64 0,.int .i64 0,.int .i64 0,.int .i64 0,.int .i64 0,.int .i64 0,.int .i64 0,.int .i64 0,.int .i64 0,.int .i64 0,.int .i64 0,.int .i64 0,.int .i64 0,.int .i64 0,.int .i64 0,.int .i64 0,.int .i64 0,.int .i64 0,.int .i64 0,.int .i64 0]:Array Value)=(cxV (cxMid 0)).toArray:=by kernel_rfl
 have M0:=mv_alloc w 127 (cxV (cxMid 0)).toArray
 have M1:=M0.alloc 127 (cxV (cxMid 0)).toArray
 rw [World.size_alloc] at M1
 have B1:Blk ((w.alloc (.cells (cxV (cxMid 0)).toArray 127)).alloc (.cells (cxV (cxMid 0)).toArray 127)) (w.heap.size+1) 127 (cxV (cxMid 0)).toArray:=M1.blk 0 rfl
 have M2:=Mv.call (H:=[_]) (R:=[⟨w.heap.size,127,(cxV (cxMid 0)).toArray⟩]) M1 (setRow_eq (cs:=(cxV (cxMid 0)).toArray) B1)
 have HB1:=Lib.hid B1
 have K2:=Lib.hid M2
 clear M0 M1 M2 B1
 have HZ:=Lib.hid hz
 clear hz
 go_enter Tryz.func99,Tryz.ntmps99
 go_upto_region 1 with fail
 refine wp_region_lit ?_
 refine wpList_build_to rfl 127 _ rfl (cxV (cxMid 0)).toArray (by kernel_rfl) ?_
 iterate 3 go_step
 rw [HZ.out]
 refine wpList_store_row rfl 127 (.tmp 1) (.tmp 3) rfl (w.heap.size+1) (cxV (cxMid 0)).toArray (by simp [Act.eval]) rfl 127 _ HB1.out (by kernel_rfl) rfl (by kernel_rfl) ?_
 generalize (((w.alloc (.cells (cxV (cxMid 0)).toArray 127)).alloc (.cells (cxV (cxMid 0)).toArray 127)).setRow (w.heap.size+1) (cxV (cxMid 0)).toArray)=w1 at *
 clear HZ HB1
 have BG:=Lib.hid fun k W=>begin3_any k W
 go_wp2_with fail
 go_loopg [2] 19 (fun m s2 wx=>∃ k:Nat,k≤19∧m=19 - k∧s2=.int .i64 (k:Int)∧Mv w [] wx ([⟨w.heap.size+1,127,(cxV (cxMid k)).toArray⟩]++[⟨w.heap.size,127,(cxV (cxMid 0)).toArray⟩]))
 case atStart=>exact ⟨0,by omega,rfl,rfl,K2.out⟩
 case round =>
  obtain ⟨k,hk,rfl,rfl,m⟩:=hrel
  have KM:=Lib.hid m
  by_cases hlt:k<19
  ·have d1:decide ((k:Int)<19)=true:=by simp;omega
   have d2:(k:Int)<19:=by omega
   have c1:=(((m.blk 0 rfl).cell (k * 2)).trans (by simp only [List.getElem?_toArray];exact (cxV_get (cxMid_get k hlt)).1))
   have f1:=(m.blk 0 rfl).frozen (k * 2)
   have MS:=Lib.hid (m.set (k * 2) (.int .i64 ((beginN k:Nat):Int)))
   clear m
   go_wp2_with (go_at_call 119;refine (BG.out _ _).mono ?_;rintro e w' ⟨rfl,rfl⟩)
   go_roundg (19 - (k+1))
   case measure=>omega
   case rel =>
    refine ⟨k+1,by omega,rfl,by push_cast;rfl,?_⟩
    have:=MS.out
    rw [List.setIfInBounds_toArray,cxV_mid k hlt] at this
    exact this
  ·have d1:decide ((k:Int)<19)=false:=by simp;omega
   have ek:k=19:=by omega
   have HK:=Lib.hid ek
   clear m ek
   go_upto_region 6 with fail
   refine wp_region_lit ?_
   refine wpList_load_row rfl 127 (.tmp 1) rfl (w.heap.size+1) rfl 127 (cxV (cxMid k)).toArray (0,0) _ (KM.out.blk 0 rfl) Tryz.underlying127 rfl (by rw [HK.out];kernel_rfl) ?_
   refine wpList_store_row rfl 127 (.tmp 0) (.tmp 13) rfl w.heap.size (cxV (cxMid k)).toArray rfl rfl 127 _ (KM.out.blk 1 rfl) (by rw [HK.out];kernel_rfl) (by rw [HK.out];kernel_rfl) (by rw [HK.out];kernel_rfl) ?_
   have M9:=Mv.call (H:=[⟨w.heap.size,127,(cxV (cxMid 0)).toArray⟩]) (R:=[⟨w.heap.size+1,127,(cxV (cxMid k)).toArray⟩]) (KM.out.sub (fun g=>by simp only [cnt_append,cnt_cons,cnt_nil];omega) (fun c hc=>by simp only [List.mem_append,List.mem_cons] at hc ⊢;grind)) (setRow_eq (cs:=(cxV (cxMid k)).toArray) (KM.out.blk 1 rfl))
   generalize wr.setRow w.heap.size (cxV (cxMid k)).toArray=w9 at *
   obtain ⟨V9,hV9⟩:∃ V9,(cxV (cxMid k)).toArray=V9:=⟨_,rfl⟩
   rw [hV9] at M9 ⊢
   have HV:=Lib.hid (hV9.symm.trans (by rw [HK.out,cxMid_all]))
   have KM9:=Lib.hid M9
   clear hV9 M9
   go_wp2_with fail
   rw [← HV.out]
   exact bodyPost_ret (v:=.agg V9) (results_cell_row Tryz.results99 _ _ w.heap.size 127 _ (0,0) _ rfl (KM9.out.blk 0 rfl) Tryz.underlying127 rfl (by rw [HV.out];kernel_rfl)) rfl ⟨rfl,Mv.drop (A:=[_,_]) (H:=[]) (by simpa using KM9.out)⟩
end
section
open Go.RowKit
def putA (cs:Array Value):Nat→List Value→Array Value
 | _,[]=>cs
 | o,v::vs=>putA (cs.setIfInBounds o v) (o+1) vs
theorem putA_mid (C:List Value):∀ (vs A B:List Value),B.length=vs.length→putA (A++(B++C)).toArray A.length vs=(A++(vs++C)).toArray
 | [],A,B,h=>by
  have:B=[]:=List.eq_nil_of_length_eq_zero h
  subst this
  rfl
 | v::vs,A,[],h=>by simp at h
 | v::vs,A,b::B,h=>by
  have ih:=putA_mid C vs (A++[v]) B (by simpa using h)
  rw [List.length_append,List.length_singleton,List.append_assoc,List.append_assoc] at ih
  simp only [putA,List.setIfInBounds_toArray]
  rw [List.set_append_right _ _ (Nat.le_refl _),Nat.sub_self]
  exact ih
theorem Mv.setCells {w0:World} {H0 R:List HB} {g:Nat} {t:TypeId}:∀ (vs:List Value) (w:World) (cs:Array Value) (o:Nat),Mv w0 H0 w (⟨g,t,cs⟩::R)→Mv w0 H0 (w.setCells g o vs) (⟨g,t,putA cs o vs⟩::R)
 | [],_w,_cs,_o,h=>h
 | v::vs,_w,_cs,o,h=>Mv.setCells vs _ _ (o+1) (h.set o v)
theorem CodR.reset {A:CodA} {G:GeoM} {q:CS} {raw:Bool} {eg rg:Nat} {H H0:List HB} {w0 w:World} (h:CodR A G q raw eg rg H) (hq:q.s.Ok) (m:Mv w0 H0 w H):∃ H',CodR A G ⟨q.c,{ q.s with cx:=cxFresh }⟩ raw eg rg H'∧Mv w0 H0 (w.setCells A.cb 9 (cxV cxFresh)) H':=by
 obtain ⟨He,Hr,h1,h2,rfl⟩:=h
 have:=Mv.setCells (cxV cxFresh) w _ 9 m
 have e:putA (codV A G q.s.cx raw eg rg).toArray 9 (cxV cxFresh)=(codV A G cxFresh raw eg rg).toArray :=
  putA_mid _ (cxV cxFresh) _ (cxV q.s.cx) (by rw [cxV_length,cxV_length,hq.len];rfl)
 rw [e] at this
 exact ⟨_,⟨He,Hr,h1,h2,rfl⟩,this⟩
theorem CodR.there {A:CodA} {G:GeoM} {q:CS} {raw:Bool} {eg rg:Nat} {H:List HB} {w:World} (h:CodR A G q raw eg rg H) (hq:q.s.Ok) (hs:Sat w H):w.there A.cb 9 38:=by
 obtain ⟨He,Hr,-,-,rfl⟩:=h
 have b:Blk w A.cb 133 (codV A G q.s.cx raw eg rg).toArray:=hs.at_ 0 (by rfl)
 intro j hj
 refine ⟨?_,b.frozen _⟩
 rw [b.cell]
 have hl:(codV A G q.s.cx raw eg rg).length=53:=by
  simp only [codV,List.length_append,List.length_cons,List.length_nil,cxV_length,hq.len]
 rw [List.getElem?_toArray,List.getElem?_eq_getElem (by omega)]
 first | exact ⟨_,rfl⟩ | simp
theorem and2:∀ s,s<64→(s &&& 2)=if s.testBit 1 then 2 else 0:=by decide
theorem style2 (s:Nat) (h:s≤63):bits .and .i64 (s:Int) 2=if s.testBit 1 then 2 else 0:=by
 have h1:=i64_and_nat s 2 (by omega) (by omega)
 rw [and2 s (by omega)] at h1
 rw [show ((2:Nat):Int)=2 from rfl] at h1
 rw [h1]
 split <;> rfl
theorem store_cx {w:World} {b:Nat} {V:Array Value} (ht:w.there b 9 V.size) (h1:∀ v∈V.toList,v.oneCell'=true):(storeCells ⟨b,9,none⟩ V.toList).run Tryz.prog w=.ok () (w.setCells b 9 V.toList):=by
 have:=run_storeCells_cells (P:=Tryz.prog) b 9 V.toList 0 w (fun j hj=>by have:=(ht j (by simpa using hj)).1;rw [Nat.add_zero];exact this) (fun j hj=>by rw [Nat.add_zero];exact (ht j (by simpa using hj)).2) h1
 rw [Nat.add_zero] at this
 exact this
theorem cxV_one (l:List CxM):∀ v∈cxV l,v.oneCell'=true:=by
 intro v hv
 simp only [cxV,List.mem_flatMap,List.mem_cons,List.not_mem_nil,or_false] at hv
 obtain ⟨c,-,rfl | rfl⟩:=hv <;> rfl
theorem cod_pass (A:CodA) (G:GeoM) (q:CS) (raw:Bool) (eg rg planes k:Nat) (H:List HB) (w:World) (hg:G.Ok) (hc:q.c.Ok G) (h:CodR A G q raw eg rg H) (hs:Sat w H) (hq:q.s.Ok) (hz:q.s.size+(192 * (G.w * G.h)+100)≤79000000) (hp:planes≤40) (hk:k<countM planes) :
  Calls Tryz.prog 59 #[.pointer (some ⟨A.cb,0,none⟩),.int .i64 (k:Int),.int .i64 (planes:Int)] w fun e w'=>e=.returned (.tuple #[])∧∃ H',CodR A G (passM G raw planes k q) raw eg rg H'∧Mv w H w' H':=by
 have V:=h.see hg hc hs
 have c3:=V.style
 have e2:=style2 G.style hg.style
 have kb:k+2<3 * planes:=by unfold countM at hk;omega
 obtain ⟨p,hpl⟩:∃ p,planes - 1 - (k+2) / 3=p:=⟨_,rfl⟩
 have pe:(planes:Int) - 1 - ((k:Int)+2) / 3=(p:Int):=by omega
 have p40:p≤40:=by omega
 obtain ⟨R,hR⟩:∃ R,passM G raw planes k q=R:=⟨_,rfl⟩
 rw [hR]
 obtain ⟨kd,hkd⟩:∃ kd,kindM k=kd:=⟨_,rfl⟩
 obtain ⟨q1,hq1⟩:∃ q1,resetM G q=q1:=⟨_,rfl⟩
 have RE:Hid (R=if kd=0 then runM (sigStep G raw p) (G.w * G.h) 0 q1 else if kd=1 then runM (refStep G raw p) (G.w * G.h) 0 q1 else cleanM G raw p q1):=Lib.hid (by rw [← hR];unfold passM;rw [hpl,hkd,hq1])
 have QO:Hid (q1.c.Ok G∧q1.s.Ok∧q1.s.size=q.s.size):=Lib.hid (by
  rw [← hq1]
  unfold resetM
  split
  ·exact ⟨hc,⟨cxFresh_ok.1,cxFresh_ok.2,hq.e,hq.r⟩,rfl⟩
  ·exact ⟨hc,hq,rfl⟩)
 have KI:Hid (∀ W,Calls Tryz.prog 100 #[.int .i64 (k:Int)] W fun e w'=>e=.returned (.int .i64 (kd:Int))∧w'=W):=Lib.hid fun W=>by
  have:=kind_any k W (by omega)
  rw [hkd] at this
  exact this
 have FR:Hid (∀ W,Calls Tryz.prog 99 #[] W fun e w'=>∃ V,e=.returned (.agg V)∧V=(cxV cxFresh).toArray∧Mv W [] w' []):=Lib.hid fun W=>(fresh4_any W).mono fun _e _w' q=>⟨_,q.1,rfl,q.2⟩
 have K0:=Lib.hid (And.intro h (And.intro (Mv.refl hs) (And.intro hc (And.intro hq hz))))
 have HG:=Lib.hid hg
 have HQ:=Lib.hid hq1
 have kd3:kd≤2:=by rw [← hkd];unfold kindM;split <;> omega
 clear V h hs hc hq hz hR hkd hq1 hg hpl hk
 rcases (Bool.eq_false_or_eq_true (G.style.testBit 1)).symm with ht | ht
 case' inl =>
  rw [ht] at e2
  simp only [Bool.false_eq_true,if_false] at e2
  have Q1:Hid (q1=q):=Lib.hid (by rw [← HQ.out];unfold resetM;rw [ht];rfl)
 case' inr =>
  rw [ht] at e2
  simp only [if_true] at e2
  have Q1:Hid (q1=⟨q.c,{ q.s with cx:=cxFresh }⟩):=Lib.hid (by rw [← HQ.out];unfold resetM;rw [ht];rfl)
 all_goals
  clear ht
  go_enter Tryz.func59,Tryz.ntmps59
 case inl =>
  have KR:Hid (CodR A G q1 raw eg rg H∧Mv w H w H):=Lib.hid ⟨by rw [Q1.out];exact K0.out.1,K0.out.2.1⟩
  go_upto_region 2 with fail
  obtain ⟨hw1,hw2⟩:=And.intro HG.out.w2 HG.out.h2
  have ZN:G.w * ((G.h+3) / 4)≤G.w * G.h:=Nat.mul_le_mul_left _ (by have:=HG.out.h1;omega)
  have ZQ:=K0.out.2.2.2.2
  have ZS:=QO.out.2.2
  have S0:Hid (Calls Tryz.prog 101 #[.pointer (some ⟨A.cb,0,none⟩),.int .i64 (p:Int)] w fun e w'=>e=.returned (.tuple #[])∧∃ H',CodR A G (runM (sigStep G raw p) (G.w * G.h) 0 q1) raw eg rg H'∧Mv w H w' H'):=Lib.hid (cod_sigp A G q1 raw eg rg p H w HG.out QO.out.1 KR.out.1 KR.out.2.sat QO.out.2.1 (by omega) p40)
  have S1:Hid (Calls Tryz.prog 102 #[.pointer (some ⟨A.cb,0,none⟩),.int .i64 (p:Int)] w fun e w'=>e=.returned (.tuple #[])∧∃ H',CodR A G (runM (refStep G raw p) (G.w * G.h) 0 q1) raw eg rg H'∧Mv w H w' H'):=Lib.hid (cod_refp A G q1 raw eg rg p H w HG.out QO.out.1 KR.out.1 KR.out.2.sat QO.out.2.1 (by omega) p40)
  have S2:Hid (Calls Tryz.prog 103 #[.pointer (some ⟨A.cb,0,none⟩),.int .i64 (p:Int)] w fun e w'=>e=.returned (.tuple #[])∧∃ H',CodR A G (cleanM G raw p q1) raw eg rg H'∧Mv w H w' H'):=Lib.hid (cod_clean A G q1 raw eg rg p H w HG.out QO.out.1 KR.out.1 KR.out.2.sat QO.out.2.1 (by omega) p40)
  clear hw1 hw2 ZN ZQ ZS
  rcases (show kd=0∨kd=1∨kd=2 by omega) with rfl | rfl | rfl
  ·have RE2:=Lib.hid (RE.out.trans (if_pos rfl))
   go_wp2_with (first
    | (go_at_call 100;refine (KI.out _).mono ?_;rintro e w' ⟨rfl,rfl⟩)
    | (go_at_call 101;refine S0.out.mono ?_;rintro e w5 ⟨rfl,H5,h5,m5⟩;have K5:=Lib.hid (And.intro h5 (KR.out.2.trans m5));clear h5 m5))
   exact bodyPost_end (results_none rfl _ _ _) rfl ⟨rfl,H5,by rw [RE2.out];exact K5.out.1,K5.out.2⟩
  ·have RE2:=Lib.hid (RE.out.trans ((if_neg (by decide)).trans (if_pos rfl)))
   go_wp2_with (first
    | (go_at_call 100;refine (KI.out _).mono ?_;rintro e w' ⟨rfl,rfl⟩)
    | (go_at_call 102;refine S1.out.mono ?_;rintro e w5 ⟨rfl,H5,h5,m5⟩;have K5:=Lib.hid (And.intro h5 (KR.out.2.trans m5));clear h5 m5))
   exact bodyPost_end (results_none rfl _ _ _) rfl ⟨rfl,H5,by rw [RE2.out];exact K5.out.1,K5.out.2⟩
  ·have RE2:=Lib.hid (RE.out.trans ((if_neg (by decide)).trans (if_neg (by decide))))
   go_wp2_with (first
    | (go_at_call 100;refine (KI.out _).mono ?_;rintro e w' ⟨rfl,rfl⟩)
    | (go_at_call 103;refine S2.out.mono ?_;rintro e w5 ⟨rfl,H5,h5,m5⟩;have K5:=Lib.hid (And.intro h5 (KR.out.2.trans m5));clear h5 m5))
   exact bodyPost_end (results_none rfl _ _ _) rfl ⟨rfl,H5,by rw [RE2.out];exact K5.out.1,K5.out.2⟩
 case inr =>
  go_upto_region 2 with (go_at_call 99;refine (FR.out _).mono ?_;rintro e w1 ⟨V,rfl,hV,m1⟩;have M1:=Mv.call (H:=[]) (H':=[]) (R:=H) K0.out.2.1 m1;have hsz:V.size=38:=(by rw [hV];rfl);have hst:=store_cx (w:=w1) (b:=A.cb) (V:=V) (by rw [hsz];exact K0.out.1.there K0.out.2.2.2.1 M1.sat) (by rw [hV];exact cxV_one _);have HVV:=Lib.hid hV;have KM:=Lib.hid M1;clear hV m1 M1)
  have hth:=K0.out.1.reset K0.out.2.2.2.1 KM.out
  have evl:V.toList=cxV cxFresh:=by rw [HVV.out]
  rw [← evl] at hth
  obtain ⟨H2,r2,m2⟩:=hth
  generalize w1.setCells A.cb 9 V.toList=w2 at *
  have KR:Hid (CodR A G q1 raw eg rg H2∧Mv w H w2 H2):=Lib.hid ⟨by rw [Q1.out];exact r2,m2⟩
  clear hst evl r2 m2 KM hsz
  obtain ⟨hw1,hw2⟩:=And.intro HG.out.w2 HG.out.h2
  have ZN:G.w * ((G.h+3) / 4)≤G.w * G.h:=Nat.mul_le_mul_left _ (by have:=HG.out.h1;omega)
  have ZQ:=K0.out.2.2.2.2
  have ZS:=QO.out.2.2
  have S0:Hid (Calls Tryz.prog 101 #[.pointer (some ⟨A.cb,0,none⟩),.int .i64 (p:Int)] w2 fun e w'=>e=.returned (.tuple #[])∧∃ H',CodR A G (runM (sigStep G raw p) (G.w * G.h) 0 q1) raw eg rg H'∧Mv w2 H2 w' H'):=Lib.hid (cod_sigp A G q1 raw eg rg p H2 w2 HG.out QO.out.1 KR.out.1 KR.out.2.sat QO.out.2.1 (by omega) p40)
  have S1:Hid (Calls Tryz.prog 102 #[.pointer (some ⟨A.cb,0,none⟩),.int .i64 (p:Int)] w2 fun e w'=>e=.returned (.tuple #[])∧∃ H',CodR A G (runM (refStep G raw p) (G.w * G.h) 0 q1) raw eg rg H'∧Mv w2 H2 w' H'):=Lib.hid (cod_refp A G q1 raw eg rg p H2 w2 HG.out QO.out.1 KR.out.1 KR.out.2.sat QO.out.2.1 (by omega) p40)
  have S2:Hid (Calls Tryz.prog 103 #[.pointer (some ⟨A.cb,0,none⟩),.int .i64 (p:Int)] w2 fun e w'=>e=.returned (.tuple #[])∧∃ H',CodR A G (cleanM G raw p q1) raw eg rg H'∧Mv w2 H2 w' H'):=Lib.hid (cod_clean A G q1 raw eg rg p H2 w2 HG.out QO.out.1 KR.out.1 KR.out.2.sat QO.out.2.1 (by omega) p40)
  clear hw1 hw2 ZN ZQ ZS
  rcases (show kd=0∨kd=1∨kd=2 by omega) with rfl | rfl | rfl
  ·have RE2:=Lib.hid (RE.out.trans (if_pos rfl))
   go_wp2_with (first
    | (go_at_call 100;refine (KI.out _).mono ?_;rintro e w' ⟨rfl,rfl⟩)
    | (go_at_call 101;refine S0.out.mono ?_;rintro e w5 ⟨rfl,H5,h5,m5⟩;have K5:=Lib.hid (And.intro h5 (KR.out.2.trans m5));clear h5 m5))
   exact bodyPost_end (results_none rfl _ _ _) rfl ⟨rfl,H5,by rw [RE2.out];exact K5.out.1,K5.out.2⟩
  ·have RE2:=Lib.hid (RE.out.trans ((if_neg (by decide)).trans (if_pos rfl)))
   go_wp2_with (first
    | (go_at_call 100;refine (KI.out _).mono ?_;rintro e w' ⟨rfl,rfl⟩)
    | (go_at_call 102;refine S1.out.mono ?_;rintro e w5 ⟨rfl,H5,h5,m5⟩;have K5:=Lib.hid (And.intro h5 (KR.out.2.trans m5));clear h5 m5))
   exact bodyPost_end (results_none rfl _ _ _) rfl ⟨rfl,H5,by rw [RE2.out];exact K5.out.1,K5.out.2⟩
  ·have RE2:=Lib.hid (RE.out.trans ((if_neg (by decide)).trans (if_neg (by decide))))
   go_wp2_with (first
    | (go_at_call 100;refine (KI.out _).mono ?_;rintro e w' ⟨rfl,rfl⟩)
    | (go_at_call 103;refine S2.out.mono ?_;rintro e w5 ⟨rfl,H5,h5,m5⟩;have K5:=Lib.hid (And.intro h5 (KR.out.2.trans m5));clear h5 m5))
   exact bodyPost_end (results_none rfl _ _ _) rfl ⟨rfl,H5,by rw [RE2.out];exact K5.out.1,K5.out.2⟩
end
section
open Go.RowKit
theorem enc_out (eg:Nat) (e:EncM) (w:World) (H:List HB) (h:MqR eg e H) (hs:Sat w H) (hb:e.b≠[]) (hl:e.b.length≤90000000) :
  Calls Tryz.prog 60 #[.pointer (some ⟨eg,0,none⟩)] w fun e0 w'=>e0=.returned (.int .i64 ((e.b.length - 1:Nat):Int))∧w'=w:=by
 obtain ⟨vb,Hb,rfl,hr⟩:=h
 have h1:0<e.b.length:=List.length_pos_iff.2 hb
 obtain ⟨a,c,rfl⟩:=hr.slice
 have c3:w.cell? ⟨eg,3,none⟩=some (.slice a e.b.length c):=(Mv.refl hs).cell 0 rfl 3
 obtain ⟨n,hn⟩:∃ n,e.b.length=n:=⟨_,rfl⟩
 rw [hn] at c3 hl h1 ⊢
 have d1:(n:Int) - 1=((n - 1:Nat):Int):=by omega
 clear hr hs hn hb
 go_enter Tryz.func60,Tryz.ntmps60
 go_wp2_with fail
 go_ret
 exact ⟨rfl,rfl⟩
theorem raw_out (rg:Nat) (r:RawM) (w:World) (H:List HB) (h:RawR rg r H) (hs:Sat w H) (hl:r.b.length≤90000000) :
  Calls Tryz.prog 61 #[.pointer (some ⟨rg,0,none⟩)] w fun e0 w'=>e0=.returned (.int .i64 ((rawOut r:Nat):Int))∧∃ n,w'=w.drewN n:=by
 obtain ⟨vb,Hb,rfl,hr⟩:=h
 obtain ⟨a,c,rfl⟩:=hr.slice
 have c0:w.cell? ⟨rg,0,none⟩=some (.slice a r.b.length c):=(Mv.refl hs).cell 0 rfl 0
 have c2:w.cell? ⟨rg,2,none⟩=some (.int .i64 (r.free:Int)):=(Mv.refl hs).cell 0 rfl 2
 have c3:w.cell? ⟨rg,3,none⟩=some (.int .i64 (r.top:Int)):=(Mv.refl hs).cell 0 rfl 3
 unfold rawOut
 generalize r.b.length=n at *
 generalize r.free=f at *
 generalize r.top=t at *
 clear hr hs
 by_cases hlt:f<t
 ·rw [if_pos hlt]
  have d1:decide ((f:Int)<(t:Int))=true:=by simp;omega
  go_enter Tryz.func61,Tryz.ntmps61
  go_upto_region 1 with fail
  go_region
  all_goals
   go_wp2_with fail
   go_ret
   refine ⟨congrArg (fun z=>Ending.returned (.int .i64 z)) ?_,1,rfl⟩
   omega
 ·rw [if_neg hlt]
  have d1:decide ((f:Int)<(t:Int))=false:=by simp;omega
  go_enter Tryz.func61,Tryz.ntmps61
  go_upto_region 1 with fail
  go_region
  all_goals
   go_wp2_with fail
   go_ret
   refine ⟨congrArg (fun z=>Ending.returned (.int .i64 z)) ?_,1,rfl⟩
   omega
theorem and1:∀ s,s<64→(s &&& 1)=if s.testBit 0 then 1 else 0:=by decide
theorem style1 (s:Nat) (h:s≤63):bits .and .i64 (s:Int) 1=if s.testBit 0 then 1 else 0:=by
 have h1:=i64_and_nat s 1 (by omega) (by omega)
 rw [and1 s (by omega)] at h1
 rw [show ((1:Nat):Int)=(1:Int) from rfl] at h1
 rw [h1]
 split <;> rfl
theorem and4:∀ s,s<64→(s &&& 4)=if s.testBit 2 then 4 else 0:=by decide
theorem style4 (s:Nat) (h:s≤63):bits .and .i64 (s:Int) 4=if s.testBit 2 then 4 else 0:=by
 have h1:=i64_and_nat s 4 (by omega) (by omega)
 rw [and4 s (by omega)] at h1
 rw [show ((4:Nat):Int)=(4:Int) from rfl] at h1
 rw [h1]
 split <;> rfl
theorem israw_any (s k:Nat) (w:World) (hs:s≤63) (hk:k≤1000) :
  Calls Tryz.prog 56 #[.int .i64 (s:Int),.int .i64 (k:Int)] w fun e w'=>e=.returned (.bool (isRawM s k))∧w'=w:=by
 have VS:=style1 s hs
 have KA:=fun w=>kind_any k w hk
 unfold isRawM
 rcases (Bool.eq_false_or_eq_true (s.testBit 0)).symm with ht | ht
 ·rw [ht] at VS ⊢
  simp only [Bool.false_eq_true,if_false,Bool.false_and] at VS ⊢
  go_enter Tryz.func56,Tryz.ntmps56
  go_wp2_with fail
  go_ret
  exact ⟨rfl,rfl⟩
 ·rw [ht] at VS ⊢
  simp only [if_true,Bool.true_and] at VS ⊢
  by_cases h10:10≤k
  ·have d1:decide ((10:Int)≤(k:Int))=true:=by simp;omega
   rw [decide_eq_true h10,Bool.true_and]
   by_cases h2:kindM k=2
   ·have d2:(((kindM k:Nat):Int) == 2)=true:=by rw [h2];rfl
    rw [decide_eq_true h2]
    go_enter Tryz.func56,Tryz.ntmps56
    go_wp2_with (first | (go_at_call 100;refine (KA _).mono ?_;rintro _ _ ⟨rfl,rfl⟩))
    go_ret
    exact ⟨rfl,rfl⟩
   ·have d2:(((kindM k:Nat):Int) == 2)=false:=beq_eq_false_iff_ne.2 (by omega)
    rw [decide_eq_false h2]
    generalize kindM k=kk at *
    clear h2
    go_enter Tryz.func56,Tryz.ntmps56
    go_wp2_with (first | (go_at_call 100;refine (KA _).mono ?_;rintro _ _ ⟨rfl,rfl⟩))
    go_ret
    exact ⟨congrArg (fun b=>Ending.returned (.bool b)) (by rw [bne,d2]),rfl⟩
  ·have d1:decide ((10:Int)≤(k:Int))=false:=by simp;omega
   rw [decide_eq_false h10,Bool.false_and]
   go_enter Tryz.func56,Tryz.ntmps56
   go_wp2_with fail
   go_ret
   exact ⟨rfl,rfl⟩
theorem kindM_lt (k:Nat):kindM k=0∨kindM k=1∨kindM k=2:=by
 unfold kindM
 split <;> omega
theorem ends_any (s k:Nat) (w:World) (hs:s≤63) (hk:k≤1000) :
  Calls Tryz.prog 62 #[.int .i64 (s:Int),.int .i64 (k:Int)] w fun e w'=>e=.returned (.bool (endsM s k))∧w'=w:=by
 have VS:=style1 s hs
 have V4:=style4 s hs
 have KA:=fun w=>kind_any k w hk
 have hkm:=kindM_lt k
 have d0:decide ((k:Int)<0)=false:=by simp
 have e9:(9≤k)=((9:Int)≤(k:Int)):=by simp only [eq_iff_iff];omega
 have e10:(10≤k)=((10:Int)≤(k:Int)):=by simp only [eq_iff_iff];omega
 unfold endsM
 rcases (Bool.eq_false_or_eq_true (s.testBit 2)).symm with h2 | h2
 ·rw [h2] at V4 ⊢
  rcases (Bool.eq_false_or_eq_true (s.testBit 0)).symm with h0 | h0
  ·rw [h0] at VS ⊢
   simp only [Bool.false_eq_true,if_false,Bool.false_and,Bool.false_or] at VS V4 ⊢
   clear e9 e10 hkm KA
   go_enter Tryz.func62,Tryz.ntmps62
   go_wp2_with fail
   go_ret
   exact ⟨rfl,rfl⟩
  ·rw [h0] at VS ⊢
   simp only [Bool.false_eq_true,if_false,if_true,Bool.true_and,Bool.false_or] at VS V4 ⊢
   by_cases h9:9≤k
   ·by_cases h10:10≤k
    ·have d1:decide ((9:Int)≤(k:Int))=true:=by simp;omega
     have d2:decide ((10:Int)≤(k:Int))=true:=by simp;omega
     rw [decide_eq_true h9,decide_eq_true h10]
     clear e9 e10 h9 h10
     rcases hkm with h | h | h <;> rw [h] at KA ⊢ <;> clear h <;> (go_enter Tryz.func62,Tryz.ntmps62;go_wp2_with (first | (go_at_call 100;refine (KA _).mono ?_;rintro _ _ ⟨rfl,rfl⟩));go_ret;exact ⟨rfl,rfl⟩)
    ·have d1:decide ((9:Int)≤(k:Int))=true:=by simp;omega
     have d2:decide ((10:Int)≤(k:Int))=false:=by simp;omega
     rw [decide_eq_true h9,decide_eq_false h10]
     clear e9 e10 h9 h10
     rcases hkm with h | h | h <;> rw [h] at KA ⊢ <;> clear h <;> (go_enter Tryz.func62,Tryz.ntmps62;go_wp2_with (first | (go_at_call 100;refine (KA _).mono ?_;rintro _ _ ⟨rfl,rfl⟩));go_ret;exact ⟨rfl,rfl⟩)
   ·have h10:¬ 10≤k:=by omega
    have d1:decide ((9:Int)≤(k:Int))=false:=by simp;omega
    have d2:decide ((10:Int)≤(k:Int))=false:=by simp;omega
    rw [decide_eq_false h9,decide_eq_false h10]
    clear e9 e10 h9 h10
    rcases hkm with h | h | h <;> rw [h] at KA ⊢ <;> clear h <;> (go_enter Tryz.func62,Tryz.ntmps62;go_wp2_with (first | (go_at_call 100;refine (KA _).mono ?_;rintro _ _ ⟨rfl,rfl⟩));go_ret;exact ⟨rfl,rfl⟩)
 ·rw [h2] at V4 ⊢
  simp only [if_true,Bool.true_or] at V4 ⊢
  clear e9 e10 hkm KA VS
  go_enter Tryz.func62,Tryz.ntmps62
  go_wp2_with fail
  go_ret
  exact ⟨rfl,rfl⟩
theorem may_ok (W Hh B S:Nat) (w:World) (h1:1≤W∧W≤64) (h2:1≤Hh∧Hh≤64) (h3:B≤3) (h4:S≤63) :
  Calls Tryz.prog 52 #[.int .i64 (W:Int),.int .i64 (Hh:Int),.int .i64 (B:Int),.int .i64 (S:Int)] w fun e w'=>e=.returned (.bool true)∧w'=w:=by
 have d1:decide ((1:Int)≤(W:Int))=true:=by simp;omega
 have d2:decide ((W:Int)≤64)=true:=by simp;omega
 have d3:decide ((1:Int)≤(Hh:Int))=true:=by simp;omega
 have d4:decide ((Hh:Int)≤64)=true:=by simp;omega
 have d5:decide ((0:Int)≤(B:Int))=true:=by simp
 have d6:decide ((B:Int)≤3)=true:=by simp;omega
 have d7:decide ((0:Int)≤(S:Int))=true:=by simp
 have d8:decide ((S:Int)≤63)=true:=by simp;omega
 go_enter Tryz.func52,Tryz.ntmps52
 go_wp2_with fail
 go_ret
 refine ⟨congrArg (fun b=>Ending.returned (.bool b)) ?_,rfl⟩
 first | rfl | exact d8
end
section
open Go.RowKit
theorem RowB.short {g c n:Nat} {l:List UInt8} {H:List HB} (h:RowB (.slice (some ⟨g,0,none⟩) n c) l H) (hn:0<n):n≤c∧c≤maxLen∧RowB (.slice (some ⟨g,0,none⟩) (n - 1) c) l.dropLast H:=by
 have hl:=h.len
 subst hl
 obtain ⟨h1,h2⟩:=h
 rcases h2 with ⟨e,-⟩ | ⟨g',cap,cur,e,k1,k2,k3,k4,rfl⟩
 ·cases e
 ·cases e
  have e1:l.dropLast.length=l.length - 1:=List.length_dropLast
  refine ⟨k1,k2,?_⟩
  unfold RowB
  rw [e1]
  refine ⟨by simp [cellsB],.inr ⟨g,c,cur,rfl,by omega,k2,k3,?_,rfl⟩⟩
  have e2:(l.length - 1) * 1=min (l.length - 1) (l.length * 1):=by omega
  rw [e2,← List.take_take,k4]
  simp only [cellsB,List.dropLast_eq_take,List.map_take]
theorem noLast255_yes {l:List UInt8} (h:l.getLastD 0=255):noLast255 l=l.dropLast:=by
 unfold noLast255
 rw [if_pos (of_eq_true (getLast_255 h))]
theorem noLast255_no {l:List UInt8} (h:¬ l.getLastD 0=255):noLast255 l=l:=by
 unfold noLast255
 rw [if_neg (of_eq_false (getLast_no255 h))]
theorem raw_flush (rg:Nat) (r:RawM) (w:World) (H:List HB) (h:RawR rg r H) (hs:Sat w H) (hl:r.b.length≤80000000) (hc:r.cur<256) :
  Calls Tryz.prog 64 #[.pointer (some ⟨rg,0,none⟩)] w fun e0 w'=>∃ v Hn,e0=.returned v∧RowB v (rawFlush r) Hn∧Mv w H w' (Hn++H):=by
 obtain ⟨bs,cur,free,top⟩:=r
 simp only at hl hc
 obtain ⟨vb,Hb,rfl,hr⟩:=h
 simp only at hr
 obtain ⟨va,vc,rfl⟩:=hr.slice
 obtain ⟨x,hx⟩:∃ x,UInt8.ofNat cur=x:=⟨_,rfl⟩
 have RF:Hid (rawFlush ⟨bs,cur,free,top⟩=noLast255 (if free<top then bs++[x] else bs)):=Lib.hid (by unfold rawFlush;simp only [hx])
 have hx8:IntKind.u8.wrap (cur:Int)=(x.toNat:Int):=by rw [IntKind.wrap_u8,← hx,← u8_of_nat]
 obtain ⟨F,hF⟩:∃ F,rawFlush ⟨bs,cur,free,top⟩=F:=⟨_,rfl⟩
 rw [hF] at RF ⊢
 clear hF hx
 have M1:=(Mv.refl hs).alloc 5 #[]
 have c0:=M1.cell 1 rfl 0
 have B1:=Lib.hid (hr.bv (M1.sat.right (A:=[_,_])))
 have R1:=Lib.hid (RowB.lit w.heap.size [] 0 rfl (by decide))
 have K1:=Lib.hid M1
 clear hr M1 hs
 go_enter Tryz.func64,Tryz.ntmps64
 go_upto_region 2 with (at_builtin;go_must (refine wpList_appB rfl (.tmp 4) (.tmp 8) rfl _ _ [] bs [_] rfl rfl R1.out K1.out.sat.left B1.out (by simp;omega) ?_;intro v3 w3 H3 hr3 m3;obtain ⟨a3,c3,rfl⟩:=hr3.slice;have K3:=Lib.hid (And.intro hr3 (Mv.call (H:=[_]) K1.out m3));clear hr3 m3))
 rw [List.nil_append] at K3
 have S3:=K3.out.2.sat.right (A:=H3)
 have e2:w3.cell? ⟨rg,2,none⟩=some (.int .i64 (free:Int)):=(S3.at_ 0 rfl).cell 2
 have e3:w3.cell? ⟨rg,3,none⟩=some (.int .i64 (top:Int)):=(S3.at_ 0 rfl).cell 3
 clear S3
 by_cases hlt:free<top
 ·rw [if_pos hlt] at RF
  have d1:decide ((free:Int)<(top:Int))=true:=by simp;omega
  have M4:=K3.out.2.drew.alloc 5 #[.int .u8 (x.toNat:Int)]
  have e1:w3.drew.cell? ⟨rg,1,none⟩=some (.int .i64 (cur:Int)):=((K3.out.2.drew.sat.right (A:=H3)).at_ 0 rfl).cell 1
  have A4:=Lib.hid (bv_one w3.drew x w3.heap.size rfl)
  have S4:=Lib.hid ((M4.sat.right (A:=[_])).left)
  have K5:=Lib.hid M4
  clear M4
  go_region
  all_goals
  clear hlt d1 e2 e3
  go_upto_region 4 with (at_builtin;go_must (refine wpList_appB rfl (.tmp 19) (.tmp 25) rfl _ _ bs [x] H3 rfl rfl K3.out.1 S4.out A4.out (by simp;omega) ?_;intro v4 w4 H4 hr4 m4;obtain ⟨a4,c4,rfl⟩:=hr4.slice;have K6:=Lib.hid (And.intro hr4 (Mv.call (Mv.mv1 (A:=[_]) (B:=H3) (R:=_) K5.out) m4));clear hr4 m4))
  have K4:Hid (RowB (.slice a4 (bs++[x]).length c4) (bs++[x]) H4∧Mv w (rawB rg cur free top (.slice va bs.length vc)::Hb) w4 (H4++rawB rg cur free top (.slice va bs.length vc)::Hb)):=Lib.hid ⟨K6.out.1,Mv.drop2 (B:=[_]) K6.out.2⟩
  have RF4:=RF
  clear RF K6 K5 K3 S4 A4 e1 hx8
  have hlen:(bs++[x]).length=bs.length+1:=by simp
  rw [hlen] at K4
  generalize bs++[x]=l4 at *
  obtain ⟨n4,hn4e⟩:∃ n4,bs.length+1=n4:=⟨_,rfl⟩
  rw [hn4e] at K4 hlen ⊢
  have hn4:=Lib.hid hlen.symm
  have hnl:n4≤90000000:=by omega
  clear hn4e hlen
  have T4:=K4.out.2.sat.left
  by_cases h0:n4=0
  case pos =>
   have hl0:l4=[]:=List.eq_nil_of_length_eq_zero (hn4.out.symm.trans h0)
   have RG:=Lib.hid (RF4.out.trans (noLast255_no (by rw [hl0];decide)))
   have m4:decide ((0:Int)<(n4:Int))=false:=by simp;omega
   have m5:¬ 0<n4:=by omega
   clear h0 hl0 T4
   go_wp2_with fail
   go_ret
   first
    | exact ⟨_,H4,rfl,by rw [RG.out];exact K4.out.1,K4.out.2⟩
    | exact ⟨_,rfl,H4,by rw [RG.out];exact K4.out.1,K4.out.2⟩
  case neg =>
   have hn0:0<n4:=by omega
   obtain ⟨g,ha⟩:∃ g,a4=some ⟨g,0,none⟩:=by
    obtain ⟨g,cp,cur4,hv,-⟩:=RowH.form K4.out.1 (by rw [← hn4.out];exact hn0)
    injection hv with ha
    exact ⟨g,ha⟩
   subst ha
   obtain ⟨s1,s2,s3⟩:=RowB.short K4.out.1 hn0
   obtain ⟨k1,-⟩:=RowB.at_last K4.out.1 T4 hn4.out.symm hn0
   obtain ⟨q,hq⟩:∃ q,l4.getLastD 0=q:=⟨_,rfl⟩
   rw [hq] at k1
   have HQ:=Lib.hid hq
   have S3:=Lib.hid s3
   have m1:(n4:Int) - 1=((n4 - 1:Nat):Int):=by omega
   have m2:((n4 - 1:Nat):Int)<(n4:Int):=by omega
   have m3:((n4 - 1:Nat):Int)≤(c4:Int):=by omega
   have m4:decide ((0:Int)<(n4:Int))=true:=by simp;omega
   clear hq s3 T4
   by_cases h255:q=255
   ·have d0:((q.toNat:Int) == 255)=true:=by rw [h255];rfl
    have RG:=Lib.hid (RF4.out.trans (noLast255_yes (HQ.out.trans h255)))
    clear h255
    go_wp2_with fail
    go_ret
    first
     | exact ⟨_,H4,rfl,by rw [RG.out];exact S3.out,K4.out.2⟩
     | exact ⟨_,rfl,H4,by rw [RG.out];exact S3.out,K4.out.2⟩
   ·have d0:((q.toNat:Int) == 255)=false:=by
     have:q.toNat≠255:=fun e=>h255 (UInt8.toNat_inj.1 (by rw [e];rfl))
     exact beq_eq_false_iff_ne.2 (by omega)
    have RG:=Lib.hid (RF4.out.trans (noLast255_no (fun e=>h255 (HQ.out.symm.trans e))))
    clear h255
    go_wp2_with fail
    go_ret
    first
     | exact ⟨_,H4,rfl,by rw [RG.out];exact K4.out.1,K4.out.2⟩
     | exact ⟨_,rfl,H4,by rw [RG.out];exact K4.out.1,K4.out.2⟩
 ·rw [if_neg hlt] at RF
  have d1:decide ((free:Int)<(top:Int))=false:=by simp;omega
  go_region
  all_goals
  clear hlt d1 e2 e3
  go_upto_region 4 with fail
  have K4:Hid (RowB (.slice a3 bs.length c3) bs H3∧Mv w (rawB rg cur free top (.slice va bs.length vc)::Hb) w3.drew (H3++rawB rg cur free top (.slice va bs.length vc)::Hb)):=Lib.hid ⟨K3.out.1,K3.out.2.drew⟩
  have K4M:=Lib.hid K4.out.2
  have RF4:=RF
  clear RF K3 hx8
  generalize w3.drew=w4 at *
  obtain ⟨n4,hn4e⟩:∃ n4,bs.length=n4:=⟨_,rfl⟩
  rw [hn4e] at K4 ⊢
  have hn4:=Lib.hid hn4e.symm
  have hnl:n4≤90000000:=by omega
  clear hn4e
  have T4:=K4.out.2.sat.left
  by_cases h0:n4=0
  case pos =>
   have hl0:bs=[]:=List.eq_nil_of_length_eq_zero (hn4.out.symm.trans h0)
   have RG:=Lib.hid (RF4.out.trans (noLast255_no (by rw [hl0];decide)))
   have m4:decide ((0:Int)<(n4:Int))=false:=by simp;omega
   have m5:¬ 0<n4:=by omega
   clear h0 hl0 T4
   go_wp2_with fail
   go_ret
   first
    | exact ⟨_,H3,rfl,by rw [RG.out];exact K4.out.1,K4M.out⟩
    | exact ⟨_,rfl,H3,by rw [RG.out];exact K4.out.1,K4M.out⟩
  case neg =>
   have hn0:0<n4:=by omega
   obtain ⟨g,ha⟩:∃ g,a3=some ⟨g,0,none⟩:=by
    obtain ⟨g,cp,cur4,hv,-⟩:=RowH.form K4.out.1 (by rw [← hn4.out];exact hn0)
    injection hv with ha
    exact ⟨g,ha⟩
   subst ha
   obtain ⟨s1,s2,s3⟩:=RowB.short K4.out.1 hn0
   obtain ⟨k1,-⟩:=RowB.at_last K4.out.1 T4 hn4.out.symm hn0
   obtain ⟨q,hq⟩:∃ q,bs.getLastD 0=q:=⟨_,rfl⟩
   rw [hq] at k1
   have HQ:=Lib.hid hq
   have S3:=Lib.hid s3
   have m1:(n4:Int) - 1=((n4 - 1:Nat):Int):=by omega
   have m2:((n4 - 1:Nat):Int)<(n4:Int):=by omega
   have m3:((n4 - 1:Nat):Int)≤(c3:Int):=by omega
   have m4:decide ((0:Int)<(n4:Int))=true:=by simp;omega
   clear hq s3 T4
   by_cases h255:q=255
   ·have d0:((q.toNat:Int) == 255)=true:=by rw [h255];rfl
    have RG:=Lib.hid (RF4.out.trans (noLast255_yes (HQ.out.trans h255)))
    clear h255
    go_wp2_with fail
    go_ret
    first
     | exact ⟨_,H3,rfl,by rw [RG.out];exact S3.out,K4M.out⟩
     | exact ⟨_,rfl,H3,by rw [RG.out];exact S3.out,K4M.out⟩
   ·have d0:((q.toNat:Int) == 255)=false:=by
     have:q.toNat≠255:=fun e=>h255 (UInt8.toNat_inj.1 (by rw [e];rfl))
     exact beq_eq_false_iff_ne.2 (by omega)
    have RG:=Lib.hid (RF4.out.trans (noLast255_no (fun e=>h255 (HQ.out.symm.trans e))))
    clear h255
    go_wp2_with fail
    go_ret
    first
     | exact ⟨_,H3,rfl,by rw [RG.out];exact K4.out.1,K4M.out⟩
     | exact ⟨_,rfl,H3,by rw [RG.out];exact K4.out.1,K4M.out⟩
end
section
open Go.RowKit
theorem rpasses_any (t c l:Nat) (w:World) (ht:t≤100) (hc:1≤c∧c≤100) (hl:l≤200) :
  Calls Tryz.prog 78 #[.int .i64 (t:Int),.int .i64 (c:Int),.int .i64 (l:Int)] w fun e w'=>e=.returned (.int .i64 (passN (t:Int) (c:Int) (l:Int)))∧w'=w:=by
 have hm:min (max (t:Int) 0) 100=(t:Int):=by omega
 by_cases h0:l=0
 ·have e:passN (t:Int) (c:Int) (l:Int)=0:=by unfold passN;rw [if_pos (by omega)]
  rw [e]
  subst h0
  clear hm e ht
  go_enter Tryz.func78,Tryz.ntmps78
  go_wp2_with fail
  go_ret
  exact ⟨rfl,rfl⟩
 ·have d1:decide ((l:Int)<1)=false:=by simp;omega
  by_cases h1:c<l
  ·have e:passN (t:Int) (c:Int) (l:Int)=(t:Int):=by
    unfold passN
    rw [if_neg (by omega),if_neg (by omega),if_pos (by omega)]
    exact hm
   rw [e]
   have d2:decide ((c:Int)<(l:Int))=true:=by simp;omega
   clear hm e ht h0
   go_enter Tryz.func78,Tryz.ntmps78
   go_wp2_with fail
   go_ret
   exact ⟨rfl,rfl⟩
  ·have e:passN (t:Int) (c:Int) (l:Int)=(t:Int) * (l:Int) / (c:Int):=by
    unfold passN
    rw [if_neg (by omega),if_neg (by omega),if_neg (by omega),hm,show min (l:Int) 100=(l:Int) by omega,show min (c:Int) 100=(c:Int) by omega]
   have hq:t * l≤100 * 200:=Nat.mul_le_mul ht hl
   have b1:(t:Int) * (l:Int)≤20000:=by exact_mod_cast hq
   have b2:0≤(t:Int) * (l:Int):=by exact_mod_cast Nat.zero_le (t * l)
   have hd:(t:Int) * (l:Int) / (c:Int)≤(t:Int) * (l:Int):=Int.ediv_le_self _ b2
   have hd0:0≤(t:Int) * (l:Int) / (c:Int):=Int.ediv_nonneg b2 (by omega)
   have hw:wrap64 (Int.tdiv ((t:Int) * (l:Int)) (c:Int))=(t:Int) * (l:Int) / (c:Int):=by
    rw [Int.tdiv_eq_ediv_of_nonneg b2]
    exact IntWalk.wrap64_in _ ⟨by omega,by omega⟩
   have HW:=Lib.hid (And.intro hw e)
   have d2:decide ((c:Int)<(l:Int))=false:=by simp;omega
   have hc0:¬ c=0:=by omega
   clear hm e ht h0 hd hd0 hq hw
   go_enter Tryz.func78,Tryz.ntmps78
   go_wp2_with fail
   go_ret
   refine ⟨?_,rfl⟩
   rw [HW.out.2,← HW.out.1]
   rfl
end
section
open Go.RowKit
def noDefer (ops:Array Oper):Bool:=ops.all fun o=>match o.op with | .defer _=>false | _=>true
theorem noDefer_at {ops:Array Oper} (h:noDefer ops=true) {i:Nat} {o:Oper} (hi:ops[i]?=some o):∀ c,o.op≠.defer c:=by
 intro c hc
 unfold noDefer at h
 rw [Array.all_eq_true] at h
 obtain ⟨h1,h2⟩:=Array.getElem?_eq_some_iff.1 hi
 have:=h i h1
 rw [h2,hc] at this
 cases this
theorem oper_round {P:Program} {o:Oper} {a:Act} {w:World} {K K':Act→World→Prop} {Q:Exit→Act→World→Prop} {l n:Nat} (hd:∀ c,o.op≠.defer c) (hK:∀ a w,K a w→K' a w) (h:o.wp P a w K Q):o.wpIn (Fence.wide.inRound l) n P a w K' Q:=by
 unfold Oper.wpIn
 refine ⟨fun f _=>trivial,?_⟩
 rw [show (Fence.wide.inRound l).round=some l from rfl,Oper.semAt_some l _ _ hd]
 unfold Oper.wp at h
 generalize (execOp a.eval o).run P w=r at h ⊢
 cases r with
 | ok x w' =>
  cases x with
  | value v=>exact hK _ _ h
  | skip=>exact hK _ _ h
  | defer d=>exact hK _ _ h
  | enter f args =>
   refine ⟨fun e=>(by simp [Fence.wide] at e),?_⟩
   refine CallsIn.inRound l (callsIn_wide.2 (Calls.mono h ?_))
   intro e w'' he
   cases e with
   | returned v=>exact hK _ _ he
   | panicked c=>exact he
   | outgrown=>exact he
  | row row args =>
   refine ⟨fun e=>(by simp [Fence.wide] at e),?_⟩
   intro c cs _
   obtain ⟨v,w2,hr,hs⟩:=h c cs
   exact ⟨v,w2,hK _ _ hr,stepsIn_wide.2 hs⟩
  | round l f tmps assign body=>exact h.elim
  | _=>exact h.elim
 | halt x w' =>
  cases x with
  | panic v=>exact h
  | _=>exact h.elim
theorem any_round {P:Program} {md:Region.Mode} {ops:Array Oper} {Q:Exit→Act→World→Prop} (l n:Nat) (hd:noDefer ops=true) (hl:¬LetsOut Q):∀ (f:Nat) (listed:Array Bool) (a:Act) (w:World),wpAny P md ops Q f listed a w→wpAnyIn (Fence.wide.inRound l) n P md ops Q f listed a w
 | 0,_,_,_,h=>h
 | f+1,listed,a,w,h=>by
  refine ⟨h.1,fun i hi=>?_⟩
  have h2:=h.2 i hi
  unfold wpOp at h2
  unfold wpOpIn
  cases ho:ops[i]? with
  | none =>
   rw [ho] at h2
   exact any_round l n hd hl f _ _ _ h2
  | some o =>
   rw [ho] at h2
   simp only at h2 ⊢
   split
   ·rename_i hw
    rw [if_pos hw] at h2
    rcases h2 with h2 | h2
    ·exact oper_round (noDefer_at hd ho) (fun a w k=>any_round l n hd hl f _ a w k) h2
    ·exact absurd h2.2 hl
   ·rename_i hw
    rw [if_neg hw] at h2
    exact ⟨fun f _=>trivial,any_round l n hd hl f _ _ _ h2⟩
theorem round_still_tail {P:Program} {l k id:Nat} {Q:Exit→Act→World→Prop} {a:Act} {w:World} {ops:List Oper} (n:Nat) (hm:P.follows .mixedOrders=true) (hd:noDefer ops.toArray=true) (hl:¬LetsOut Q) (hB:Region.lexTailB .any ops.toArray n=true)
  (h:wpStill P ops.toArray { w with drawn:=w.drawn+1 } (fun a'=>wpList P ops.toArray Q (ops.drop n) a' { w with drawn:=w.drawn+1 }) (ops.take n) a):(Code.region id ops.toArray true).wpIn (Fence.wide.inRound l) k P Q a w:=by
 simp only [Region.lexTailB,Bool.and_eq_true,decide_eq_true_eq] at hB
 obtain ⟨⟨⟨⟨hsel,hn⟩,hs⟩,hc⟩,hlex⟩:=hB
 have hn':n<ops.length:=by simpa using hn
 have htl:(ops.take n).length=n:=by simp;omega
 have hdl:(ops.drop n).length=ops.toArray.size - n:=by simp
 have inv0:HeadInv .any ops.toArray n (Array.replicate ops.toArray.size false) :=
  ⟨by simp,fun j oj _ hl=>(by rw [getD_replicate_false] at hl;cases hl),fun t _ ht=>getD_in (by simpa using ht) (getD_replicate_false _ _)⟩
 have H:=wpAnyL_lex (md:=.any) (g:=ops.toArray.size - n) hsel hs hc hn (ops.take n) 0 _ a (fun j hj=>by
  have hj':j<n:=by rw [htl] at hj;exact hj
  simp [hj']) (by simpa using htl) inv0 (by rw [htl];exact hlex) h
 refine wpIn_region_any hm (any_round l k hd hl _ _ _ _ ?_)
 have:=wpAny_of_head (Q':=Q) (g:=ops.toArray.size - n) (fun listed a' hL=>by
  have:=wpAny_of_seq (md:=.any) (Q':=Q) (ops.drop n) n listed a' { w with drawn:=w.drawn+1 } (fun j=>by simp [List.getElem?_drop]) (by rw [hdl];exact hL.1) hL.2
  rwa [hdl] at this) _ _ _ H
 rw [htl,show n+(ops.toArray.size - n)=ops.toArray.size by omega] at this
 exact this
end
section
open Go.RowKit
section
variable {P:Program} {ops:Array Oper} {md:Region.Mode} {C:World→Prop}
def hdAny (P:Program) (md:Region.Mode) (ops:Array Oper) (C:World→Prop) (n:Nat) (L:Array Bool→Act→Prop):Nat→Array Bool→Act→Prop
 | 0,listed,a=>L listed a
 | f+1,listed,a=>Region.ready md ops listed≠[]∧∀ i∈Region.ready md ops listed,i<n∧qOp P ops C i (hdAny P md ops C n L f (listed.setIfInBounds i true)) a
theorem any_of_hd {n g:Nat} {L:Array Bool→Act→Prop} {Q:Exit→Act→World→Prop} (hL:∀ listed a w,C w→L listed a→wpAny P md ops Q g listed a w) :
  ∀ (f:Nat) (listed:Array Bool) (a:Act) (w:World),C w→hdAny P md ops C n L f listed a→wpAny P md ops Q (f+g) listed a w
 | 0,listed,a,w,hw,h=>by rw [Nat.zero_add];exact hL _ _ _ hw h
 | f+1,listed,a,w,hw,h=>by
  rw [show f+1+g=(f+g)+1 by omega]
  exact ⟨fun h0=>absurd h0 h.1,fun i hi=>wpOp_of_qOp hw (fun a' w' hw' h'=>any_of_hd hL f _ a' w' hw' h') (h.2 i hi).2⟩
theorem hd_first {n i:Nat} {oi:Oper} {v:Value} {L:Array Bool→Act→Prop} (hi:ops[i]?=some oi) (hsel:∀ (j:Nat) (o:Oper) cs b,ops[j]?=some o→o.op≠.select cs b)
  (hs:Region.sinkB md ops n=true) (hc:Region.chainB md ops n=true) (hn:n<ops.size) (hin:i<n) (hdone:∀ listed a,L listed a→∀ j∈Region.ready md ops listed,n≤j) :
  ∀ (f:Nat) (listed:Array Bool) (a:Act),HeadInv md ops n listed →
   (∀ j oj,ops[j]?=some oj→j≠i→listed.getD j true=false→(∀ e∈oj.after,Region.binds md e=true→e.on≠i)→oi.apart ops oj=true) →
   i∈Region.ready md ops listed→YieldsIn P ops C oi v a→hdAny P md ops C n L f (listed.setIfInBounds i true) (a.put oi.dst v)→hdAny P md ops C n L (f+1) listed a:=by
 intro f
 induction f with
 | zero =>
  intro listed a inv hfree hr hy H
  refine ⟨fun e=>(by rw [e] at hr;cases hr),fun j hj=>?_⟩
  have hlt:j<n:=Nat.lt_of_not_le fun hge=>tail_waits hs hc hn inv _ i rfl hin (Go.mem_ready.1 hr).1 j hge hj
  by_cases e:j=i
  ·subst e
   exact ⟨hlt,hy.qOp hi H⟩
  ·exact absurd (hdone _ _ H j (ready_mono hj e)) (by omega)
 | succ f ih =>
  intro listed a inv hfree hr hy H
  refine ⟨fun e=>(by rw [e] at hr;cases hr),fun j hj=>?_⟩
  have hun:=(Go.mem_ready.1 hr).1
  have hlt:j<n:=Nat.lt_of_not_le fun hge=>tail_waits hs hc hn inv _ i rfl hin hun j hge hj
  by_cases e:j=i
  ·subst e
   exact ⟨hlt,hy.qOp hi H⟩
  ·obtain ⟨hjun,oj,hoj,hall⟩:=Go.mem_ready.1 hj
   have hnot:∀ d∈oj.after,Region.binds md d=true→d.on≠i:=by
    intro d hd hb h1
    have h2:=hall d hd hb
    rw [h1,getD_both hun] at h2
    cases h2
   refine ⟨hlt,qOp_mono (fun a' h3=>?_) (qOp_put hoj (hfree j oj hoj e hjun hnot) (fun cs b=>hsel i oi cs b hi) (fun cs b=>hsel j oj cs b hoj) hy (H.2 j (ready_mono hj e)).2)⟩
   refine ih _ a' (inv.set hj hlt) (fun k ok hk hki hkun hno=>hfree k ok hk hki ?_ hno) (ready_mono hr fun h=>e h.symm) h3.1 ?_
   ·by_cases hjk:j=k
    ·subst hjk;exact hjun
    ·rwa [getD_set_ne true hjk] at hkun
   ·rw [Array.setIfInBounds_comm _ _ e]
    exact h3.2
theorem hd_lex {n g:Nat} {Lq:Act→Prop} (hsel:Region.noSelect ops=true) (hs:Region.sinkB md ops n=true) (hc:Region.chainB md ops n=true) (hn:n<ops.size) :
  ∀ (l:List Oper) (k:Nat) (listed:Array Bool) (a:Act),(∀ j,j<l.length→l[j]?=ops[k+j]?)→k+l.length=n→HeadInv md ops n listed →
  Region.lexHead md ops g l.length k listed=true→wpQuiet P ops C Lq l a→hdAny P md ops C n (fun listed' a'=>Region.seqB md ops g n listed'=true∧Lq a') l.length listed a
 | [],k,listed,a,_,hk,_,hB,h=>by
  have e:k=n:=by simpa using hk
  rw [← e]
  exact ⟨by simpa [Region.lexHead] using hB,h⟩
 | o::l,k,listed,a,hl,hk,inv,hB,h=>by
  have h0:ops[k]?=some o:=by simpa using (hl 0 (by simp)).symm
  rw [List.length_cons] at hk
  have hkn:k<n:=by omega
  simp only [List.length_cons,Region.lexHead,Bool.and_eq_true] at hB
  have hr:k∈Region.ready md ops listed:=by simpa using hB.1.1
  have hq:qOp P ops C k (wpQuiet P ops C Lq l) a:=by
   unfold qOp
   simp only [h0]
   exact h
  obtain ⟨v,hy,hK⟩:=yieldsIn_of_qOp h0 hq
  refine hd_first h0 (Region.noSelect_spec hsel) hs hc hn hkn (fun _ _ hL=>seqB_ready hL.1) l.length listed a inv (Region.free_spec h0 hB.1.2) hr hy ?_
  refine hd_lex hsel hs hc hn l (k+1) _ _ (fun j hj=>?_) (by omega) (inv.set hr hkn) hB.2 hK
  have:=hl (j+1) (by simp;omega)
  simpa [Nat.add_assoc,Nat.add_comm 1 j] using this
theorem any_quiet_tail {Q:Exit→Act→World→Prop} {a:Act} {w:World} {l:List Oper} (n:Nat) (hB:Region.lexTailB .any l.toArray n=true) (hC:C w)
  (h:wpQuiet P l.toArray C (fun a'=>∀ w',C w'→wpList P l.toArray Q (l.drop n) a' w') (l.take n) a):wpAny P .any l.toArray Q l.toArray.size (Array.replicate l.toArray.size false) a w:=by
 simp only [Region.lexTailB,Bool.and_eq_true,decide_eq_true_eq] at hB
 obtain ⟨⟨⟨⟨hsel,hn⟩,hs⟩,hc⟩,hlex⟩:=hB
 have hn':n<l.length:=by simpa using hn
 have htl:(l.take n).length=n:=by simp;omega
 have hdl:(l.drop n).length=l.toArray.size - n:=by simp
 have inv0:HeadInv .any l.toArray n (Array.replicate l.toArray.size false) :=
  ⟨by simp,fun j oj _ hl=>(by rw [getD_replicate_false] at hl;cases hl),fun t _ ht=>getD_in (by simpa using ht) (getD_replicate_false _ _)⟩
 have H:=hd_lex (C:=C) (md:=.any) (g:=l.toArray.size - n) hsel hs hc hn (l.take n) 0 _ a (fun j hj=>by
  have hj':j<n:=by rw [htl] at hj;exact hj
  simp [hj']) (by simpa using htl) inv0 (by rw [htl];exact hlex) h
 have:=any_of_hd (Q:=Q) (g:=l.toArray.size - n) (fun listed a' w' hw' hL=>by
  have:=wpAny_of_seq (md:=.any) (Q':=Q) (l.drop n) n listed a' w' (fun j=>by simp [List.getElem?_drop]) (by rw [hdl];exact hL.1) (hL.2 w' hw')
  rwa [hdl] at this) _ _ _ w hC H
 rw [htl,show n+(l.toArray.size - n)=l.toArray.size by omega] at this
 exact this
theorem round_quiet_tail {l k id:Nat} {Q:Exit→Act→World→Prop} {a:Act} {w:World} {ops:List Oper} (n:Nat) (C:World→Prop) (hm:P.follows .mixedOrders=true) (hd:noDefer ops.toArray=true) (hl:¬LetsOut Q) (hC:C { w with drawn:=w.drawn+1 }) (hB:Region.lexTailB .any ops.toArray n=true)
  (h:wpQuiet P ops.toArray C (fun a'=>∀ w',C w'→wpList P ops.toArray Q (ops.drop n) a' w') (ops.take n) a):(Code.region id ops.toArray true).wpIn (Fence.wide.inRound l) k P Q a w :=
 wpIn_region_any hm (any_round l k hd hl _ _ _ _ (any_quiet_tail n hB hC h))
theorem plain_quiet_tail {id:Nat} {Q:Exit→Act→World→Prop} {a:Act} {w:World} {ops:List Oper} (n:Nat) (C:World→Prop) (hm:P.follows .mixedOrders=true) (hC:C { w with drawn:=w.drawn+1 }) (hB:Region.lexTailB .any ops.toArray n=true)
  (h:wpQuiet P ops.toArray C (fun a'=>∀ w',C w'→wpList P ops.toArray Q (ops.drop n) a' w') (ops.take n) a):(Code.region id ops.toArray true).wp P Q a w :=
 wp_region_any hm (any_quiet_tail n hB hC h)
end
end
section
open Go.RowKit
section
variable {P:Program} {ops:Array Oper} {C:World→Prop} {Q:Act→Prop} {a:Act} {o:Oper} {rest:List Oper}
theorem qc_pass (hw:Region.wanted o (yielded ops a.tmps)=false) (h:wpQuiet P ops C Q rest (a.put o.dst undef)):wpQuiet P ops C Q (o::rest) a:=by
 show if _ then _ else _
 rw [if_neg (by rw [hw];simp)]
 exact h
theorem qc_one (v:Value) (hw:Region.wanted o (yielded ops a.tmps)=true) (hv:∀ w,C w→o.quietAt P a C w v) (h:wpQuiet P ops C Q rest (a.put o.dst v)):wpQuiet P ops C Q (o::rest) a:=by
 show if _ then _ else _
 rw [if_pos hw]
 exact ⟨v,hv,h⟩
theorem qc_val {w:World} {v:Value} (h:(execOp a.eval o).run P w=.ok (.value v) w):o.quietAt P a C w v:=by
 unfold Oper.quietAt
 rw [h]
 exact ⟨rfl,rfl⟩
theorem qc_skip {w:World} (h:(execOp a.eval o).run P w=.ok .skip w):o.quietAt P a C w undef:=by
 unfold Oper.quietAt
 rw [h]
 exact ⟨rfl,rfl⟩
theorem qc_call {w:World} {v:Value} {f:FuncId} {args:Array Value} (h:(execOp a.eval o).run P w=.ok (.enter f args) w) (hc:Calls P f args w fun e w''=>e=.returned v∧C w''):o.quietAt P a C w v:=by
 unfold Oper.quietAt
 rw [h]
 exact ⟨rfl,hc⟩
end
end
end Go.Proofs.YtjngfhgakokejaaGreat
