/- PacketReads: part 7. -/
import Derived.Test.YtjngfhgakokejaaGreatRq06
set_option maxRecDepth 100000
set_option maxHeartbeats 8000000
set_option linter.all false
namespace Go.Proofs.YtjngfhgakokejaaGreat
open Value renaming int→i_,slice→s_,pointer→p_,bool→b_,agg→g_,tuple→t_
open IntKind renaming i64→l_
open Ending renaming returned→r_
open Tryz renaming prog→P_
open Option renaming some→S_,none→N_
open Bool renaming true→T_,false→F_
section
open Go.RowKit
theorem aao(s:Nat)(w:World)(hs:s≤63):(Calls P_ 116 #[i_ l_ s,i_ l_ 4] w fun e w'=>e=r_ (b_ (s.testBit 2))∧w'=w)∧(Calls P_ 116 #[i_ l_ s,i_ l_ 1] w fun e w'=>e=r_ (b_ (s.testBit 0))∧w'=w):=by
 have V1:=Yf s hs;have V4:=adS s hs;constructor
 ·rcases(dB (s.testBit 2)).symm with h|h
  ·rw[h]at V4⊢;simp only[aI,iJ]at V4;go_enter Tryz.func116,Tryz.ntmps116;go_wp2_with fail;go_ret;exact⟨rfl,rfl⟩
  ·rw[h]at V4⊢;simp only[ji]at V4;go_enter Tryz.func116,Tryz.ntmps116;go_wp2_with fail;go_ret;exact⟨rfl,rfl⟩
 ·rcases(dB (s.testBit 0)).symm with h|h
  ·rw[h]at V1⊢;simp only[aI,iJ]at V1;go_enter Tryz.func116,Tryz.ntmps116;go_wp2_with fail;go_ret;exact⟨rfl,rfl⟩
  ·rw[h]at V1⊢;simp only[ji]at V1;go_enter Tryz.func116,Tryz.ntmps116;go_wp2_with fail;go_ret;exact⟨rfl,rfl⟩
theorem ae4(k:Nat):(k%3=0→wS k=2)∧(k%3=1→wS k=0)∧(k%3=2→wS k=1):=by unfold wS;refine⟨fun h=>?_,fun h=>?_,fun h=>?_⟩<;>split<;>omega
theorem Tq(s k:Nat)(w:World)(hs:s≤63)(hk:k≤1000):Calls P_ 92 #[i_ l_ s,i_ l_ k] w fun e w'=>e=r_ (b_ (uH s k))∧w'=w:=by
 have H4:=af (fun W=>(aao s W hs).1);have H1:=af (fun W=>(aao s W hs).2);obtain⟨m0,m1,m2⟩:=ae4 k;have d0:decide ((k:Int)<0)=F_:=by simp
 obtain⟨E,hE⟩:=X_ (uH s k);rw[hE];have HE:=af hE;unfold uH at HE;clear hE;obtain⟨b2,hb2⟩:∃b,s.testBit 2=b:=⟨_,rfl⟩;obtain⟨b0,hb0⟩:∃b,s.testBit 0=b:=⟨_,rfl⟩;rw[hb2]at H4 HE;rw[hb0]at H1 HE;cases b2
 ·cases b0
  ·have r:E=F_:=by rw[←HE.out];rfl
   rw[r];clear m0 m1 m2 r HE hb2 hb0;go_enter Tryz.func92,Tryz.ntmps92;go_wp2_with (first|(go_at_call 116;(with_reducible refine(H4.out _).mono ?_);rintro e w' ⟨rfl,rfl⟩)|(go_at_call 116;(with_reducible refine(H1.out _).mono ?_);rintro e w' ⟨rfl,rfl⟩));go_ret;exact⟨rfl,rfl⟩
  ·have h3:k%3<3:=kP _ (by decide);rcases(show k%3=0∨k%3=1∨k%3=2 by omega)with h|h|h
   ·have hm:(k:Int)%3=0:=by omega
    by_cases h9:9≤k
    ·have r:E=T_:=by rw[←HE.out,m0 h,aQ h9];rfl
     have d1:decide ((9:Int)≤k)=T_:=by simp;omega
     rw[r];clear m0 m1 m2 r HE hb2 hb0 h h3 h9;go_enter Tryz.func92,Tryz.ntmps92;go_wp2_with (first|(go_at_call 116;(with_reducible refine(H4.out _).mono ?_);rintro e w' ⟨rfl,rfl⟩)|(go_at_call 116;(with_reducible refine(H1.out _).mono ?_);rintro e w' ⟨rfl,rfl⟩));go_ret;exact⟨rfl,rfl⟩
    ·have r:E=F_:=by rw[←HE.out,m0 h,aW h9];rfl
     have d1:decide ((9:Int)≤k)=F_:=by simp;omega
     rw[r];clear m0 m1 m2 r HE hb2 hb0 h h3 h9;go_enter Tryz.func92,Tryz.ntmps92;go_wp2_with (first|(go_at_call 116;(with_reducible refine(H4.out _).mono ?_);rintro e w' ⟨rfl,rfl⟩)|(go_at_call 116;(with_reducible refine(H1.out _).mono ?_);rintro e w' ⟨rfl,rfl⟩));go_ret;exact⟨rfl,rfl⟩
   ·have hm:(k:Int)%3=1:=by omega
    have r:E=F_:=by rw[←HE.out,m1 h];rfl
    rw[r];clear m0 m1 m2 r HE hb2 hb0 h h3;go_enter Tryz.func92,Tryz.ntmps92;go_wp2_with (first|(go_at_call 116;(with_reducible refine(H4.out _).mono ?_);rintro e w' ⟨rfl,rfl⟩)|(go_at_call 116;(with_reducible refine(H1.out _).mono ?_);rintro e w' ⟨rfl,rfl⟩));go_ret;exact⟨rfl,rfl⟩
   ·have hm:(k:Int)%3=2:=by omega
    by_cases h9:10≤k
    ·have r:E=T_:=by rw[←HE.out,m2 h,aQ h9];rfl
     have d1:decide ((10:Int)≤k)=T_:=by simp;omega
     rw[r];clear m0 m1 m2 r HE hb2 hb0 h h3 h9;go_enter Tryz.func92,Tryz.ntmps92;go_wp2_with (first|(go_at_call 116;(with_reducible refine(H4.out _).mono ?_);rintro e w' ⟨rfl,rfl⟩)|(go_at_call 116;(with_reducible refine(H1.out _).mono ?_);rintro e w' ⟨rfl,rfl⟩));go_ret;exact⟨rfl,rfl⟩
    ·have r:E=F_:=by rw[←HE.out,m2 h,aW h9];rfl
     have d1:decide ((10:Int)≤k)=F_:=by simp;omega
     rw[r];clear m0 m1 m2 r HE hb2 hb0 h h3 h9;go_enter Tryz.func92,Tryz.ntmps92;go_wp2_with (first|(go_at_call 116;(with_reducible refine(H4.out _).mono ?_);rintro e w' ⟨rfl,rfl⟩)|(go_at_call 116;(with_reducible refine(H1.out _).mono ?_);rintro e w' ⟨rfl,rfl⟩));go_ret;exact⟨rfl,rfl⟩
 ·have r:E=T_:=by rw[←HE.out];rfl
  rw[r];clear m0 m1 m2 r HE hb2 hb0;go_enter Tryz.func92,Tryz.ntmps92;go_wp2_with (first|(go_at_call 116;(with_reducible refine(H4.out _).mono ?_);rintro e w' ⟨rfl,rfl⟩)|(go_at_call 116;(with_reducible refine(H1.out _).mono ?_);rintro e w' ⟨rfl,rfl⟩));go_ret;exact⟨rfl,rfl⟩
end
section
open Go.RowKit Go.Shelf
attribute [local go_sem] jR
def pcs(ah cO:Nat):Nat→Nat→Nat→List (Nat×Nat)
 |0,_,_=>[]
 |f+1,k,b=>if uH ah k||decide (k+1=cO)then(b,k+1)::pcs ah cO f (k+1) (k+1)else pcs ah cO f (k+1) b
def dV(ah from_ cO:Nat):List (Nat×Nat):=pcs ah cO (cO-from_) from_ from_
def Vq(W:World)(fb tb sb ah from_ cO:Nat):Prop:=W.cell? ⟨fb,0,N_⟩=S_ (i_ l_ from_)∧W.cell? ⟨tb,0,N_⟩=S_ (i_ l_ cO)∧W.cell? ⟨sb,0,N_⟩=S_ (i_ l_ ah)
theorem Vq.below{W W':World}{fb tb sb ah from_ cO:Nat}(h:Vq W fb tb sb ah from_ cO)(hb:Below W.heap.size W W'):Vq W' fb tb sb ah from_ cO:=by have key:∀(p:Addr) (v:Value),W.cell? p=S_ v→W'.cell? p=S_ v:=fun p v hv=>(hb.cell (gZ W p hv)).trans hv;exact⟨key _ _ h.1,key _ _ h.2.1,key _ _ h.2.2⟩
theorem Zz(n:Nat)(hn:1≤n)(l fb tb sb ah from_ cO:Nat)(hs:ah≤63)(hft:from_≤cO)(ht:cO≤1000)(J Jx:List (Nat×Nat)→World→Prop)
 (hY:∀pre x W,J pre W→x∈dV ah from_ cO→pre.length<(dV ah from_ cO).length→YieldAt Fence.wide (n-1) P_ l #[i_ l_ x.1,i_ l_ x.2] W fun e W'=>(e=r_ (b_ T_)∧J (pre++[x]) W'∧(Vq W fb tb sb ah from_ cO→Vq W' fb tb sb ah from_ cO))∨(e=r_ (b_ F_)∧Jx (pre++[x]) W'))
 (W:World) (hR:Vq W fb tb sb ah from_ cO) (h0:J [] W):
 CallsIn Fence.wide n P_ 128 #[.func (.yield l) #[] #[],p_ (S_ ⟨fb,0,N_⟩),p_ (S_ ⟨tb,0,N_⟩),p_ (S_ ⟨sb,0,N_⟩)] W fun e W'=>(∃v,e=r_ v)∧((∃ys,ys=dV ah from_ cO∧J ys W')∨(∃pre,pre<+:dV ah from_ cO∧Jx pre W')):=by
 refine callsIn_of_wp Tryz.func128 rfl trivial ?_ rfl;simp only[Tryz.ntmps128,pJ,List.length_cons,List.length_nil,Nat.reduceAdd,Nat.reduceSub,oD,Array.replicate_zero,rW,qw,List.nil_append,List.cons_append];obtain⟨PM,hPM⟩:=X_ (dV ah from_ cO);rw[hPM]at hY⊢;obtain⟨c0,c1,c2⟩:=hR;have KR:Hid (Vq W fb tb sb ah from_ cO):=af ⟨c0,c1,c2⟩;have HP:=af hPM;have EA:=af (fun k W (hk:k≤1000)=>Tq ah k W hs hk);clear hPM;gi_wp2;gi_loopw [5,6] (fun s5 s6 wr=>∃(k b:Nat) (pre:List (Nat×Nat)),from_≤k∧k≤cO∧s6=i_ l_ k∧s5=i_ l_ b∧J pre wr∧Vq wr fb tb sb ah from_ cO∧pre++pcs ah cO (cO-k) k b=PM) (fun _ s6 _=>cO-(intOf s6).toNat)
 case atStart=>exact⟨from_,from_,[],aN _,hft,rfl,rfl,h0,KR.out,HP.out⟩
 case round=>
  obtain⟨k,b,pre,hk1,hk2,rfl,rfl,hJ,hr,hpre⟩:=hrel;obtain⟨c0,c1,c2⟩:=hr;by_cases hlt:k<cO
  ·have d1:decide ((k:Int)<cO)=T_:=by simp;omega
   obtain⟨f,hf⟩:∃f,cO-k=f+1:=⟨cO-k-1,by omega⟩;have hf2:f=cO-(k+1):=by omega
   rw[hf,pcs,hf2]at hpre;have EK:=af (fun W=>EA k W (by omega));have KJ:Hid (J pre wr∧Vq wr fb tb sb ah from_ cO):=af ⟨hJ,c0,c1,c2⟩;have e1:(cO:Int)-1=((cO-1:Nat):Int):=by omega
   clear hJ hf hf2;obtain⟨en,hen⟩:=X_ (uH ah k);rw[hen]at EK hpre;have YD:Hid ((en||decide (k+1=cO))=T_→(b,k+1)∈PM∧pre.length<PM.length∧(pre++[(b,k+1)])++pcs ah cO (cO-(k+1)) (k+1) (k+1)=PM):=af (by intro h;rw[aK h]at hpre;rw[←hpre];refine⟨aS _ aG,by rw[au,List.length_cons];omega,by simp⟩);have YN:Hid ((en||decide (k+1=cO))=F_→pre++pcs ah cO (cO-(k+1)) (k+1) b=PM):=af (by intro h;rw[aJ (by rw[h];simp)]at hpre;exact hpre);clear hpre;cases en
   ·by_cases hkn:k+1=cO
    ·have h3:(F_||decide (k+1=cO))=T_:=by rw[aQ hkn];rfl
     obtain⟨y1,y2,y3⟩:=YD h3;have d2:decide ((k:Int)<((cO-1:Nat):Int))=F_:=by simp;omega
     obtain⟨fn,tmps,assign,body,hy,hR⟩:=hY _ (b,k+1) wr KJ.1 y1 y2;simp only at hy;rw[show((k+1:Nat):Int)=k+1 from by push_cast;rfl]at hy;have hg:¬k<cO-1:=by omega
     have HR:=af hR;have HY3:=af y3;clear y1 y2 y3 hR h3 hkn;gi_wp2_with (refine⟨trivial,?_⟩;gi_at_call 92;refine(iH.2 (EK _)).mono ?_;rintro e w2 ⟨rfl,rfl⟩);refine HR.mono ?_;rintro e W3 (⟨rfl,hJ3,hk3⟩|⟨rfl,hJx3⟩)
     ·have K3:=dS hJ3 (hk3 KJ.2);clear hJ3 hk3;gi_wp2;go_roundw
      case rel=>exact⟨k+1,k+1,pre++[(b,k+1)],by omega,by omega,by simp,by push_cast;rfl,K3.1,K3.2,HY3.out⟩
      case measure=>simp[intOf];omega
     ·have KX:=af hJx3;clear hJx3;gi_wp2;refine dU (bH rfl _ _ _) rfl ?_;exact⟨⟨_,rfl⟩,.inr ⟨_,⟨_,HY3.out⟩,KX.out⟩⟩
    ·have h3:(F_||decide (k+1=cO))=F_:=by rw[aW hkn];rfl
     have d2:decide ((k:Int)<((cO-1:Nat):Int))=T_:=by simp;omega
     have HPR:=af (YN h3);have hg:k<cO-1:=by omega
     clear h3 hkn;gi_wp2_with (refine⟨trivial,?_⟩;gi_at_call 92;refine(iH.2 (EK _)).mono ?_;rintro e w2 ⟨rfl,rfl⟩);go_roundw
     case rel=>exact⟨k+1,b,pre,by omega,by omega,by simp,rfl,KJ.1,KJ.2,HPR.out⟩
     case measure=>simp[intOf];omega
   ·have h3:(T_||decide (k+1=cO))=T_:=rfl;obtain⟨y1,y2,y3⟩:=YD h3;obtain⟨fn,tmps,assign,body,hy,hR⟩:=hY _ (b,k+1) wr KJ.1 y1 y2;simp only at hy;rw[show((k+1:Nat):Int)=k+1 from by push_cast;rfl]at hy;have HR:=af hR;have HY3:=af y3;clear y1 y2 y3 hR h3;gi_wp2_with (refine⟨trivial,?_⟩;gi_at_call 92;refine(iH.2 (EK _)).mono ?_;rintro e w2 ⟨rfl,rfl⟩);refine HR.mono ?_;rintro e W3 (⟨rfl,hJ3,hk3⟩|⟨rfl,hJx3⟩)
    ·have K3:=dS hJ3 (hk3 KJ.2);clear hJ3 hk3;gi_wp2;go_roundw
     case rel=>exact⟨k+1,k+1,pre++[(b,k+1)],by omega,by omega,by simp,by push_cast;rfl,K3.1,K3.2,HY3.out⟩
     case measure=>simp[intOf];omega
    ·have KX:=af hJx3;clear hJx3;gi_wp2;refine dU (bH rfl _ _ _) rfl ?_;exact⟨⟨_,rfl⟩,.inr ⟨_,⟨_,HY3.out⟩,KX.out⟩⟩
  ·obtain rfl:k=cO:=by omega
   rw[iI,pcs,dD]at hpre;have d1:decide ((k:Int)<k)=F_:=by simp
   gi_wp2;go_end0;exact⟨⟨_,rfl⟩,.inl ⟨_,rfl,by rw[←hpre];exact hJ⟩⟩
abbrev uz(ah from_ cO:Nat):={x:Nat×Nat//x∈dV ah from_ cO}
theorem UF(n:Nat)(hn:1≤n)(fb tb sb ah from_ cO:Nat)(hs:ah≤63)(hft:from_≤cO)(ht:cO≤1000)(w:World)(hR:Vq w fb tb sb ah from_ cO):SeqStopsK Fence.wide n P_ 128 #[p_ (S_ ⟨fb,0,N_⟩),p_ (S_ ⟨tb,0,N_⟩),p_ (S_ ⟨sb,0,N_⟩)] (fun x:uz ah from_ cO=>#[i_ l_ x.1.1,i_ l_ x.1.2]) (fun W W'=>Vq W fb tb sb ah from_ cO→Vq W' fb tb sb ah from_ cO) (fun ys=>ys.map (·.1)=dV ah from_ cO) (fun pre=>pre.map (·.1)<+:dV ah from_ cO) (dV ah from_ cO).length w:=by
 intro l J Jx W hW _ _ hY h0;refine(Zz n hn l fb tb sb ah from_ cO hs hft ht (fun pre W=>∃pre':List (uz ah from_ cO),pre'.map (·.1)=pre∧J pre' W) (fun pre W=>∃pre':List (uz ah from_ cO),pre'.map (·.1)=pre∧Jx pre' W) ?_ W (hR.below hW) ⟨[],rfl,h0⟩).mono ?_
 ·rintro pre x W1 ⟨pre',rfl,hJ⟩ hx hlen;obtain⟨fn,tmps,assign,body,hy,hr⟩:=hY pre' ⟨x,hx⟩ W1 hJ (by simpa using hlen);refine⟨fn,tmps,assign,body,hy,hr.mono ?_⟩;rintro e W' (⟨rfl,h1,h2⟩|⟨rfl,h1⟩)
  ·exact .inl ⟨rfl,⟨_,by simp,h1⟩,h2⟩
  ·exact .inr ⟨rfl,_,by simp,h1⟩
 ·rintro e W' ⟨hv,⟨ys,rfl,ys',h1,h2⟩|⟨pre,hp,pre',h1,h2⟩⟩
  ·exact⟨hv,.inl ⟨ys',h1,h2⟩⟩
  ·exact⟨hv,.inr ⟨pre',by show List.map (fun x=>x.1) pre'<+:dV ah from_ cO;rw[h1];exact hp,h2⟩⟩
theorem Vq.put{fb tb sb ah from_ cO:Nat}(W:World)(l:Nat)(o o':Obj)(hl:W.heap[l]?=S_ o)(ho:o.isCells=F_)(h:Vq W fb tb sb ah from_ cO):Vq (W.putObj l o') fb tb sb ah from_ cO:=by have key:∀(p:Addr) (v:Value),W.cell? p=S_ v→(W.putObj l o').cell? p=S_ v:=fun p v hv=>(cell_kept hv (grownBy_putObj' W l o') (fun r e=>by cases e;exact⟨o,hl,ho⟩));exact⟨key _ _ h.1,key _ _ h.2.1,key _ _ h.2.2⟩
def ZF{α:Type}(w0:World)(H0:List HB)(P:List α→List HB→Prop)(pre:List α):Exit→Act→World→Prop
 | .normal,_,W'=>∃H',P pre H'∧Mv w0 H0 W' H'
 |_,_,_=>False
theorem UC{n:Nat}(hn:3≤n){g:Operand}{ps:Array Tmp}{assign body:Code}{Q:Exit→Act→World→Prop}{a:Act}{w:World}(w0:World)(H0:List HB)(hsz:w0.heap.size≤w.heap.size)
 {fb tb sb ah from_ cO:Nat} (hs:ah≤63) (hft:from_≤cO) (ht:cO≤1000) (hg:a.eval g=.func (.func 128) #[] #[p_ (S_ ⟨fb,0,N_⟩),p_ (S_ ⟨tb,0,N_⟩),p_ (S_ ⟨sb,0,N_⟩)]) (hps:ps.size=2)
 (P:List (uz ah from_ cO)→List HB→Prop) (hP:∀pre H W,P pre H→Sat W H→Vq W fb tb sb ah from_ cO)
 (h0:∃H,P [] H∧Mv w0 H0 w H) (a₁:uz ah from_ cO→Act)
 (hassign:∀(l:Nat) (x:uz ah from_ cO) (W:World) (K:Act→World→Prop),K (a₁ x) W→assign.wpIn (Fence.wide.inRound l) (n-1-1) P_ (Exit.then K (fun _ _ _=>False)) {tmps:=(ps.zip #[i_ l_ x.1.1,i_ l_ x.1.2]).foldl (fun t (p,v)=>t.setIfInBounds p v) a.tmps,defers:=[]} W)
 (hbody:∀(l:Nat) (pre:List (uz ah from_ cO)) (x:uz ah from_ cO) (W:World) (H:List HB),(∃r,W.heap[l]?=S_ (.loop r))→P pre H→Sat W H→pre.length<(dV ah from_ cO).length→body.wpIn (Fence.wide.inRound l) (n-1-1) P_ (ZF W H P (pre++[x])) (a₁ x) W)
 (hdone:∀(K:Nat) (ys:List (uz ah from_ cO)) (W:World) (H:List HB),w0.heap.size≤K→ys.map (·.1)=dV ah from_ cO→P ys H→Mv w0 H0 W H→W.heap[K]?=S_ (.deferred (S_ []))→Q .normal {a with defers:={target:=.collected K,args:=#[]}::a.defers} W):
 (Code.rangeFunc g ps assign body).wpIn Fence.wide n P_ Q a w:=by
 obtain⟨Hi,hPi,hMi⟩:=h0;refine wpIn_rangeFunc_ownH (F:=Fence.wide) rfl (by omega) hg trivial (enters_of Tryz.func128 (by kernel_rfl) rfl) (UF (n-1) (by omega) fb tb sb ah from_ cO hs hft ht w (hP _ _ _ hPi hMi.sat))
  (fun{X Y Z} h k s=>k (h s)) (fun W l o o' _ hl ho _ hs=>Vq.put W l o o' hl ho hs) (Below.refl _ _) (fun _=>by simpa using hps.symm)
  (fun pre W=>∃H,P pre H∧Mv w0 H0 W H) (fun _ _ _=>False) (Jt P hsz) (fun c=>?_) ⟨Hi,hPi,hMi⟩
  (fun x a' W=>a'=a₁ x) (fun x a'=>?_) ?_ ?_ ?_ ?_
 ·rintro s W W' row h hg hr;exact h
 ·rintro s W W' row h hgr hr;exact h
 ·rintro l pre x W K ⟨H,hPp,hM⟩ hK;exact hassign l x W K (hK _ _ ⟨aN _,fun _ _ _ h _=>h⟩ (fun hs=>hs) ⟨H,hPp,hM⟩ rfl)
 ·rintro l pre x a' W hl hr ⟨H,hPp,hM⟩ rfl hlen;refine wpIn_mono (hbody l pre x W H hr hPp hM.sat hlen) ?_;rintro e a3 W3 hp;cases e with
  |normal=>obtain⟨H',h1,h2⟩:=hp;exact⟨h2.MM hM.sat _,fun _=>hP _ _ _ h1 h2.sat,H',h1,hM.trans h2⟩
  |ret=>exact hp.elim
  |exit id=>exact hp.elim
  |goto t=>exact hp.elim
  |panic ch=>exact hp.elim
  |outgrown=>exact hp.elim
 ·rintro K ys W hK hS ⟨H,h1,h2⟩ hk;exact hdone K ys W H (by omega) hS h1 h2 hk
 ·rintro K c pre W hK hS h hk;exact h.elim
end
section
open Go.RowKit Go.Shelf
attribute [local go_sem] jR
def sizesM(ends:List Int):Int→List (Nat×Nat)→List Int
 |_,[]=>[]
 |was,p::r=>(ends.getD (p.2-1) 0-was)::sizesM ends (ends.getD (p.2-1) 0) r
def IJ(ends:List Int):Int→List (Nat×Nat)→Int
 |was,[]=>was
 |_,p::r=>IJ ends (ends.getD (p.2-1) 0) r
theorem Gz(ends:List Int)(p:Nat×Nat):∀(was:Int) (l:List (Nat×Nat)),sizesM ends was (l++[p])=sizesM ends was l++[ends.getD (p.2-1) 0-IJ ends was l]
 |was,[]=>rfl
 |was,q::l=>by simp only[List.cons_append,sizesM,IJ,Gz ends p]
theorem LJ(ends:List Int)(p:Nat×Nat):∀(was:Int) (l:List (Nat×Nat)),IJ ends was (l++[p])=ends.getD (p.2-1) 0
 |was,[]=>rfl
 |was,q::l=>by simp only[List.cons_append,IJ,LJ ends p]
def rZ(ends:List Int)(from_:Nat):Int:=if from_=0 then 0 else ends.getD (from_-1) 0
def jT(l:List (Nat×Nat)):List Int:=l.map fun p=>(p.2:Int)-p.1
theorem ZE(ah cO:Nat):∀(f k b:Nat),b≤k→f=cO-k→∀p∈pcs ah cO f k b,b≤p.1∧p.1<p.2∧p.2≤cO
 |0,k,b,_,_,p,h=>by cases h
 |f+1,k,b,hb,hf,p,h=>by
  rw[pcs]at h;split at h
  ·rcases aC.1 h with rfl|h
   ·exact⟨aN _,by simp only;omega,by simp only;omega⟩
   ·have:=ZE ah cO f (k+1) (k+1) (aN _) (by omega) p h;omega
  ·have:=ZE ah cO f (k+1) b (by omega) (by omega) p h;omega
theorem SH(ah from_ cO:Nat)(p:Nat×Nat)(h:p∈dV ah from_ cO):from_≤p.1∧p.1<p.2∧p.2≤cO:=ZE ah cO _ _ _ (aN _) rfl p h
theorem zC(ah cO:Nat):∀(f k b:Nat),(pcs ah cO f k b).length≤f
 |0,_,_=>aN _
 |f+1,k,b=>by
  rw[pcs];split
  ·have:=zC ah cO f (k+1) (k+1);rw[List.length_cons];omega
  ·have:=zC ah cO f (k+1) b;omega
theorem Zy(ah from_ cO:Nat)(w:World):Calls P_ 110 #[i_ l_ ah,i_ l_ from_,i_ l_ cO] w fun e w'=> ∃sb fb tb,e=r_ (.func (.func 128) #[] #[p_ (S_ ⟨fb,0,N_⟩),p_ (S_ ⟨tb,0,N_⟩),p_ (S_ ⟨sb,0,N_⟩)])∧Mv w [] w' [⟨tb,3,#[i_ l_ cO]⟩,⟨fb,3,#[i_ l_ from_]⟩,⟨sb,3,#[i_ l_ ah]⟩]:=by have M:=((iF w 3 #[i_ l_ ah]).alloc 3 #[i_ l_ from_]).alloc 3 #[i_ l_ cO];simp only[jV]at M;have K:=af M;clear M;go_enter Tryz.func110,Tryz.ntmps110;go_wp2_with fail;go_ret;exact⟨_,_,_,rfl,K.out⟩
theorem uK(ends:List Int):∀(was:Int) (l:List (Nat×Nat)),(sizesM ends was l).length=l.length
 |_,[]=>rfl
 |_,_::l=>by simp only[sizesM,List.length_cons,uK ends _ l]
theorem Ui(ends:List Int)(h:∀i,0≤ends.getD i 0∧ends.getD i 0≤100000000):∀(was:Int) (l:List (Nat×Nat)),(0≤was∧was≤100000000)→0≤IJ ends was l∧IJ ends was l≤100000000
 |_,[],hw=>hw
 |_,_p::l,_=>Ui ends h _ l (h _)
theorem Kr(ends:List Int)(h:∀e∈ends,0≤e∧e≤100000000)(i:Nat):0≤ends.getD i 0∧ends.getD i 0≤100000000:=by
 rw[ax];cases hx:ends[i]? with
 |none=>exact⟨by simp,by simp⟩
 |some x=>exact h x (aF hx)
theorem Uj(ends:List Int)(h:∀e∈ends,0≤e∧e≤100000000)(from_:Nat):0≤rZ ends from_∧rZ ends from_≤100000000:=by
 unfold rZ;split
 ·exact⟨by omega,by omega⟩
 ·exact Kr ends h _
theorem Rj{n:Nat}(hn:3≤n){g:Operand}{p q:Tmp}(p' q':Tmp){assign body:Code}{Q:Exit→Act→World→Prop}{a:Act}{w:World}(w0:World)(H0:List HB)(hsz:w0.heap.size≤w.heap.size)
 {fb tb sb ah from_ cO:Nat} (hs:ah≤63) (hft:from_≤cO) (ht:cO≤1000) (hg:a.eval g=.func (.func 128) #[] #[p_ (S_ ⟨fb,0,N_⟩),p_ (S_ ⟨tb,0,N_⟩),p_ (S_ ⟨sb,0,N_⟩)])
 (P:List (uz ah from_ cO)→List HB→Prop) (hP:∀pre H W,P pre H→Sat W H→Vq W fb tb sb ah from_ cO)
 (h0:∃H,P [] H∧Mv w0 H0 w H)
 (hassign:∀(l:Nat) (x y:Nat) (W:World) (K:Act→World→Prop),K {tmps:=(((a.tmps.setIfInBounds p (i_ l_ x)).setIfInBounds q (i_ l_ y)).setIfInBounds p' (i_ l_ x)).setIfInBounds q' (i_ l_ y),defers:=[]} W→assign.wpIn (Fence.wide.inRound l) (n-1-1) P_ (Exit.then K (fun _ _ _=>False)) {tmps:=(a.tmps.setIfInBounds p (i_ l_ x)).setIfInBounds q (i_ l_ y),defers:=[]} W)
 (hbody:∀(l:Nat) (pre:List (uz ah from_ cO)) (x:Nat×Nat) (hx:x∈dV ah from_ cO) (W:World) (H:List HB),(∃r,W.heap[l]?=S_ (.loop r))→P pre H→Sat W H→pre.length<(dV ah from_ cO).length→body.wpIn (Fence.wide.inRound l) (n-1-1) P_ (ZF W H P (pre++[⟨x,hx⟩])) {tmps:=(((a.tmps.setIfInBounds p (i_ l_ x.1)).setIfInBounds q (i_ l_ x.2)).setIfInBounds p' (i_ l_ x.1)).setIfInBounds q' (i_ l_ x.2),defers:=[]} W)
 (hdone:∀(K:Nat) (ys:List (uz ah from_ cO)) (W:World) (H:List HB),w0.heap.size≤K→ys.map (·.1)=dV ah from_ cO→P ys H→Mv w0 H0 W H→W.heap[K]?=S_ (.deferred (S_ []))→Q .normal {a with defers:={target:=.collected K,args:=#[]}::a.defers} W):
 (Code.rangeFunc g #[p,q] assign body).wpIn Fence.wide n P_ Q a w:=
 UC hn w0 H0 hsz hs hft ht hg rfl P hP h0 (fun x=>{tmps:=(((a.tmps.setIfInBounds p (i_ l_ x.1.1)).setIfInBounds q (i_ l_ x.1.2)).setIfInBounds p' (i_ l_ x.1.1)).setIfInBounds q' (i_ l_ x.1.2),defers:=[]})
  (fun l x W K hK=>by have:=hassign l x.1.1 x.1.2 W K hK;simpa using this)
  (fun l pre x W H hr h1 h2 h3=>hbody l pre x.1 x.2 W H hr h1 h2 h3) hdone
theorem Ri{P:Program}{fn:Func}{p q:Tmp}{tp tq:TypeId}(h:fn.results=#[.cell p tp,.cell q tq])(tmps:Array Value)(w:World):(results fn tmps).run P w=((asAddr (tmps.getD p undef)).run P w).andThen fun a w₁=>((loadVar tp a).run P w₁).andThen fun u w₂=>((asAddr (tmps.getD q undef)).run P w₂).andThen fun b w₃=>((loadVar tq b).run P w₃).andThen fun v w₄=>.ok (t_ #[u,v]) w₄:=by simp only[results,h];simp[rQ,Result.andThen]
theorem VL(tmps:Array Value)(w:World)(g1 g2:Nat)(a1 a2:Option Addr)(n1 c1 n2 c2:Nat)(h8:tmps.getD 8 undef=p_ (S_ ⟨g1,0,N_⟩))(h9:tmps.getD 9 undef=p_ (S_ ⟨g2,0,N_⟩))(b1:w.cell? ⟨g1,0,N_⟩=S_ (s_ a1 n1 c1))(b2:w.cell? ⟨g2,0,N_⟩=S_ (s_ a2 n2 c2)):(results Tryz.f75 tmps).run P_ w=.ok (t_ #[s_ a1 n1 c1,s_ a2 n2 c2]) w:=by rw[Ri (p:=8) (q:=9) (tp:=38) (tq:=38) rfl,h8,h9];simp only[asAddr];go_simp
def Du(g0 g3 _n:Nat)(ev:Value)(was:Int)(tb fb sb ah from_ cO:Nat)(He:List HB):List HB:=⟨g3,3,#[i_ l_ was]⟩::⟨g0,38,#[ev]⟩::⟨tb,3,#[i_ l_ cO]⟩::⟨fb,3,#[i_ l_ from_]⟩::⟨sb,3,#[i_ l_ ah]⟩::He
def akf(g0 g3 n:Nat)(ev:Value)(ends:List Int)(tb fb sb ah from_ cO:Nat)(He:List HB)(pre:List (uz ah from_ cO))(H:List HB):Prop:= ∃a1 c1 H1 a2 c2 H2,jy (s_ a1 pre.length c1) (jT (pre.map (·.1))) H1∧jy (s_ a2 pre.length c2) (sizesM ends (rZ ends from_) (pre.map (·.1))) H2∧H=H1++(⟨g0+1,38,#[s_ a1 pre.length c1]⟩::(H2++(⟨g0+2,38,#[s_ a2 pre.length c2]⟩::Du g0 g3 n ev (IJ ends (rZ ends from_) (pre.map (·.1))) tb fb sb ah from_ cO He)))
theorem aiX(K:Act→World→Prop)(from_ n ec g0:Nat)(ea:Option Addr)(w:World){s0 s2 s3 s4 s5 s6 s8 s9 s10 s11 s12 s13 s14 s15 s16 l9 kH kS s20 lF lC s23 s24 kZ s26 kW kR kY lu lJ lK lI lL lD s36 lY lX mG ni mZ mY s43 s44 nI mF nH nK s49 mD mg lW s53 mX mQ mP mO nX nJ oU oQ pO:Value}(hfn:from_≤n)(hc:w.cell? ⟨g0,0,N_⟩=S_ (s_ ea n ec))
 (hK:∀(t19 t20 t21 t22 t23 t24 t25:Value),K ⟨List.toArray (s0::(i_ l_ from_)::s2::s3::s4::s5::s6::(p_ (S_ ⟨g0,0,N_⟩))::s8::s9::s10::s11::s12::s13::s14::s15::s16::l9::kH::t19::t20::t21::t22::t23::t24::t25::(b_ (decide (0<from_)))::kW::kR::kY::lu::lJ::lK::lI::lL::lD::s36::lY::lX::mG::ni::mZ::mY::s43::s44::nI::mF::nH::nK::s49::mD::mg::lW::s53::mX::mQ::mP::mO::nX::nJ::oU::oQ::pO::[]),[]⟩ w):
 (dQ 3 Tryz.f75).wp P_ (Exit.then K qX) ⟨List.toArray (s0::(i_ l_ from_)::s2::s3::s4::s5::s6::(p_ (S_ ⟨g0,0,N_⟩))::s8::s9::s10::s11::s12::s13::s14::s15::s16::l9::kH::kS::s20::lF::lC::s23::s24::kZ::s26::kW::kR::kY::lu::lJ::lK::lI::lL::lD::s36::lY::lX::mG::ni::mZ::mY::s43::s44::nI::mF::nH::nK::s49::mD::mg::lW::s53::mX::mQ::mP::mO::nX::nJ::oU::oQ::pO::[]),[]⟩ w:=by
 conv in(dQ _ _)=>whnf
 unfold qX;have HK:=af hK;clear hK;by_cases h1:0<from_
 ·have d1:decide ((0:Int)<from_)=T_:=by simp;omega
  have d2:decide ((from_:Int)≤n)=T_:=by simp;omega
  rw[aQ h1]at HK;go_wp2_with fail;exact HK _ _ _ _ _ _ _
 ·have d1:decide ((0:Int)<from_)=F_:=by simp;omega
  rw[aW h1]at HK;go_wp2_with fail;exact HK _ _ _ _ _ _ _
theorem Us(ah from_ cO:Nat)(ends:List Int)(ev:Value)(He:List HB)(w:World)(hs:ah≤63)(hft:from_≤cO)(hto:cO≤ends.length)(hl:ends.length≤1000)(he:∀e∈ends,0≤e∧e≤100000000)(hev:jy ev ends He)(Oa:Sat w He):Calls P_ 75 #[i_ l_ ah,i_ l_ from_,i_ l_ cO,ev] w fun e w'=>∃v1 v2 H1 H2,e=r_ (t_ #[v1,v2])∧jy v1 (jT (dV ah from_ cO)) H1∧jy v2 (sizesM ends (rZ ends from_) (dV ah from_ cO)) H2∧Mv w He w' (H1++(H2++He)):=by
 obtain⟨ea,ec,rfl⟩:=hev.slice;obtain⟨n,hn⟩:=X_ (ends.length);rw[hn]at hev hto hl⊢;obtain⟨F1,hF1⟩:∃L,jT (dV ah from_ cO)=L:=⟨_,rfl⟩;obtain⟨F2,hF2⟩:∃L,sizesM ends (rZ ends from_) (dV ah from_ cO)=L:=⟨_,rfl⟩;rw[hF1,hF2];have HF1:=af hF1;have HF2:=af hF2;clear hF1 hF2;refine(iH (n:=8)).1 ?_;refine callsIn_of_wp_marks Tryz.func75 rfl trivial ?_ rfl;simp only[Tryz.ntmps75,pJ,List.length_cons,List.length_nil,Nat.reduceAdd,Nat.reduceSub,oD,Array.replicate_zero,rW,qw,List.nil_append,List.cons_append];have M1:=(((Mv.refl Oa).alloc 38 #[s_ ea n ec]).alloc 38 #[s_ N_ 0 0]).alloc 38 #[s_ N_ 0 0];simp only[jV]at M1;have KE:=nY hev he hn;have m1:(if(0:Int)<from_ then(from_:Int)else 0)=(from_:Int):=by split<;>omega
 have m2:(if(n:Int)<cO then(n:Int)else(cO:Int))=(cO:Int):=by split<;>omega
 have K1:=af M1;clear M1 hev he hn Oa;refine wpIn_wide.2 ?_;go_upto_region 1 with fail;go_quiet (fail);have M3:=K1.drewN nq;clear K1 m1 m2;obtain⟨g0,hg0⟩:∃g,w.heap.size=g:=⟨_,rfl⟩;rw[hg0]at M3⊢;have HG0:=af hg0;clear hg0;generalize(((w.alloc (.cells #[s_ ea n ec] 38)).alloc (.cells #[s_ N_ 0 0] 38)).alloc (.cells #[s_ N_ 0 0] 38)).drewN nq=w1 at*;have M4:=M3.alloc 3 #[i_ l_ 0];have c0:(w1.alloc (.cells #[i_ l_ 0] 3)).cell? ⟨g0,0,N_⟩=S_ (s_ ea n ec):=M4.cell 3 rfl 0;obtain⟨g3,hg3⟩:∃g,w1.heap.size=g:=⟨_,rfl⟩;rw[hg3]at M4;have KM:=af M4;have HG3:=af hg3;clear M3 M4;go_upto_region 3 with fail;clear hg3;generalize w1.alloc (.cells #[i_ l_ 0] 3)=w2 at*;refine ik (aiX _ from_ n ec g0 ea w2 (by omega) c0 ?_);rintro _ _ _ _ _ _ _;have GE:Hid (∀i,i<n→ends[i]?=S_ (ends.getD i 0)∧0≤ends.getD i 0∧ends.getD i 0≤100000000):=af (by
  intro i hi;obtain⟨x,h⟩:∃x,ends[i]?=S_ x:=⟨_,ai (by rw[KE.2.2];exact hi)⟩;have e:ends.getD i 0=x:=by rw[ax,h];rfl
  rw[e];exact⟨h,KE.2.1 _ (aF h)⟩)
 go_upto_if 26 with fail;go_cut [26]from 27 (fun _ wx=>Mv w He wx (⟨g3,3,#[i_ l_ (rZ ends from_)]⟩::⟨g0+2,38,#[s_ N_ 0 0]⟩::⟨g0+1,38,#[s_ N_ 0 0]⟩::⟨g0,38,#[s_ ea n ec]⟩::He))
 case first=>
  by_cases h1:from_=0
  ·have d:decide (0<from_)=F_:=by simp;omega
   have e:rZ ends from_=0:=by unfold rZ;rw[aK h1]
   have E:=af e;rw[d];clear d e h1;go_wp2_with fail;go_meet;rw[E.out];exact KM.out
  ·have d:decide (0<from_)=T_:=by simp;omega
   obtain⟨q1,q2,q3⟩:=GE (from_-1) (by omega);have e:rZ ends from_=ends.getD (from_-1) 0:=by unfold rZ;rw[aJ h1]
   obtain⟨eg,rfl⟩:=KE.1.form (by omega);have c1:=KE.1.at_ (Sat.right (A:=[_,_,_,_]) KM.sat) q1;have c3:w2.cell? ⟨g3,0,N_⟩=S_ (i_ l_ 0):=KM.cell 0 rfl 0;have f3:w2.frozen? ⟨g3,0,N_⟩=F_:=KM.frozen 0 rfl 0;have M5:=af (KM.out.set 0 (i_ l_ (ends.getD (from_-1) 0)));have e1:(from_:Int)-1=((from_-1:Nat):Int):=by omega
   have e2:((from_-1:Nat):Int)<n:=by omega
   have E:=af e;rw[d];clear q1 h1 d e;generalize ends.getD (from_-1) 0=eb at*;go_wp2_with fail;go_meet;rw[E.out];exact M5.out
 case rest=>
  have KM5:=af hcut;clear hcut KM c0;go_wp2_with (go_at_call 110;refine(Zy ah from_ cO _).mono ?_;rintro e w6 ⟨sb,fb,tb,rfl,m6⟩;have K6:=af (Mv.call (H:=[]) KM5.out m6);clear m6);have m6:Mv w He w6 ([]++(⟨g0+1,38,#[s_ N_ 0 0]⟩::([]++(⟨g0+2,38,#[s_ N_ 0 0]⟩::Du g0 g3 n (s_ ea n ec) (rZ ends from_) tb fb sb ah from_ cO He)))):=K6.sub (fun g=>by simp only[Du,aP,bK,gI];omega) (fun b hb=>by
   simp only[Du,ay,aC,bP,gQ,false_or]at hb⊢;rcases hb with h|h|h|h|h|h|h|h
   ·exact .inr (.inr (.inr (.inl h)))
   ·exact .inr (.inr (.inl h))
   ·exact .inr (.inl h)
   ·exact .inr (.inr (.inr (.inr (.inl h))))
   ·exact .inl (.inl h)
   ·exact .inl (.inr (.inl h))
   ·exact .inl (.inr (.inr h))
   ·exact .inr (.inr (.inr (.inr (.inr h)))))
  have hsz:=m6.only.size;refine(wpIn_wide (n:=8)).1 ?_;refine Rj (n:=8) (by omega) 11 12 w He hsz hs hft (by omega) rfl (akf g0 g3 n (s_ ea n ec) ends tb fb sb ah from_ cO He) ?pc ⟨_,⟨N_,0,[],N_,0,[],dh.nil _ _,dh.nil _ _,rfl⟩,m6⟩ ?assign ?body ?done
  case pc=>rintro pre H W ⟨a1,c1,H1,a2,c2,H2,-,-,rfl⟩ hs;have s1:=Sat.right (A:=H1) hs;have s2:Sat W (Du g0 g3 n (s_ ea n ec) (IJ ends (rZ ends from_) (pre.map (·.1))) tb fb sb ah from_ cO He):=Sat.right (A:=[_]) (Sat.right (A:=H2) (Sat.right (A:=[_]) s1));exact⟨(s2.at_ 3 rfl).cell 0,(s2.at_ 2 rfl).cell 0,(s2.at_ 4 rfl).cell 0⟩
  case assign=>intro l x y W K hK;simp only[bf,List.set_cons_succ,List.set_cons_zero]at hK⊢;gi_wp2;exact hK
  case body=>
   intro l pre x hx W H hr hP hs hlen;simp only[bf,List.set_cons_succ,List.set_cons_zero];obtain⟨a1,c1,H1,a2,c2,H2,r1,r2,rfl⟩:=hP;obtain⟨p1,p2,p3⟩:=SH ah from_ cO x hx;obtain⟨a,b⟩:=x;simp only at p1 p2 p3;obtain⟨k,hk⟩:=X_ (pre.length);obtain⟨L,hL⟩:=X_ (pre.map (·.1));have hLk:L.length=k:=by rw[←hL,aO,hk]
   have hk1:k≤1000:=by have:=zC ah cO (cO-from_) from_ from_;have h2:pre.length<(pcs ah cO (cO-from_) from_ from_).length:=hlen;omega
   rw[hk,hL]at r1 r2 hs⊢;obtain⟨was,Qe⟩:=X_ (IJ ends (rZ ends from_) L);have hwb:0≤was∧was≤100000000:=by rw[←Qe];exact Ui ends (Kr ends KE.2.1) _ _ (Uj ends KE.2.1 _)
   rw[Qe]at hs⊢;obtain⟨HH,Gn⟩:=X_ (H1++(⟨g0+1,38,#[s_ a1 k c1]⟩::(H2++(⟨g0+2,38,#[s_ a2 k c2]⟩::Du g0 g3 n (s_ ea n ec) was tb fb sb ah from_ cO He))));rw[Gn]at hs⊢;obtain⟨PS,TA⟩:=X_ (ZF W HH (akf g0 g3 n (s_ ea n ec) ends tb fb sb ah from_ cO He) (pre++[⟨(a,b),hx⟩]));have LP:Hid (¬LetsOut PS):=af (by rw[←TA];rintro⟨a,w,h⟩;exact h);rw[TA];have M0:=Mv.refl hs;have M0':Mv W HH W (H1++(⟨g0+1,38,#[s_ a1 k c1]⟩::(H2++(⟨g0+2,38,#[s_ a2 k c2]⟩::Du g0 g3 n (s_ ea n ec) was tb fb sb ah from_ cO He)))):=by rw[Gn];exact M0
   have MA:=(M0'.alloc 3 #[i_ l_ ((b:Int)-a)]).drop1;have z1:W.cell? ⟨g0+1,0,N_⟩=S_ (s_ a1 k c1):=M0'.drop.cell 0 rfl 0;have IVA:=af (ae6 W ((b:Int)-a) _ rfl);have KA:=dS r1 MA;have KR2:=af r2;have amm:b≤1000:=by omega
   have hsl:(jT L).length+[(b:Int)-a].length≤100000000:=by simp only[jT,aO,List.length_cons,List.length_nil];omega
   obtain⟨L1,hL1⟩:=X_ (jT L++[(b:Int)-a]);have HL1:=af hL1;have amr:L1.length=k+1:=by rw[←hL1,au];simp only[jT,aO,List.length_cons,List.length_nil];omega
   have KK:=NU Gn TA hk hL Qe hr;clear r1 r2 M0 M0' MA hL1 Gn TA hk hL Qe hr hs hlen m6 K6 hsz;gi_upto_region 8 with fail;refine L6 (by kernel_rfl) (fun⟨a,w,h⟩=>LP ⟨a,w,h⟩) ?_;go_wp2_with (at_builtin;go_must (refine Gt rfl (.tmp 38) (.tmp 42) rfl _ _ (jT L) [(b:Int)-a] H1 rfl rfl KA.1 KA.2.sat.left IVA hsl ?_;intro v8 w8 H8 Jb m8;rw[HL1.out]at Jb;obtain⟨a8,c8,rfl⟩:=Jb.slice;have K8:=dS Jb (Mv.call KA.2 m8);(have y1:w8.cell? ⟨g0+1,0,N_⟩=S_ (s_ a1 k c1):=(by first|exact K8.2.drop.cell 0 rfl 0));(have y2:w8.frozen? ⟨g0+1,0,N_⟩=F_:=(by first|exact K8.2.drop.frozen 0 rfl 0));clear Jb m8));have M9:Hid (jy (s_ a8 (k+1) c8) L1 H8∧Mv W HH (w8.setCell ⟨g0+1,0,N_⟩ (s_ a8 (k+1) c8)) (H8++(⟨g0+1,38,#[s_ a8 (k+1) c8]⟩::(H2++(⟨g0+2,38,#[s_ a2 k c2]⟩::Du g0 g3 n (s_ ea n ec) was tb fb sb ah from_ cO He))))):=af ⟨by(have:=K8.1;rw[amr]at this;exact this),Mv.setAt (A:=H8) (g:=g0+1) (t:=38) (cs:=#[s_ a1 k c1]) K8.2 0 (s_ a8 (k+1) c8)⟩;clear K8 y1 y2 z1 IVA KA hsl;gi_upto_region 9 with fail;generalize w8.setCell ⟨g0+1,0,N_⟩ (s_ a8 (k+1) c8)=w9 at*;obtain⟨eg,rfl⟩:=KE.1.form (by omega);obtain⟨q1,q2,q3⟩:=GE (b-1) (by omega);obtain⟨eb,heb⟩:=X_ (ends.getD (b-1) 0);rw[heb]at q1 q2 q3;have h2l:=uK ends (rZ ends from_) L;obtain⟨l2,hl2⟩:=X_ (sizesM ends (rZ ends from_) L);rw[hl2]at KR2 h2l;have hlk:l2.length=k:=h2l.trans hLk;obtain⟨X9,hX9⟩:=X_ (Du g0 g3 n (s_ (S_ ⟨eg,0,N_⟩) n ec) was tb fb sb ah from_ cO He++(H8++[⟨g0+1,38,#[s_ a8 (k+1) c8]⟩]));have HX9:=af hX9;have m9:Mv W HH w9 (H2++(⟨g0+2,38,#[s_ a2 l2.length c2]⟩::X9)):=by rw[←hX9,hlk];exact M9.2.Z_
   have sE:∀W',Sat W' X9→W'.cell? ⟨eg,b-1,N_⟩=S_ (i_ l_ eb):=by intro W' h;rw[←hX9]at h;exact KE.1.at_ (Sat.right (A:=[_,_,_,_,_]) h.left) q1
   refine ab6 (by kernel_rfl) (by kernel_rfl) (fun⟨a,w,h⟩=>LP ⟨a,w,h⟩) (aiW _ _ (by kernel_rfl) g0 (g0+2) g3 eg n ec b eb was a2 c2 l2 H2 X9 HH W w9 (by rw[hlk];exact KR2.out) (by omega) (by omega) (by omega) hl ⟨q2,q3⟩ hwb (by rw[←hX9];simp[Du]) (by rw[←hX9];simp[Du]) sE m9 ?_);rintro _ _ _ _ _ _ _ _ _ _ g8 HB9 vv w10 ⟨m10,-⟩ r10 ⟨-,rfl⟩;obtain⟨a10,c10,rfl⟩:=r10.slice;have akV:(l2++[eb-was]).length=k+1:=by rw[au,hlk];rfl
   rw[akV]at r10 m10;rw[←HX9.out]at m10;have m11:Mv W HH w10 (⟨g3,3,#[i_ l_ was]⟩::(⟨g0,38,#[s_ (S_ ⟨eg,0,N_⟩) n ec]⟩::(HB9++(⟨g0+2,38,#[s_ a10 (k+1) c10]⟩::(H8++(⟨g0+1,38,#[s_ a8 (k+1) c8]⟩::(⟨tb,3,#[i_ l_ cO]⟩::⟨fb,3,#[i_ l_ from_]⟩::⟨sb,3,#[i_ l_ ah]⟩::He))))))):=m10.sub (fun g=>by simp only[Du,kN,aP,bK,gI];omega) (fun b hb=>by simp only[Du,kN,ay,aC,bP,gQ]at hb⊢;grind);have x0:w10.cell? ⟨g0,0,N_⟩=S_ (s_ (S_ ⟨eg,0,N_⟩) n ec):=m11.cell 1 rfl 0;have x3:w10.cell? ⟨g3,0,N_⟩=S_ (i_ l_ was):=m11.cell 0 rfl 0;have f3:w10.frozen? ⟨g3,0,N_⟩=F_:=m11.frozen 0 rfl 0;have sHe:Sat w10 He:=by have h1:=m11.drop1.drop1.drop.drop1.drop.sat;exact Sat.right (A:=[_,_,_,_]) h1
   have xe:=KE.1.at_ sHe q1;have e1:(b:Int)-1=((b-1:Nat):Int):=by omega
   have e2:((b-1:Nat):Int)<n:=by omega
   have FIN:Hid (∀a':Act,PS .normal a' (w10.setCell ⟨g3,0,N_⟩ (i_ l_ eb))):=af (by
    intro a';rw[←KK.2.1];have m12:=m11.set 0 (i_ l_ eb);have eP:(pre++[(⟨(a,b),hx⟩:uz ah from_ cO)]).map (·.1)=L++[(a,b)]:=by rw[bU,KK.2.2.2.1];rfl
    have eN:(pre++[(⟨(a,b),hx⟩:uz ah from_ cO)]).length=k+1:=by rw[au,KK.2.2.1];rfl
    refine⟨_,⟨a8,c8,H8,a10,c10,HB9,?_,?_,rfl⟩,?_⟩
    ·rw[eN,eP];have:jT (L++[(a,b)])=L1:=by rw[←HL1.out];simp[jT]
     rw[this];exact M9.1
    ·rw[eN,eP,Gz,hl2,KK.2.2.2.2.1];simp only[heb];exact r10
    ·rw[eN,eP,LJ];simp only[heb];exact m12.sub (fun g=>by simp only[Du,aP,bK];omega) (fun b hb=>by simp only[Du,ay,aC]at hb⊢;grind))
   clear m10 m11 r10 akV sHe q1 heb hl2;gi_upto_region 10 with fail;refine L6 (by kernel_rfl) (fun⟨a,w,h⟩=>LP ⟨a,w,h⟩) ?_;go_wp2_with fail;exact FIN _
  case done=>
   intro K ys W H hK hy hP hM hd;obtain⟨a1,c1,H1,a2,c2,H2,r1,r2,rfl⟩:=hP;rw[hy]at r1 r2 hM;obtain⟨k,hk⟩:=X_ (ys.length);rw[hk]at r1 r2 hM;have hkL:(dV ah from_ cO).length=k:=by rw[←hy,aO,hk]
   have hk1:k≤1000:=by have:=zC ah cO (cO-from_) from_ from_;have h2:(dV ah from_ cO).length=(pcs ah cO (cO-from_) from_ from_).length:=rfl;omega
   have hl1:F1.length=k:=by rw[←HF1.out,jT,aO,hkL]
   have hl2:F2.length=k:=by rw[←HF2.out,uK,hkL]
   rw[HF1.out]at r1;rw[HF2.out]at r2;obtain⟨HH,Gn⟩:=X_ (H1++(⟨g0+1,38,#[s_ a1 k c1]⟩::(H2++(⟨g0+2,38,#[s_ a2 k c2]⟩::Du g0 g3 n (s_ ea n ec) (IJ ends (rZ ends from_) (dV ah from_ cO)) tb fb sb ah from_ cO He))));rw[Gn]at hM;have CE:Hid (∀(W':World) (A:List YtjngfhgakokejaaGreat.HB),Mv w He W' (A++HH)→W'.cell? ⟨g0+1,0,N_⟩=S_ (s_ a1 k c1)∧W'.cell? ⟨g0+2,0,N_⟩=S_ (s_ a2 k c2)∧W'.frozen? ⟨g0+1,0,N_⟩=F_∧W'.frozen? ⟨g0+2,0,N_⟩=F_∧Sat W' H1∧Sat W' H2):=af (by intro W' A m;have s1:Sat W' HH:=m.drop.sat;rw[←Gn]at s1;have b1:=(s1.right).at_ 0 rfl;have s2:=Sat.right (A:=[_]) s1.right;have b2:=(s2.right).at_ 0 rfl;exact⟨b1.cell 0,b2.cell 0,b1.frozen 0,b2.frozen 0,s1.left,s2.left⟩);have hHe:Hid (∀(W':World) (A:List YtjngfhgakokejaaGreat.HB),Mv w He W' (A++HH)→Mv w He W' (A++He)):=af (by
    intro W' A m;refine m.sub (fun g=>?_) (fun b hb=>?_)
    ·rw[←Gn];simp only[Du,aP,bK];omega
    ·rw[←Gn];simp only[Du,ay,aC]at hb⊢;rcases hb with h|h
     ·exact .inl h
     ·exact .inr (.inr (.inr (.inr (.inr (.inr (.inr (.inr (.inr (.inr h))))))))))
   have KD:=zO r1 r2 hM hd;have HLL:=dS hl1 hl2;have HHH:=af Gn;clear r1 r2 hM hd hy hk Gn hkL m6 K6 hsz hl1 hl2;go_upto_region 11 with fail;obtain⟨x1,x2,f1,f2,t1,t2⟩:=CE W.drew [] KD.2.2.1.drew;have T1:=af t1;clear t1 t2;have HS1:Hid (([]:List Int).length+F1.length≤100000000∧([]:List Int).length+F2.length≤100000000):=af ⟨by rw[HLL.1,List.length_nil];omega,by rw[HLL.2,List.length_nil];omega⟩;have RN:jy (s_ N_ 0 0) [] []:=dh.nil _ _;have V1:=af (KD.1.iv T1.out);go_region_law (first
    |((with_reducible refine A8 (o:=⟨some 60,_,_,_,_,_⟩) (v:=.slice none 0 0) (u:=.slice a1 k c1) (l:=[]) (r:=F1) (H:=[]) rfl (.const (.slice none 0 0)) (.tmp 59) rfl ?_ ?_ RN (Sat.nil _) V1.out HS1.out.1 ?_);simp[Act.eval];simp[Act.eval];intro v6 w6 H6 yN m6;replace yN:jy v6 F1 H6:=yN;obtain⟨a6,c6,rfl⟩:=yN.slice;have K6:=nY yN (Mv.call (H:=[]) KD.2.2.1.drew m6) (m6.others (Sat.nil _) K _ KD.2.2.2 (fun c t f e=>by cases e));(have u2:w6.cell? ⟨g0+2,0,N_⟩=S_ (s_ a2 k c2):=(by first|exact(CE w6 H6 K6.2.1).2.1));clear yN m6)
    |((with_reducible refine A8 (o:=⟨some 62,_,_,_,_,_⟩) (v:=.slice none 0 0) (u:=.slice a2 k c2) (l:=[]) (r:=F2) (H:=[]) rfl (.const (.slice none 0 0)) (.tmp 61) rfl ?_ ?_ RN (Sat.nil _) (KD.out.2.1.iv (CE.out w6 H6 K6.out.2.1).2.2.2.2.2) HS1.out.2 ?_);simp[Act.eval];simp[Act.eval];intro v7 w7 H7 hr7 m7;replace hr7:jy v7 F2 H7:=hr7;obtain⟨a7,c7,rfl⟩:=hr7.slice;have K7:=nY hr7 (Mv.call (H:=[]) K6.2.1 m7) (m7.others (Sat.nil _) K _ K6.2.2 (fun c t f e=>by cases e));(have y1:w7.cell? ⟨g0+1,0,N_⟩=S_ (s_ a1 k c1):=(by first|exact(CE w7 (H7++H6) (by rw[az];exact K7.2.1)).1));(have y2:w7.cell? ⟨g0+2,0,N_⟩=S_ (s_ a2 k c2):=(by first|exact(CE w7 (H7++H6) (by rw[az];exact K7.2.1)).2.1));(have y3:w7.frozen? ⟨g0+1,0,N_⟩=F_:=(by first|exact(CE w7 (H7++H6) (by rw[az];exact K7.2.1)).2.2.1));(have y4:w7.frozen? ⟨g0+2,0,N_⟩=F_:=(by first|exact(CE w7 (H7++H6) (by rw[az];exact K7.2.1)).2.2.2.1));clear hr7 m7))
   all_goals
    obtain⟨SX,hSX⟩:=X_ (Du g0 g3 n (s_ ea n ec) (IJ ends (rZ ends from_) (dV ah from_ cO)) tb fb sb ah from_ cO He);have HSX:=af hSX;have m9:Mv w He w7 ((H7++(H6++H1))++⟨g0+1,38,#[s_ a1 k c1]⟩::(H2++(⟨g0+2,38,#[s_ a2 k c2]⟩::SX))):=by have h:Mv w He w7 (H7++(H6++HH)):=K7.2.1;rw[←HHH.out,hSX]at h;simpa only[az]using h
    have m10:Mv w He (w7.setCell ⟨g0+1,0,N_⟩ (s_ a6 F1.length c6)) ((H7++(H6++H1))++⟨g0+1,38,#[s_ a6 F1.length c6]⟩::(H2++(⟨g0+2,38,#[s_ a2 k c2]⟩::SX))):=Mv.setAt m9 0 (s_ a6 F1.length c6);have m11:Mv w He (w7.setCell ⟨g0+1,0,N_⟩ (s_ a6 F1.length c6)) (((H7++(H6++H1))++(⟨g0+1,38,#[s_ a6 F1.length c6]⟩::H2))++⟨g0+2,38,#[s_ a2 k c2]⟩::SX):=by simpa only[az,List.cons_append]using m10
    have m12:Mv w He ((w7.setCell ⟨g0+1,0,N_⟩ (s_ a6 F1.length c6)).setCell ⟨g0+2,0,N_⟩ (s_ a7 F2.length c7)) (((H7++(H6++H1))++(⟨g0+1,38,#[s_ a6 F1.length c6]⟩::H2))++⟨g0+2,38,#[s_ a7 F2.length c7]⟩::SX):=Mv.setAt m11 0 (s_ a7 F2.length c7);have hk:((w7.setCell ⟨g0+1,0,N_⟩ (s_ a6 F1.length c6)).setCell ⟨g0+2,0,N_⟩ (s_ a7 F2.length c7)).heap[K]?=S_ (.deferred (S_ [])):=(KeepsOthers.setCell _ ⟨g0+2,0,N_⟩ _).same K _ ((KeepsOthers.setCell w7 ⟨g0+1,0,N_⟩ _).same K _ K7.2.2 rfl) rfl;have KF:=dS m12 hk;clear m9 m10 m11 m12 hk hSX;obtain⟨w8,hw8⟩:=Y_ ((w7.setCell ⟨g0+1,0,N_⟩ (s_ a6 F1.length c6)).setCell ⟨g0+2,0,N_⟩ (s_ a7 F2.length c7));rw[←hw8]at KF;have e12:(w7.setCell ⟨g0+1,0,N_⟩ (s_ a6 F1.length c6)).setCell ⟨g0+1+1,0,N_⟩ (s_ a7 F2.length c7)=w8:=hw8.symm;rw[e12];clear e12 hw8;go_wp2_with fail;have m13:=KF.1.putObj (.deferred N_) hK KF.2 rfl;have b1:=(m13.kT (x:=⟨g0+1,38,#[s_ a6 F1.length c6]⟩) (cu _ (aS _ aG))).cell 0;have b2:=(m13.kT (x:=⟨g0+2,38,#[s_ a7 F2.length c7]⟩) (aS _ aG)).cell 0;refine⟨by simp,.inl ⟨_,_,rfl,run_takeDeferred KF.2,?_⟩⟩;refine⟨_,VL _ _ (g0+1) (g0+2) a6 a7 _ c6 _ c7 rfl rfl b1 b2,_,_,H6,H7,rfl,K6.1,K7.1,?_⟩;rw[←HSX.out]at m13;exact m13.sub (fun g=>by simp only[Du,aP,bK];omega) (fun c hc=>by
     simp only[Du,ay,aC]at hc⊢;rcases hc with h|h|h
     ·exact .inl (.inl (.inr (.inl h)))
     ·exact .inl (.inl (.inl h))
     ·exact .inr (.inr (.inr (.inr (.inr (.inr (.inr h)))))))
end
section
open Go.RowKit
theorem WZ{n k:Nat}(h:0<n/2^(k+1)):k+1≤n.log2:=by
 have h1:2^(k+1)≤n:=by
  rcases Nat.lt_or_ge n (2^(k+1))with h2|h2
  ·rw[Nat.div_eq_of_lt h2]at h;exact absurd h (by decide)
  ·exact h2
 have h0:n≠0:=by have:=rF (k+1);omega
 exact(Nat.le_log2 h0).2 h1
theorem W9{n k:Nat}(h:¬0<n/2^(k+1))(hk:k≤n.log2):k=n.log2:=by
 have h1:n<2^(k+1):=by
  rcases Nat.lt_or_ge n (2^(k+1))with h2|h2
  ·exact h2
  ·exact absurd (Nat.div_pos h2 (rF _)) h
 by_cases h0:n=0
 ·subst h0;have:Nat.log2 0=0:=by decide
  omega
 ·have:=(uV h0 (k:=k+1)).2 h1;omega
theorem Qa{n:Nat}(h:n≤1000000000000):n.log2≤40:=by
 by_cases h0:n=0
 ·subst h0;decide
 ·have:=(uV h0 (k:=41)).2 (by have:(2:Nat)^41=2199023255552:=rfl;omega);omega
theorem Ib{m q:Nat}(h:0<m/2^q):decide ((0:Int)<m/2^q)=T_:=by
 have e:(m:Int)/2^q=((m/2^q:Nat):Int):=by push_cast;rfl
 rw[e];exact aQ (Int.natCast_pos.2 h)
theorem Ic{m q:Nat}(h:¬0<m/2^q):decide ((0:Int)<m/2^q)=F_:=by
 have e:(m:Int)/2^q=((m/2^q:Nat):Int):=by push_cast;rfl
 rw[e];exact aW (fun hh=>h (Int.natCast_pos.1 hh))
theorem log_any(n:Nat)(w:World)(hn:n≤1000000000000):Calls P_ 77 #[i_ l_ n] w fun e w'=>e=r_ (i_ l_ n.log2)∧w'=w:=by
 have hl:=Qa hn;go_enter Tryz.func77,Tryz.ntmps77;go_wp2_with fail;go_loopg [3] n.log2 (fun m s3 wx=>∃k:Nat,k≤n.log2∧m=n.log2-k∧s3=i_ l_ k∧wx=w)
 case atStart=>exact⟨0,aY _,rfl,rfl,rfl⟩
 case round=>
  obtain⟨k,hk,rfl,rfl,rfl⟩:=hrel;have al8:k+1≤41:=by omega
  by_cases h:0<n/2^(k+1)
  ·have d1:=Ib h;have h2:=WZ h;clear h;go_wp2_with fail;go_roundg (n.log2-(k+1))
   case measure=>omega
   case rel=>exact⟨k+1,h2,rfl,by push_cast;rfl,rfl⟩
  ·have d1:=Ic h;have h2:=af (W9 h hk);clear h;go_wp2_with fail;go_ret;exact⟨by rw[←h2.out];rfl,rfl⟩
def D8(n:Nat):List Bool:=if n<2 then [F_]else if n<3 then ui 2 2 else if n<6 then ui 3 2++ui (n-3:Int) 2 else if n<37 then ui 15 4++ui (n-6:Int) 5 else ui 511 9++ui (n-37:Int) 7
theorem Et(n:Nat):(D8 n).length≤64:=by
 have h:=AY;unfold D8;split
 ·decide
 ·split
  ·have:=h 2 2;omega
  ·split
   ·have h1:=h 3 2;have h2:=h (n-3:Int) 2;rw[au];omega
   ·split
    ·have h1:=h 15 4;have h2:=h (n-6:Int) 5;rw[au];omega
    ·have h1:=h 511 9;have h2:=h (n-37:Int) 7;rw[au];omega
def encT:List bV→Nat→Nat→Int→List bV×Int×List Bool
 | [],_,_,_=>([],0,[])
 |L::R,x,y,b=>
  let r:=encT R (x/2) (y/2) b;let e:=uy (L.at_ x y) r.2.1 b
  (L.qY x y e.1::r.1,e.1.low,r.2.2++e.2)
theorem afD(P:List oq)(x y:Nat)(b:Int):encT (P.map (·.2)) x y b=((encP P x y b).t.map (·.2),(encP P x y b).low,(encP P x y b).bs):=by
 induction P generalizing x y with
 |nil=>rfl
 |cons p R ih=>simp only[bJ,encT,encP,ih]
def encAt(T:List bV)(k:Nat)(b:Int):List bV×List Bool:=
 match T with
 | []=>([],[])
 |L::R=>((encT (L::R) (k%L.w) (k/L.w) b).1,(encT (L::R) (k%L.w) (k/L.w) b).2.2)
theorem Hw(T:List bV)(x y:Nat)(b:Int):(encT T x y b).1.length=T.length∧0≤(encT T x y b).2.1∧(encT T x y b).2.2.length≤T.length*b.toNat:=by have e:=afD (T.map fun L=>(0,L)) x y b;have h:=afE (T.map fun L=>(0,L)) x y b;have s:=(ω (T.map fun L=>(0,L)) x y b).2;rw[jc,show((fun p:oq=>p.2)∘fun L:bV=>((0:Nat),L))=id from rfl,List.map_id]at e;rw[e];rw[aO]at h;have s2:=fM List.length s;simp only[aO]at s2⊢;exact⟨s2,h.1,h.2⟩
theorem Kw(T:List bV)(k:Nat)(b:Int):(encAt T k b).1.length=T.length∧(encAt T k b).2.length≤T.length*b.toNat:=by
 cases T with
 |nil=>exact⟨rfl,aY _⟩
 |cons L R=>exact⟨(Hw _ _ _ _).1,(Hw _ _ _ _).2.2⟩
def zerosE(T:List bV)(k:Nat):Nat→List bV×List Bool
 |0=>(T,[])
 |n+1=>((encAt (zerosE T k n).1 k ((n+1:Nat):Int)).1,(zerosE T k n).2++(encAt (zerosE T k n).1 k ((n+1:Nat):Int)).2)
theorem zS(T:List bV)(k:Nat)(hT:T.length≤20):∀n,n≤64→(zerosE T k n).1.length=T.length∧(zerosE T k n).2.length≤n*1280
 |0,_=>⟨rfl,aY _⟩
 |n+1,h=>by obtain⟨h1,h2⟩:=zS T k hT n (by omega);obtain⟨h3,h4⟩:=Kw (zerosE T k n).1 k ((n+1:Nat):Int);refine⟨h3.trans h1,?_⟩;show((zerosE T k n).2++(encAt (zerosE T k n).1 k ((n+1:Nat):Int)).2).length≤_;rw[au];rw[h1,Int.toNat_natCast]at h4;have h5:T.length*(n+1)≤20*64:=bZ hT h;rw[jW];omega
theorem uF{d:bu}{b:di}{w0 w:World}{H0 X HW:List HB}{g k:Nat}{st:gu}(m:Mv w0 H0 w (HW++(X++b.heap d)))(hx:⟨g,66,dF.cells ⟨d,k⟩⟩∈X)(hst:b.G[k]?=S_ st):
 (w.cell? ⟨g,0,N_⟩=S_ (p_ (S_ ⟨d.lb,k*5,N_⟩))∧w.cell? ⟨g,1,N_⟩=S_ (p_ (S_ ⟨d.bb,0,N_⟩))∧w.cell? ⟨g,2,N_⟩=S_ (i_ l_ k))∧
 (w.cell? ⟨d.bb,1,N_⟩=S_ (i_ l_ b.aH)∧w.cell? ⟨d.bb,2,N_⟩=S_ (p_ (S_ ⟨b.ft,0,N_⟩))∧w.cell? ⟨d.bb,3,N_⟩=S_ (p_ (S_ ⟨b.zt,0,N_⟩)))∧
 (w.cell? ⟨d.lb,k*5,N_⟩=S_ (i_ l_ st.m.pl)∧w.cell? ⟨d.lb,k*5+1,N_⟩=S_ st.vp∧w.cell? ⟨d.lb,k*5+2,N_⟩=S_ st.vb∧w.cell? ⟨d.lb,k*5+3,N_⟩=S_ (i_ l_ st.m.said)∧w.cell? ⟨d.lb,k*5+4,N_⟩=S_ (i_ l_ st.m.lb)∧∀i,w.frozen? ⟨d.lb,i,N_⟩=F_):=by
 have a1:=Mv.kT m (aS _ (cu _ hx));have a2:=Mv.kT m (aS _ (aS _ (b.sF d)));have a3:=Mv.kT m (aS _ (aS _ (b.zH d)));exact⟨⟨a1.cell 0,a1.cell 1,a1.cell 2⟩,⟨a2.cell 1,a2.cell 2,a2.cell 3⟩,uZ a3 hst⟩
def needK(L1 L2:List Int)(lb:Int):Nat→Int
 |0=>lb
 |k+1=>if 0<L2.getD k 0 then max (needK L1 L2 lb k) (((L2.getD k 0).toNat.log2:Int)+1-((L1.getD k 0).toNat.log2:Int))else needK L1 L2 lb k
def Gh(L1 L2:List Int)(lb:Int):Nat→List Bool
 |0=>[]
 |k+1=>Gh L1 L2 lb k++ui (L2.getD k 0) (lb+((L1.getD k 0).toNat.log2:Int))
theorem PY(L1 L2:List Int)(lb:Int)(k:Nat):needK L1 L2 lb (k+1)=if 0<L2.getD k 0 then max (needK L1 L2 lb k) (((L2.getD k 0).toNat.log2:Int)+1-((L1.getD k 0).toNat.log2:Int))else needK L1 L2 lb k:=rfl
theorem FM(L1 L2:List Int)(lb:Int):∀n,(Gh L1 L2 lb n).length≤32*n
 |0=>aY _
 |n+1=>by have h1:=FM L1 L2 lb n;have h2:=AY (L2.getD n 0) (lb+((L1.getD n 0).toNat.log2:Int));rw[Gh,au];omega
theorem WN(L1 L2:List Int)(lb:Int)(h:∀i,L2.getD i 0≤1000000000):∀n,lb≤needK L1 L2 lb n∧needK L1 L2 lb n≤max lb 41
 |0=>⟨gG _,by unfold needK;omega⟩
 |n+1=>by
  obtain⟨h1,h2⟩:=WN L1 L2 lb h n;have h3:=Qa (n:=(L2.getD n 0).toNat) (by have:=h n;omega);rw[needK];split
  ·omega
  ·exact⟨h1,h2⟩
def og.jP(s:og)(said lb:Int):og:={s with said:=said,lb:=lb}
def gu.jP(s:gu)(said lb:Int):gu:={s with m:=s.m.jP said lb}
def di.Ah(b:di)(k:Nat)(s:gu)(said lb:Int):di:={b with G:=b.G.set k (s.jP said lb)}
theorem qI{α:Type}(f:α→List HB){x x':α}(hx:f x'=f x):∀(l:List α) (k:Nat),l[k]?=S_ x→(l.set k x').flatMap f=l.flatMap f
 | [],_,h=>by simp at h
 |y::l,0,h=>by simp only[List.getElem?_cons_zero,dG]at h;subst h;rw[List.set_cons_zero,dE,dE,hx]
 |y::l,k+1,h=>by rw[List.set_cons_succ,dE,dE,qI f hx l k (by simpa using h)]
theorem di.T!{b:di}{d:bu}(ok:b.ok d){k:Nat}{s:gu}(hg:b.G[k]?=S_ s){said lb:Int}(hs:0≤said∧said≤s.m.ps.length)(hl:0≤lb∧lb≤1000):(b.Ah k s said lb).ok d:=by
 refine⟨ok.tf,ok.tz,ok.kf,ok.kz,?_,?_,ok.n,ok.pl,ok.hw,ok.hh⟩
 ·intro x hx;rcases cZ hx with h|rfl
  ·exact ok.st x h
  ·have hso:=ok.st s (aF hg);exact⟨hso.1,hso.2.1,⟨hso.2.2.np,hso.2.2.nb,hso.2.2.pl,hs,hl,hso.2.2.ends⟩⟩
 ·exact(fC ..).trans ok.len
theorem di.Yx(b:di)(k:Nat)(s:gu)(said lb:Int):(b.Ah k s said lb).model={b.model with ss:=b.model.ss.set k (s.m.jP said lb)}:=by simp only[di.Ah,di.model,jb,gu.jP]
theorem di.JQ{b:di}{k:Nat}{s:gu}(hg:b.G[k]?=S_ s)(said lb:Int):(b.Ah k s said lb).G[k]?=S_ (s.jP said lb):=dJ (aj.1 hg).1
theorem di.aa9(b:di)(k:Nat)(s:gu)(said lb said' lb':Int):(b.Ah k s said lb).Ah k (s.jP said lb) said' lb'=b.Ah k s said' lb':=by simp only[di.Ah,gu.jP,og.jP,jo]
theorem di.aba{b:di}{k:Nat}{s:gu}(hg:b.G[k]?=S_ s):b.Ah k s s.m.said s.m.lb=b:=by
 have:s.jP s.m.said s.m.lb=s:=rfl;unfold di.Ah;have e:b.G.set k s=b.G:=by
  apply fU;intro i;rw[fQ];split
  ·rename_i h;subst h;rw[hg,aK (aj.1 hg).1]
  ·rfl
 rw[this,e]
theorem di.agR{b:di}{d:bu}{w0 w:World}{H0 A:List HB}(M:Mv w0 H0 w (A++b.heap d)){k:Nat}{s:gu}(hg:b.G[k]?=S_ s)(said lb:Int)(i:Nat)(v:Value)(hi:i<5)(hv:(s.jP said lb).v=s.v.set i v):Mv w0 H0 (w.setCell ⟨d.lb,k*5+i,N_⟩ v) (A++(b.Ah k s said lb).heap d):=by
 have m1:Mv w0 H0 w ((A++[jU b d])++jY b d::(b.Hf++(b.Hz++b.G.flatMap gu.heap))):=by simpa[di.heap]using M
 have m2:=Mv.setAt m1 (k*5+i) v;have e:(b.G.flatMap gu.v).toArray.setIfInBounds (k*5+i) v=((b.G.set k (s.jP said lb)).flatMap gu.v).toArray:=by rw[bf,jh gu.v 5 gu.jw b.G k s _ hg i hi v hv]
 rw[e]at m2;have e2:(b.Ah k s said lb).heap d=jU b d::⟨d.lb,69,((b.G.set k (s.jP said lb)).flatMap gu.v).toArray⟩::(b.Hf++(b.Hz++b.G.flatMap gu.heap)):=by unfold di.heap;rw[show(b.Ah k s said lb).G.flatMap gu.heap=b.G.flatMap gu.heap from qI gu.heap (x:=s) (x':=s.jP said lb) rfl _ _ hg];rfl
 rw[e2];simpa using m2
theorem aeE(ah cO:Nat):∀(f k b:Nat),f+1=cO-k→pcs ah cO (f+1) k b≠[]
 |0,k,b,h=>by rw[pcs,aK (by simp;omega)];exact List.cons_ne_nil _ _
 |f+1,k,b,h=>by
  rw[pcs];split
  ·exact List.cons_ne_nil _ _
  ·exact aeE ah cO f (k+1) b (by omega)
theorem SB(ah from_ cO:Nat)(h:from_<cO):dV ah from_ cO≠[]:=by unfold dV;obtain⟨f,hf⟩:∃f,cO-from_=f+1:=⟨cO-from_-1,by omega⟩;rw[hf];exact aeE ah cO f from_ from_ hf.symm
theorem Ko(ah from_ cO:Nat)(ht:cO≤1000)(i:Nat):0≤(jT (dV ah from_ cO)).getD i 0∧(jT (dV ah from_ cO)).getD i 0≤1000:=by
 rw[ax];cases hx:(jT (dV ah from_ cO))[i]? with
 |none=>exact⟨by simp,by simp⟩
 |some x=>obtain⟨p,hp,rfl⟩:=bW.1 (aF hx);obtain⟨h1,h2,h3⟩:=SH ah from_ cO p hp;simp only[Option.getD_some];omega
theorem RH(ends:List Int)(h:∀i,0≤ends.getD i 0∧ends.getD i 0≤100000000):∀(was:Int) (l:List (Nat×Nat)),(0≤was∧was≤100000000)→∀e∈sizesM ends was l,-100000000≤e∧e≤100000000
 |_,[],_,e,he=>by cases he
 |was,p::l,hw,e,he=>by
  rw[sizesM]at he;have h1:=h (p.2-1);rcases aC.1 he with rfl|he
  ·omega
  ·exact RH ends h _ l h1 e he
theorem VH(ends:List Int)(h:∀e∈ends,0≤e∧e≤100000000)(from_:Nat)(l:List (Nat×Nat))(i:Nat): -1000000000≤(sizesM ends (rZ ends from_) l).getD i 0∧(sizesM ends (rZ ends from_) l).getD i 0≤1000000000:=by
 rw[ax];cases hx:(sizesM ends (rZ ends from_) l)[i]? with
 |none=>exact⟨by simp,by simp⟩
 |some x=>have:=RH ends (Kr ends h) _ l (Uj ends h from_) x (aF hx);simp only[Option.getD_some];omega
def I7(ah said cO:Nat):List Int:=jT (dV ah said cO)
def zX(s:og)(ah said cO:Nat):List Int:=sizesM (s.ps.map (·.1)) (rZ (s.ps.map (·.1)) said) (dV ah said cO)
def qy(s:og)(ah said cO:Nat):Int:=needK (I7 ah said cO) (zX s ah said cO) s.lb (dV ah said cO).length
def Dt(s:og)(ah said cO:Nat):List Bool:=List.replicate (qy s ah said cO-s.lb).toNat T_++(F_::Gh (I7 ah said cO) (zX s ah said cO) (qy s ah said cO) (dV ah said cO).length)
def yD(m:aT)(k aB said cO:Nat):List bV×List Bool:=if said=0 then encAt m.first k ((aB:Int)+1)else(m.first,ui (if said<cO then 1 else 0) 1)
def Jc(m:aT)(k said:Nat)(s:og):List bV×List Bool:=if said=0 then zerosE m.dA k (max (m.aH-s.pl) 0+1).toNat else(m.dA,[])
def ug(m:aT)(k ah aB said cO:Nat)(s:og):aT×List Bool:=
 if cO=said then({m with first:=(yD m k aB said cO).1},(yD m k aB said cO).2)
 else({m with first:=(yD m k aB said cO).1,dA:=(Jc m k said s).1,ss:=m.ss.set k (s.jP s.said (qy s ah said cO))},(yD m k aB said cO).2++((Jc m k said s).2++(D8 (cO-said)++Dt s ah said cO)))
theorem Kq(m:aT)(k aB said cO:Nat)(hT:m.first.length≤20)(hl:aB≤100):(yD m k aB said cO).2.length≤3000:=by
 unfold yD;split
 ·have h:=(Kw m.first k ((aB:Int)+1)).2;have h2:m.first.length*((aB:Int)+1).toNat≤20*101:=bZ hT (by omega);omega
 ·have:=AY (if said<cO then 1 else 0) 1;simp only;omega
theorem UR(m:aT)(k said:Nat)(s:og)(hT:m.dA.length≤20)(hz:max (m.aH-s.pl) 0+1≤64):(Jc m k said s).2.length≤90000:=by
 unfold Jc;split
 ·have:=(zS m.dA k hT (max (m.aH-s.pl) 0+1).toNat (by omega)).2;omega
 ·simp only[List.length_nil];omega
theorem xJ(ah from_ cO:Nat):(dV ah from_ cO).length≤cO-from_:=zC ah cO (cO-from_) from_ from_
theorem lU{P:Program}{c:Code}{Q:Exit→Act→World→Prop}{a:Act}{w:World}(h:c.wp P (Exit.then (fun a w=>Q .normal a w) qX) a w):c.wp P Q a w:=by
 refine wp_mono h ?_;intro e a' w' hq;cases e with
 |normal=>exact hq
 |_=>exact hq.elim
def nV(l:List UInt8)(m:aT)(s:og)(k aB:Nat)(r:jG):aT×Bool×jG:=
 if s.ps.length=0 then({m with first:=(iR l m.first k ((aB:Int)+1) r).1},(iR l m.first k ((aB:Int)+1) r).2.1,(iR l m.first k ((aB:Int)+1) r).2.2)
 else(m,decide ((eY l r).1=1),(eY l r).2)
theorem afm(d:bu)(b:di)(k rb aB:Nat)(st:gu)(l:List UInt8)(r:jG)(HR:List HB)(w:World)
 (ok:b.ok d) (hkn:k<d.n) (hst:b.G[k]?=S_ st) (hr:jA rb l r HR) (hs:Sat w (HR++b.heap d)) (hly:aB≤100) (hll:l.length≤90000000) (hrb:r.begun≤70000000) (Jb:r.left≤8):
 Calls P_ 89 #[dF.v ⟨d,k⟩,p_ (S_ ⟨rb,0,N_⟩),i_ l_ aB] w fun e w'=>e=r_ (b_ (nV l b.model st.m k aB r).2.1)∧ ∃(b':di) (HR':List HB),b'.ok d∧b'.model=(nV l b.model st.m k aB r).1∧b'.G=b.G∧jA rb l (nV l b.model st.m k aB r).2.2 HR'∧Mv w (HR++b.heap d) w' (HR'++b'.heap d):=by
 have hkk:k<4096:=eH hkn ok.small;have hso:=ok.st st (aF hst);obtain⟨pa,pc,hvp⟩:=hso.fZ;obtain⟨g,hg⟩:=X_ (w.heap.size);obtain⟨X,hX⟩:∃X:List HB,[⟨g,66,dF.cells ⟨d,k⟩⟩]=X:=⟨_,rfl⟩;obtain⟨w1,hw1⟩:=Y_ (w.alloc (.cells (dF.cells ⟨d,k⟩) 66));have M1:Mv w (HR++b.heap d) w1 (HR++(X++b.heap d)):=by have m:=(Mv.refl hs).alloc 66 (dF.cells ⟨d,k⟩);rw[hg,←hw1]at m;rw[←hX];exact m.Z_
 have hx:⟨g,66,dF.cells ⟨d,k⟩⟩∈X:=by rw[←hX];exact aG
 obtain⟨⟨x0,x1,x2⟩,⟨y1,y2,y3⟩,z0,z1,-,z3,z4,-⟩:=uF M1 hx hst;rw[hvp]at z1;obtain⟨np,xu⟩:=X_ (st.m.ps.length);rw[xu]at z1;have X6:Hid (∀W A H1,Mv w (HR++b.heap d) W (A++(X++H1))→Mv w (HR++b.heap d) W (A++H1)):=af (fun W A H1 m=>m.Z_);have EF:=af (adt ok hr M1.drew k hkn ((aB:Int)+1) (by omega) hll (by omega) Jb);have EB:=af (JF rb l r w1 HR hr M1.sat.left hll (by omega) Jb);have hq1:=(jD l r Jb).1;have KF:=dS ok M1;have HW1:=af (show w1=w.alloc (.cells #[p_ (S_ ⟨d.lb,k*5,N_⟩),p_ (S_ ⟨d.bb,0,N_⟩),i_ l_ k] 66)from hw1);unfold nV dF.v;rw[xu];clear hw1 ok hst hx M1 hs hX hso xu hvp;by_cases h0:np=0
 ·rw[aK h0];subst h0;generalize iR l b.model.first k ((aB:Int)+1) r=q at*;go_enter Tryz.func89,Tryz.ntmps89;go_upto_region 1 with fail;rw[←HW1.out];go_upto_region 3 with fail;go_still_tail 10,(by kernel_rfl);change wpList _ _ _ _ _ w1.drew;go_wp2_with (go_at_call 112;(with_reducible refine EF.out.mono ?_);rintro e w2 ⟨rfl,b1,HR2,q1,q2,q3,q4,q5⟩;have K2:=LH q1 q2 q3 q4 (X6.out _ _ _ q5);clear q1 q2 q3 q4 q5);go_ret;exact⟨rfl,b1,HR2,K2.1,K2.2.1,K2.2.2.1,K2.2.2.2.1,K2.2.2.2.2⟩
 ·rw[aJ h0];have h1:(0:Int)<np:=by omega
  obtain⟨r1,hr1⟩:=X_ ((eY l r).2);rw[hr1]at EB;simp only[hr1];clear h0;by_cases hq:(eY l r).1=1
  ·rw[hq]at EB;rw[aQ hq];clear hq hq1 hr1;go_enter Tryz.func89,Tryz.ntmps89;go_upto_region 1 with fail;rw[←HW1.out];go_wp2_with (go_at_call 88;(with_reducible refine EB.out.mono ?_);rintro e w2 ⟨rfl,HR2,q1,q2⟩;have K2:=dS q1 (X6.out _ _ _ (Mv.call KF.out.2 q2));clear q1 q2);go_ret;exact⟨rfl,b,HR2,KF.1,rfl,rfl,K2.1,K2.2⟩
  ·have hq0:(eY l r).1=0:=by omega
   rw[hq0]at EB;rw[aW hq];clear hq hq1 hr1 hq0;go_enter Tryz.func89,Tryz.ntmps89;go_upto_region 1 with fail;rw[←HW1.out];go_wp2_with (go_at_call 88;(with_reducible refine EB.out.mono ?_);rintro e w2 ⟨rfl,HR2,q1,q2⟩;have K2:=dS q1 (X6.out _ _ _ (Mv.call KF.out.2 q2));clear q1 q2);go_ret;exact⟨rfl,b,HR2,KF.1,rfl,rfl,K2.1,K2.2⟩
def uQ(T:List bV):Prop:=∀L∈T,∀z∈L.l,0≤z.n
theorem af2{L:bV}(h:∀z∈L.l,0≤z.n)(x y:Nat):0≤(L.at_ x y).n:=by
 unfold bV.at_;rw[ax];cases hg:L.l[y*L.w+x]? with
 |none=>exact gG _
 |some z=>exact h z (aF hg)
theorem aat(l:List UInt8):∀(f:Nat) (x:dY) (b:Int) (r:jG),0≤x.n→0≤x.low→0≤(decL l f x b r).1.n
 |0,x,b,r,h,_=>h
 |f+1,x,b,r,h,h2=>by
  unfold decL;split
  ·split
   ·exact h2
   ·exact aat l f _ b _ h (by simp only;omega)
  ·exact h
theorem ah8(l:List UInt8)(T:List bV)(x y:Nat)(b:Int)(r:jG)(h8:r.left≤8)(h:uQ T):uQ (decT l T x y b r).1:=by
 induction T generalizing x y with
 |nil=>exact h
 |cons L R ih=>
  have hR:=ih (x/2) (y/2) (fun L' hL'=>h L' (aU _ hL'));have h0:=(Ky l R (x/2) (y/2) b r h8).2.1;intro L' hL' z hz;simp only[decT,aC]at hL';rcases hL' with rfl|hL'
  ·rcases cZ hz with hz|rfl
   ·exact h L aG z hz
   ·exact aat l _ _ b _ (af2 (h L aG) x y) (by simp only;omega)
  ·exact hR L' hL' z hz
theorem QD(l:List UInt8)(T:List bV)(k:Nat)(b:Int)(r:jG)(h8:r.left≤8)(h:uQ T):uQ (iR l T k b r).1:=by
 cases T with
 |nil=>exact h
 |cons L R=>exact ah8 l _ _ _ b r h8 h
theorem QB(l:List UInt8)(T:List bV)(k:Nat)(b:Int)(r:jG)(h8:r.left≤8)(h:uQ T)(ht:(iR l T k b r).2.1=T_):0≤xU (iR l T k b r).1 k∧xU (iR l T k b r).1 k<b:=by
 cases T with
 |nil=>simp[iR]at ht
 |cons L R=>
  have hn:=QD l (L::R) k b r h8 h;obtain⟨q,hq⟩:=X_ (decT l (L::R) (k%L.w) (k/L.w) b r);obtain⟨L',R',e1,e2⟩:∃L' R',q.1=L'::R'∧L'.w=L.w:=by rw[←hq];exact⟨_,_,rfl,rfl⟩
  have ed:iR l (L::R) k b r=(q.1,qM (leafT q.1 (k%L.w) (k/L.w)) b,q.2.2):=by rw[←hq];rfl
  rw[ed]at ht hn⊢;simp only at ht hn⊢;rw[e1]at ht hn⊢;obtain⟨z,hz⟩:=X_ (L'.at_ (k%L.w) (k/L.w));have z0:0≤z.n:=by rw[←hz];exact af2 (hn L' aG) _ _
  have ek:xU (L'::R') k=Ap z:=by rw[←hz,←e2];rfl
  have ht2:qM z b=T_:=by rw[←hz];exact ht
  unfold qM at ht2;simp only[dO,jF]at ht2;rw[ek];unfold Ap;rw[aK ht2.1];exact⟨z0,ht2.2⟩
def beginGo(l:List UInt8)(aH:Int)(k:Nat):Nat→Int→List bV→jG→List bV×Option Int×jG
 |0,_,T,r=>(T,N_,r)
 |f+1,n,T,r=>if(iR l T k n r).2.1=T_ then((iR l T k n r).1,S_ (aH-xU (iR l T k n r).1 k),(iR l T k n r).2.2)else beginGo l aH k f (n+1) (iR l T k n r).1 (iR l T k n r).2.2
theorem FN(l:List UInt8)(aH:Int)(k f:Nat)(n:Int)(T:List bV)(r:jG):beginGo l aH k (f+1) n T r=if(iR l T k n r).2.1=T_ then((iR l T k n r).1,S_ (aH-xU (iR l T k n r).1 k),(iR l T k n r).2.2)else beginGo l aH k f (n+1) (iR l T k n r).1 (iR l T k n r).2.2:=rfl
def vK(l:List UInt8)(m:aT)(k:Nat)(r:jG):List bV×Option Int×jG:=beginGo l m.aH k m.aH.toNat 1 m.dA r
def begS(s:og):Option Int→og
 |none=>s
 |some p=>{s with pl:=p}
def Cb:Option Int→Bool
 |none=>F_
 |some p=>decide (1≤p) && decide (p≤30)
def j!(m:aT)(s:og)(k:Nat)(q:List bV×Option Int×jG):aT:={m with dA:=q.1,ss:=m.ss.set k (begS s q.2.1)}
theorem Dl(l:List UInt8)(aH:Int)(k:Nat)(hp:aH≤60):∀(f:Nat) (n:Int) (T:List bV) (r:jG),r.left≤8→T.length≤20→uQ T→0≤n→n+f=aH+1→(beginGo l aH k f n T r).1.length=T.length∧uQ (beginGo l aH k f n T r).1∧(∀p,(beginGo l aH k f n T r).2.1=S_ p→1≤p∧p≤aH)∧(beginGo l aH k f n T r).2.2.left≤8∧(beginGo l aH k f n T r).2.2.begun≤r.begun+f*1200
 |0,n,T,r,h8,hT,hn,_,_=>⟨rfl,hn,by simp[beginGo],h8,by simp[beginGo]⟩
 |f+1,n,T,r,h8,hT,hn,hn0,hf=>by
  obtain⟨i1,i2,i3⟩:=IG l T k n r h8 hT (by omega);have i4:=QD l T k n r h8 hn;have i5:(iR l T k n r).2.2.begun≤r.begun+1200:=by omega
  unfold beginGo;split
  ·rename_i ht;have i6:=QB l T k n r h8 hn ht;refine⟨i1,i4,fun p hp=>?_,i2,?_⟩
   ·simp only[dG]at hp;omega
   ·simp only;omega
  ·obtain⟨j1,j2,j3,j4,j5⟩:=Dl l aH k hp f (n+1) _ (iR l T k n r).2.2 i2 (by rw[i1];exact hT) i4 (by omega) (by omega);exact⟨by rw[j1,i1],j2,j3,j4,by omega⟩
def di.CJ(b:di)(k:Nat)(s':gu):di:={b with G:=b.G.set k s'}
theorem di.ahh{b:di}{d:bu}{w0 w:World}{H0 A:List HB}(M:Mv w0 H0 w (A++b.heap d)){k:Nat}{s s':gu}(hg:b.G[k]?=S_ s)(i:Nat)(v:Value)(hi:i<5)(hh:s'.heap=s.heap)(hv:s'.v=s.v.set i v):Mv w0 H0 (w.setCell ⟨d.lb,k*5+i,N_⟩ v) (A++(b.CJ k s').heap d):=by
 have m1:Mv w0 H0 w ((A++[jU b d])++jY b d::(b.Hf++(b.Hz++b.G.flatMap gu.heap))):=by simpa[di.heap]using M
 have m2:=Mv.setAt m1 (k*5+i) v;have e:(b.G.flatMap gu.v).toArray.setIfInBounds (k*5+i) v=((b.G.set k s').flatMap gu.v).toArray:=by rw[bf,jh gu.v 5 gu.jw b.G k s _ hg i hi v hv]
 rw[e]at m2;have e2:(b.CJ k s').heap d=jU b d::⟨d.lb,69,((b.G.set k s').flatMap gu.v).toArray⟩::(b.Hf++(b.Hz++b.G.flatMap gu.heap)):=by unfold di.heap;rw[show(b.CJ k s').G.flatMap gu.heap=b.G.flatMap gu.heap from qI gu.heap (x:=s) (x':=s') hh _ _ hg];rfl
 rw[e2];simpa using m2
theorem di.Z!{b:di}{d:bu}(ok:b.ok d){k:Nat}{s':gu}(hs:s'.ok):(b.CJ k s').ok d:=by
 refine⟨ok.tf,ok.tz,ok.kf,ok.kz,?_,?_,ok.n,ok.pl,ok.hw,ok.hh⟩
 ·intro x hx;rcases cZ hx with h|rfl
  ·exact ok.st x h
  ·exact hs
 ·exact(fC ..).trans ok.len
theorem di.Px(b:di)(k:Nat)(s':gu):(b.CJ k s').model={b.model with ss:=b.model.ss.set k s'.m}:=by simp only[di.CJ,di.model,jb]
theorem di.Wn{b:di}{k:Nat}{s s':gu}(hg:b.G[k]?=S_ s):(b.CJ k s').G[k]?=S_ s':=dJ (aj.1 hg).1
theorem yR{α:Type}{l:List α}{k:Nat}{x:α}(h:l[k]?=S_ x):l.set k x=l:=by obtain⟨h1,h2⟩:=aj.1 h;rw[←h2];exact uN h1
def amG(d:bu)(b:di)(k rb:Nat)(st:gu)(l:List UInt8)(q:List bV×Option Int×jG)(HR:List HB)(w w':World):Prop:= ∃(b':di) (HR':List HB),b'.ok d∧b'.model=j! b.model st.m k q∧b'.G[k]?=S_ {st with m:=begS st.m q.2.1}∧jA rb l q.2.2 HR'∧Mv w (HR++b.heap d) w' (HR'++b'.heap d)
theorem ZG(d:bu)(b:di)(k rb:Nat)(st:gu)(l:List UInt8)(r:jG)(HR:List HB)(w:World)
 (ok:b.ok d) (hkn:k<d.n) (hst:b.G[k]?=S_ st) (hr:jA rb l r HR) (hs:Sat w (HR++b.heap d)) (hpl:0≤b.aH∧b.aH≤60) (hnn:uQ b.model.dA) (hll:l.length≤90000000) (hrb:r.begun≤70000000) (Jb:r.left≤8):
 Calls P_ 113 #[dF.v ⟨d,k⟩,p_ (S_ ⟨rb,0,N_⟩)] w fun e w'=>e=r_ (b_ (Cb (vK l b.model k r).2.1))∧amG d b k rb st l (vK l b.model k r) HR w w':=by
 have hkk:k<4096:=eH hkn ok.small;have al5:=hkn;obtain⟨g,hg⟩:=X_ (w.heap.size);obtain⟨X,hX⟩:∃X:List HB,[⟨g,66,dF.cells ⟨d,k⟩⟩]=X:=⟨_,rfl⟩;obtain⟨w1,hw1⟩:=Y_ (w.alloc (.cells (dF.cells ⟨d,k⟩) 66));have M1:Mv w (HR++b.heap d) w1 (HR++(X++b.heap d)):=by have m:=(Mv.refl hs).alloc 66 (dF.cells ⟨d,k⟩);rw[hg,←hw1]at m;rw[←hX];exact m.Z_
 have hx:⟨g,66,dF.cells ⟨d,k⟩⟩∈X:=by rw[←hX];exact aG
 have X6:Hid (∀W A H1,Mv w (HR++b.heap d) W (A++(X++H1))→Mv w (HR++b.heap d) W (A++H1)):=af (fun W A H1 m=>m.Z_);obtain⟨pn,hpn⟩:∃pn:Nat,b.aH=(pn:Int):=⟨b.aH.toNat,(Int.toNat_of_nonneg hpl.1).symm⟩;have amK:pn≤60:=by omega
 have hT0:b.model.dA.length≤20:=by have:=ok.kz.1;simpa[di.model]using this
 have KF:=H7_ ok M1 hr hnn hst hx hT0;have HW1:=af (show w1=w.alloc (.cells #[p_ (S_ ⟨d.lb,k*5,N_⟩),p_ (S_ ⟨d.bb,0,N_⟩),i_ l_ k] 66)from hw1);have eB:vK l b.model k r=beginGo l (pn:Int) k pn 1 b.model.dA r:=by show beginGo l b.aH k b.aH.toNat 1 b.model.dA r=_;rw[hpn];rfl
 rw[eB];unfold dF.v;clear hw1 ok hst hx M1 hs hX hr hnn hT0 eB hpl;go_enter Tryz.func113,Tryz.ntmps113;go_upto_region 1 with fail;rw[←HW1.out];clear HW1;go_wp2_with fail;go_loopg [5] pn (fun gg s5 wx=>∃(i:Nat) (b1:di) (HR1:List HB) (r1:jG),i≤pn∧gg=pn-i∧s5=i_ l_ ((i:Int)+1)∧b1.ok d∧b1.model={b.model with dA:=b1.model.dA}∧b1.G=b.G∧b1.aH=(pn:Int)∧jA rb l r1 HR1∧Mv w (HR++b.heap d) wx (HR1++(X++b1.heap d))∧beginGo l (pn:Int) k pn 1 b.model.dA r=beginGo l (pn:Int) k (pn-i) ((i:Int)+1) b1.model.dA r1∧r1.left≤8∧r1.begun≤r.begun+1200*i∧uQ b1.model.dA)
 case atStart=>exact⟨0,b,HR,r,aY _,rfl,rfl,KF.1,rfl,rfl,hpn,KF.2.2.1,KF.2.1,rfl,Jb,aN _,KF.2.2.2.1⟩
 case round=>
  obtain⟨wa,rfl⟩:∃wa:World,wa=wr:=⟨_,rfl⟩;obtain⟨i,b1,HR1,r1,hi,rfl,rfl,ok1,hm1,hG1,hp1,q1,m1,hE,h8,hb1,hn1⟩:=hrel;have hst1:b1.G[k]?=S_ st:=by rw[hG1];exact KF.2.2.2.2.1
  obtain⟨⟨x0,x1,x2⟩,⟨y1,y2,y3⟩,z0,z1,-,z3,z4,-⟩:=uF m1 KF.2.2.2.2.2.1 hst1;rw[hp1]at y1;have hT1:b1.model.dA.length≤20:=by have:=ok1.kz.1;simpa[di.model]using this
  by_cases hlt:i<pn
  ·have d1:((i:Int)+1)≤(pn:Int):=by omega
   have EZ:=af (ads ok1 q1 m1.drew k hkn ((i:Int)+1) (by omega) hll (by omega) h8);have DI:=IG l b1.model.dA k ((i:Int)+1) r1 h8 hT1 (by omega);have DN:=QD l b1.model.dA k ((i:Int)+1) r1 h8 hn1;have DT:=QB l b1.model.dA k ((i:Int)+1) r1 h8 hn1;have anc:i≤60:=by omega
   rw[show pn-i=(pn-i-1)+1 by omega]at hE;rw[FN]at hE;have hbz:({b1.model with dA:=(iR l b1.model.dA k ((i:Int)+1) r1).1}:aT)={b.model with dA:=(iR l b1.model.dA k ((i:Int)+1) r1).1}:=by rw[hm1]
   rw[hbz]at EZ;obtain⟨qt,hqt⟩:∃q,(iR l b1.model.dA k ((i:Int)+1) r1).1=q:=⟨_,rfl⟩;obtain⟨qr,hqr⟩:∃q,(iR l b1.model.dA k ((i:Int)+1) r1).2.2=q:=⟨_,rfl⟩;have KE:=af hE;rw[hqt,hqr]at KE EZ DI;rw[hqt]at DN DT;obtain⟨qb,NH⟩:∃q,(iR l b1.model.dA k ((i:Int)+1) r1).2.1=q:=⟨_,rfl⟩;rw[NH]at KE EZ DT;have KG:=af hG1;have KB:=af hb1;clear hE hbz hqt hqr NH hG1 q1 hst1 ok1 hm1;go_upto_region 4 with fail;go_still_tail 9,(by kernel_rfl);change wpList _ _ _ _ _ wa.drew;have KP:=nY DN DT DI;clear DN DT DI hn1 hT1 m1 hb1 h8;cases qb with
   |false=>
    go_wp2_with (go_at_call 112;(with_reducible refine EZ.out.mono ?_);rintro e w2 ⟨rfl,b2,HR2,q1,q2,q3,q4,q5⟩;have K2:=LH q1 q2 q3 q4 q5;clear q1 q2 q3 q4 q5);go_roundg (pn-(i+1))
    case measure=>omega
    case rel=>
     have hz:b2.model.dA=qt:=by rw[K2.2.1]
     have hp2:b2.aH=(pn:Int):=by rw[←hpn];exact fM aT.aH K2.2.1
     refine⟨i+1,b2,HR2,qr,by omega,rfl,by push_cast;rfl,K2.1,by rw[hz];exact K2.2.1,K2.2.2.1.trans KG.out,hp2,K2.2.2.2.1,K2.2.2.2.2,?_,KP.2.2.2.1,?_,by rw[hz];exact KP.1⟩
     ·rw[KE.out,hz,aJ (by simp),Nat.sub_sub];push_cast;rfl
     ·have:=KP.2.2.2.2;have:=KB.out;omega
   |true=>
    go_upto_region 5 with(go_at_call 112;(with_reducible refine EZ.out.mono ?_);rintro e w2 ⟨rfl,b2,HR2,q1,q2,q3,q4,q5⟩;have K2:=LH q1 q2 q3 q4 q5;clear q1 q2 q3 q4 q5);have hz:b2.model.dA=qt:=by rw[K2.2.1]
    have hp2:b2.aH=(pn:Int):=by rw[←hpn];exact fM aT.aH K2.2.1
    have hst2:b2.G[k]?=S_ st:=by rw[K2.2.2.1,KG.out];exact KF.2.2.2.2.1
    obtain⟨kn,hkn⟩:=X_ (xU qt k);have hkb:=KP.2.1 (by first|rfl|trivial);rw[hkn]at hkb;have hmx:Tryz.prog.follows .mixedOrders=T_:=by kernel_rfl
    obtain⟨C,hC⟩:∃C:World→Prop,C=fun w'=>Hid (Mv w (HR++b.heap d) w' (HR2++(X++b2.heap d))):=⟨_,rfl⟩;have CF:∀w',C w'→w'.cell? ⟨g,0,N_⟩=S_ (p_ (S_ ⟨d.lb,k*5,N_⟩))∧w'.cell? ⟨g,1,N_⟩=S_ (p_ (S_ ⟨d.bb,0,N_⟩))∧w'.cell? ⟨g,2,N_⟩=S_ (i_ l_ k)∧w'.cell? ⟨d.bb,1,N_⟩=S_ (i_ l_ pn)∧w'.cell? ⟨d.bb,3,N_⟩=S_ (p_ (S_ ⟨b2.zt,0,N_⟩))∧w'.cell? ⟨d.lb,k*5,N_⟩=S_ (i_ l_ st.m.pl)∧w'.frozen? ⟨d.lb,k*5,N_⟩=F_:=by intro w' h;rw[hC]at h;obtain⟨⟨x0,x1,x2⟩,⟨y1,y2,y3⟩,z0,z1,-,z3,z4,z5⟩:=uF h.out KF.2.2.2.2.2.1 hst2;rw[hp2]at y1;exact⟨x0,x1,x2,y1,y3,z0,z5 _⟩
    have CK:∀w',C w'→Calls P_ 129 #[p_ (S_ ⟨b2.zt,0,N_⟩),i_ l_ k] w' fun e w3=>e=r_ (i_ l_ kn)∧C w3:=by intro w' h;rw[hC]at h⊢;refine(k! K2.1 h.sat.right.right k al5).mono ?_;rintro e w3 ⟨rfl,m3⟩;exact⟨by rw[hz,hkn],af (Mv.call (H:=[]) (H':=[]) h.out m3)⟩
    have CD:C w2.drew:=by rw[hC];exact af (Mv.drew K2.2.2.2.2)
    replace CF:=af CF;replace CK:=af CK;have HC:=af hC;have HKN:=af hkn;have HZ:=nY hz hp2 hst2;clear hC hkn hz hp2 hst2 x0 x1 x2 y1 y2 y3 z0 z1 z3 z4;refine uf 19 C hmx CD (by kernel_rfl) ?_;simp only[List.take_succ_cons,List.take_zero,iE,iW];iterate 19 (first|((with_reducible refine Iz ?_ ?_);(next=>(go_simp;done));(try simp only[Act.put,bf,List.set_cons_zero,List.set_cons_succ]))|((with_reducible refine Md ?_ ?_ (fun w' hw'=>?_) ?_);rotate_left;(next=>(go_simp;done));(next=>(first|(refine Ak ?_;(obtain⟨a0,a1,a2,a3,a4,a5,a6⟩:=CF w' hw');clear hw';go_simp;done)|(refine Ak ?_;(obtain⟨a0,a1,a2,a3,a4,a5,a6⟩:=CF w' hw');clear hw';go_simp;rfl)|(refine IA (f:=?_) (args:=?_) ?_ ?_;rotate_left 2;(next=>((obtain⟨a0,a1,a2,a3,a4,a5,a6⟩:=CF w' hw');go_simp;constructor<;>rfl));(next=>(exact CK w' hw')))|(refine Iy ?_;(obtain⟨a0,a1,a2,a3,a4,a5,a6⟩:=CF w' hw');clear hw';go_simp;done)));(try simp only[Act.put,bf,List.set_cons_zero,List.set_cons_succ])))
    refine wpQuiet_nil ?_;intro w3 hw3;obtain⟨a0,a1,a2,a3,a4,a5,a6⟩:=CF w3 hw3;have m3:Hid (Mv w (HR++b.heap d) w3 (HR2++(X++b2.heap d))):=by rw[HC.out]at hw3;exact hw3
    clear hw3 CD CK CF HC C;obtain⟨pp,hpp⟩:=X_ ((pn:Int)-kn);have hp1:1≤pp∧pp≤60:=by omega
    obtain⟨st',hst'⟩:∃st':gu,st'={st with m:={st.m with pl:=pp}}:=⟨_,rfl⟩;have M4:=di.ahh (A:=HR2++X) (by rw[az];exact m3.out) HZ.2.2 (s':=st') 0 (i_ l_ pp) (by omega) (by rw[hst'];rfl) (by rw[hst'];rfl);rw[az]at M4;have ok4:(b2.CJ k st').ok d:=di.Z! K2.1 (by have h:=K2.1.st st (aF HZ.2.2);rw[hst'];exact⟨h.1,h.2.1,⟨h.2.2.np,h.2.2.nb,by simp only;omega,h.2.2.said,h.2.2.lb,h.2.2.ends⟩⟩);obtain⟨w4,hw4⟩:=Y_ (w3.setCell ⟨d.lb,k*5,N_⟩ (i_ l_ pp));rw[Nat.add_zero,←hw4]at M4;obtain⟨⟨x0,x1,x2⟩,-,z0,-⟩:=uF M4 KF.2.2.2.2.2.1 (di.Wn HZ.2.2);have e0:st'.m.pl=pp:=by rw[hst']
    rw[e0]at z0;obtain⟨bb,hbb⟩:=X_ (decide (pp≤30));have hE2:beginGo l (pn:Int) k pn 1 b.model.dA r=(qt,S_ pp,qr):=by rw[KE.out,aK (by first|rfl|trivial),HKN.out,hpp]
    have hok:Cb (S_ pp)=bb:=by show(decide (1≤pp) && decide (pp≤30))=bb;rw[aQ hp1.1,sO,hbb]
    have K4:=LH ok4 M4 hE2 hok hst';have HW4:=af hw4;have HPP:=af hpp;clear ok4 M4 hE2 hok hst' e0 hw4 hpp;go_upto_region 6 with fail
    all_goals rw[HPP.out,←HW4.out]
    clear a0 a1 a2 a3 a4 a5 a6;go_wp2_with fail;go_ret;rw[K4.2.2.1];exact⟨by show Ending.returned (b_ bb)=_;rw[K4.2.2.2.1],b2.CJ k st',HR2,K4.1,by rw[di.Px,K2.2.1,K4.2.2.2.2];rfl,by rw[di.Wn HZ.2.2,K4.2.2.2.2];rfl,K2.2.2.2.1,X6 _ _ _ K4.2.1⟩
  ·obtain rfl:i=pn:=by omega
   have d1:¬(i:Int)+1≤(i:Int):=by omega
   have hE2:beginGo l (i:Int) k i 1 b.model.dA r=(b1.model.dA,N_,r1):=by rw[hE,iI];rfl
   have K4:=NU ok1 m1 hE2 hm1 hst1 q1;clear hE hE2 ok1 m1 hm1 hG1 hst1 q1 hn1 hT1;go_wp2_with fail;go_ret;rw[K4.2.2.1];refine⟨rfl,b1,HR1,K4.1,?_,K4.2.2.2.2.1,K4.2.2.2.2.2,X6 _ _ _ K4.2.1⟩;rw[K4.2.2.2.1];unfold j! begS;simp only;rw[yR (by simp[di.model,KF.2.2.2.2.1])]
section
variable{t e:TypeId}{size bytes:Nat}{z:Value}
theorem aed(hu:Tryz.prog.underlying t=S_ (.slice e))(hi:(Tryz.prog.info? e).map (fun i=>(i.zero,i.size,i.bytes))=S_ (S_ z,size,bytes))(hzs:z.cells.size=size)(h0:0<size)(hb:bytes≤1000){w:World}{v:Value}{n:Nat}{xs:List Value}{H:List HB}(h:dh e size v n xs H)(hs:Sat w H)
 {A:Option Addr} {m c:Nat} {news:List Value} (hr:Reads w w.heap.size size A m news) (h1:∀u∈news,u.oneCell'=T_) (hl:n+m≤1000000) (ty:TypeId):
 ∃v' w' H',(Builtin.append_ #[t,t] ty #[v,s_ A m c]).run P_ w=.ok v' w'∧dh e size v' (n+m) (xs++news) H'∧Mv w H w' H':=by
 obtain⟨i0,hti,hz0,hz1,hz2⟩:=qJ hi;have hq:(n+m)*bytes≤1000000*1000:=bZ hl hb;obtain⟨v',w',hrun,k1,k2,k3⟩:=tZ (P:=P_) w 0 t ty e i0 z size bytes hu hti hz0 hz1 hz2 hzs h0 v n xs (dh.owns h hs (fun _ _=>aY _)) w.heap.size A m c news hr h1 (by unfold maxLen;omega) (by omega) (aY _);obtain⟨H',k4,k5⟩:=uM h k1 k2 k3;exact⟨v',w',H',hrun,k4,k5⟩
variable{ops:Array Oper}{rest:List Oper}{o:Oper}{a:Act}{w:World}{K:Act→World→Prop}{Q:Exit→Act→World→Prop}{E:Prop}
theorem F!(hu:Tryz.prog.underlying t=S_ (.slice e))(hi:(Tryz.prog.info? e).map (fun i=>(i.zero,i.size,i.bytes))=S_ (S_ z,size,bytes))(hzs:z.cells.size=size)(h0:0<size)(hb:bytes≤1000)
 (s x:Operand) (ho:o.op=.call {callee:=.builtin .append,args:=#[s,x],argTypes:=#[t,t]}) (v:Value) {n:Nat} {xs:List Value} {H:List HB} {A:Option Addr} {m c:Nat} {news:List Value}
 (hsv:a.eval s=v) (hxu:a.eval x=s_ A m c) (h:dh e size v n xs H) (hs:Sat w H) (hr:Reads w w.heap.size size A m news) (h1:∀u∈news,u.oneCell'=T_) (hl:n+m≤1000000)
 (hK:∀v' w' H',dh e size v' (n+m) (xs++news) H'→Mv w H w' H'→K (a.put o.dst v') w'):o.wp P_ a w K Q:=by
 obtain⟨v',w',H',hrun,h2,h3⟩:=aed hu hi hzs h0 hb h hs hr h1 hl (c:=c) o.type;unfold Oper.wp execOp;simp only[ho,resolve,invoke,builtin,rQ,Sem.run_pure,Result.andThen_ok,tN,bJ,gW,hsv,hxu,hrun];exact hK v' w' H' h2 h3
theorem rY(hu:Tryz.prog.underlying t=S_ (.slice e))(hi:(Tryz.prog.info? e).map (fun i=>(i.zero,i.size,i.bytes))=S_ (S_ z,size,bytes))(hzs:z.cells.size=size)(h0:0<size)(hb:bytes≤1000)(hgd:o.guard=N_)
 (s x:Operand) (ho:o.op=.call {callee:=.builtin .append,args:=#[s,x],argTypes:=#[t,t]}) (v:Value) {n:Nat} {xs:List Value} {H:List HB} {A:Option Addr} {m c:Nat} {news:List Value}
 (hsv:a.eval s=v) (hxu:a.eval x=s_ A m c) (h:dh e size v n xs H) (hs:Sat w H) (hr:Reads w w.heap.size size A m news) (h1:∀u∈news,u.oneCell'=T_) (hl:n+m≤1000000)
 (hK:∀v' w' H',dh e size v' (n+m) (xs++news) H'→Mv w H w' H'→wpList P_ ops Q rest (a.put o.dst v') w'):wpList P_ ops Q (o::rest) a w:=
 wpList_plain hgd fun _ hk=>F! hu hi hzs h0 hb s x ho v hsv hxu h hs hr h1 hl fun v' w' H' h2 h3=>hk _ _ (hK v' w' H' h2 h3)
theorem Ip(hu:Tryz.prog.underlying t=S_ (.slice e))(hi:(Tryz.prog.info? e).map (fun i=>(i.zero,i.size,i.bytes))=S_ (S_ z,size,bytes))(hzs:z.cells.size=size)(h0:0<size)(hb:bytes≤1000)(hgd:o.guard=N_)
 (s x:Operand) (ho:o.op=.call {callee:=.builtin .append,args:=#[s,x],argTypes:=#[t,t]}) (v:Value) {n:Nat} {xs:List Value} {H:List HB} {A:Option Addr} {m c:Nat} {news:List Value}
 (hsv:a.eval s=v) (hxu:a.eval x=s_ A m c) (h:dh e size v n xs H) (hs:Sat w H) (hr:Reads w w.heap.size size A m news) (h1:∀u∈news,u.oneCell'=T_) (hl:n+m≤1000000)
 (hK:∀v' w' H',dh e size v' (n+m) (xs++news) H'→Mv w H w' H'→K (a.put o.dst v') w'):if Region.wanted o (yielded ops a.tmps)=T_ then Oper.wp P_ o a w K Q else E:=by
 have hw:Region.wanted o (yielded ops a.tmps)=T_:=by simp[Region.wanted,hgd]
 rw[aK hw];exact F! hu hi hzs h0 hb s x ho v hsv hxu h hs hr h1 hl hK
theorem zy{wb:World}{cs:Array Value}(hw:w=wb.alloc (.cells cs e))(hc:cs.size=size):Reads w w.heap.size size (S_ ⟨wb.heap.size,0,N_⟩) 1 cs.toList:=by refine⟨by simp[hc],fun _=>⟨_,rfl,by rw[hw];simp,fun j u hu=>?_⟩⟩;rw[hw];exact PW wb cs _ j u (by simpa using hu)
end
structure yx where
 x:dF
 p:Nat
 n:Nat
def PE(q:yx):List Value:=[p_ (S_ ⟨q.x.d.lb,q.x.k*5,N_⟩),p_ (S_ ⟨q.x.d.bb,0,N_⟩),i_ l_ q.x.k,i_ l_ q.p,i_ l_ q.n]
def Me(l:List yx):List Value:=l.flatMap PE
theorem Ny(a b:List yx):Me (a++b)=Me a++Me b:=by simp[Me]
theorem Wv(l:List yx):∀u∈Me l,u.oneCell'=T_:=by intro u hu;simp only[Me,PE,iw,aC,bP,gQ]at hu;obtain⟨q,-,rfl|rfl|rfl|rfl|rfl⟩:=hu<;>rfl
def AO(v:Value)(l:List yx)(H:List HB):Prop:=dh 96 5 v l.length (Me l) H
theorem afa:(Tryz.prog.info? 96).map (fun i=>(i.zero,i.size,i.bytes))=S_ (S_ (g_ #[.pointer N_,.pointer N_,i_ l_ 0,i_ l_ 0,i_ l_ 0]),5,40):=by kernel_rfl
theorem AO.slice{v:Value}{l:List yx}{H:List HB}(h:AO v l H):∃a c,v=s_ a l.length c:=dh.slice h
def lbGo(l:List UInt8):Nat→Nat→jG→Option Nat×jG
 |0,_,r=>(N_,r)
 |f+1,lb,r=>if(eY l r).1=1 then(if 24<lb+1 then(N_,(eY l r).2)else lbGo l f (lb+1) (eY l r).2)else(S_ lb,(eY l r).2)
theorem ML(l:List UInt8)(f lb:Nat)(r:jG):lbGo l (f+1) lb r=if(eY l r).1=1 then(if 24<lb+1 then(N_,(eY l r).2)else lbGo l f (lb+1) (eY l r).2)else(S_ lb,(eY l r).2):=rfl
theorem G9(l:List UInt8):∀(f lb:Nat) (r:jG),r.left≤8→lb≤24→(lbGo l f lb r).2.left≤8∧(lbGo l f lb r).2.begun≤r.begun+f∧∀b,(lbGo l f lb r).1=S_ b→lb≤b∧b≤24
 |0,lb,r,h,_=>⟨h,aN _,by simp[lbGo]⟩
 |f+1,lb,r,h,h2=>by
  obtain⟨k1,k2,k3⟩:=jD l r h;rw[ML];split
  ·split
   ·exact⟨k2,by simp only;omega,by simp⟩
   ·obtain⟨i1,i2,i3⟩:=G9 l f (lb+1) (eY l r).2 k2 (by omega);exact⟨i1,by omega,fun b hb=>by have:=i3 b hb;omega⟩
  ·refine⟨k2,by simp only;omega,fun b hb=>?_⟩;simp only[dG]at hb;omega
def pcGo(l:List UInt8)(x:dF)(lb:Nat):List Int→jG→List yx×jG
 | [],r=>([],r)
 |p::ps,r=>(⟨x,p.toNat,(yO l ((lb+p.toNat.log2:Nat):Int) r).1⟩::(pcGo l x lb ps (yO l ((lb+p.toNat.log2:Nat):Int) r).2).1,(pcGo l x lb ps (yO l ((lb+p.toNat.log2:Nat):Int) r).2).2)
theorem MH(l:List UInt8)(x:dF)(lb:Nat):∀(ps:List Int) (p:Int) (r:jG),pcGo l x lb (ps++[p]) r=((pcGo l x lb ps r).1++[⟨x,p.toNat,(yO l ((lb+p.toNat.log2:Nat):Int) (pcGo l x lb ps r).2).1⟩],(yO l ((lb+p.toNat.log2:Nat):Int) (pcGo l x lb ps r).2).2)
 | [],p,r=>rfl
 |q::ps,p,r=>by rw[List.cons_append];simp only[pcGo,MH l x lb ps p,List.cons_append]
theorem X!(l:List UInt8)(s:Int)(r:jG)(h:r.left≤8):(yO l s r).2.left≤8∧(yO l s r).2.begun≤r.begun+32∧(yO l s r).1<4294967296:=by
 unfold yO;split
 ·rename_i hs;obtain⟨h1,h2,h3⟩:=wM l r h s.toNat;have h4:2^s.toNat≤2^32:=fB (n:=2) (by decide) (by omega);exact⟨h2,by omega,by omega⟩
 ·exact⟨h,by simp only;omega,by simp⟩
theorem J5(l:List UInt8)(x:dF)(lb:Nat):∀(ps:List Int) (r:jG),r.left≤8→(pcGo l x lb ps r).1.length=ps.length∧(pcGo l x lb ps r).2.left≤8∧(pcGo l x lb ps r).2.begun≤r.begun+32*ps.length∧∀q∈(pcGo l x lb ps r).1,q.x=x∧q.n<4294967296
 | [],r,h=>⟨rfl,h,by simp[pcGo],by simp[pcGo]⟩
 |p::ps,r,h=>by
  obtain⟨g1,g2,g3⟩:=X! l ((lb+p.toNat.log2:Nat):Int) r h;obtain⟨i1,i2,i3,i4⟩:=J5 l x lb ps _ g1;simp only[pcGo];refine⟨by rw[List.length_cons,List.length_cons,i1],i2,by simp only[List.length_cons];omega,fun q hq=>?_⟩;rcases aC.1 hq with rfl|hq
  ·exact⟨rfl,g3⟩
  ·exact i4 q hq
def readM(l:List UInt8)(ah:Nat)(m:aT)(d:bu)(k:Nat)(s:og)(r:jG):Option (aT×List yx×jG):=
 let q:=vK l m k r;let(m1,s1,r1,ok):=if s.ps.length=0 then(j! m s k q,begS s q.2.1,q.2.2,Cb q.2.1)else(m,s,r,T_)
 if ok=F_ then N_ else
 let n:=(pM l r1).1
 if 3*s1.pl-2<(s1.ps.length+n:Nat)then N_ else
 match lbGo l (25-s1.lb.toNat) s1.lb.toNat (pM l r1).2 with
 |(none,_)=>N_
 |(some lb,r3)=>
  let pg:=pcGo l ⟨d,k⟩ lb (jT (dV ah s1.ps.length (s1.ps.length+n))) r3
  S_ ({m1 with ss:=m1.ss.set k {s1 with lb:=(lb:Int)}},pg.1,pg.2)
section
variable(K:Act→World→Prop)(d:bu)(bG:di)(k g rb lb en ln qn i pc9:Nat)(pa9:Option Addr)(l:List UInt8)(r r9:jG)(PL:List yx)(QY Hv H1 X H0:List YtjngfhgakokejaaGreat.HB)(w0:World)(w:World)(s0 s2 s4 s5 s6 s7 s8 s9 s10 s11 s13 s15 s16 l9 kH kS s20 lF lC s23 s24 kZ s26 kW kR kY lu lJ lK lI lL lD s36 lY lX mG ni mZ mY s43 s44 nI mF nH nK s49 mD mg lW s53 mX mQ mP mO nX nJ oU oQ pO qW qN qV rD rC s68 rM rJ sN s72 sK sJ ry ru rf s78 qZ rH rG s82 s83 uk uj xI s87 xH xG xF xE xn xk xC xA xy xw xR zl oK oJ nT nS:Value)
inductive Pq(bQ:Array Bool)(a:Act)(W:World):Prop|mk {b0 b1 b2 b3 b4 b5 b6 b7 b8 b9 b10 b11 b12 b13 b14 b15 b16:Bool} {u86 u87 u88 u89 u90 u91 u92 u93 u94 u95 u96 u97 u98 u99 Uk LV u12:Value} {g8:Nat} {HB:List YtjngfhgakokejaaGreat.HB} {DY:List YtjngfhgakokejaaGreat.HB} (hl:bQ=#[b0,b1,b2,b3,b4,b5,b6,b7,b8,b9,b10,b11,b12,b13,b14,b15,b16]) (ha:a=⟨List.toArray (s0::(.pointer (some ⟨rb,0,none⟩))::s2::(.pointer (some ⟨g,0,none⟩))::s4::s5::s6::s7::s8::s9::s10::s11::u12::s13::(.int .i64 en)::s15::s16::l9::kH::kS::s20::lF::lC::s23::s24::kZ::s26::kW::kR::kY::lu::lJ::lK::lI::lL::lD::s36::lY::lX::mG::ni::mZ::mY::s43::s44::nI::mF::nH::nK::s49::mD::mg::lW::s53::mX::mQ::mP::mO::nX::nJ::oU::oQ::pO::qW::qN::qV::rD::rC::s68::rM::rJ::sN::s72::sK::sJ::ry::ru::rf::s78::qZ::rH::rG::s82::s83::uk::uj::u86::u87::u88::u89::u90::u91::u92::u93::u94::u95::u96::u97::u98::u99::Uk::LV::nT::nS::[]),[]⟩) (HW:(Mv w0 H0 W (DY++(oh b14 ⟨g8,96,#[.pointer (some ⟨d.lb,k*5,none⟩),.pointer (some ⟨d.bb,0,none⟩),.int .i64 k,.int .i64 en,.int .i64 qn]⟩++(HB++(H1++(X++bG.heap d)))))∧(b12=false→DY=QY)∧(b15=false→HB=Hv)∧(b16=false→u12=.slice pa9 i pc9)∧(b15=true→b14=true∧b0=true)∧(b13=true→b12=true)∧(b14=true→b13=true)∧(b16=true→b15=true))) (hF:(b0=true→u86=.slice pa9 i pc9)∧(b1=true→u87=.agg #[.pointer (some ⟨d.lb,k*5,none⟩),.pointer (some ⟨d.bb,0,none⟩),.int .i64 k])∧(b2=true→u88=.int .i64 en)∧(b3=true→u89=.pointer (some ⟨rb,0,none⟩))∧(b4=true→u90=.pointer (some ⟨g,0,none⟩))∧(b5=true→u91=.pointer (some ⟨d.lb,k*5,none⟩))∧(b6=true→u92=.pointer (some ⟨d.lb,k*5,none⟩))∧(b7=true→u93=.pointer (some ⟨d.lb,k*5+4,none⟩))∧(b8=true→u94=.int .i64 lb)∧(b9=true→u95=.int .i64 en)∧(b10=true→u96=.int .i64 ln)∧(b11=true→u97=.int .i64 ((lb:Int)+ln))∧(b12=true→u98=.int .i64 qn)∧(b12=true→jA rb l r9 DY)∧(b13=true→u99=.agg #[.pointer (some ⟨d.lb,k*5,none⟩),.pointer (some ⟨d.bb,0,none⟩),.int .i64 k,.int .i64 en,.int .i64 qn])∧(b14=true→Uk=.slice (some ⟨g8,0,none⟩) 1 1)∧(b15=true→dh 96 5 LV (i+1) (Me (PL++[⟨⟨d,k⟩,en,qn⟩])) HB)∧(b16=true→u12=LV):=by and_intros<;>first|assumption|exact fun _=>rfl|(simp only[bM,bI,aI]<;>assumption)):Pq bQ a W
theorem aeu(CE:Hid (∀V A',Mv w0 H0 V (A'++(X++bG.heap d))→V.cell? ⟨g,0,N_⟩=S_ (p_ (S_ ⟨d.lb,k*5,N_⟩))∧V.cell? ⟨g,1,N_⟩=S_ (p_ (S_ ⟨d.bb,0,N_⟩))∧V.cell? ⟨g,2,N_⟩=S_ (i_ l_ k)∧V.cell? ⟨d.lb,k*5+4,N_⟩=S_ (i_ l_ lb)))(LG:Hid (∀V,Calls P_ 77 #[i_ l_ en] V fun e w'=>e=r_ (i_ l_ ln)∧w'=V))(BI:Hid (∀V R,Mv w0 H0 V (QY++R)→Calls P_ 115 #[p_ (S_ ⟨rb,0,N_⟩),i_ l_ ((lb:Int)+ln)] V fun e w'=>e=r_ (i_ l_ qn)∧∃HR',jA rb l r9 HR'∧Mv w0 H0 w' (HR'++R)))(hl2:lb≤24)(hln:ln≤10)(hi:i≤1000)(hrow:dh 96 5 (s_ pa9 i pc9) i (Me PL) Hv)(hM:Mv w0 H0 w (QY++(Hv++(H1++(X++bG.heap d)))))
 (hk:∀(u86 u87 u88 u89 u90 u91 u92 u93 u94 u95 u96 u97 u98 u99 Uk LV u12:Value) (g8:Nat) (HB:List YtjngfhgakokejaaGreat.HB) (DY:List YtjngfhgakokejaaGreat.HB) (W:World),(Mv w0 H0 W (DY++(oh T_ ⟨g8,96,#[p_ (S_ ⟨d.lb,k*5,N_⟩),p_ (S_ ⟨d.bb,0,N_⟩),i_ l_ k,i_ l_ en,i_ l_ qn]⟩++(HB++(H1++(X++bG.heap d)))))∧(T_=F_→DY=QY)∧(T_=F_→HB=Hv)∧(T_=F_→u12=s_ pa9 i pc9)∧(T_=T_→T_=T_∧T_=T_)∧(T_=T_→T_=T_)∧(T_=T_→T_=T_)∧(T_=T_→T_=T_))→(u98=i_ l_ qn∧jA rb l r9 DY)→(dh 96 5 LV (i+1) (Me (PL++[⟨⟨d,k⟩,en,qn⟩])) HB)→(u12=LV)→K ⟨List.toArray (s0::(p_ (S_ ⟨rb,0,N_⟩))::s2::(p_ (S_ ⟨g,0,N_⟩))::s4::s5::s6::s7::s8::s9::s10::s11::u12::s13::(i_ l_ en)::s15::s16::l9::kH::kS::s20::lF::lC::s23::s24::kZ::s26::kW::kR::kY::lu::lJ::lK::lI::lL::lD::s36::lY::lX::mG::ni::mZ::mY::s43::s44::nI::mF::nH::nK::s49::mD::mg::lW::s53::mX::mQ::mP::mO::nX::nJ::oU::oQ::pO::qW::qN::qV::rD::rC::s68::rM::rJ::sN::s72::sK::sJ::ry::ru::rf::s78::qZ::rH::rG::s82::s83::uk::uj::u86::u87::u88::u89::u90::u91::u92::u93::u94::u95::u96::u97::u98::u99::Uk::LV::nT::nS::[]),[]⟩ W):
 (dQ 16 Tryz.f90).wp P_ (Exit.then K qX) ⟨List.toArray (s0::(p_ (S_ ⟨rb,0,N_⟩))::s2::(p_ (S_ ⟨g,0,N_⟩))::s4::s5::s6::s7::s8::s9::s10::s11::(s_ pa9 i pc9)::s13::(i_ l_ en)::s15::s16::l9::kH::kS::s20::lF::lC::s23::s24::kZ::s26::kW::kR::kY::lu::lJ::lK::lI::lL::lD::s36::lY::lX::mG::ni::mZ::mY::s43::s44::nI::mF::nH::nK::s49::mD::mg::lW::s53::mX::mQ::mP::mO::nX::nJ::oU::oQ::pO::qW::qN::qV::rD::rC::s68::rM::rJ::sN::s72::sK::sJ::ry::ru::rf::s78::qZ::rH::rG::s82::s83::uk::uj::xI::s87::xH::xG::xF::xE::xn::xk::xC::xA::xy::xw::xR::zl::oK::oJ::nT::nS::[]),[]⟩ w:=by
 conv in(dQ _ _)=>whnf
 unfold qX;have HK:=af hk;clear hk;refine jS (by kernel_rfl) [[],[],[],[],[],[4],[5],[6],[7],[],[9],[8,10],[3,11,10],[1,2,12],[13],[0,14,12],[15,15,0,1,2,3,4,5,6,7,8,9,10,11,12,13,14,15]] [0,1,2,3,4,5,6,7,8,9,10,11,12,13,14,15,16] (by kernel_rfl) (by kernel_rfl) (@Pq d bG k g rb lb en ln qn i pc9 pa9 l r9 PL QY Hv H1 X H0 w0 s0 s2 s4 s5 s6 s7 s8 s9 s10 s11 s13 s15 s16 l9 kH kS s20 lF lC s23 s24 kZ s26 kW kR kY lu lJ lK lI lL lD s36 lY lX mG ni mZ mY s43 s44 nI mF nH nK s49 mD mg lW s53 mX mQ mP mO nX nJ oU oQ pO qW qN qV rD rC s68 rM rJ sN s72 sK sJ ry ru rf s78 qZ rH rG s82 s83 uk uj nT nS) ?_ ?_ ?_
 ·refine .mk (g8:=0) (HB:=Hv) (DY:=QY) rfl rfl ⟨by simpa[jl]using hM.drew,fun _=>rfl,fun _=>rfl,fun _=>rfl,(fun e=>nomatch e),(fun e=>nomatch e),(fun e=>nomatch e),(fun e=>nomatch e)⟩ ⟨nofun,nofun,nofun,nofun,nofun,nofun,nofun,nofun,nofun,nofun,nofun,nofun,nofun,nofun,nofun,nofun,nofun,nofun⟩
 ·rintro _ _ W ⟨rfl,rfl,HW,-,-,-,-,-,-,-,-,-,-,-,-,h12,k12,-,-,h15,h16⟩ hb;simp only[List.all_cons,List.all_nil,dO,kJ]at hb;obtain⟨rfl,rfl,rfl,rfl,rfl,rfl,rfl,rfl,rfl,rfl,rfl,rfl,rfl,rfl,rfl,rfl,rfl⟩:=hb;exact HK _ _ _ _ _ _ _ _ _ _ _ _ _ _ _ _ _ _ _ _ W HW ⟨h12 rfl,k12 rfl⟩ (h15 rfl) (h16 rfl)
 ·rintro _ _ W i @⟨_,_,_,_,_,_,_,_,_,_,_,_,_,b13,b14,b15,b16,_,_,_,_,_,_,_,_,_,_,_,_,_,_,_,_,_,g8,HB,DY,rfl,rfl,HW,h0,h1,h2,h3,h4,h5,h6,h7,h8,h9,h10,h11,h12,k12,h13,JH,h15,h16⟩ hi hi2 zp;have hi4:i=0∨i=10∨i=11∨i=12∨i=13∨i=14∨i=15∨i=16∨i=1∨i=2∨i=3∨i=4∨i=5∨i=6∨i=7∨i=8∨i=9:=(by have:i<17:=hi;omega);clear hi;rcases hi4 with rfl|rfl|rfl|rfl|rfl|rfl|rfl|rfl|rfl|rfl|rfl|rfl|rfl|rfl|rfl|rfl|rfl
  all_goals simp at hi2 zp;(repeat obtain⟨_,zp⟩:=zp);(try subst_vars);try simp only[bM,bI,aI]at h0 h1 h2 h3 h4 h5 h6 h7 h8 h9 h10 h11 h12 k12 h13 JH h15 h16
  all_goals try subst_vars
  all_goals refine jm rfl (fun K hK=>?_)
  ·obtain rfl:b15=F_:=by cases b15;rfl;cases(HW.2.2.2.2.1 rfl).2
   obtain rfl:b16=F_:=by cases b16;rfl;cases(HW.2.2.2.2.2.2.2 rfl)
   obtain rfl:=HW.2.2.2.1 rfl;go_simp;exact hK _ _ (.mk rfl rfl ⟨HW.1,HW.2.1,HW.2.2.1,HW.2.2.2.1,(fun e=>nomatch e),HW.2.2.2.2.2.1,HW.2.2.2.2.2.2.1,HW.2.2.2.2.2.2.2⟩)
  ·go_simp;go_at_call 77
   (with_reducible refine(LG.out _).mono ?_)
   rintro e w10 ⟨rfl,rfl⟩;exact hK _ _ (.mk rfl rfl HW)
  ·have ew:=fF ((lb:Int)+ln) ⟨by omega,by omega⟩;go_simp;exact hK _ _ (.mk rfl rfl HW)
  ·obtain rfl:b13=F_:=by cases b13;rfl;cases(HW.2.2.2.2.2.1 rfl)
   obtain rfl:b14=F_:=by cases b14;rfl;cases(HW.2.2.2.2.2.2.1 rfl)
   obtain rfl:=HW.2.1 rfl;go_simp;go_at_call 115;refine(BI W _ HW.1).mono ?_;rintro e w11 ⟨rfl,HR',p1,p2⟩;refine hK _ _ (.mk (g8:=g8) (HB:=HB) (DY:=HR') rfl rfl ⟨p2,(fun e=>nomatch e),HW.2.2.1,HW.2.2.2.1,HW.2.2.2.2.1,(fun e=>nomatch e),HW.2.2.2.2.2.2.1,HW.2.2.2.2.2.2.2⟩ ?_);and_intros<;>first|assumption|exact fun _=>rfl|(simp only[bM,bI,aI]<;>assumption)|exact fun _=>p1
  ·go_simp;exact hK _ _ (.mk rfl rfl ⟨HW.1,HW.2.1,HW.2.2.1,HW.2.2.2.1,HW.2.2.2.2.1,fun _=>rfl,fun _=>rfl,HW.2.2.2.2.2.2.2⟩)
  ·obtain rfl:b15=F_:=by cases b15;rfl;cases(HW.2.2.2.2.1 rfl).1
   obtain rfl:=HW.2.2.1 rfl;have M9:=HW.1.alloc 96 #[p_ (S_ ⟨d.lb,k*5,N_⟩),p_ (S_ ⟨d.bb,0,N_⟩),i_ l_ k,i_ l_ en,i_ l_ qn];go_simp;exact hK _ _ (.mk (g8:=W.heap.size) (DY:=DY) rfl rfl ⟨M9.O_,HW.2.1,HW.2.2.1,HW.2.2.2.1,(fun e=>nomatch e),HW.2.2.2.2.2.1,fun _=>rfl,HW.2.2.2.2.2.2.2⟩)
  ·obtain rfl:=HW.2.2.1 rfl;obtain rfl:b16=F_:=by cases b16;rfl;cases(HW.2.2.2.2.2.2.2 rfl)
   have M9:Mv w0 H0 W (HB++(⟨g8,96,#[p_ (S_ ⟨d.lb,k*5,N_⟩),p_ (S_ ⟨d.bb,0,N_⟩),i_ l_ k,i_ l_ en,i_ l_ qn]⟩::(DY++(H1++(X++bG.heap d))))):=HW.1.O_;have RD:Reads W W.heap.size 5 (S_ ⟨g8,0,N_⟩) 1 (PE ⟨⟨d,k⟩,en,qn⟩):=Reads.zD (dh.owns (H:=[⟨g8,96,#[p_ (S_ ⟨d.lb,k*5,N_⟩),p_ (S_ ⟨d.bb,0,N_⟩),i_ l_ k,i_ l_ en,i_ l_ qn]⟩]) (dh.new 96 g8 1 #[p_ (S_ ⟨d.lb,k*5,N_⟩),p_ (S_ ⟨d.bb,0,N_⟩),i_ l_ k,i_ l_ en,i_ l_ qn] rfl (by decide)) (M9.sat.Z_) (B:=0) (fun _ _=>aY _));refine Ip (A:=S_ ⟨g8,0,N_⟩) (m:=1) (c:=1) Tryz.underlying91 afa rfl (by decide) (by decide) rfl (.tmp 86) (.tmp 100) rfl (s_ pa9 i pc9) (by simp[Act.eval]) (by simp[Act.eval]) hrow M9.sat.left RD (fun u hu=>Wv [⟨⟨d,k⟩,en,qn⟩] u (by simpa[Me]using hu)) (by omega) ?_;intro v9 w9 H9 r10 m9;have N9:=Mv.call M9 m9;refine hK _ _ (.mk (g8:=g8) (HB:=H9) (DY:=DY) rfl rfl ⟨N9.O_,HW.2.1,(fun e=>nomatch e),HW.2.2.2.1,fun _=>⟨rfl,rfl⟩,HW.2.2.2.2.2.1,HW.2.2.2.2.2.2.1,(fun e=>nomatch e)⟩ ?_);and_intros<;>first|assumption|exact fun _=>rfl|(simp only[bM,bI,aI]<;>assumption)|exact fun _=>by rw[Ny];exact r10|exact(fun e=>nomatch e)
  ·go_simp;exact hK _ _ (.mk rfl rfl ⟨HW.1,HW.2.1,HW.2.2.1,(fun e=>nomatch e),HW.2.2.2.2.1,HW.2.2.2.2.2.1,HW.2.2.2.2.2.2.1,fun _=>rfl⟩)
  all_goals first|(go_simp;exact hK _ _ (.mk rfl rfl HW))|((obtain⟨y0,y1,y2,y4⟩:=CE W (DY++(oh b14 ⟨g8,96,#[p_ (S_ ⟨d.lb,k*5,N_⟩),p_ (S_ ⟨d.bb,0,N_⟩),i_ l_ k,i_ l_ en,i_ l_ qn]⟩++(HB++H1))) (by simpa only[az]using HW.1));go_simp;exact hK _ _ (.mk rfl rfl HW))
end
def readA(l:List UInt8)(m:aT)(k:Nat)(s:og)(r:jG):aT×og×jG×Bool:=if s.ps.length=0 then(j! m s k (vK l m k r),begS s (vK l m k r).2.1,(vK l m k r).2.2,Cb (vK l m k r).2.1)else(m,s,r,T_)
def readC(l:List UInt8)(ah:Nat)(m1:aT)(d:bu)(k:Nat)(s1:og)(n:Nat):Option Nat×jG→Option (aT×List yx×jG)
 |(none,_)=>N_
 |(some lb,r3)=>S_ ({m1 with ss:=m1.ss.set k {s1 with lb:=(lb:Int)}},(pcGo l ⟨d,k⟩ lb (jT (dV ah s1.ps.length (s1.ps.length+n))) r3).1,(pcGo l ⟨d,k⟩ lb (jT (dV ah s1.ps.length (s1.ps.length+n))) r3).2)
def readB(l:List UInt8)(ah:Nat)(m1:aT)(d:bu)(k:Nat)(s1:og)(r1:jG):Option (aT×List yx×jG):=if 3*s1.pl-2<((s1.ps.length+(pM l r1).1:Nat):Int)then N_ else readC l ah m1 d k s1 (pM l r1).1 (lbGo l (25-s1.lb.toNat) s1.lb.toNat (pM l r1).2)
theorem GX(l:List UInt8)(ah:Nat)(m:aT)(d:bu)(k:Nat)(s:og)(r:jG){m1:aT}{s1:og}{r1:jG}{ok:Bool}(h:readA l m k s r=(m1,s1,r1,ok)):readM l ah m d k s r=if ok=F_ then N_ else readB l ah m1 d k s1 r1:=by
 unfold readA at h;unfold readM;simp only[h];split
 ·rfl
 ·unfold readB;split
  ·rfl
  ·unfold readC;rfl
def alo(l:List UInt8)(d:bu)(b:di)(rb:Nat)(HR:List HB)(w w':World)(v:Value)(ok:Bool):Option (aT×List yx×jG)→Prop
 |none=>ok=F_∧∃(b':di) (HR':List HB) (r':jG),b'.ok d∧jA rb l r' HR'∧Mv w (HR++b.heap d) w' (HR'++b'.heap d)
 |some q=>ok=T_∧∃(b':di) (HR' Hv:List HB),AO v q.2.1 Hv∧b'.ok d∧b'.model=q.1∧jA rb l q.2.2 HR'∧Mv w (HR++b.heap d) w' (Hv++(HR'++b'.heap d))
def agc(l:List UInt8)(d:bu)(b:di)(rb:Nat)(HR:List HB)(w:World)(q:Option (aT×List yx×jG))(e:Ending)(w':World):Prop:=∃v o,e=r_ (t_ #[v,b_ o])∧alo l d b rb HR w w' v o q
theorem aev(d:bu)(b:di)(k rb ah:Nat)(st:gu)(l:List UInt8)(r:jG)(HR:List HB)(w:World)
 (ok:b.ok d) (hkn:k<d.n) (hst:b.G[k]?=S_ st) (hr:jA rb l r HR) (hs:Sat w (HR++b.heap d)) (hpl:0≤b.aH∧b.aH≤60) (hnn:uQ b.model.dA) (hsp:st.m.pl≤60) (hlb:st.m.lb≤24) (hs63:ah≤63) (hll:l.length≤90000000) (hrb:r.begun≤60000000) (Jb:r.left≤8):
 Calls P_ 90 #[dF.v ⟨d,k⟩,p_ (S_ ⟨rb,0,N_⟩),i_ l_ ah] w (agc l d b rb HR w (readM l ah b.model d k st.m r)):=by
 have hkk:k<4096:=eH hkn ok.small;obtain⟨g,hg⟩:=X_ (w.heap.size);obtain⟨X,hX⟩:∃X:List HB,[⟨g,66,dF.cells ⟨d,k⟩⟩]=X:=⟨_,rfl⟩;obtain⟨w1,hw1⟩:=Y_ (w.alloc (.cells (dF.cells ⟨d,k⟩) 66));have M1:Mv w (HR++b.heap d) w1 (HR++(X++b.heap d)):=by have m:=(Mv.refl hs).alloc 66 (dF.cells ⟨d,k⟩);rw[hg,←hw1]at m;rw[←hX];exact m.Z_
 have hx:⟨g,66,dF.cells ⟨d,k⟩⟩∈X:=by rw[←hX];exact aG
 have X6:Hid (∀W A H1,Mv w (HR++b.heap d) W (A++(X++H1))→Mv w (HR++b.heap d) W (A++H1)):=af (fun W A H1 m=>m.Z_);have hso:=ok.st st (aF hst);have xu:=hso.2.2.np;obtain⟨pa,pc,hvp⟩:=hso.fZ;obtain⟨⟨x0,x1,x2⟩,⟨y1,y2,y3⟩,z0,z1,-,z3,z4,-⟩:=uF M1 hx hst;rw[hvp]at z1;obtain⟨np,Z8⟩:=X_ (st.m.ps.length);rw[Z8]at z1 xu;have JI:Mv w (HR++b.heap d) w1 ((HR++b.heap d)++X):=M1.Z_;have BG:=af (ZG d b k rb st l r HR w1 ok hkn hst hr JI.sat.left hpl hnn hll (by omega) Jb);have QI:=Dl l b.aH k hpl.2 b.aH.toNat 1 b.model.dA r Jb (by have:=ok.kz.1;simpa[di.model]using this) hnn (by omega) (by omega);have eQ:vK l b.model k r=beginGo l b.aH k b.aH.toNat 1 b.model.dA r:=rfl;rw[←eQ]at QI;have hA:readA l b.model k st.m r=if np=0 then(j! b.model st.m k (vK l b.model k r),begS st.m (vK l b.model k r).2.1,(vK l b.model k r).2.2,Cb (vK l b.model k r).2.1)else(b.model,st.m,r,T_):=by unfold readA;rw[Z8]
 obtain⟨Q,hQ⟩:=X_ (vK l b.model k r);rw[hQ]at BG QI hA;obtain⟨qo,hqo⟩:=X_ (Cb Q.2.1);rw[hqo]at BG hA;have ala:qo=T_→(begS st.m Q.2.1).pl≤60:=by
  rw[←hqo];cases hq:Q.2.1 with
  |none=>intro h;simp[Cb]at h
  |some p=>intro h;have:=QI.2.2.1 p hq;simp only[begS];omega
 have hqs:(begS st.m Q.2.1).ps=st.m.ps∧(begS st.m Q.2.1).lb=st.m.lb:=by cases Q.2.1<;>exact⟨rfl,rfl⟩
 have HA:=af hA;have HW1:=af (show w1=w.alloc (.cells #[p_ (S_ ⟨d.lb,k*5,N_⟩),p_ (S_ ⟨d.bb,0,N_⟩),i_ l_ k] 66)from hw1);have KF:=NU ok hst hx hr M1 JI;have KQ:=nY QI ala hqs;have hpn:b.aH.toNat*1200≤60*1200:=dK _ (by omega);have NH:Q.2.2.begun≤60100000∧Q.2.2.left≤8:=⟨by have:=QI.2.2.2.2;omega,QI.2.2.2.1⟩;unfold dF.v at BG⊢;clear ok hst hx hr M1 JI hA hw1 hX hs hso hvp hQ hqo hnn hpl QI ala hqs eQ hpn;go_enter Tryz.func90,Tryz.ntmps90;go_upto_region 1 with fail;rw[←HW1.out];clear HW1;go_cut [15,16,17,18,19,20,21,22,23,24,25,26,27,28]from 29 (fun _ _ _ _ _ _ _ _ _ _ _ _ _ kR wx=>∃(b1:di) (HR1:List HB) (r1:jG) (s1:og) (o:Bool),kR=b_ (!o)∧readA l b.model k st.m r=(b1.model,s1,r1,o)∧b1.ok d∧b1.G[k]?=S_ {st with m:=s1}∧jA rb l r1 HR1∧Mv w (HR++b.heap d) wx (HR1++(X++b1.heap d))∧r1.begun≤60100000∧r1.left≤8∧(o=T_→s1.pl≤60)∧s1.ps.length=np∧s1.lb≤24)
 case first=>
  by_cases h0:np=0
  ·subst h0;go_wp2_with (go_at_call 113;(with_reducible refine BG.out.mono ?_);rintro e w2 ⟨rfl,K2⟩;replace K2:=af K2);go_meet;obtain⟨b1,HR1,q1,q2,q3,q4,q5⟩:=K2.out;refine⟨b1,HR1,Q.2.2,begS st.m Q.2.1,qo,rfl,by rw[HA.out,aK (by first|rfl|trivial),q2],q1,q3,q4,?_,NH.1,NH.2,KQ.2.1,by rw[KQ.2.2.1,Z8],by rw[KQ.2.2.2];exact hlb⟩;exact(Mv.call KF.2.2.2.2.2 q5).Z_
  ·have h1:¬(np:Int)=0:=by omega
   go_wp2_with fail;go_meet;exact⟨b,HR,r,st.m,T_,rfl,by rw[HA.out,aJ h0],KF.1,KF.2.1,KF.2.2.2.1,KF.2.2.2.2.1,by omega,Jb,fun _=>hsp,Z8,hlb⟩
 case rest=>
  obtain⟨b1,HR1,r1,s1,o,rfl,hA,ok1,hst1,hr1,M1,amW,akJ,akM,UN,am9⟩:=hcut;have ahN:=ok1.st _ (aF hst1);have hlb0:0≤s1.lb:=ahN.2.2.lb.1;have hpl0: -1000≤s1.pl∧s1.pl≤1000:=ahN.2.2.pl;obtain⟨⟨x0,x1,x2⟩,-,z0,z1,-,z3,z4,-⟩:=uF M1 KF.2.2.1 hst1;obtain⟨pa,pc,hvp⟩:=ahN.fZ;simp only at hvp z0 z1 z3 z4;rw[hvp,UN]at z1;have RE:=GX l ah b.model d k st.m r hA;have TL:=af (adP rb l r1 wc HR1 hr1 M1.sat.left hll (by omega) akJ);have TI:=Io l r1 akJ;have K1:=LH ok1 hst1 hr1 M1 RE;clear ok1 hst1 hr1 M1 ahN hA hvp HA KQ BG NH RE;cases o with
  |false=>have RN:Hid (readM l ah b.model d k st.m r=N_):=af (by rw[K1.2.2.2.2,aK rfl]);simp only[Bool.not_false];go_wp2_with fail;go_ret2;refine⟨_,F_,rfl,?_⟩;rw[RN.out];exact⟨rfl,b1,HR1,r1,K1.1,K1.2.2.1,X6 _ _ _ K1.2.2.2.1⟩
  |true=>
   simp only[Bool.not_true];replace akM:=akM rfl;obtain⟨tn,htn⟩:=X_ ((pM l r1).1);obtain⟨r2,hr2⟩:=X_ ((pM l r1).2);obtain⟨Cj,aiH⟩:∃Cj:Nat,s1.lb=(Cj:Int):=⟨s1.lb.toNat,(Int.toNat_of_nonneg hlb0).symm⟩;have hRB:readM l ah b.model d k st.m r=if 3*s1.pl-2<((np+tn:Nat):Int)then N_ else readC l ah b1.model d k s1 tn (lbGo l (25-s1.lb.toNat) s1.lb.toNat r2):=by rw[K1.2.2.2.2,aJ (by simp)];unfold readB;rw[htn,hr2,UN]
   rw[htn,hr2]at TL TI;rw[show s1.lb.toNat=Cj by omega]at hRB;have RB:=af hRB;clear htn hr2 hRB;go_upto_region 5 with(go_at_call 114;(with_reducible refine TL.out.mono ?_);rintro e w3 ⟨rfl,HR3,q1,q2⟩;have K3:=dS q1 (Mv.call K1.out.2.2.2.1 q2);clear q1 q2);clear x0 x1 x2 z0 z1 z3 z4;obtain⟨⟨x0,x1,x2⟩,-,z0,z1,-,z3,z4,z5⟩:=uF K3.2 KF.2.2.1 K1.2.1;by_cases hbad:3*s1.pl-2<((np+tn:Nat):Int)
   ·have aiJ:3*s1.pl-2<(np:Int)+tn:=by omega
    go_wp2_with fail;go_ret2;refine⟨_,F_,rfl,?_⟩;rw[RB.out,aK hbad];exact⟨rfl,b1,HR3,r2,K1.1,K3.1,X6 _ _ _ K3.2⟩
   ·have aiJ:¬3*s1.pl-2<(np:Int)+tn:=by omega
    have LI:=G9 l (25-Cj) Cj r2 TI.2.2.1 (by omega);have hst3:b1.Ah k {st with m:=s1} s1.said s1.lb=b1:=di.aba K1.2.1;rw[aiH]at hst3;have amY:r2.begun≤60100016:=by omega
    have RB2:Hid (readM l ah b.model d k st.m r=readC l ah b1.model d k s1 tn (lbGo l (25-Cj) Cj r2)):=af (by rw[RB.out,aJ hbad]);have hnt:np+tn≤178:=by omega
    have alL:1≤tn:=TI.1;have K2:=nY hst3 aiH LI;clear hst3 LI RB TL;go_upto_region 7 with fail;clear hbad aiJ x0 x1 x2 z0 z1 z3 z4 z5;go_loopg [50] (25-Cj) (fun gg _ wx=>∃(lb:Nat) (HR4:List HB) (r4:jG),Cj≤lb∧lb≤24∧gg=25-lb∧lbGo l (25-Cj) Cj r2=lbGo l (25-lb) lb r4∧jA rb l r4 HR4∧Mv w (HR++b.heap d) wx (HR4++(X++(b1.Ah k {st with m:=s1} s1.said (lb:Int)).heap d))∧r4.left≤8∧r4.begun+Cj≤r2.begun+lb)
    case atStart=>exact⟨Cj,HR3,r2,aN _,by omega,rfl,rfl,K3.1,by rw[K2.1];exact K3.2,TI.2.2.1,aN _⟩
    case round=>
     obtain⟨wa,rfl⟩:∃wa:World,wa=wr:=⟨_,rfl⟩;obtain⟨lb,HR4,r4,hl1,hl2,rfl,hE,q4,M4,h48,h4b⟩:=hrel;have hsd1:=(K1.1.st _ (aF K1.2.1)).2.2.said;have hg4:=di.JQ K1.2.1 s1.said (lb:Int);have ok4:=di.T! K1.1 K1.2.1 (said:=s1.said) (lb:=(lb:Int)) hsd1 ⟨by omega,by omega⟩;obtain⟨⟨x0,x1,x2⟩,-,z0,z1,-,z3,z4,z5⟩:=uF M4 KF.2.2.1 hg4;have z6:=z5 (k*5+4);simp only[gu.jP,og.jP]at z4;obtain⟨hb1,hb2,hb3⟩:=jD l r4 h48;rw[show 25-lb=(24-lb)+1 by omega,ML]at hE;have KE:=LH hE q4 M4 hg4 ok4;have aml:(eY l r4).2.begun+Cj≤r2.begun+lb+1:=by omega
     have SM:Hid (∀V Cm,Mv w (HR++b.heap d) V (Cm++(X++(b1.Ah k {st with m:=s1} s1.said (lb:Int)).heap d))→(V.cell? ⟨g,0,N_⟩=S_ (p_ (S_ ⟨d.lb,k*5,N_⟩))∧V.cell? ⟨d.lb,k*5+4,N_⟩=S_ (i_ l_ lb)∧V.frozen? ⟨d.lb,k*5+4,N_⟩=F_)∧Mv w (HR++b.heap d) (V.setCell ⟨d.lb,k*5+4,N_⟩ (i_ l_ ((lb:Int)+1))) (Cm++(X++(b1.Ah k {st with m:=s1} s1.said ((lb+1:Nat):Int)).heap d))):=af (by intro V Cm m;obtain⟨⟨x0,x1,x2⟩,-,z0,z1,-,z3,z4,z5⟩:=uF m KF.2.2.1 KE.2.2.2.1;have m2:=di.agR (A:=Cm++X) (by rw[az];exact m) KE.2.2.2.1 s1.said ((lb+1:Nat):Int) 4 (i_ l_ ((lb:Int)+1)) (by omega) rfl;rw[az,di.aa9]at m2;exact⟨⟨x0,z4,z5 _⟩,m2⟩);clear hE q4 M4 hg4 ok4 z5 hsd1;by_cases hq:(eY l r4).1=1
     ·have BB:=af (JF rb l r4 wa HR4 KE.2.1 KE.2.2.1.sat.left hll (by omega) h48);rw[hq]at BB;by_cases hov:24<lb+1
      ·have ajD:(24:Int)<lb+1:=by omega
       have RN:Hid (readM l ah b.model d k st.m r=N_):=af (by rw[RB2.out,KE.1,aK hq,aK hov];rfl);go_upto_region 9 with(go_at_call 88;(with_reducible refine BB.out.mono ?_);rintro e w5 ⟨rfl,Cm,p1,p2⟩;obtain⟨⟨v0,v4,v5⟩,m6⟩:=SM.out w5 Cm (Mv.call KE.out.2.2.1 p2);have K5:=dS p1 m6;clear p1 p2 m6);obtain⟨w6,hw6⟩:=Y_ (w5.setCell ⟨d.lb,k*5+4,N_⟩ (i_ l_ ((lb:Int)+1)));rw[←hw6]at K5⊢;obtain⟨⟨u0,-,-⟩,-,-,-,-,-,u4,-⟩:=uF K5.2 KF.2.2.1 (di.JQ K1.2.1 s1.said ((lb+1:Nat):Int));simp only[gu.jP,og.jP]at u4;push_cast at u4;clear hw6 v0 v4 v5;go_wp2_with fail;go_ret2;refine⟨_,F_,rfl,?_⟩;rw[RN.out];exact⟨rfl,_,Cm,_,di.T! K1.1 K1.2.1 (said:=s1.said) (lb:=((lb+1:Nat):Int)) (K1.1.st _ (aF K1.2.1)).2.2.said ⟨by omega,by omega⟩,K5.1,X6 _ _ _ K5.2⟩
      ·have ajD:¬(24:Int)<lb+1:=by omega
       have hE3:lbGo l (25-Cj) Cj r2=lbGo l (25-(lb+1)) (lb+1) (eY l r4).2:=by rw[KE.1,aK hq,aJ hov,show 25-(lb+1)=24-lb by omega]
       have HE3:=af hE3;clear hE3;go_upto_region 9 with(go_at_call 88;(with_reducible refine BB.out.mono ?_);rintro e w5 ⟨rfl,Cm,p1,p2⟩;obtain⟨⟨v0,v4,v5⟩,m6⟩:=SM.out w5 Cm (Mv.call KE.out.2.2.1 p2);have K5:=dS p1 m6;clear p1 p2 m6);obtain⟨w6,hw6⟩:=Y_ (w5.setCell ⟨d.lb,k*5+4,N_⟩ (i_ l_ ((lb:Int)+1)));rw[←hw6]at K5⊢;obtain⟨⟨u0,-,-⟩,-,-,-,-,-,u4,-⟩:=uF K5.2 KF.2.2.1 (di.JQ K1.2.1 s1.said ((lb+1:Nat):Int));simp only[gu.jP,og.jP]at u4;push_cast at u4;clear hw6 v0 v4 v5;go_wp2_with fail;go_roundg (25-(lb+1))
       case measure=>omega
       case rel=>exact⟨lb+1,Cm,(eY l r4).2,by omega,by omega,rfl,HE3.out,K5.1,K5.2,hb2,by omega⟩
     ·have hq0:(eY l r4).1=0:=by omega
      have BB:=af (JF rb l r4 wa HR4 KE.2.1 KE.2.2.1.sat.left hll (by omega) h48);rw[hq0]at BB;obtain⟨r5,Ob⟩:=X_ ((eY l r4).2);obtain⟨L,hL⟩:=X_ (jT (dV ah np (np+tn)));have hLl:L.length≤178:=by rw[←hL];have h1:=xJ ah np (np+tn);have h2:(jT (dV ah np (np+tn))).length=(dV ah np (np+tn)).length:=aO _;omega
      have hLb:∀i,0≤L.getD i 0∧L.getD i 0≤1000:=by rw[←hL];exact Ko ah np (np+tn) (by omega)
      obtain⟨m2,hm2⟩:∃m2,(b1.Ah k {st with m:=s1} s1.said (lb:Int)).model=m2:=⟨_,rfl⟩;have RE:Hid (readM l ah b.model d k st.m r=S_ (m2,(pcGo l ⟨d,k⟩ lb L r5).1,(pcGo l ⟨d,k⟩ lb L r5).2)):=af (by rw[RB2.out,KE.1,aJ hq,Ob];unfold readC;simp only;rw[UN,hL,←hm2,di.Yx];rfl);rw[Ob]at BB hb2 hb3 aml;obtain⟨b2,ajL⟩:∃b2,b1.Ah k {st with m:=s1} s1.said (lb:Int)=b2:=⟨_,rfl⟩;rw[ajL]at KE hm2;have hg2:b2.G[k]?=S_ (gu.jP {st with m:=s1} s1.said (lb:Int)):=by rw[←ajL];exact di.JQ K1.2.1 _ _
      have K6:=nY KE.2.2.2.2 hm2 hg2;obtain⟨i0,hti,hz0,hz1,hz2⟩:=qJ aan;have hm:=fun W=>Ec (P:=P_) 38 3 i0 _ 1 8 (np+tn) Tryz.underlying38 hti hz0 hz1 hz2 rfl (by decide) (by omega) (by omega) W;rw[Qr]at hm;simp only[Int.natCast_add]at hm;have ar:(List.replicate (np+tn) (Value.int l_ 0)).toArray=Array.replicate (np+tn) (i_ l_ 0):=by simp
      rw[ar]at hm;have MS:Hid (∀V Cm,Mv w (HR++b.heap d) V (Cm++(X++b2.heap d))→Calls P_ 75 #[i_ l_ ah,i_ l_ np,i_ l_ ((np:Int)+tn),s_ (S_ ⟨V.heap.size,0,N_⟩) (np+tn) (np+tn)] (V.alloc (.cells (Array.replicate (np+tn) (Value.int l_ 0)) 3)) fun e w'=>∃a1 c1 a2 c2 n2 H1,e=r_ (t_ #[s_ a1 L.length c1,s_ a2 n2 c2])∧jy (s_ a1 L.length c1) L H1∧Mv w (HR++b.heap d) w' (H1++(Cm++(X++b2.heap d)))):=af (by
       intro V Cm m;have m1:=m.alloc 3 (Array.replicate (np+tn) (Value.int l_ 0));have hrow:jy (s_ (S_ ⟨V.heap.size,0,N_⟩) (np+tn) (np+tn)) (List.replicate (np+tn) 0) [AU V.heap.size (List.replicate (np+tn) 0)]:=VX _ _ _ (by simp) (by unfold maxLen;omega);have hrc:AU V.heap.size (List.replicate (np+tn) 0)=⟨V.heap.size,3,Array.replicate (np+tn) (Value.int l_ 0)⟩:=by unfold AU;rw[List.map_replicate,ar]
       have m2:Mv w (HR++b.heap d) (V.alloc (.cells (Array.replicate (np+tn) (Value.int l_ 0)) 3)) ([AU V.heap.size (List.replicate (np+tn) 0)]++(Cm++(X++b2.heap d))):=by rw[hrc];exact m1
       have sg:=Us ah np (np+tn) (List.replicate (np+tn) 0) _ _ _ hs63 (by omega) (by simp) (by simp;omega) (by intro e he;rw[List.mem_replicate]at he;omega) hrow m2.sat.left;simp only[Int.natCast_add]at sg;refine sg.mono ?_;rintro e w' ⟨v1,v2,H1,H2,rfl,h1,h2,m3⟩;obtain⟨a1,c1,rfl⟩:=h1.slice;obtain⟨a2,c2,rfl⟩:=h2.slice;rw[hL]at h1⊢;refine⟨a1,c1,a2,c2,_,H1,rfl,h1,?_⟩;exact(Mv.call m2 m3).Z_)
      have hpos:(0:Int)≤np+tn:=by omega
      clear Ob hL ajL hm2 hg2 hq hq0 hb1 SM ar hz0 hz1 hz2;go_upto_region 12 with(first
       |(go_at_call 88;(with_reducible refine BB.out.mono ?_);rintro e w5 ⟨rfl,Cm,p1,p2⟩;have K5:=dS p1 (Mv.call KE.out.2.2.1 p2);clear p1 p2)
       |(go_at_call 75;(with_reducible refine(MS.out w5 Cm K5.out.2).mono ?_);rintro e w7 ⟨a1,c1,a2,c2,n2,H1,rfl,p1,p2⟩;have K7:=dS p1 p2;clear p1 p2))
      obtain⟨cnt,hcnt⟩:=X_ (L.length);rw[hcnt]at K7 hLl⊢;have HLB:=dS hLb hcnt;have K8:=af K5.1;clear hm hLb hcnt MS K5 BB;go_upto_region 14 with fail;go_loopg [12,14,82] cnt (fun gg s12 _ s82 wx=>∃(i:Nat) (Hv QY:List HB),i≤cnt∧gg=cnt-i∧s82=i_ l_ i∧AO s12 (pcGo l ⟨d,k⟩ lb (L.take i) r5).1 Hv∧jA rb l (pcGo l ⟨d,k⟩ lb (L.take i) r5).2 QY∧Mv w (HR++b.heap d) wx (Hv++(H1++(QY++(X++b2.heap d)))))
      case atStart=>exact⟨0,[],Cm,aY _,rfl,rfl,dh.nil _ _,by rw[List.take_zero];exact K8.out,K7.2⟩
      case round=>
       obtain⟨wb,rfl⟩:∃wb:World,wb=wr:=⟨_,rfl⟩;obtain⟨i,Hv,QY,hi,rfl,rfl,q1,q2,M9⟩:=hrel;obtain⟨PG,hPG⟩:=X_ (pcGo l ⟨d,k⟩ lb (L.take i) r5);have PI:=J5 l ⟨d,k⟩ lb (L.take i) r5 hb2;rw[hPG]at q1 q2 PI;by_cases hlt:i<cnt
       ·have hlt2:(i:Int)<cnt:=by omega
        obtain⟨g1,hg1⟩:=K7.1.form (by omega);subst hg1;have hLb:=HLB.1 i;obtain⟨en,hen⟩:∃en:Nat,L.getD i 0=(en:Int):=⟨(L.getD i 0).toNat,(Int.toNat_of_nonneg hLb.1).symm⟩;have he1:L[i]?=S_ (en:Int):=by rw[←hen,ax,ai (by rw[HLB.2];exact hlt)];rfl
        have c9:=K7.1.at_ M9.sat.right.left he1;have anf:en≤1000:=by omega
        have LG:=af (fun V=>log_any en V (by omega));obtain⟨ln,hln⟩:=X_ (en.log2);have akQ:ln≤10:=by
         rw[←hln];by_cases h0:en=0
         ·rw[h0];decide
         ·exact Nat.le_of_lt_succ ((uV h0).2 (by omega))
        rw[hln]at LG;obtain⟨qn,hqn⟩:=X_ ((yO l ((lb+ln:Nat):Int) PG.2).1);obtain⟨r9,Xf⟩:=X_ ((yO l ((lb+ln:Nat):Int) PG.2).2);have CE:Hid (∀V A',Mv w (HR++b.heap d) V (A'++(X++b2.heap d))→V.cell? ⟨g,0,N_⟩=S_ (p_ (S_ ⟨d.lb,k*5,N_⟩))∧V.cell? ⟨g,1,N_⟩=S_ (p_ (S_ ⟨d.bb,0,N_⟩))∧V.cell? ⟨g,2,N_⟩=S_ (i_ l_ k)∧V.cell? ⟨d.lb,k*5+4,N_⟩=S_ (i_ l_ lb)):=af (by intro V A' m;obtain⟨⟨x0,x1,x2⟩,-,z0,z1,-,z3,z4,z5⟩:=uF m KF.2.2.1 K6.2.2;exact⟨x0,x1,x2,z4⟩);have M9':Mv w (HR++b.heap d) wb (QY++(Hv++(H1++(X++b2.heap d)))):=M9.Z_;have BI:Hid (∀V R,Mv w (HR++b.heap d) V (QY++R)→Calls P_ 115 #[p_ (S_ ⟨rb,0,N_⟩),i_ l_ ((lb:Int)+ln)] V fun e w'=>e=r_ (i_ l_ qn)∧∃HR',jA rb l r9 HR'∧Mv w (HR++b.heap d) w' (HR'++R)):=af (by intro V R m;have h:=aay rb l PG.2 ((lb+ln:Nat):Int) V QY q2 m.sat.left hll (by have:=PI.2.2.1;rw[bT]at this;omega) PI.2.1;rw[hqn,Xf,Int.natCast_add]at h;refine h.mono ?_;rintro e w' ⟨rfl,HR',p1,p2⟩;exact⟨rfl,HR',p1,Mv.call m p2⟩);obtain⟨pa9,pc9,rfl⟩:=q1.slice;have hpn:PG.1.length=i:=by rw[PI.1,bT,HLB.2];omega
        have alR:=af hpn;rw[hpn]at q1;have q1':dh 96 5 (s_ pa9 i pc9) i (Me PG.1) Hv:=by unfold AO at q1;rw[hpn]at q1;exact q1
        have hstep:pcGo l ⟨d,k⟩ lb (L.take (i+1)) r5=(PG.1++[⟨⟨d,k⟩,en,qn⟩],r9):=by rw[eU,he1];show pcGo l ⟨d,k⟩ lb (L.take i++[(en:Int)]) r5=_;rw[MH,hPG,Int.toNat_natCast,hln,hqn,Xf]
        have K9:=nY q1' M9' hstep;rw[hpn];have ak0:i≤1000:=by omega
        clear q1 q1' q2 M9 M9' hPG PI hstep hpn hqn Xf hln hen hLb he1;go_upto_region 16 with fail;refine lU (aeu _ d b2 k g rb lb en ln qn i pc9 pa9 l r9 PG.1 QY Hv H1 X (HR++b.heap d) w wb _ _ _ _ _ _ _ _ _ _ _ _ _ _ _ _ _ _ _ _ _ _ _ _ _ _ _ _ _ _ _ _ _ _ _ _ _ _ _ _ _ _ _ _ _ _ _ _ _ _ _ _ _ _ _ _ _ _ _ _ _ _ _ _ _ _ _ _ _ _ _ _ _ _ _ _ _ _ _ _ _ _ _ _ _ _ _ _ _ _ _ _ _ _ _ _ _ _ _ _ CE LG BI hl2 akQ ak0 K9.1 K9.2.1 ?_);rintro _ _ _ _ _ _ _ _ _ _ _ _ _ _ _ LV u12 g8 HB DY W HW ⟨-,p2⟩ p1 rfl;obtain⟨a12,c12,rfl⟩:=dh.slice p1;have K10:Hid (AO (s_ a12 (i+1) c12) (PG.1++[⟨⟨d,k⟩,en,qn⟩]) HB∧jA rb l r9 DY∧Mv w (HR++b.heap d) W (HB++(H1++(DY++(X++b2.heap d))))):=af ⟨by
         have e:(PG.1++[(⟨⟨d,k⟩,en,qn⟩:yx)]).length=i+1:=by rw[au,alR.out];rfl
         unfold AO;rw[e];exact p1,p2,HW.1.O_⟩
        clear p1 p2 HW;go_wp2_with fail;go_roundg (cnt-(i+1))
        case measure=>omega
        case rel=>exact⟨i+1,HB,DY,by omega,rfl,by push_cast;rfl,by rw[K9.2.2];exact K10.1,by rw[K9.2.2];exact K10.2.1,K10.2.2⟩
       ·obtain rfl:i=cnt:=by omega
        have hlt2:¬(i:Int)<i:=by omega
        have hfin:pcGo l ⟨d,k⟩ lb L r5=PG:=by rw[←hPG,dC (by rw[HLB.2];exact aN _)]
        have K9:=zO q1 q2 M9 hfin;clear q1 q2 M9 hfin hPG PI;go_wp2_with fail;go_ret2;refine⟨_,T_,rfl,?_⟩;rw[RE.out,K9.2.2.2];exact⟨rfl,b2,QY,Hv,K9.1,K6.1,K6.2.1,K9.2.1,by have m:=X6 _ (Hv++(H1++QY)) _ (by simpa only[az]using K9.2.2.1);exact m.Z_⟩
end
end Go.Proofs.YtjngfhgakokejaaGreat
