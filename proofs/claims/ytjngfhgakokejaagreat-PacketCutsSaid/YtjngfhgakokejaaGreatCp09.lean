/- waveletref8: a place's bit of a plane; a place is tried. waveletref6: the n-th place of a scan. waveletref8: a significance pass. waveletref8: a refinement pass. waveletref8: is a column run over at once? waveletref8: a column in a cleanup. -/
import Derived.Test.YtjngfhgakokejaaGreatCp08
set_option maxRecDepth 100000
set_option maxHeartbeats 8000000
set_option linter.all false
namespace Go.Proofs.YtjngfhgakokejaaGreat
section
open Go.RowKit
theorem mag_lt {G:GeoM} (hg:G.Ok) (i:Nat):G.mag.getD i 0<1073741824:=by
 rw[List.getD_eq_getElem?_getD]
 cases h:G.mag[i]? with
 | none=>simp
 | some n=>exact hg.magB n (List.mem_of_getElem? h)
theorem cod_mag (A:CodA) (G:GeoM) (q:CS) (raw:Bool) (eg rg i plane k:Nat) (H:List HB) (w:World) (hg:G.Ok) (hc:q.c.Ok G) (h:CodR A G q raw eg rg H) (hs:Sat w H) (hq:q.s.Ok) (hz:q.s.size≤80000000) (hi:i<G.w * G.h) (hp:plane≤40) (hk:k<19) :
  Calls Tryz.prog 122 #[.pointer (some ⟨A.cb,0,none⟩),.int .i64 (i:Int),.int .i64 (plane:Int),.int .i64 (k:Int)] w fun e w'=>e=.returned (.int .i64 ((bitOf G i plane:Nat):Int))∧∃ H',CodR A G ⟨q.c,bitW raw q.s k (bitOf G i plane)⟩ raw eg rg H'∧Mv w H w' H':=by
 have V:=h.see hg hc hs
 have c4:=V.m_
 unfold slV at c4
 have ci:=V.mag i hi
 have mb:=mag_lt hg i
 have BO:bitOf G i plane=G.mag.getD i 0 / 2 ^ plane % 2:=rfl
 obtain⟨m,hm⟩:∃ m,G.mag.getD i 0=m:=⟨_,rfl⟩
 rw[hm] at ci mb BO
 obtain⟨b,hb⟩:∃ b,bitOf G i plane=b:=⟨_,rfl⟩
 have bl:b≤1:=by rw[← hb];exact bitOf_le G i plane
 rw[hb] at BO ⊢
 have BT:=Lib.hid (cod_bit A G q raw eg rg k b H w h hs hq hz hk bl)
 have KQ:=Lib.hid hq
 have n4:G.w * G.h≤4096:=Nat.mul_le_mul hg.w2 hg.h2
 obtain⟨n,hn⟩:∃ n,G.w * G.h=n:=⟨_,rfl⟩
 rw[hn] at c4 hi n4
 have i1:(i:Int)<(n:Int):=by omega
 have EV:bits .and .i64 ((m:Int) / 2 ^ plane) 1=(b:Int):=by
  rw[i64_and1,BO]
  push_cast
  rfl
 clear V hm hb h hs hq hz hg hc hn BO
 go_enter Tryz.func122,Tryz.ntmps122
 go_wp2_with (go_at_call 127;refine BT.out.mono ?_;rintro e w1 ⟨rfl,H1,h1,m1⟩;have t0:=(h1.tail m1.sat (bitW_ok KQ.out hk b)).1;have K1:=Lib.hid (And.intro h1 m1);clear h1 m1)
 go_ret
 exact⟨rfl,H1,K1.out.1,K1.out.2⟩
theorem bitW_size {raw:Bool} {s:WrM} (h:s.Ok) {k:Nat} (hk:k<19) (b:Nat):(bitW raw s k b).size≤s.size+16:=by
 have:=((Says.one raw s (k:=k) b hk).grow h).2.2
 omega
end
section
open Go.RowKit
theorem scan_lt2 {w h n:Nat} (hw:1≤w) (hn:n<w * h):scanX w h n<w∧scanY w h n<h:=by
 obtain⟨q,hq⟩:∃ q,n / w=q:=⟨_,rfl⟩
 obtain⟨s,hs⟩:∃ s,q / 4=s:=⟨_,rfl⟩
 have hqh:q<h:=by rw[← hq];exact(Nat.div_lt_iff_lt_mul hw).2 (by rw[Nat.mul_comm];exact hn)
 have h4:4 * s≤q∧q<4 * s+4:=by omega
 have hq1:q * w≤n:=by rw[← hq];exact Nat.div_mul_le_self n w
 have hq2:n<(q+1) * w:=by
  have:=Nat.lt_mul_div_succ n hw
  rw[hq,Nat.mul_comm] at this
  exact this
 have e1:4 * w * s=4 * s * w:=by rw[Nat.mul_assoc,Nat.mul_comm w s,← Nat.mul_assoc]
 have h5:4 * s * w≤n:=Nat.le_trans (Nat.mul_le_mul_right _ h4.1) hq1
 unfold scanX scanY
 rw[hq,hs,e1]
 obtain⟨r,hr⟩:∃ r,min 4 (h - 4 * s)=r:=⟨_,rfl⟩
 rw[hr]
 have hr1:1≤r:=by omega
 have hrest:n - 4 * s * w<w * r:=by
  by_cases h4r:h - 4 * s<4
  ·have e2:r=h - 4 * s:=by omega
   rw[e2,Nat.mul_sub,Nat.mul_comm w (4 * s)]
   exact Nat.sub_lt_sub_right h5 hn
  ·have e2:r=4:=by omega
   rw[e2]
   have h6:(q+1) * w≤(4 * s+4) * w:=Nat.mul_le_mul_right _ (by omega)
   rw[Nat.add_mul (4 * s)] at h6
   rw[Nat.mul_comm w 4]
   exact Nat.sub_lt_left_of_lt_add h5 (Nat.lt_of_lt_of_le hq2 h6)
 refine⟨(Nat.div_lt_iff_lt_mul hr1).2 hrest,?_⟩
 have:=Nat.mod_lt (n - 4 * s * w) hr1
 omega
theorem rest_in (n P:Nat) (h:P≤n) (hn:n<4096):wrap64 ((n:Int) - wrap64 (P:Int))=((n - P:Nat):Int):=by
 rw[IntWalk.wrap64_in (P:Int) ⟨by omega,by omega⟩,IntWalk.wrap64_in _ ⟨by omega,by omega⟩]
 omega
theorem scan_wrap (r m s:Nat) (h1:1≤m) (h2:r≤4096) (h3:s≤16) (h4:m≤4):wrap64 ((r:Int) / (m:Int))=((r / m:Nat):Int)∧wrap64 (4 * (s:Int)+(r:Int) % (m:Int))=((4 * s+r % m:Nat):Int):=by
 have e1:(r:Int) / (m:Int)=((r / m:Nat):Int):=rfl
 have e2:4 * (s:Int)+(r:Int) % (m:Int)=((4 * s+r % m:Nat):Int):=by push_cast;rfl
 have b1:r / m≤r:=Nat.div_le_self r m
 have b2:r % m<m:=Nat.mod_lt r h1
 rw[e1,e2]
 generalize r / m=d at *
 generalize r % m=d2 at *
 clear e1 e2
 constructor
 ·exact IntWalk.wrap64_in _ ⟨by omega,by omega⟩
 ·exact IntWalk.wrap64_in _ ⟨by omega,by omega⟩
theorem scan_any (w h n:Nat) (W:World) (hw:1≤w) (hw2:w≤64) (hh:1≤h) (hh2:h≤64) (hn:n<w * h) :
  Calls Tryz.prog 120 #[.int .i64 (w:Int),.int .i64 (h:Int),.int .i64 (n:Int)] W fun e w'=>e=.returned (.tuple #[.int .i64 ((scanX w h n:Nat):Int),.int .i64 ((scanY w h n:Nat):Int)])∧Drew W w':=by
 have n4:n<4096:=Nat.lt_of_lt_of_le hn (Nat.mul_le_mul hw2 hh2)
 obtain⟨q,hq⟩:∃ q,n / w=q:=⟨_,rfl⟩
 have hqh:q<h:=by rw[← hq];exact(Nat.div_lt_iff_lt_mul hw).2 (by rw[Nat.mul_comm];exact hn)
 have qi:(n:Int) / (w:Int)=(q:Int):=by rw[← hq];rfl
 have HX:=Lib.hid (And.intro hq hn)
 clear hq hn
 have d1:decide ((w:Int)<1)=false:=by simp;omega
 have d2:decide ((h:Int)<1)=false:=by simp;omega
 have d3:decide ((n:Int)<0)=false:=by simp
 have d4:decide ((h:Int)≤(q:Int))=false:=by simp;omega
 go_enter Tryz.func120,Tryz.ntmps120
 go_upto_region 5 with fail
 obtain⟨s,hs⟩:∃ s,q / 4=s:=⟨_,rfl⟩
 have si:(q:Int) / 4=(s:Int):=by rw[← hs];rfl
 have hq1:q * w≤n:=by rw[← HX.out.1];exact Nat.div_mul_le_self n w
 have h4:4 * s≤q:=by omega
 have h5:4 * w * s≤n:=by
  have e1:4 * w * s=4 * s * w:=by rw[Nat.mul_assoc,Nat.mul_comm w s,← Nat.mul_assoc]
  rw[e1]
  exact Nat.le_trans (Nat.mul_le_mul_right _ h4) hq1
 obtain⟨r,hr⟩:∃ r,n - 4 * w * s=r:=⟨_,rfl⟩
 have hR:wrap64 ((n:Int) - wrap64 (4 * (w:Int) * (s:Int)))=(r:Int):=by
  have e1:4 * (w:Int) * (s:Int)=((4 * w * s:Nat):Int):=by push_cast;rfl
  rw[e1,← hr]
  exact rest_in n _ h5 n4
 obtain⟨m,hm⟩:∃ m,min 4 (h - 4 * s)=m:=⟨_,rfl⟩
 have hm1:1≤m:=by omega
 have hM:(if (h:Int) - 4 * (s:Int)<4 then (h:Int) - 4 * (s:Int) else 4)=(m:Int):=by split <;> omega
 have rn:r≤4096:=Nat.le_trans (by rw[← hr];exact Nat.sub_le _ _) (Nat.le_of_lt n4)
 have ER:Hid (scanX w h n=r / m∧scanY w h n=4 * s+r % m):=Lib.hid (by unfold scanX scanY;simp only[HX.out.1,hs,hr,hm,and_self])
 have s64:s≤16:=by omega
 simp only[si,hR]
 have HM:=Lib.hid hM
 have m4:m≤4:=by omega
 have hs4:4 * s<h:=by omega
 clear hs si hq1 h4 h5 hr hR hm hM HX qi hqh
 go_upto_region 6 with fail
 simp only[HM.out]
 generalize wrap64 (4 * (w:Int) * (s:Int))=u1
 clear HM hs4
 go_quiet (fail)
 go_wp2_with fail
 go_ret2
 rw[ER.out.1,ER.out.2]
 refine⟨?_,_,rfl⟩
 show Ending.returned (.tuple #[.int .i64 (wrap64 ((r:Int) / (m:Int))),.int .i64 (wrap64 (4 * (s:Int)+(r:Int) % (m:Int)))])=_
 obtain⟨w1,w2⟩:=scan_wrap r m s hm1 rn s64 m4
 rw[w1,w2]
end
section
open Go.RowKit
theorem cod_sigp (A:CodA) (G:GeoM) (q:CS) (raw:Bool) (eg rg plane:Nat) (H:List HB) (w:World) (hg:G.Ok) (hc:q.c.Ok G) (h:CodR A G q raw eg rg H) (hs:Sat w H) (hq:q.s.Ok) (hz:q.s.size+32 * (G.w * G.h)≤80000000) (hp:plane≤40) :
  Calls Tryz.prog 101 #[.pointer (some ⟨A.cb,0,none⟩),.int .i64 (plane:Int)] w fun e w'=>e=.returned (.tuple #[])∧∃ H',CodR A G (runM (sigStep G raw plane) (G.w * G.h) 0 q) raw eg rg H'∧Mv w H w' H':=by
 obtain⟨n,hn⟩:∃ n,G.w * G.h=n:=⟨_,rfl⟩
 have n4:n≤4096:=by rw[← hn];exact Nat.mul_le_mul hg.w2 hg.h2
 rw[hn] at hz ⊢
 obtain⟨R,hR⟩:∃ R,runM (sigStep G raw plane) n 0 q=R:=⟨_,rfl⟩
 rw[hR]
 have K0:=Lib.hid (And.intro h (And.intro (Mv.refl hs) (And.intro hc (And.intro hq (And.intro hz hR)))))
 have HG:=Lib.hid (And.intro hg hn)
 have u1:(G.w:Int) * (G.h:Int)≤4096:=by
  have:((G.w * G.h:Nat):Int)≤4096:=by rw[hn];omega
  push_cast at this
  exact this
 have u2:(0:Int)≤(G.w:Int) * (G.h:Int):=Int.mul_nonneg (by omega) (by omega)
 clear h hs hc hq hz hR hg hn
 go_enter Tryz.func101,Tryz.ntmps101
 go_wp2_with fail
 go_loopg [4] n (fun m s4 wx=>∃ (j:Nat) (q1:CS) (H1:List HB),j≤n∧m=n - j∧s4=.int .i64 (j:Int)∧CodR A G q1 raw eg rg H1∧Mv w H wx H1∧q1.c.Ok G∧q1.s.Ok∧q1.s.size+32 * (n - j)≤80000000∧runM (sigStep G raw plane) (n - j) j q1=R)
 case atStart=>exact⟨0,q,H,by omega,rfl,rfl,K0.out.1,K0.out.2.1,K0.out.2.2.1,K0.out.2.2.2.1,K0.out.2.2.2.2.1,K0.out.2.2.2.2.2⟩
 case round =>
  obtain⟨j,q1,H1,hj,rfl,rfl,h1,m1,hc1,hq1,hz1,hR1⟩:=hrel
  have V:=h1.see HG.out.1 hc1 m1.sat
  have c0:=V.w_
  have c1:=V.h_
  have K1:=Lib.hid (And.intro h1 (And.intro m1 (And.intro hc1 (And.intro hq1 (And.intro hz1 hR1)))))
  clear V h1 m1 hc1 hq1 hz1 hR1
  by_cases hlt:j<n
  ·have d1:decide ((j:Int)<(G.w:Int) * (G.h:Int))=true:=by
    have:((G.w * G.h:Nat):Int)=(n:Int):=by rw[HG.out.2]
    push_cast at this
    rw[this]
    simp;omega
   go_upto_region 1 with fail
   go_quiet (fail)
   have K2:=Lib.hid (K1.out.2.1.drewN nq)
   have c0:(wr.drewN nq).cell? ⟨A.cb,0,none⟩=some (.int .i64 (G.w:Int)):=c0
   have c1:(wr.drewN nq).cell? ⟨A.cb,1,none⟩=some (.int .i64 (G.h:Int)):=c1
   generalize wr.drewN nq=w2 at *
   have SC:=Lib.hid fun W=>scan_any G.w G.h j W HG.out.1.w1 HG.out.1.w2 HG.out.1.h1 HG.out.1.h2 (by rw[HG.out.2];exact hlt)
   obtain⟨sx,sy⟩:=scan_lt2 HG.out.1.w1 (show j<G.w * G.h by rw[HG.out.2];exact hlt)
   obtain⟨x,hx⟩:∃ x,scanX G.w G.h j=x:=⟨_,rfl⟩
   obtain⟨y,hy⟩:∃ y,scanY G.w G.h j=y:=⟨_,rfl⟩
   rw[hx,hy] at SC
   rw[hx] at sx
   rw[hy] at sy
   have HXY:=Lib.hid (And.intro hx hy)
   clear hx hy
   go_upto_region 3 with fail
   go_quiet (first | (go_at_call 120;exact Calls.quiet_of (SC.out _)))
   have M3:=K2.out.drewN nq
   generalize w2.drewN nq=w3 at *
   have V3:=K1.out.1.see HG.out.1 K1.out.2.2.1 M3.sat
   have c0:=V3.w_
   obtain⟨p0,p1,p2,p3,p4,p5⟩:=place HG.out.1 sx sy
   obtain⟨i,hi⟩:∃ i,y * G.w+x=i:=⟨_,rfl⟩
   obtain⟨kk,hkk⟩:∃ kk,zeroM G q1.c x y=kk:=⟨_,rfl⟩
   have kb:kk≤8:=by rw[← hkk];exact zeroM_le G q1.c x y
   have ZA:=Lib.hid (zero_any A G q1.c x y w3 HG.out.1 V3 sx sy)
   rw[hkk] at ZA
   have SE:Hid (sigStep G raw plane q1 j=if q1.c.sig.getD i false=true∨kk=0 then q1 else ⟨{ (tryM G raw q1 x y plane kk).c with seen:=(tryM G raw q1 x y plane kk).c.seen.set i true },(tryM G raw q1 x y plane kk).s⟩):=Lib.hid (by
    unfold sigStep
    rw[HXY.out.1,HXY.out.2,hi,hkk])
   have hii:(y:Int) * (G.w:Int)+(x:Int)=(i:Int):=by rw[← hi];push_cast;rfl
   have K3:=Lib.hid (And.intro M3 (And.intro hi hii))
   clear hii hi hkk V3 M3 K2 SC
   go_upto_region 5 with fail
   simp only[K3.out.2.2]
   generalize (y:Int) * (G.w:Int)=u3 at *
   clear p2 p3 p4 p5
   rw[K3.out.2.1,HG.out.2] at p0
   have i1:(i:Int)<(n:Int):=by omega
   go_upto_region 6 with (go_at_call 121;refine ZA.out.mono ?_;rintro e w4 ⟨rfl,dr⟩;have K4:=Lib.hid (dr.mv K3.out.1);clear dr)
   have V4:=K1.out.1.see HG.out.1 K1.out.2.2.1 K4.out.sat
   have c6:=V4.s_
   unfold slV at c6
   rw[HG.out.2] at c6
   have ci:=V4.sig i (by rw[HG.out.2];exact p0)
   clear V4
   have RS:Hid (runM (sigStep G raw plane) (n - (j+1)) (j+1) (sigStep G raw plane q1 j)=R):=Lib.hid (by
    have:=K1.out.2.2.2.2.2
    rw[show n - j=(n - (j+1))+1 by omega] at this
    exact this)
   by_cases hcon:q1.c.sig.getD i false=true∨kk=0
   ·have SE2:Hid (sigStep G raw plane q1 j=q1):=Lib.hid (by rw[SE.out,if_pos hcon])
    have FIN:Hid (CodR A G q1 raw eg rg H1∧Mv w H w4 H1∧q1.c.Ok G∧q1.s.Ok∧q1.s.size+32 * (n - (j+1))≤80000000∧runM (sigStep G raw plane) (n - (j+1)) (j+1) q1=R):=Lib.hid ⟨K1.out.1,K4.out,K1.out.2.2.1,K1.out.2.2.2.1,by have:=K1.out.2.2.2.2.1;omega,by have:=RS.out;rw[SE2.out] at this;exact this⟩
    rcases(Bool.eq_false_or_eq_true (q1.c.sig.getD i false)) with hsg | hsg
    ·rw[hsg] at ci
     clear hcon hsg
     go_wp2_with fail
     go_roundg (n - (j+1))
     case measure=>omega
     case rel=>exact⟨j+1,q1,H1,by omega,rfl,by push_cast;rfl,FIN.out⟩
    ·have k0:kk=0:=by
      rcases hcon with h | h
      ·rw[hsg] at h;cases h
      ·exact h
     rw[hsg] at ci
     have d5:((kk:Int) == 0)=true:=by rw[k0];rfl
     have HK:=Lib.hid k0
     clear hcon hsg k0
     go_wp2_with fail
     go_roundg (n - (j+1))
     case measure=>omega
     case rel=>exact⟨j+1,q1,H1,by omega,rfl,by push_cast;rfl,FIN.out⟩
   ·have hsg:q1.c.sig.getD i false=false:=by
     rcases(Bool.eq_false_or_eq_true (q1.c.sig.getD i false)) with h | h
     ·exact absurd (.inl h) hcon
     ·exact h
    have k0:¬ kk=0:=fun h=>hcon (.inr h)
    rw[hsg] at ci
    have d5:((kk:Int) == 0)=false:=beq_eq_false_iff_ne.2 (by omega)
    have SE2:Hid (sigStep G raw plane q1 j=⟨{ (tryM G raw q1 x y plane kk).c with seen:=(tryM G raw q1 x y plane kk).c.seen.set i true },(tryM G raw q1 x y plane kk).s⟩):=Lib.hid (by rw[SE.out,if_neg hcon])
    clear hcon hsg
    obtain⟨b,hb⟩:∃ b,bitOf G i plane=b:=⟨_,rfl⟩
    have MG:=Lib.hid (cod_mag A G q1 raw eg rg i plane kk H1 w4 HG.out.1 K1.out.2.2.1 K1.out.1 K4.out.sat K1.out.2.2.2.1 (by have:=K1.out.2.2.2.2.1;omega) (by rw[HG.out.2];exact p0) hp (by omega))
    have TM:Hid (tryM G raw q1 x y plane kk=if b=1 then signM G raw ⟨q1.c,bitW raw q1.s kk b⟩ x y else ⟨q1.c,bitW raw q1.s kk b⟩):=Lib.hid (by unfold tryM;rw[K3.out.2.1,hb])
    rw[hb] at MG
    obtain⟨qa,hqa⟩:∃ qa:CS,(⟨q1.c,bitW raw q1.s kk b⟩:CS)=qa:=⟨_,rfl⟩
    have QA:Hid (qa.c.Ok G∧qa.s.Ok∧qa.s.size≤80000000):=Lib.hid (by
     rw[← hqa]
     exact⟨K1.out.2.2.1,bitW_ok K1.out.2.2.2.1 (by omega) b,by have:=bitW_size (raw:=raw) K1.out.2.2.2.1 (k:=kk) (by omega) b;have:=K1.out.2.2.2.2.1;simp only;omega⟩)
    rw[hqa] at TM MG
    have QS:Hid (∀ q2,tryM G raw q1 x y plane kk=q2→q2.c.Ok G∧q2.s.Ok∧q2.s.size+32 * (n - (j+1))≤80000000):=Lib.hid (by
     intro q2 h2
     have e1:=tryM_ok (raw:=raw) K1.out.2.2.1 x y plane kk
     have e2:=tryM_says (raw:=raw) (G:=G) q1 x y plane (k:=kk) (by omega)
     have e3:=e2.ok K1.out.2.2.2.1
     have e4:=(e2.grow K1.out.2.2.2.1).2.2
     rw[h2] at e1 e3 e4
     exact⟨e1,e3,by have:=K1.out.2.2.2.2.1;omega⟩)
    have FIN:Hid (∀ q2 H2 w5,tryM G raw q1 x y plane kk=q2→CodR A G q2 raw eg rg H2→Mv w H w5 H2→w5.cell? ⟨A.cb,7,none⟩=some (.slice (some ⟨A.ge,0,none⟩) n n)∧(∃ u,w5.cell? ⟨A.ge,i,none⟩=some (.bool u))∧w5.frozen? ⟨A.ge,i,none⟩=false ∧
      Hid (∃ q3 H3,CodR A G q3 raw eg rg H3∧Mv w H (w5.setCell ⟨A.ge,i,none⟩ (.bool true)) H3∧q3.c.Ok G∧q3.s.Ok∧q3.s.size+32 * (n - (j+1))≤80000000∧runM (sigStep G raw plane) (n - (j+1)) (j+1) q3=R)):=Lib.hid (by
     intro q2 H2 w5 h2 r2 m2
     obtain⟨o1,o2,o3⟩:=QS.out q2 h2
     have V:=r2.see HG.out.1 o1 m2.sat
     have c7:=V.e_
     unfold slV at c7
     rw[HG.out.2] at c7
     obtain⟨H3,r3,m3⟩:=r2.setSeen m2 i true
     refine⟨c7,⟨_,V.seen i (by rw[HG.out.2];exact p0)⟩,(r2.frozen m2.sat i).2.2.1,Lib.hid ⟨_,H3,r3,m3,⟨o1.sig,by simpa using o1.seen,o1.again⟩,o2,o3,?_⟩⟩
     have:=RS.out
     rw[SE2.out,h2] at this
     exact this)
    by_cases hb1:b=1
    ·have d6:((b:Int) == 1)=true:=by rw[hb1];rfl
     have TM2:=Lib.hid (TM.out.trans (if_pos hb1))
     have HB:=Lib.hid hb1
     clear hb hb1 hqa
     go_upto_region 9 with (first
      | (go_at_call 122;refine MG.out.mono ?_;rintro e w5 ⟨rfl,H2,h2,m2⟩;have K5:=Lib.hid (And.intro h2 (K4.out.trans m2));clear h2 m2)
      | (go_at_call 123;refine(cod_sign A G qa raw eg rg x y H2 _ HG.out.1 QA.out.1 K5.out.1 K5.out.2.sat QA.out.2.1 QA.out.2.2 sx sy).mono ?_;rintro e w6 ⟨rfl,H3,h3,m3⟩;have K6:=Lib.hid (And.intro h3 (K5.out.2.trans m3));clear h3 m3))
     obtain⟨y7,⟨u,yu⟩,yf,Y⟩:=FIN.out _ H3 w6 TM2.out K6.out.1 K6.out.2
     go_wp2_with fail
     go_roundg (n - (j+1))
     case measure=>omega
     case rel =>
      obtain⟨q3,H4,y3⟩:=Y.out
      exact⟨j+1,q3,H4,by omega,rfl,by push_cast;rfl,y3⟩
    ·have d6:((b:Int) == 1)=false:=beq_eq_false_iff_ne.2 (by omega)
     have TM2:=Lib.hid (TM.out.trans (if_neg hb1))
     have HB:=Lib.hid hb1
     clear hb hb1 hqa
     go_upto_region 9 with (go_at_call 122;refine MG.out.mono ?_;rintro e w5 ⟨rfl,H2,h2,m2⟩;have K5:=Lib.hid (And.intro h2 (K4.out.trans m2));clear h2 m2)
     obtain⟨y7,⟨u,yu⟩,yf,Y⟩:=FIN.out _ H2 w5 TM2.out K5.out.1 K5.out.2
     go_wp2_with fail
     go_roundg (n - (j+1))
     case measure=>omega
     case rel =>
      obtain⟨q3,H4,y3⟩:=Y.out
      exact⟨j+1,q3,H4,by omega,rfl,by push_cast;rfl,y3⟩
  ·have d1:decide ((j:Int)<(G.w:Int) * (G.h:Int))=false:=by
    have:((G.w * G.h:Nat):Int)=(n:Int):=by rw[HG.out.2]
    push_cast at this
    rw[this]
    simp;omega
   go_upto_region 1 with fail
   go_quiet (fail)
   have M2:=Lib.hid (K1.out.2.1.drewN nq)
   go_wp2_with fail
   have eR:R=q1:=by
    have:=K1.out.2.2.2.2.2
    rw[show n - j=0 by omega] at this
    exact this.symm
   exact bodyPost_end (results_none rfl _ _ _) rfl ⟨rfl,H1,by rw[eR];exact K1.out.1,M2.out⟩
end
section
open Go.RowKit
theorem cod_refp (A:CodA) (G:GeoM) (q:CS) (raw:Bool) (eg rg plane:Nat) (H:List HB) (w:World) (hg:G.Ok) (hc:q.c.Ok G) (h:CodR A G q raw eg rg H) (hs:Sat w H) (hq:q.s.Ok) (hz:q.s.size+32 * (G.w * G.h)≤80000000) (hp:plane≤40) :
  Calls Tryz.prog 102 #[.pointer (some ⟨A.cb,0,none⟩),.int .i64 (plane:Int)] w fun e w'=>e=.returned (.tuple #[])∧∃ H',CodR A G (runM (refStep G raw plane) (G.w * G.h) 0 q) raw eg rg H'∧Mv w H w' H':=by
 obtain⟨n,hn⟩:∃ n,G.w * G.h=n:=⟨_,rfl⟩
 have n4:n≤4096:=by rw[← hn];exact Nat.mul_le_mul hg.w2 hg.h2
 rw[hn] at hz ⊢
 obtain⟨R,hR⟩:∃ R,runM (refStep G raw plane) n 0 q=R:=⟨_,rfl⟩
 rw[hR]
 have K0:=Lib.hid (And.intro h (And.intro (Mv.refl hs) (And.intro hc (And.intro hq (And.intro hz hR)))))
 have HG:=Lib.hid (And.intro hg hn)
 have u1:(G.w:Int) * (G.h:Int)≤4096:=by
  have:((G.w * G.h:Nat):Int)≤4096:=by rw[hn];omega
  push_cast at this
  exact this
 have u2:(0:Int)≤(G.w:Int) * (G.h:Int):=Int.mul_nonneg (by omega) (by omega)
 clear h hs hc hq hz hR hg hn
 go_enter Tryz.func102,Tryz.ntmps102
 go_wp2_with fail
 go_loopg [4] n (fun m s4 wx=>∃ (j:Nat) (q1:CS) (H1:List HB),j≤n∧m=n - j∧s4=.int .i64 (j:Int)∧CodR A G q1 raw eg rg H1∧Mv w H wx H1∧q1.c.Ok G∧q1.s.Ok∧q1.s.size+32 * (n - j)≤80000000∧runM (refStep G raw plane) (n - j) j q1=R)
 case atStart=>exact⟨0,q,H,by omega,rfl,rfl,K0.out.1,K0.out.2.1,K0.out.2.2.1,K0.out.2.2.2.1,K0.out.2.2.2.2.1,K0.out.2.2.2.2.2⟩
 case round =>
  obtain⟨j,q1,H1,hj,rfl,rfl,h1,m1,hc1,hq1,hz1,hR1⟩:=hrel
  have V:=h1.see HG.out.1 hc1 m1.sat
  have c0:=V.w_
  have c1:=V.h_
  have K1:=Lib.hid (And.intro h1 (And.intro m1 (And.intro hc1 (And.intro hq1 (And.intro hz1 hR1)))))
  clear V h1 m1 hc1 hq1 hz1 hR1
  by_cases hlt:j<n
  ·have d1:decide ((j:Int)<(G.w:Int) * (G.h:Int))=true:=by
    have:((G.w * G.h:Nat):Int)=(n:Int):=by rw[HG.out.2]
    push_cast at this
    rw[this]
    simp;omega
   go_upto_region 1 with fail
   go_quiet (fail)
   have K2:=Lib.hid (K1.out.2.1.drewN nq)
   have c0:(wr.drewN nq).cell? ⟨A.cb,0,none⟩=some (.int .i64 (G.w:Int)):=c0
   have c1:(wr.drewN nq).cell? ⟨A.cb,1,none⟩=some (.int .i64 (G.h:Int)):=c1
   generalize wr.drewN nq=w2 at *
   have SC:=Lib.hid fun W=>scan_any G.w G.h j W HG.out.1.w1 HG.out.1.w2 HG.out.1.h1 HG.out.1.h2 (by rw[HG.out.2];exact hlt)
   obtain⟨sx,sy⟩:=scan_lt2 HG.out.1.w1 (show j<G.w * G.h by rw[HG.out.2];exact hlt)
   obtain⟨x,hx⟩:∃ x,scanX G.w G.h j=x:=⟨_,rfl⟩
   obtain⟨y,hy⟩:∃ y,scanY G.w G.h j=y:=⟨_,rfl⟩
   rw[hx,hy] at SC
   rw[hx] at sx
   rw[hy] at sy
   have HXY:=Lib.hid (And.intro hx hy)
   clear hx hy
   go_upto_region 3 with fail
   go_quiet (first | (go_at_call 120;exact Calls.quiet_of (SC.out _)))
   have M3:=K2.out.drewN nq
   generalize w2.drewN nq=w3 at *
   have V3:=K1.out.1.see HG.out.1 K1.out.2.2.1 M3.sat
   have c0:=V3.w_
   obtain⟨p0,p1,p2,p3,p4,p5⟩:=place HG.out.1 sx sy
   obtain⟨i,hi⟩:∃ i,y * G.w+x=i:=⟨_,rfl⟩
   obtain⟨ar,har⟩:∃ ar,ardM G q1.c x y=ar:=⟨_,rfl⟩
   obtain⟨l1,l2,l3⟩:=ardM_le G q1.c x y
   have ZA:=Lib.hid (around_any A G q1.c x y w3 HG.out.1 V3 sx sy)
   rw[har] at ZA l1 l2 l3
   obtain⟨kk,hkk⟩:∃ kk,rctx (!q1.c.again.getD i false) (ar.h+ar.v+ar.d)=kk:=⟨_,rfl⟩
   have kb:kk<19:=by rw[← hkk];exact rctx_le _ _
   have RC:Hid (∀ W,Calls Tryz.prog 125 #[.bool (!q1.c.again.getD i false),.int .i64 ((ar.h:Int)+(ar.v:Int)+(ar.d:Int))] W fun e w'=>e=.returned (.int .i64 (kk:Int))∧w'=W):=Lib.hid (by
    intro W
    have:=refine_ctx (!q1.c.again.getD i false) (ar.h+ar.v+ar.d) W
    rw[hkk] at this
    push_cast at this
    exact this)
   obtain⟨b,hb⟩:∃ b,bitOf G i plane=b:=⟨_,rfl⟩
   have SE:Hid (refStep G raw plane q1 j=if q1.c.sig.getD i false=false∨q1.c.seen.getD i false=true then q1 else ⟨{ q1.c with again:=q1.c.again.set i true },bitW raw q1.s kk b⟩):=Lib.hid (by
    unfold refStep aroundN
    rw[HXY.out.1,HXY.out.2,hi,har,hkk,hb])
   have HB:=Lib.hid hb
   have hii:(y:Int) * (G.w:Int)+(x:Int)=(i:Int):=by rw[← hi];push_cast;rfl
   have K3:=Lib.hid (And.intro M3 (And.intro hi hii))
   clear hii hi hkk V3 M3 K2 SC har hb
   go_upto_region 5 with fail
   simp only[K3.out.2.2]
   generalize (y:Int) * (G.w:Int)=u3 at *
   clear p2 p3 p4 p5
   rw[K3.out.2.1,HG.out.2] at p0
   have i1:(i:Int)<(n:Int):=by omega
   have V4:=K1.out.1.see HG.out.1 K1.out.2.2.1 K3.out.1.sat
   have c6:=V4.s_
   have c7:=V4.e_
   unfold slV at c6 c7
   rw[HG.out.2] at c6 c7
   have ci:=V4.sig i (by rw[HG.out.2];exact p0)
   have cj:=V4.seen i (by rw[HG.out.2];exact p0)
   clear V4
   have RS:Hid (runM (refStep G raw plane) (n - (j+1)) (j+1) (refStep G raw plane q1 j)=R):=Lib.hid (by
    have:=K1.out.2.2.2.2.2
    rw[show n - j=(n - (j+1))+1 by omega] at this
    exact this)
   by_cases hcon:q1.c.sig.getD i false=false∨q1.c.seen.getD i false=true
   ·have SE2:Hid (refStep G raw plane q1 j=q1):=Lib.hid (by rw[SE.out,if_pos hcon])
    have FIN:Hid (CodR A G q1 raw eg rg H1∧Mv w H w3 H1∧q1.c.Ok G∧q1.s.Ok∧q1.s.size+32 * (n - (j+1))≤80000000∧runM (refStep G raw plane) (n - (j+1)) (j+1) q1=R):=Lib.hid ⟨K1.out.1,K3.out.1,K1.out.2.2.1,K1.out.2.2.2.1,by have:=K1.out.2.2.2.2.1;omega,by have:=RS.out;rw[SE2.out] at this;exact this⟩
    rcases(Bool.eq_false_or_eq_true (q1.c.sig.getD i false)).symm with hsg | hsg
    ·rw[hsg] at ci
     clear hcon hsg
     go_wp2_with fail
     go_roundg (n - (j+1))
     case measure=>omega
     case rel=>exact⟨j+1,q1,H1,by omega,rfl,by push_cast;rfl,FIN.out⟩
    ·have k0:q1.c.seen.getD i false=true:=by
      rcases hcon with h | h
      ·rw[hsg] at h;cases h
      ·exact h
     rw[hsg] at ci
     rw[k0] at cj
     clear hcon hsg k0
     go_wp2_with fail
     go_roundg (n - (j+1))
     case measure=>omega
     case rel=>exact⟨j+1,q1,H1,by omega,rfl,by push_cast;rfl,FIN.out⟩
   ·have hsg:q1.c.sig.getD i false=true:=by
     rcases(Bool.eq_false_or_eq_true (q1.c.sig.getD i false)) with h | h
     ·exact h
     ·exact absurd (.inl h) hcon
    have k0:q1.c.seen.getD i false=false:=by
     rcases(Bool.eq_false_or_eq_true (q1.c.seen.getD i false)) with h | h
     ·exact absurd (.inr h) hcon
     ·exact h
    rw[hsg] at ci
    rw[k0] at cj
    have SE2:Hid (refStep G raw plane q1 j=⟨{ q1.c with again:=q1.c.again.set i true },bitW raw q1.s kk b⟩):=Lib.hid (by rw[SE.out,if_neg hcon])
    clear hcon hsg k0
    have MG:Hid (∀ W,Mv w H W H1→Calls Tryz.prog 122 #[.pointer (some ⟨A.cb,0,none⟩),.int .i64 (i:Int),.int .i64 (plane:Int),.int .i64 (kk:Int)] W fun e w'=>e=.returned (.int .i64 (b:Int))∧∃ H',CodR A G ⟨q1.c,bitW raw q1.s kk b⟩ raw eg rg H'∧Mv W H1 w' H'):=Lib.hid (by
     intro W m
     have:=cod_mag A G q1 raw eg rg i plane kk H1 W HG.out.1 K1.out.2.2.1 K1.out.1 m.sat K1.out.2.2.2.1 (by have:=K1.out.2.2.2.2.1;omega) (by rw[HG.out.2];exact p0) hp kb
     rw[HB.out] at this
     exact this)
    go_upto_region 7 with (go_at_call 124;refine ZA.out.mono ?_;rintro e w4 ⟨rfl,dr⟩;have K4:=Lib.hid (dr.mv K3.out.1);clear dr)
    have V5:=K1.out.1.see HG.out.1 K1.out.2.2.1 K4.out.sat
    have c8:=V5.a_
    unfold slV at c8
    rw[HG.out.2] at c8
    have ck:=V5.again i (by rw[HG.out.2];exact p0)
    clear V5 c6 c7 ci cj c0
    generalize q1.c.again.getD i false=ag at *
    go_upto_region 8 with (first
     | (go_at_call 125;refine(RC.out _).mono ?_;rintro e w' ⟨rfl,rfl⟩)
     | (go_at_call 122;refine(MG.out _ K4.out).mono ?_;rintro e w5 ⟨rfl,H2,h2,m2⟩;have K5:=Lib.hid (And.intro h2 (K4.out.trans m2));clear h2 m2))
    have V6:=K5.out.1.see HG.out.1 K1.out.2.2.1 K5.out.2.sat
    have c8:=V6.a_
    unfold slV at c8
    rw[HG.out.2] at c8
    have ck:=V6.again i (by rw[HG.out.2];exact p0)
    have fk:=(K5.out.1.frozen K5.out.2.sat i).2.2.2.1
    obtain⟨H3,r3,m3⟩:=K5.out.1.setAgain K5.out.2 i true
    have K6:=Lib.hid (And.intro r3 m3)
    clear V6 r3 m3
    generalize (CS.c ⟨q1.c,bitW raw q1.s kk b⟩).again.getD i false=ag2 at *
    go_wp2_with fail
    go_roundg (n - (j+1))
    case measure=>omega
    case rel =>
     refine⟨j+1,_,H3,by omega,rfl,by push_cast;rfl,K6.out.1,K6.out.2,⟨K1.out.2.2.1.sig,K1.out.2.2.1.seen,by simpa using K1.out.2.2.1.again⟩,bitW_ok K1.out.2.2.2.1 kb b,?_,?_⟩
     ·have:=bitW_size (raw:=raw) K1.out.2.2.2.1 (k:=kk) kb b
      have:=K1.out.2.2.2.2.1
      simp only
      omega
     ·have:=RS.out
      rw[SE2.out] at this
      exact this
  ·have d1:decide ((j:Int)<(G.w:Int) * (G.h:Int))=false:=by
    have:((G.w * G.h:Nat):Int)=(n:Int):=by rw[HG.out.2]
    push_cast at this
    rw[this]
    simp;omega
   go_upto_region 1 with fail
   go_quiet (fail)
   have M2:=Lib.hid (K1.out.2.1.drewN nq)
   go_wp2_with fail
   have eR:R=q1:=by
    have:=K1.out.2.2.2.2.2
    rw[show n - j=0 by omega] at this
    exact this.symm
   exact bodyPost_end (results_none rfl _ _ _) rfl ⟨rfl,H1,by rw[eR];exact K1.out.1,M2.out⟩
end
section
open Go.RowKit
theorem blankM_false {G:GeoM} {c:CodM} {x y:Nat} (j:Nat) (hj:j<4) (h:blank1 G c x (y+j)=false):blankM G c x y=false:=by
 unfold blankM
 have e:((List.range 4).all fun j=>blank1 G c x (y+j))=false:=List.all_eq_false.2 ⟨j,List.mem_range.2 hj,by rw[h];decide⟩
 rw[e]
 simp
theorem blankM_true {G:GeoM} {c:CodM} {x y:Nat} (h4:y+4≤G.h) (h:∀ j,j<4→blank1 G c x (y+j)=true):blankM G c x y=true:=by
 unfold blankM
 have e:((List.range 4).all fun j=>blank1 G c x (y+j))=true:=List.all_eq_true.2 fun j hj=>h j (List.mem_range.1 hj)
 rw[e,decide_eq_true h4]
 rfl
theorem blank_any (A:CodA) (G:GeoM) (c:CodM) (x y:Nat) (w:World) (hg:G.Ok) (hv:CodSee w A G c) (hx:x<G.w) (hy:y<G.h) :
  Calls Tryz.prog 134 #[.pointer (some ⟨A.cb,0,none⟩),.int .i64 (x:Int),.int .i64 (y:Int)] w fun e w'=>e=.returned (.bool (blankM G c x y))∧Drew w w':=by
 have c1:=hv.h_
 have hh2:=hg.h2
 by_cases h4:y+4≤G.h
 ·have d1:decide ((G.h:Int) - (y:Int)<4)=false:=by simp;omega
  obtain⟨R,hR⟩:∃ R,blankM G c x y=R:=⟨_,rfl⟩
  rw[hR]
  have K0:=Lib.hid (And.intro hg (And.intro hv (And.intro hR h4)))
  clear hv hg hR
  go_enter Tryz.func134,Tryz.ntmps134
  go_wp2_with fail
  go_loopg [7] 4 (fun m s7 wx=>∃ j:Nat,j≤4∧m=4 - j∧s7=.int .i64 (j:Int)∧Drew w wx∧∀ k,k<j→blank1 G c x (y+k)=true)
  case atStart=>exact⟨0,by omega,rfl,rfl,Drew.refl w,fun k hk=>by omega⟩
  case round =>
   obtain⟨j,hj,rfl,rfl,dr,hall⟩:=hrel
   have KD:=Lib.hid (And.intro dr hall)
   clear dr hall
   by_cases hlt:j<4
   ·have d2:decide ((j:Int)<4)=true:=by simp;omega
    obtain⟨yj,hyj⟩:∃ yj,y+j=yj:=⟨_,rfl⟩
    have ej:(y:Int)+(j:Int)=(yj:Int):=by omega
    have sy:yj<G.h:=by omega
    have V:=KD.out.1.see K0.out.2.1
    have c0:=V.w_
    obtain⟨p0,p1,p2,p3,p4,p5⟩:=place K0.out.1 hx sy
    obtain⟨i,hi⟩:∃ i,yj * G.w+x=i:=⟨_,rfl⟩
    have hii:(yj:Int) * (G.w:Int)+(x:Int)=(i:Int):=by rw[← hi];push_cast;rfl
    have B1:Hid (blank1 G c x (y+j)=(!c.sig.getD i false && (!c.seen.getD i false && decide (zeroM G c x yj=0)))):=Lib.hid (by unfold blank1;rw[hyj,hi])
    have c6:=V.s_
    have c7:=V.e_
    unfold slV at c6 c7
    have ci:=V.sig i (by rw[← hi];exact p0)
    have cj:=V.seen i (by rw[← hi];exact p0)
    obtain⟨kk,hkk⟩:∃ kk,zeroM G c x yj=kk:=⟨_,rfl⟩
    have ZA:=Lib.hid (zero_any A G c x yj wr K0.out.1 V hx sy)
    rw[hkk] at ZA B1
    have HI:=Lib.hid hii
    rw[hi] at p0
    clear hi hii hkk V hyj
    go_upto_region 7 with fail
    simp only[HI.out]
    generalize (yj:Int) * (G.w:Int)=u3 at *
    clear p2 p3 p4 p5 c0 HI
    obtain⟨n,hn⟩:∃ n,G.w * G.h=n:=⟨_,rfl⟩
    rw[hn] at c6 c7 p0 p1
    have i1:(i:Int)<(n:Int):=by omega
    clear hn
    rcases(Bool.eq_false_or_eq_true (c.sig.getD i false)) with hsg | hsg
    ·have RF:Hid (R=false):=Lib.hid (by rw[← K0.out.2.2.1];exact blankM_false j hlt (by rw[B1.out,hsg];rfl))
     rw[hsg] at ci
     clear hsg
     go_wp2_with fail
     go_ret
     exact⟨by rw[RF.out];rfl,KD.out.1⟩
    ·rcases(Bool.eq_false_or_eq_true (c.seen.getD i false)) with hsn | hsn
     ·have RF:Hid (R=false):=Lib.hid (by rw[← K0.out.2.2.1];exact blankM_false j hlt (by rw[B1.out,hsn];simp))
      rw[hsg] at ci
      rw[hsn] at cj
      clear hsg hsn
      go_wp2_with fail
      go_ret
      exact⟨by rw[RF.out];rfl,KD.out.1⟩
     ·by_cases hk0:kk=0
      ·have d5:((kk:Int) == 0)=true:=by rw[hk0];rfl
       have d6:(kk:Int)=0:=by omega
       have BT:Hid (∀ k,k<j+1→blank1 G c x (y+k)=true):=Lib.hid (by
        intro k hk
        by_cases e:k=j
        ·rw[e,B1.out,hsg,hsn,decide_eq_true hk0];rfl
        ·exact KD.out.2 k (by omega))
       rw[hsg] at ci
       rw[hsn] at cj
       have HK:=Lib.hid hk0
       clear hsg hsn hk0
       go_wp2_with (go_at_call 121;refine ZA.out.mono ?_;rintro e w4 ⟨rfl,dr⟩;have D4:=Lib.hid (KD.out.1.trans dr);clear dr)
       go_roundg (4 - (j+1))
       case measure=>omega
       case rel=>exact⟨j+1,by omega,rfl,by push_cast;rfl,D4.out,BT.out⟩
      ·have d5:((kk:Int) == 0)=false:=beq_eq_false_iff_ne.2 (by omega)
       have d6:¬ ((kk:Int)=0):=by omega
       have RF:Hid (R=false):=Lib.hid (by rw[← K0.out.2.2.1];exact blankM_false j hlt (by rw[B1.out,decide_eq_false hk0];simp))
       rw[hsg] at ci
       rw[hsn] at cj
       clear hsg hsn hk0
       go_wp2_with (go_at_call 121;refine ZA.out.mono ?_;rintro e w4 ⟨rfl,dr⟩;have D4:=Lib.hid (KD.out.1.trans dr);clear dr)
       go_ret
       exact⟨by rw[RF.out];rfl,D4.out⟩
   ·have d2:decide ((j:Int)<4)=false:=by simp;omega
    have RT:Hid (R=true):=Lib.hid (by rw[← K0.out.2.2.1];exact blankM_true K0.out.2.2.2 fun k hk=>KD.out.2 k (by omega))
    go_wp2_with fail
    go_ret
    exact⟨by rw[RT.out];rfl,KD.out.1⟩
 ·have d1:decide ((G.h:Int) - (y:Int)<4)=true:=by simp;omega
  have e:blankM G c x y=false:=by unfold blankM;rw[decide_eq_false h4];rfl
  rw[e]
  clear e hv hg h4
  go_enter Tryz.func134,Tryz.ntmps134
  go_wp2_with fail
  go_ret
  exact⟨rfl,Drew.refl w⟩
end
section
open Go.RowKit
def fstN (b:Nat→Nat) (k:Nat):Nat:=if k≤0∧b 0=1 then 0 else if k≤1∧b 1=1 then 1 else if k≤2∧b 2=1 then 2 else if k≤3∧b 3=1 then 3 else 4
theorem fstN_four (b:Nat→Nat):fstN b 4=4:=by unfold fstN;simp
theorem fstN_step (b:Nat→Nat) (k:Nat) (hk:k<4):fstN b k=if b k=1 then k else fstN b (k+1):=by
 unfold fstN
 rcases(show k=0∨k=1∨k=2∨k=3 by omega) with rfl | rfl | rfl | rfl <;> simp
theorem fstN_zero (G:GeoM) (x y plane:Nat):fstN (fun j=>bitOf G ((y+j) * G.w+x) plane) 0=firstM G x y plane:=by
 unfold fstN firstM
 simp
theorem firstM_le (G:GeoM) (x y plane:Nat):firstM G x y plane≤4:=by
 unfold firstM
 repeat' split
 all_goals omega
theorem first_and (f:Nat) (h:f<4):bits .and .i64 ((f:Int) / 2) 1=((f / 2:Nat):Int)∧bits .and .i64 (f:Int) 1=((f % 2:Nat):Int):=by
 constructor
 ·rw[i64_and1];omega
 ·rw[i64_and1];omega
theorem cod_col (A:CodA) (G:GeoM) (q:CS) (raw:Bool) (eg rg x y plane:Nat) (H:List HB) (w:World) (hg:G.Ok) (hc:q.c.Ok G) (h:CodR A G q raw eg rg H) (hs:Sat w H) (hq:q.s.Ok) (hz:q.s.size+192≤80000000) (hp:plane≤40) (hx:x<G.w) (hy:y<G.h) :
  Calls Tryz.prog 126 #[.pointer (some ⟨A.cb,0,none⟩),.int .i64 (x:Int),.int .i64 (y:Int),.int .i64 (plane:Int)] w fun e w'=>e=.returned (.tuple #[])∧∃ H',CodR A G (colM G raw plane y q x) raw eg rg H'∧Mv w H w' H':=by
 have hw2:=hg.w2
 have hh2:=hg.h2
 obtain⟨R,hR⟩:∃ R,colM G raw plane y q x=R:=⟨_,rfl⟩
 rw[hR]
 have BA:=Lib.hid (blank_any A G q.c x y w hg (h.see hg hc hs) hx hy)
 have K0:=Lib.hid (And.intro h (And.intro (Mv.refl hs) (And.intro hc (And.intro hq (And.intro hz hR)))))
 have HG:=Lib.hid hg
 clear h hs hc hq hz hR hg
 obtain⟨bl,hbl⟩:∃ bl,blankM G q.c x y=bl:=⟨_,rfl⟩
 rw[hbl] at BA
 have HBL:=Lib.hid hbl
 clear hbl
 go_enter Tryz.func126,Tryz.ntmps126
 go_upto_if 15 with (go_at_call 134;refine BA.out.mono ?_;rintro e w1 ⟨rfl,dr⟩;have D1:=Lib.hid dr;clear dr)
 have M1:=D1.out.mv K0.out.2.1
 have V1:=K0.out.1.see HG.out K0.out.2.2.1 M1.sat
 have c0:=V1.w_
 have c4:=V1.m_
 unfold slV at c4
 have K1:=Lib.hid M1
 replace V1:=Lib.hid V1
 clear M1 D1 BA
 go_cut [8] from 9 (fun s8 wx=>∃ (j:Nat) (q1:CS) (H1:List HB),s8=.int .i64 (j:Int)∧j≤4∧CodR A G q1 raw eg rg H1∧Mv w H wx H1∧q1.c.Ok G∧q1.s.Ok∧q1.s.size+128≤80000000∧colFrom G raw x y plane j q1=R)
 case first =>
  cases bl with
  | false =>
   have CR:Hid (colFrom G raw x y plane 0 q=R):=Lib.hid (by rw[← K0.out.2.2.2.2.2];unfold colM;rw[HBL.out];rfl)
   go_wp2_with fail
   go_meet
   exact⟨0,q,H,rfl,by omega,K0.out.1,K1.out,K0.out.2.2.1,K0.out.2.2.2.1,by have:=K0.out.2.2.2.2.1;omega,CR.out⟩
  | true =>
   have hy4:y+4≤G.h:=by
    have:=HBL.out
    unfold blankM at this
    simp only[Bool.and_eq_true,decide_eq_true_eq] at this
    exact this.1
   obtain⟨bb,hbb⟩:∃ bb:Nat→Nat,bb=fun j=>bitOf G ((y+j) * G.w+x) plane:=⟨_,rfl⟩
   have HBB:=Lib.hid hbb
   clear hbb
   go_wp2_with fail
   go_loopg [9,10] 4 (fun m s9 s10 wx=>∃ k:Nat,k≤4∧m=k∧s10=.int .i64 ((k:Int) - 1)∧s9=.int .i64 ((fstN bb k:Nat):Int)∧Drew w1 wx)
   case atStart=>exact⟨4,by omega,rfl,rfl,by rw[fstN_four];rfl,Drew.refl w1⟩
   case round =>
    obtain⟨k,hk,rfl,rfl,rfl,dr⟩:=hrel
    have KD:=Lib.hid dr
    clear dr
    by_cases hk0:gk=0
    ·subst hk0
     obtain⟨f,hf⟩:∃ f,fstN bb 0=f:=⟨_,rfl⟩
     have hfe:f=firstM G x y plane:=by rw[← hf,HBB.out,fstN_zero]
     have f4:f≤4:=by rw[hfe];exact firstM_le G x y plane
     simp only[hf]
     have HF:=Lib.hid hfe
     clear hf hfe
     have K2:=Lib.hid (KD.out.mv K1.out)
     have O0:Hid (∀ W,Calls Tryz.prog 54 #[.bool false] W fun e w'=>e=.returned (.int .i64 0)∧w'=W):=Lib.hid fun W=>one_any false W
     have O1:Hid (∀ W,Calls Tryz.prog 54 #[.bool true] W fun e w'=>e=.returned (.int .i64 1)∧w'=W):=Lib.hid fun W=>one_any true W
     go_upto_region 8 with fail
     by_cases hf4:f=4
     ·have CR:Hid (R=⟨q.c,bitW raw q.s 17 0⟩):=Lib.hid (by rw[← K0.out.2.2.2.2.2];unfold colM;rw[HBL.out,← HF.out,if_pos hf4];rfl)
      have d7:decide ((f:Int)<4)=false:=by simp;omega
      have B1:Hid (Calls Tryz.prog 127 #[.pointer (some ⟨A.cb,0,none⟩),.int .i64 17,.int .i64 0] wr fun e w'=>e=.returned (.int .i64 0)∧∃ H',CodR A G ⟨q.c,bitW raw q.s 17 0⟩ raw eg rg H'∧Mv wr H w' H'):=Lib.hid (cod_bit A G q raw eg rg 17 0 H wr K0.out.1 K2.out.sat K0.out.2.2.2.1 (by have:=K0.out.2.2.2.2.1;omega) (by decide) (by decide))
      clear hf4
      go_wp2_with (first
       | (go_at_call 54;(with_reducible refine(O0.out _).mono ?_);rintro e v ⟨rfl,rfl⟩)
       | (go_at_call 127;(with_reducible refine B1.out.mono ?_);rintro e w3 ⟨rfl,H3,h3,m3⟩;have K3:=Lib.hid (And.intro h3 (K2.out.trans m3));clear h3 m3))
      exact bodyPost_ret (results_none rfl _ _ _) rfl ⟨rfl,H3,by rw[CR.out];exact K3.out.1,K3.out.2⟩
     ·have fl4:f<4:=by omega
      have d7:decide ((f:Int)<4)=true:=by simp;omega
      obtain⟨ea,eb⟩:=first_and f fl4
      obtain⟨fh,hfh⟩:∃ fh,f / 2=fh:=⟨_,rfl⟩
      obtain⟨fl,hfl⟩:∃ fl,f % 2=fl:=⟨_,rfl⟩
      rw[hfh] at ea
      rw[hfl] at eb
      have es:2 * (fh:Int)+(fl:Int)=(f:Int):=by omega
      obtain⟨yf,hyf⟩:∃ yf,y+f=yf:=⟨_,rfl⟩
      have ey:(y:Int)+(f:Int)=(yf:Int):=by omega
      have sy:yf<G.h:=by omega
      have hb1:fh≤1:=by omega
      have hb2:fl≤1:=by omega
      obtain⟨q2,hq2⟩:∃ q2:CS,(⟨q.c,bitW raw (bitW raw (bitW raw q.s 17 1) 18 fh) 18 fl⟩:CS)=q2:=⟨_,rfl⟩
      have CR:Hid (R=colFrom G raw x y plane (f+1) (signM G raw q2 x yf)):=Lib.hid (by
       rw[← K0.out.2.2.2.2.2,← hq2]
       unfold colM
       rw[HBL.out,← HF.out,if_neg hf4,hfh,hfl,hyf]
       rfl)
      have o1:=bitW_ok (raw:=raw) K0.out.2.2.2.1 (k:=17) (by decide) 1
      have o2:=bitW_ok (raw:=raw) o1 (k:=18) (by decide) fh
      have o3:=bitW_ok (raw:=raw) o2 (k:=18) (by decide) fl
      have z1:=bitW_size (raw:=raw) K0.out.2.2.2.1 (k:=17) (by decide) 1
      have z2:=bitW_size (raw:=raw) o1 (k:=18) (by decide) fh
      have z3:=bitW_size (raw:=raw) o2 (k:=18) (by decide) fl
      have zz:=K0.out.2.2.2.2.1
      have QO:Hid (q2.c.Ok G∧q2.s.Ok∧q2.s.size≤q.s.size+48):=Lib.hid (by rw[← hq2];exact⟨K0.out.2.2.1,o3,by simp only;omega⟩)
      have B1:Hid (Calls Tryz.prog 127 #[.pointer (some ⟨A.cb,0,none⟩),.int .i64 17,.int .i64 1] wr fun e w'=>e=.returned (.int .i64 1)∧∃ H',CodR A G ⟨q.c,bitW raw q.s 17 1⟩ raw eg rg H'∧Mv wr H w' H'):=Lib.hid (cod_bit A G q raw eg rg 17 1 H wr K0.out.1 K2.out.sat K0.out.2.2.2.1 (by omega) (by decide) (by decide))
      have B2:Hid (∀ W HH,CodR A G ⟨q.c,bitW raw q.s 17 1⟩ raw eg rg HH→Sat W HH→Calls Tryz.prog 127 #[.pointer (some ⟨A.cb,0,none⟩),.int .i64 18,.int .i64 (fh:Int)] W fun e w'=>e=.returned (.int .i64 (fh:Int))∧∃ H',CodR A G ⟨q.c,bitW raw (bitW raw q.s 17 1) 18 fh⟩ raw eg rg H'∧Mv W HH w' H'):=Lib.hid fun W HH h1 h2=>cod_bit A G ⟨q.c,bitW raw q.s 17 1⟩ raw eg rg 18 fh HH W h1 h2 o1 (by simp only;omega) (by decide) hb1
      have B3:Hid (∀ W HH,CodR A G ⟨q.c,bitW raw (bitW raw q.s 17 1) 18 fh⟩ raw eg rg HH→Sat W HH→Calls Tryz.prog 127 #[.pointer (some ⟨A.cb,0,none⟩),.int .i64 18,.int .i64 (fl:Int)] W fun e w'=>e=.returned (.int .i64 (fl:Int))∧∃ H',CodR A G q2 raw eg rg H'∧Mv W HH w' H'):=Lib.hid fun W HH h1 h2=>by
       have:=cod_bit A G ⟨q.c,bitW raw (bitW raw q.s 17 1) 18 fh⟩ raw eg rg 18 fl HH W h1 h2 o2 (by simp only;omega) (by decide) hb2
       simp only[hq2] at this
       exact this
      have SG:Hid (∀ W HH,CodR A G q2 raw eg rg HH→Sat W HH→Calls Tryz.prog 123 #[.pointer (some ⟨A.cb,0,none⟩),.int .i64 (x:Int),.int .i64 (yf:Int)] W fun e w'=>e=.returned (.tuple #[])∧∃ H',CodR A G (signM G raw q2 x yf) raw eg rg H'∧Mv W HH w' H'):=Lib.hid fun W HH h1 h2=>cod_sign A G q2 raw eg rg x yf HH W HG.out QO.out.1 h1 h2 QO.out.2.1 (by have:=QO.out.2.2;omega) hx sy
      have ZQ:Hid (q.s.size+192≤80000000):=Lib.hid zz
      clear hf4 hfh hfl hyf hq2 o1 o2 o3 z1 z2 z3 zz
      go_upto_region 10 with (first
       | (go_at_call 54;(with_reducible refine(O1.out _).mono ?_);rintro e v ⟨rfl,rfl⟩)
       | (go_at_call 127;(with_reducible refine B1.out.mono ?_);rintro e w3 ⟨rfl,H3,h3,m3⟩;have K3:=Lib.hid (And.intro h3 (K2.out.trans m3));clear h3 m3)
       | (go_at_call 127;(with_reducible refine(B2.out _ _ K3.out.1 K3.out.2.sat).mono ?_);rintro e w4 ⟨rfl,H4,h4,m4⟩;have K4:=Lib.hid (And.intro h4 (K3.out.2.trans m4));clear h4 m4)
       | (go_at_call 127;(with_reducible refine(B3.out _ _ K4.out.1 K4.out.2.sat).mono ?_);rintro e w5 ⟨rfl,H5,h5,m5⟩;have K5:=Lib.hid (And.intro h5 (K4.out.2.trans m5));clear h5 m5))
      have t0:=(K5.out.1.tail K5.out.2.sat QO.out.2.1).1
      go_wp2_with (go_at_call 123;refine(SG.out _ _ K5.out.1 K5.out.2.sat).mono ?_;rintro e w6 ⟨rfl,H6,h6,m6⟩;have K6:=Lib.hid (And.intro h6 (K5.out.2.trans m6));clear h6 m6)
      go_meet
      have e2:=signM_says (raw:=raw) (G:=G) q2 x yf
      have e3:=(e2.grow QO.out.2.1).2.2
      exact⟨f+1,_,H6,by push_cast;rfl,by omega,K6.out.1,K6.out.2,signM_ok QO.out.1 x yf,e2.ok QO.out.2.1,by have:=QO.out.2.2;have:=ZQ.out;omega,CR.out.symm⟩
    ·obtain⟨k,rfl⟩:∃ k,gk=k+1:=⟨gk - 1,by omega⟩
     have e:((k+1:Nat):Int) - 1=(k:Int):=by omega
     simp only[e]
     clear e
     obtain⟨yk,hyk⟩:∃ yk,y+k=yk:=⟨_,rfl⟩
     have ek:(y:Int)+(k:Int)=(yk:Int):=by omega
     have sy:yk<G.h:=by omega
     have V:=KD.out.see V1.out
     have c0:=V.w_
     have c4:=V.m_
     unfold slV at c4
     obtain⟨p0,p1,p2,p3,p4,p5⟩:=place HG.out hx sy
     have cm:=V.mag (yk * G.w+x) p0
     obtain⟨m,hm⟩:∃ m,G.mag.getD (yk * G.w+x) 0=m:=⟨_,rfl⟩
     have mb:m<1073741824:=by rw[← hm];exact mag_lt HG.out _
     obtain⟨b,hb⟩:∃ b,bb k=b:=⟨_,rfl⟩
     have hb2:b=m / 2 ^ plane % 2:=by rw[← hb,HBB.out,← hm,← hyk];rfl
     have EV:bits .and .i64 ((m:Int) / 2 ^ plane) 1=(b:Int):=by
      rw[i64_and1,hb2]
      push_cast
      rfl
     rw[hm] at cm
     have FSz:Hid (fstN bb k=if b=1 then k else fstN bb (k+1)):=Lib.hid (by rw[fstN_step bb k (by omega),hb])
     clear V hyk hm hb hb2
     go_upto_region 6 with fail
     go_quiet (fail)
     have D2:=Lib.hid (KD.out.trans ⟨nq,rfl⟩)
     clear p2 p3 p4 p5 EV cm c4 c0 ek
     by_cases hb1:b=1
     ·have d6:((b:Int) == 1)=true:=by rw[hb1];rfl
      have FS2:=Lib.hid (FSz.out.trans (if_pos hb1))
      clear hb1
      go_wp2_with fail
      go_roundg k
      case measure=>omega
      case rel=>exact⟨k,by omega,rfl,rfl,by rw[FS2.out],D2.out⟩
     ·have d6:((b:Int) == 1)=false:=beq_eq_false_iff_ne.2 (by omega)
      have FS2:=Lib.hid (FSz.out.trans (if_neg hb1))
      clear hb1
      go_wp2_with fail
      go_roundg k
      case measure=>omega
      case rel=>exact⟨k,by omega,rfl,rfl,by rw[FS2.out],D2.out⟩
 obtain⟨j0,q0,H0,rfl,hj0,r0,m0,oc,os,zs,cr⟩:=hcut
 have KC:=Lib.hid (And.intro r0 (And.intro m0 (And.intro oc (And.intro os (And.intro zs cr)))))
 clear r0 m0 oc os zs cr c0 c4
 go_wp2_with fail
 go_loopg [8] (4 - j0) (fun m s8 wx=>∃ (j:Nat) (q1:CS) (H1:List HB),j≤4∧m=4 - j∧s8=.int .i64 (j:Int)∧CodR A G q1 raw eg rg H1∧Mv w H wx H1∧q1.c.Ok G∧q1.s.Ok∧q1.s.size+32 * (4 - j)≤80000000∧colFrom G raw x y plane j q1=R)
 case atStart=>exact⟨j0,q0,H0,hj0,rfl,rfl,KC.out.1,KC.out.2.1,KC.out.2.2.1,KC.out.2.2.2.1,by have:=KC.out.2.2.2.2.1;omega,KC.out.2.2.2.2.2⟩
 case round =>
  obtain⟨j,q1,H1,hj,rfl,rfl,h1,m1,hc1,hq1,hz1,hR1⟩:=hrel
  have V:=h1.see HG.out hc1 m1.sat
  have c1:=V.h_
  have KV:=Lib.hid V
  have K2:=Lib.hid (And.intro h1 (And.intro m1 (And.intro hc1 (And.intro hq1 (And.intro hz1 hR1)))))
  clear V h1 m1 hc1 hq1 hz1 hR1 KC
  by_cases hlt:j<4
  ·have d1:decide ((j:Int)<4)=true:=by simp;omega
   obtain⟨yj,hyj⟩:∃ yj,y+j=yj:=⟨_,rfl⟩
   have ej:(y:Int)+(j:Int)=(yj:Int):=by omega
   by_cases hlt2:yj<G.h
   ·have d2:decide ((yj:Int)<(G.h:Int))=true:=by simp;omega
    have V:=KV.out
    have c0:=V.w_
    obtain⟨p0,p1,p2,p3,p4,p5⟩:=place HG.out hx hlt2
    obtain⟨i,hi⟩:∃ i,yj * G.w+x=i:=⟨_,rfl⟩
    have hii:(yj:Int) * (G.w:Int)+(x:Int)=(i:Int):=by rw[← hi];push_cast;rfl
    obtain⟨kk,hkk⟩:∃ kk,zeroM G q1.c x yj=kk:=⟨_,rfl⟩
    have kb:kk≤8:=by rw[← hkk];exact zeroM_le G q1.c x yj
    have ZA:=Lib.hid (zero_any A G q1.c x yj wr HG.out V hx hlt2)
    rw[hkk] at ZA
    have SE:Hid (colStep G raw x y plane q1 j=if q1.c.sig.getD i false=true∨q1.c.seen.getD i false=true then q1 else tryM G raw q1 x yj plane kk):=Lib.hid (by
     unfold colStep
     rw[hyj,hi,hkk])
    have RS:Hid (colFrom G raw x y plane (j+1) (colStep G raw x y plane q1 j)=R):=Lib.hid (by
     have:=K2.out.2.2.2.2.2
     unfold colFrom at this ⊢
     rw[show min 4 (G.h - y) - j=(min 4 (G.h - y) - (j+1))+1 by omega] at this
     exact this)
    obtain⟨n,hn⟩:∃ n,G.w * G.h=n:=⟨_,rfl⟩
    have HN:=Lib.hid (And.intro hn (And.intro hi hii))
    rw[hi,hn] at p0
    rw[hn] at p1
    have i1:(i:Int)<(n:Int):=by omega
    clear hii hi hkk V hn hyj
    go_upto_region 17 with fail
    simp only[HN.out.2.2]
    generalize (yj:Int) * (G.w:Int)=u3 at *
    clear p2 p3 p4 p5 c0
    have V4:=KV.out
    have c6:=V4.s_
    have c7:=V4.e_
    unfold slV at c6 c7
    rw[HN.out.1] at c6 c7
    have ci:=V4.sig i (by rw[HN.out.1];exact p0)
    have cj:=V4.seen i (by rw[HN.out.1];exact p0)
    clear V4
    by_cases hcon:q1.c.sig.getD i false=true∨q1.c.seen.getD i false=true
    ·have SE2:Hid (colStep G raw x y plane q1 j=q1):=Lib.hid (by rw[SE.out,if_pos hcon])
     have FIN:Hid (CodR A G q1 raw eg rg H1∧Mv w H wr H1∧q1.c.Ok G∧q1.s.Ok∧q1.s.size+32 * (4 - (j+1))≤80000000∧colFrom G raw x y plane (j+1) q1=R):=Lib.hid ⟨K2.out.1,K2.out.2.1,K2.out.2.2.1,K2.out.2.2.2.1,by have:=K2.out.2.2.2.2.1;omega,by have:=RS.out;rw[SE2.out] at this;exact this⟩
     rcases(Bool.eq_false_or_eq_true (q1.c.sig.getD i false)) with hsg | hsg
     ·rw[hsg] at ci
      clear hcon hsg
      go_wp2_with fail
      go_roundg (4 - (j+1))
      case measure=>omega
      case rel=>exact⟨j+1,q1,H1,by omega,rfl,by push_cast;rfl,FIN.out⟩
     ·have k0:q1.c.seen.getD i false=true:=by
       rcases hcon with h | h
       ·rw[hsg] at h;cases h
       ·exact h
      rw[hsg] at ci
      rw[k0] at cj
      clear hcon hsg k0
      go_wp2_with fail
      go_roundg (4 - (j+1))
      case measure=>omega
      case rel=>exact⟨j+1,q1,H1,by omega,rfl,by push_cast;rfl,FIN.out⟩
    ·have hsg:q1.c.sig.getD i false=false:=by
      rcases(Bool.eq_false_or_eq_true (q1.c.sig.getD i false)) with h | h
      ·exact absurd (.inl h) hcon
      ·exact h
     have k0:q1.c.seen.getD i false=false:=by
      rcases(Bool.eq_false_or_eq_true (q1.c.seen.getD i false)) with h | h
      ·exact absurd (.inr h) hcon
      ·exact h
     rw[hsg] at ci
     rw[k0] at cj
     have SE2:Hid (colStep G raw x y plane q1 j=tryM G raw q1 x yj plane kk):=Lib.hid (by rw[SE.out,if_neg hcon])
     clear hcon hsg k0
     obtain⟨b,hb⟩:∃ b,bitOf G i plane=b:=⟨_,rfl⟩
     have MG:Hid (∀ W,Mv w H W H1→Calls Tryz.prog 122 #[.pointer (some ⟨A.cb,0,none⟩),.int .i64 (i:Int),.int .i64 (plane:Int),.int .i64 (kk:Int)] W fun e w'=>e=.returned (.int .i64 (b:Int))∧∃ H',CodR A G ⟨q1.c,bitW raw q1.s kk b⟩ raw eg rg H'∧Mv W H1 w' H'):=Lib.hid (by
      intro W m
      have:=cod_mag A G q1 raw eg rg i plane kk H1 W HG.out K2.out.2.2.1 K2.out.1 m.sat K2.out.2.2.2.1 (by have:=K2.out.2.2.2.2.1;omega) (by rw[HN.out.1];exact p0) hp (by omega)
      rw[hb] at this
      exact this)
     have TM:Hid (tryM G raw q1 x yj plane kk=if b=1 then signM G raw ⟨q1.c,bitW raw q1.s kk b⟩ x yj else ⟨q1.c,bitW raw q1.s kk b⟩):=Lib.hid (by unfold tryM;rw[HN.out.2.1,hb])
     obtain⟨qa,hqa⟩:∃ qa:CS,(⟨q1.c,bitW raw q1.s kk b⟩:CS)=qa:=⟨_,rfl⟩
     have QA:Hid (qa.c.Ok G∧qa.s.Ok∧qa.s.size≤80000000):=Lib.hid (by
      rw[← hqa]
      exact⟨K2.out.2.2.1,bitW_ok K2.out.2.2.2.1 (by omega) b,by have:=bitW_size (raw:=raw) K2.out.2.2.2.1 (k:=kk) (by omega) b;have:=K2.out.2.2.2.2.1;simp only;omega⟩)
     rw[hqa] at TM MG
     have FIN:Hid (∀ q2,tryM G raw q1 x yj plane kk=q2→q2.c.Ok G∧q2.s.Ok∧q2.s.size+32 * (4 - (j+1))≤80000000∧colFrom G raw x y plane (j+1) q2=R):=Lib.hid (by
      intro q2 h2
      have e1:=tryM_ok (raw:=raw) K2.out.2.2.1 x yj plane kk
      have e2:=tryM_says (raw:=raw) (G:=G) q1 x yj plane (k:=kk) (by omega)
      have e3:=e2.ok K2.out.2.2.2.1
      have e4:=(e2.grow K2.out.2.2.2.1).2.2
      have e5:=RS.out
      rw[SE2.out] at e5
      rw[h2] at e1 e3 e4 e5
      exact⟨e1,e3,by have:=K2.out.2.2.2.2.1;omega,e5⟩)
     by_cases hb1:b=1
     ·have d6:((b:Int) == 1)=true:=by rw[hb1];rfl
      have TM2:=Lib.hid (TM.out.trans (if_pos hb1))
      have HB:=Lib.hid hb1
      clear hb hb1 hqa
      go_wp2_with (first
       | (go_at_call 121;refine ZA.out.mono ?_;rintro e w4 ⟨rfl,dr⟩;have K4:=Lib.hid (dr.mv K2.out.2.1);clear dr)
       | (go_at_call 122;refine(MG.out _ K4.out).mono ?_;rintro e w5 ⟨rfl,H2,h2,m2⟩;have K5:=Lib.hid (And.intro h2 (K4.out.trans m2));clear h2 m2)
       | (go_at_call 123;refine(cod_sign A G qa raw eg rg x yj H2 _ HG.out QA.out.1 K5.out.1 K5.out.2.sat QA.out.2.1 QA.out.2.2 hx hlt2).mono ?_;rintro e w6 ⟨rfl,H3,h3,m3⟩;have K6:=Lib.hid (And.intro h3 (K5.out.2.trans m3));clear h3 m3))
      go_roundg (4 - (j+1))
      case measure=>omega
      case rel =>
       obtain⟨f1,f2,f3,f4⟩:=FIN.out _ TM2.out
       exact⟨j+1,_,H3,by omega,rfl,by push_cast;rfl,K6.out.1,K6.out.2,f1,f2,f3,f4⟩
     ·have d6:((b:Int) == 1)=false:=beq_eq_false_iff_ne.2 (by omega)
      have TM2:=Lib.hid (TM.out.trans (if_neg hb1))
      have HB:=Lib.hid hb1
      clear hb hb1 hqa
      go_wp2_with (first
       | (go_at_call 121;refine ZA.out.mono ?_;rintro e w4 ⟨rfl,dr⟩;have K4:=Lib.hid (dr.mv K2.out.2.1);clear dr)
       | (go_at_call 122;refine(MG.out _ K4.out).mono ?_;rintro e w5 ⟨rfl,H2,h2,m2⟩;have K5:=Lib.hid (And.intro h2 (K4.out.trans m2));clear h2 m2))
      go_roundg (4 - (j+1))
      case measure=>omega
      case rel =>
       obtain⟨f1,f2,f3,f4⟩:=FIN.out _ TM2.out
       exact⟨j+1,_,H2,by omega,rfl,by push_cast;rfl,K5.out.1,K5.out.2,f1,f2,f3,f4⟩
   ·have d2:decide ((yj:Int)<(G.h:Int))=false:=by simp;omega
    have eR:Hid (R=q1):=Lib.hid (by
     have:=K2.out.2.2.2.2.2
     unfold colFrom at this
     rw[show min 4 (G.h - y) - j=0 by omega] at this
     exact this.symm)
    clear hyj
    go_wp2_with fail
    exact bodyPost_end (results_none rfl _ _ _) rfl ⟨rfl,H1,by rw[eR.out];exact K2.out.1,K2.out.2.1⟩
  ·have d1:decide ((j:Int)<4)=false:=by simp;omega
   have eR:Hid (R=q1):=Lib.hid (by
    have:=K2.out.2.2.2.2.2
    unfold colFrom at this
    rw[show min 4 (G.h - y) - j=0 by omega] at this
    exact this.symm)
   go_wp2_with fail
   exact bodyPost_end (results_none rfl _ _ _) rfl ⟨rfl,H1,by rw[eR.out];exact K2.out.1,K2.out.2.1⟩
end
end Go.Proofs.YtjngfhgakokejaaGreat
