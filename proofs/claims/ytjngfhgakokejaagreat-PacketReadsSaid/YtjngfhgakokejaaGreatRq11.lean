/- PacketReads: part 11. -/
import Derived.Test.YtjngfhgakokejaaGreatRq10
set_option maxRecDepth 100000
set_option maxHeartbeats 8000000
set_option linter.all false
namespace Go.Proofs.YtjngfhgakokejaaGreat
open Value renaming int→i_,slice→s_,pointer→p_,bool→b_,agg→g_,tuple→t_
open IntKind renaming i64→l_
open Ending renaming returned→r_
open Tryz renaming prog→P_
open Option renaming some→S_,none→N_
open Bool renaming true→T_,false→F_
variable{s1 s2 s3 s4 s5 s6 s7 s8 s9 s10 s11 s13 s14 s15 s16 l9 kH kS s20 lF lC s23 s24 kZ s26 kW kR kY lu lJ lK lI lL lD s36 lY lX mG ni mZ mY s43 s44 nI mF nH nK s49 mD mg lW s53 mX mQ mP mO nX nJ oU oQ pO qW qN qV rD rC s68 rM rJ sN s72 sK sJ ry ru rf s78 qZ rH rG s82 s83 uk uj xI s87 xH xG xF xE xn xk xC xA xy xw xR zl oK oJ nT nS qj qh pY pX pG pF oI oH o9 oG nP nO nN nM oZ oW oV wK wJ wI wH wG wF wC wB wu vY vX vW uO:Value}
section
open Go.RowKit Go.Shelf
attribute [local go_sem] jR
def headD(l:List UInt8)(ah aB:Nat)(D:List bu)(M:Nat→aT):Option tJ:=if(eY l oL).1=1 then uG l ah aB (S_ ⟨M,[],(eY l oL).2⟩) (aX D)else S_ ⟨M,[],(eY l oL).2⟩
def aaG(l:List UInt8)(D:List bu)(HL HB0:List HB)(W:World):Option tJ→Ending→World→Prop
 |none,e,w'=>e=r_ (t_ #[s_ N_ 0 0,i_ l_ 0,i_ l_ 10])∧Mv W (HL++HB0) w' []
 |some S,e,w'=>∃vo Ho HB',e=r_ (t_ #[vo,i_ l_ ((zJ l S.rd).1:Int),i_ l_ ((zJ l S.rd).2:Int)])∧AO vo S.out Ho∧iK D S.M HB'∧Mv W (HL++HB0) w' (Ho++(HL++HB'))
section
variable{w0 V:World}{H0 A R:List HB}{n0:Nat}{vo:Value}{a e:Int}
theorem Xx{HR ZZ Ho HL HB':List HB}(m:Mv w0 H0 V ((HR++((uh n0 vo a e++ZZ)++(Ho++HL)))++HB')):V.cell? ⟨n0+2,0,N_⟩=S_ vo∧V.frozen? ⟨n0+2,0,N_⟩=F_∧V.cell? ⟨n0+3,0,N_⟩=S_ (i_ l_ a)∧V.frozen? ⟨n0+3,0,N_⟩=F_∧V.cell? ⟨n0+4,0,N_⟩=S_ (i_ l_ e)∧V.frozen? ⟨n0+4,0,N_⟩=F_:=by have s:=m.sat.left.right.left.left;have b0:=s.at_ 0 rfl;have b1:=s.at_ 1 rfl;have b2:=s.at_ 2 rfl;exact⟨b0.cell 0,b0.frozen 0,b1.cell 0,b1.frozen 0,b2.cell 0,b2.frozen 0⟩
theorem Nc{HR ZZ Ho HL HB':List HB}(m:Mv w0 H0 V ((HR++((uh n0 vo a e++ZZ)++(Ho++HL)))++HB')):Mv w0 H0 (V.setCell ⟨n0+2,0,N_⟩ vo) ((HR++((uh n0 vo a e++ZZ)++(Ho++HL)))++HB')∧(∀a',Mv w0 H0 (V.setCell ⟨n0+3,0,N_⟩ (i_ l_ a')) ((HR++((uh n0 vo a' e++ZZ)++(Ho++HL)))++HB'))∧(∀e',Mv w0 H0 (V.setCell ⟨n0+4,0,N_⟩ (i_ l_ e')) ((HR++((uh n0 vo a e'++ZZ)++(Ho++HL)))++HB')):=by
 refine⟨?_,fun a'=>?_,fun e'=>?_⟩
 ·have m1:Mv w0 H0 V (HR++⟨n0+2,91,#[vo]⟩::(⟨n0+3,3,#[i_ l_ a]⟩::(⟨n0+4,35,#[i_ l_ e]⟩::(ZZ++(Ho++(HL++HB')))))):=by simpa only[uh,az,List.cons_append,List.nil_append]using m
  have m2:=Mv.setAt m1 0 vo;rw[show(#[vo]:Array Value).setIfInBounds 0 vo=#[vo]from rfl]at m2;simpa only[uh,az,List.cons_append,List.nil_append]using m2
 ·have m1:Mv w0 H0 V ((HR++[⟨n0+2,91,#[vo]⟩])++⟨n0+3,3,#[i_ l_ a]⟩::(⟨n0+4,35,#[i_ l_ e]⟩::(ZZ++(Ho++(HL++HB'))))):=by simpa only[uh,az,List.cons_append,List.nil_append]using m
  have m2:=Mv.setAt m1 0 (i_ l_ a');rw[show(#[i_ l_ a]:Array Value).setIfInBounds 0 (i_ l_ a')=#[i_ l_ a']from rfl]at m2;simpa only[uh,az,List.cons_append,List.nil_append]using m2
 ·have m1:Mv w0 H0 V ((HR++[⟨n0+2,91,#[vo]⟩,⟨n0+3,3,#[i_ l_ a]⟩])++⟨n0+4,35,#[i_ l_ e]⟩::(ZZ++(Ho++(HL++HB')))):=by simpa only[uh,az,List.cons_append,List.nil_append]using m
  have m2:=Mv.setAt m1 0 (i_ l_ e');rw[show(#[i_ l_ e]:Array Value).setIfInBounds 0 (i_ l_ e')=#[i_ l_ e']from rfl]at m2;simpa only[uh,az,List.cons_append,List.nil_append]using m2
end
theorem JB(tmps:Array Value)(w:World)(n0:Nat)(vo:Value)(a e:Int)(h8:tmps.getD 8 undef=p_ (S_ ⟨n0+2,0,N_⟩))(h9:tmps.getD 9 undef=p_ (S_ ⟨n0+3,0,N_⟩))(h10:tmps.getD 10 undef=p_ (S_ ⟨n0+4,0,N_⟩))(c8:w.cell? ⟨n0+2,0,N_⟩=S_ vo)(c9:w.cell? ⟨n0+3,0,N_⟩=S_ (i_ l_ a))(c10:w.cell? ⟨n0+4,0,N_⟩=S_ (i_ l_ e)):(results Tryz.f39 tmps).run P_ w=.ok (t_ #[vo,i_ l_ a,i_ l_ e]) w:=by rw[Rh (p:=8) (q:=9) (r:=10) (tp:=91) (tq:=3) (tr:=35) rfl,h8,h9,h10];simp only[asAddr];go_simp
theorem θ(A:Option Addr)(c:Nat)(D:List bu)(M:Nat→aT)(ah aB:Nat)(v:Value)(l:List UInt8)(HL HB0:List HB)(W:World)(hD:D.length≤1000)(hL:zn (s_ A D.length c) D HL)(hB:iK D M HB0)(hs:Sat W (HL++HB0))(hv:BV W v l)(hll:l.length≤9000000)(hly:aB≤100)(hst:ah≤63)
 (hn:(aX D).length≤200) (hg:∀d∈D,AQ (M d.bb)):
 Calls P_ 39 #[s_ A D.length c,i_ l_ ah,i_ l_ aB,v] W (aaG l D HL HB0 W (headD l ah aB D M)):=by
 refine(iH (n:=8)).1 ?_;refine callsIn_of_wp_marks Tryz.func39 rfl trivial ?_ rfl;simp only[Tryz.ntmps39,pJ,List.length_cons,List.length_nil,Nat.reduceAdd,Nat.reduceSub,oD,Array.replicate_zero,rW,qw,List.nil_append,List.cons_append];have HV:=af hv;obtain⟨a,c9,rfl,hv'⟩:=hv;obtain⟨n,hln⟩:=X_ (l.length);rw[hln]at HV⊢;have M1n:=(((((Mv.refl (Sat.nil W)).alloc 3 #[i_ l_ ah]).alloc 3 #[i_ l_ aB]).alloc 91 #[s_ N_ 0 0]).alloc 3 #[i_ l_ 0]).alloc 35 #[i_ l_ 0];have M1:=(((((Mv.refl hs).alloc 3 #[i_ l_ ah]).alloc 3 #[i_ l_ aB]).alloc 91 #[s_ N_ 0 0]).alloc 3 #[i_ l_ 0]).alloc 35 #[i_ l_ 0];have KI:=zO hL hB hg hs;clear hs hL hB hg hv';refine wpIn_wide.2 ?_;go_upto_region 1 with fail;obtain⟨w1,hw1⟩:=Y_ ((((((W.alloc (.cells #[i_ l_ ah] 3)).alloc (.cells #[i_ l_ aB] 3)).alloc (.cells #[s_ N_ 0 0] 91)).alloc (.cells #[i_ l_ 0] 3)).alloc (.cells #[i_ l_ 0] 35)));simp only[jV,←hw1]at M1 M1n;simp only[←hw1];obtain⟨n0,hn0⟩:=X_ (W.heap.size);rw[hn0]at M1 M1n;simp only[hn0];have NR:=af (ZR _ l w1 (HV.keep M1n.tC) (by omega));have K1:=af M1;clear M1 M1n hw1;have NW:Hid (Calls P_ 87 #[s_ a n c9] w1 fun e w'=>∃rb HR,e=r_ (p_ (S_ ⟨rb,0,N_⟩))∧Hid (jA rb l oL HR∧Mv W (HL++HB0) w' (HR++(⟨n0+4,35,#[i_ l_ 0]⟩::(⟨n0+3,3,#[i_ l_ 0]⟩::(⟨n0+2,91,#[s_ N_ 0 0]⟩::(⟨n0+1,3,#[i_ l_ aB]⟩::(⟨n0,3,#[i_ l_ ah]⟩::(HL++HB0))))))))):=af (by refine NR.mono ?_;rintro e w' ⟨rb,HR,rfl,h3,m3⟩;exact⟨rb,HR,rfl,af ⟨h3,Mv.call (H:=[]) K1 m3⟩⟩);go_upto_region 2 with(go_at_call 87;refine NW.out.mono ?_;rintro e w2 ⟨rb,HR1,rfl,K2⟩);obtain⟨w3,hw3⟩:=Y_ (w2.alloc (.cells #[p_ (S_ ⟨rb,0,N_⟩)] 165));obtain⟨Lt,ajx⟩:=X_ (w2.heap.size);obtain⟨ZZ,hZe⟩:∃ZZ:List HB,ZZ=[⟨Lt,165,#[p_ (S_ ⟨rb,0,N_⟩)]⟩,⟨n0+1,3,#[i_ l_ aB]⟩,⟨n0,3,#[i_ l_ ah]⟩]:=⟨_,rfl⟩;have hZZ:∀V,Sat V ZZ→V.cell? ⟨Lt,0,N_⟩=S_ (p_ (S_ ⟨rb,0,N_⟩)):=by intro V s;rw[hZe]at s;exact(s.at_ 0 rfl).cell 0
 have M3:Mv W (HL++HB0) w3 ((HR1++((uh n0 (s_ N_ 0 0) 0 0++ZZ)++([]++HL)))++HB0):=by have m:=K2.2.alloc 165 #[p_ (S_ ⟨rb,0,N_⟩)];rw[←hw3,ajx]at m;rw[hZe];exact m.sub (fun g=>by simp only[uh,aP,bK,gI];omega) (fun c hc=>by simp only[uh,ay,aC,bP,gQ,false_or]at hc⊢;grind)
 have x7:=hZZ w3 M3.sat.left.right.left.right;have hb1:=jD l oL (by simp[oL]);have amk:(eY l oL).2.begun≤1:=by have:=hb1.2.2;simpa[oL]using this
 have BB:Hid (∀q,(eY l oL).1=q→Calls P_ 88 #[p_ (S_ ⟨rb,0,N_⟩)] w3 fun e w4=>e=r_ (i_ l_ q)∧∃HR,Hid (jA rb l (eY l oL).2 HR∧Mv W (HL++HB0) w4 ((HR++((uh n0 (s_ N_ 0 0) 0 0++ZZ)++([]++HL)))++HB0))):=af (by
  rintro q hq;have m1:Mv W (HL++HB0) w3 (HR1++((((uh n0 (s_ N_ 0 0) 0 0++ZZ)++([]++HL)))++HB0)):=by rw[←az];exact M3
  refine(JF rb l oL w3 HR1 K2.1 m1.sat.left (by omega) (by simp[oL]) (by simp[oL])).mono ?_;rintro e w4 ⟨rfl,HR,p1,p2⟩;exact⟨by rw[hq],HR,af ⟨p1,by rw[az];exact Mv.call m1 p2⟩⟩)
 rw[←hw3];simp only[ajx];obtain⟨r1,hr1⟩:=X_ ((eY l oL).2);rw[hr1]at BB hb1 amk;have hHD:headD l ah aB D M=if(eY l oL).1=1 then uG l ah aB (S_ ⟨M,[],r1⟩) (aX D)else S_ ⟨M,[],r1⟩:=by unfold headD;rw[hr1]
 have HHD:=af hHD;have HZE:=af hZe;clear hw3 ajx M3 hr1 hHD NR NW hZe;by_cases hq:(eY l oL).1=1
 ·have BQ:=af (BB 1 hq);have hE0:headD l ah aB D M=uG l ah aB (S_ ⟨M,[],r1⟩) (aX D):=by rw[HHD.out,aK hq]
  have HE0:=af hE0;clear hE0 hq BB;go_wp2_with (first
   |(go_at_call 88;(with_reducible refine BQ.out.mono ?_);rintro e w4 ⟨rfl,HR4,K4⟩;(have y7:=hZZ w4 K4.out.2.sat.left.right.left.right))
   |(go_at_call 22;refine(LW _ _ _ _).mono ?_;rintro e w' ⟨rfl,rfl⟩))
  obtain⟨w6,hw6⟩:=Y_ (w4.alloc (.cells #[s_ A D.length c] 26));obtain⟨bx,hbx⟩:=X_ (w4.heap.size);have M6:Mv W (HL++HB0) w6 ((HR4++((uh n0 (s_ N_ 0 0) 0 0++BN bx Lt rb n0 A D.length c ah aB)++([]++HL)))++HB0):=by have m:=K4.2.alloc 26 #[s_ A D.length c];rw[←hw6,hbx,HZE.out]at m;exact m.sub (fun g=>by simp only[BN,aP,bK,gI];omega) (fun c hc=>by simp only[BN,ay,aC,bP,gQ,false_or]at hc⊢;grind)
  have K6:=af M6;have P0:XA bx Lt rb n0 A c D l ah aB HL ⟨M,[],r1⟩ [] ((HR4++((uh n0 (s_ N_ 0 0) 0 0++BN bx Lt rb n0 A D.length c ah aB)++([]++HL)))++HB0):=⟨_,HR4,[],s_ N_ 0 0,HB0,rfl,rfl,K4.1,dh.nil _ _,KI.2.1,KI.2.2.1,hb1.2.1,by simp only;omega,by simp⟩;rw[←hw6];simp only[hbx];have hsz:W.heap.size≤w6.heap.size:=M6.only.size;clear hw6 hbx M6 x7 y7;refine(wpIn_wide (n:=8)).1 ?_;refine Fb (n:=8) (by omega) 12 W (HL++HB0) hsz (box:=bx) (c:=c) (A:=A) (D:=D) rfl (by omega) (fun e he=>by obtain⟨b,-,k2,-⟩:=KI.2.1.band he;have:=k2.small;omega) (XA bx Lt rb n0 A c D l ah aB HL ⟨M,[],r1⟩) (afM n0 D l ah aB ⟨M,[],r1⟩) ?sp ?no ⟨_,P0,K6.out⟩ ?assign ?body ?done ?stop
  case sp=>rintro pre H w ⟨S,HR,Ho,vo,HB',-,rfl,-,-,h2,-⟩ hs;exact zn.sp KI.1 h2 hs (cu _ (aS _ (cu _ (aS _ aG)))) (fun x hx=>cu _ (aS _ (aS _ (aS _ hx)))) (fun x hx=>aS _ hx)
  case no=>rintro pre H ⟨S,HR,Ho,vo,HB',-,rfl,hr,ho,h2,-⟩;obtain⟨v,Hr,rfl,hr⟩:=hr;exact((jQ.cons (show 202≠66 by decide) (jQ.row hr (by decide))).append (((ah7 _ _ _ _).append (ah6 _ _ _ _ _ _ _ _ _)).append ((jQ.row ho (by decide)).append (jQ.row KI.1 (by decide))))).append h2.PQ
  case assign=>intro l x y z w K hK;simp only[bf,List.set_cons_succ,List.set_cons_zero]at hK⊢;gi_wp2;exact hK
  case body=>intro l0 pre x hx B w H hr hP hs hlen;simp only[bf,List.set_cons_succ,List.set_cons_zero];exact adb l0 D A c bx Lt rb n0 B HL l ah aB ⟨M,[],r1⟩ pre x hx w H hP hs (by omega) hst hly (by omega)
  case stop=>
   intro KK pre w H hKK hpre hPX hM hd;obtain⟨hf,rfl⟩:=hPX;have hN:headD l ah aB D M=N_:=by rw[HE0.out];exact UX hpre hf
   have m12:=hM.putObj (.deferred N_) hKK hd rfl;have b0:=(m12.sat.at_ 0 rfl).cell 0;have b1:=(m12.sat.at_ 1 rfl).cell 0;have b2:=(m12.sat.at_ 2 rfl).cell 0;have hpost:aaG l D HL HB0 W N_ (r_ (t_ #[s_ N_ 0 0,i_ l_ 0,i_ l_ 10])) (w.putObj KK (.deferred N_)):=⟨rfl,m12.sub (fun g=>by rw[gI];omega) (fun b hb=>by cases hb)⟩;rw[←hN]at hpost;have KX:=LH hd hpost b0 b1 b2;clear hd hpost b0 b1 b2 m12 hM;refine wpIn_wide.2 ?_;go_wp2_with fail;refine⟨by simp,.inl ⟨_,_,rfl,run_takeDeferred KX.1,?_⟩⟩;exact⟨_,JB _ _ n0 _ _ _ rfl rfl rfl KX.2.2.1 KX.2.2.2.1 KX.2.2.2.2,KX.2.1⟩
  case done=>
   intro KK ys w5 H hKK hy hP hM hd;obtain⟨S,HR,Ho,vo,HB',hf,rfl,hr,ho,hB,hg,h8,hbg,hol⟩:=hP;have hyl:ys.length=(aX D).length:=by rw[←hy,aO]
   rw[hy]at hf;have hE:Hid (headD l ah aB D M=S_ S):=af (by rw[HE0.out];exact hf);have hM2:Mv W (HL++HB0) w5 ((HR++((uh n0 vo 0 0++ZZ)++(Ho++HL)))++HB'):=hM.sub (fun g=>by rw[HZE.out];simp only[BN,aP,bK,gI];omega) (fun c hc=>by rw[HZE.out]at hc;simp only[BN,ay,aC,bP,gQ]at hc⊢;grind);have K5:=zO hr ho hB hM2;have KD:=af hd;have ak5:S.rd.begun≤20000000:=by omega
   obtain⟨ao,co,rfl⟩:=ho.slice;clear hf hr ho hB hg hM hM2 hd hy;obtain⟨n9,hn9⟩:∃n9:Nat,(zJ l S.rd).1=n9:=⟨_,rfl⟩;obtain⟨e9,he9⟩:∃e9:Nat,(zJ l S.rd).2=e9:=⟨_,rfl⟩;have EN:Hid (Calls P_ 91 #[p_ (S_ ⟨rb,0,N_⟩)] w5 fun e w'=>e=r_ (t_ #[i_ l_ n9,i_ l_ e9])∧∃k,w'=w5.drewN k):=af (by have h:=afA rb l S.rd w5 HR K5.1 K5.2.2.2.sat.left.left (by omega) (by omega);rw[hn9,he9]at h;exact h);have CE:Hid (∀V a e,Mv W (HL++HB0) V ((HR++((uh n0 (s_ ao S.out.length co) a e++ZZ)++(Ho++HL)))++HB')→(V.cell? ⟨n0+2,0,N_⟩=S_ (s_ ao S.out.length co)∧V.frozen? ⟨n0+2,0,N_⟩=F_∧V.cell? ⟨n0+3,0,N_⟩=S_ (i_ l_ a)∧V.frozen? ⟨n0+3,0,N_⟩=F_∧V.cell? ⟨n0+4,0,N_⟩=S_ (i_ l_ e)∧V.frozen? ⟨n0+4,0,N_⟩=F_)∧V.cell? ⟨Lt,0,N_⟩=S_ (p_ (S_ ⟨rb,0,N_⟩))∧Mv W (HL++HB0) (V.setCell ⟨n0+2,0,N_⟩ (s_ ao S.out.length co)) ((HR++((uh n0 (s_ ao S.out.length co) a e++ZZ)++(Ho++HL)))++HB')∧(∀a',Mv W (HL++HB0) (V.setCell ⟨n0+3,0,N_⟩ (i_ l_ a')) ((HR++((uh n0 (s_ ao S.out.length co) a' e++ZZ)++(Ho++HL)))++HB'))∧(∀e',Mv W (HL++HB0) (V.setCell ⟨n0+4,0,N_⟩ (i_ l_ e')) ((HR++((uh n0 (s_ ao S.out.length co) a e'++ZZ)++(Ho++HL)))++HB'))):=af (by intro V a e m;exact⟨Xx m,hZZ V m.sat.left.right.left.right,(Nc m).1,(Nc m).2.1,(Nc m).2.2⟩);obtain⟨⟨x1,x2,x3,x4,x5,x6⟩,x7,-⟩:=CE w5 0 0 K5.2.2.2;go_upto_region 11 with(go_at_call 91;(with_reducible refine EN.out.mono ?_);rintro e w6 ⟨rfl,k6,rfl⟩);obtain⟨w7,hw7⟩:=Y_ (((w5.drewN k6).setCell ⟨n0+3,0,N_⟩ (i_ l_ n9)).setCell ⟨n0+4,0,N_⟩ (i_ l_ e9));have M7:Mv W (HL++HB0) w7 ((HR++((uh n0 (s_ ao S.out.length co) n9 e9++ZZ)++(Ho++HL)))++HB'):=by rw[hw7];exact(CE _ _ _ ((CE _ 0 0 (K5.2.2.2.drewN k6)).2.2.2.1 (n9:Int))).2.2.2.2 (e9:Int)
   have e10:((w5.drewN k6).setCell ⟨n0+1+1+1,0,N_⟩ (i_ l_ n9)).setCell ⟨n0+1+1+1+1,0,N_⟩ (i_ l_ e9)=w7:=hw7.symm
   first|rw[←hw7]|rw[e10]
   have kk7:w7.heap[KK]?=S_ (.deferred (S_ [])):=by rw[hw7];exact(KeepsOthers.setCell _ ⟨n0+4,0,N_⟩ _).same KK _ ((KeepsOthers.setCell _ ⟨n0+3,0,N_⟩ _).same KK _ KD rfl) rfl
   have K7:=af kk7;clear kk7;have K8:=af M7;clear hw7 e10 x1 x2 x3 x4 x5 x6 x7;obtain⟨⟨x1,x2,x3,x4,x5,x6⟩,x7,-⟩:=CE w7 _ _ M7;clear M7;go_region
   all_goals
    obtain⟨w8,hw8⟩:=Y_ ((((w7.setCell ⟨n0+2,0,N_⟩ (s_ ao S.out.length co)).setCell ⟨n0+3,0,N_⟩ (i_ l_ n9)).setCell ⟨n0+4,0,N_⟩ (i_ l_ e9)).drew);have M8:Mv W (HL++HB0) w8 ((HR++((uh n0 (s_ ao S.out.length co) n9 e9++ZZ)++(Ho++HL)))++HB'):=by rw[hw8];exact((CE _ _ _ ((CE _ _ _ (CE _ _ _ K8.out).2.2.1).2.2.2.1 (n9:Int))).2.2.2.2 (e9:Int)).drew
    have kk8:w8.heap[KK]?=S_ (.deferred (S_ [])):=by rw[hw8];exact(KeepsOthers.setCell _ ⟨n0+4,0,N_⟩ _).same KK _ ((KeepsOthers.setCell _ ⟨n0+3,0,N_⟩ _).same KK _ ((KeepsOthers.setCell _ ⟨n0+2,0,N_⟩ _).same KK _ K7 rfl) rfl) rfl
    have y!:=af kk8;clear kk8;have e11:(((w7.setCell ⟨n0+1+1,0,N_⟩ (s_ ao S.out.length co)).setCell ⟨n0+1+1+1,0,N_⟩ (i_ l_ n9)).setCell ⟨n0+1+1+1+1,0,N_⟩ (i_ l_ e9)).drew=w8:=hw8.symm
    first|rw[←hw8]|rw[e11]
    have XP:=af M8;clear hw8 e11 M8;go_wp2_with fail;have hpost:aaG l D HL HB0 W (S_ S) (r_ (t_ #[(s_ ao S.out.length co),i_ l_ n9,i_ l_ e9])) (w8.putObj KK (.deferred N_)):=⟨(s_ ao S.out.length co),Ho,HB',by rw[hn9,he9],K5.2.1,K5.2.2.1,(XP.putObj (.deferred N_) hKK y! rfl).Z_⟩;rw[←hE.out]at hpost;have M12:=XP.putObj (.deferred N_) hKK y! rfl;obtain⟨⟨v1,-,v3,-,v5,-⟩,-⟩:=CE _ _ _ M12;refine⟨by simp,.inl ⟨_,_,rfl,run_takeDeferred y!.out,?_⟩⟩;exact⟨_,JB _ _ n0 (s_ ao S.out.length co) _ _ rfl rfl rfl v1 v3 v5,hpost⟩
 ·have hq0:(eY l oL).1=0:=by omega
  have BQ:=af (BB 0 hq0);have hE:Hid (headD l ah aB D M=S_ ⟨M,[],r1⟩):=af (by rw[HHD.out,aJ hq]);clear hq hq0 BB;go_upto_region 10 with(go_at_call 88;(with_reducible refine BQ.out.mono ?_);rintro e w5 ⟨rfl,HR,K4⟩);have K5:=zO K4.1 (show AO (s_ N_ 0 0) [] []from dh.nil _ _) KI.2.1 K4.2;obtain⟨S,hSe⟩:∃S:tJ,(⟨M,[],r1⟩:tJ)=S:=⟨_,rfl⟩;obtain⟨Ho,hHo⟩:∃Ho:List HB,([]:List HB)=Ho:=⟨_,rfl⟩;obtain⟨vo,hvo⟩:∃vo:Value,Value.slice N_ 0 0=vo:=⟨_,rfl⟩;obtain⟨HB',alb⟩:∃HB',HB0=HB':=⟨_,rfl⟩;have K5:Hid (jA rb l S.rd HR∧AO vo S.out Ho∧iK D S.M HB'∧Mv W (HL++HB0) w5 ((HR++((uh n0 vo 0 0++ZZ)++(Ho++HL)))++HB')):=af (by subst hSe hHo hvo;rw[←alb];exact K5.out);rw[hSe]at hE;have ak5:S.rd.begun≤20000000:=by rw[←hSe];simp only;omega
  clear K4 hSe hHo alb x7;subst hvo;obtain⟨n9,hn9⟩:∃n9:Nat,(zJ l S.rd).1=n9:=⟨_,rfl⟩;obtain⟨e9,he9⟩:∃e9:Nat,(zJ l S.rd).2=e9:=⟨_,rfl⟩;have EN:Hid (Calls P_ 91 #[p_ (S_ ⟨rb,0,N_⟩)] w5 fun e w'=>e=r_ (t_ #[i_ l_ n9,i_ l_ e9])∧∃k,w'=w5.drewN k):=af (by have h:=afA rb l S.rd w5 HR K5.1 K5.2.2.2.sat.left.left (by omega) (by omega);rw[hn9,he9]at h;exact h);have CE:Hid (∀V a e,Mv W (HL++HB0) V ((HR++((uh n0 (s_ N_ 0 0) a e++ZZ)++(Ho++HL)))++HB')→(V.cell? ⟨n0+2,0,N_⟩=S_ (s_ N_ 0 0)∧V.frozen? ⟨n0+2,0,N_⟩=F_∧V.cell? ⟨n0+3,0,N_⟩=S_ (i_ l_ a)∧V.frozen? ⟨n0+3,0,N_⟩=F_∧V.cell? ⟨n0+4,0,N_⟩=S_ (i_ l_ e)∧V.frozen? ⟨n0+4,0,N_⟩=F_)∧V.cell? ⟨Lt,0,N_⟩=S_ (p_ (S_ ⟨rb,0,N_⟩))∧Mv W (HL++HB0) (V.setCell ⟨n0+2,0,N_⟩ (s_ N_ 0 0)) ((HR++((uh n0 (s_ N_ 0 0) a e++ZZ)++(Ho++HL)))++HB')∧(∀a',Mv W (HL++HB0) (V.setCell ⟨n0+3,0,N_⟩ (i_ l_ a')) ((HR++((uh n0 (s_ N_ 0 0) a' e++ZZ)++(Ho++HL)))++HB'))∧(∀e',Mv W (HL++HB0) (V.setCell ⟨n0+4,0,N_⟩ (i_ l_ e')) ((HR++((uh n0 (s_ N_ 0 0) a e'++ZZ)++(Ho++HL)))++HB'))):=af (by intro V a e m;exact⟨Xx m,hZZ V m.sat.left.right.left.right,(Nc m).1,(Nc m).2.1,(Nc m).2.2⟩);obtain⟨⟨x1,x2,x3,x4,x5,x6⟩,x7,-⟩:=CE w5 0 0 K5.2.2.2;go_upto_region 11 with(go_at_call 91;(with_reducible refine EN.out.mono ?_);rintro e w6 ⟨rfl,k6,rfl⟩);obtain⟨w7,hw7⟩:=Y_ (((w5.drewN k6).setCell ⟨n0+3,0,N_⟩ (i_ l_ n9)).setCell ⟨n0+4,0,N_⟩ (i_ l_ e9));have M7:Mv W (HL++HB0) w7 ((HR++((uh n0 (s_ N_ 0 0) n9 e9++ZZ)++(Ho++HL)))++HB'):=by rw[hw7];exact(CE _ _ _ ((CE _ 0 0 (K5.2.2.2.drewN k6)).2.2.2.1 (n9:Int))).2.2.2.2 (e9:Int)
  have e10:((w5.drewN k6).setCell ⟨n0+1+1+1,0,N_⟩ (i_ l_ n9)).setCell ⟨n0+1+1+1+1,0,N_⟩ (i_ l_ e9)=w7:=hw7.symm
  first|rw[←hw7]|rw[e10]
  have K8:=af M7;clear hw7 e10 x1 x2 x3 x4 x5 x6 x7;obtain⟨⟨x1,x2,x3,x4,x5,x6⟩,x7,-⟩:=CE w7 _ _ M7;clear M7;go_region
  all_goals
   obtain⟨w8,hw8⟩:=Y_ ((((w7.setCell ⟨n0+2,0,N_⟩ (s_ N_ 0 0)).setCell ⟨n0+3,0,N_⟩ (i_ l_ n9)).setCell ⟨n0+4,0,N_⟩ (i_ l_ e9)).drew);have M8:Mv W (HL++HB0) w8 ((HR++((uh n0 (s_ N_ 0 0) n9 e9++ZZ)++(Ho++HL)))++HB'):=by rw[hw8];exact((CE _ _ _ ((CE _ _ _ (CE _ _ _ K8.out).2.2.1).2.2.2.1 (n9:Int))).2.2.2.2 (e9:Int)).drew
   have e11:(((w7.setCell ⟨n0+1+1,0,N_⟩ (s_ N_ 0 0)).setCell ⟨n0+1+1+1,0,N_⟩ (i_ l_ n9)).setCell ⟨n0+1+1+1+1,0,N_⟩ (i_ l_ e9)).drew=w8:=hw8.symm
   first|rw[←hw8]|rw[e11]
   have XP:=af M8;clear hw8 e11 M8;go_wp2_with fail;have hpost:aaG l D HL HB0 W (S_ S) (r_ (t_ #[(s_ N_ 0 0),i_ l_ n9,i_ l_ e9])) w8:=⟨(s_ N_ 0 0),Ho,HB',by rw[hn9,he9],K5.2.1,K5.2.2.1,XP.Z_⟩;rw[←hE.out]at hpost;obtain⟨⟨v1,-,v3,-,v5,-⟩,-⟩:=CE _ _ _ XP.out;exact⟨_,JB _ _ n0 (s_ N_ 0 0) _ _ rfl rfl rfl v1 v3 v5,hpost⟩
end
section
open Go.RowKit
def takeB(m:aT)(k ah p:Nat)(data:List UInt8):aT:=match m.ss[k]? with
 |none=>m
 |some s=>{m with ss:=m.ss.set k (OL ah s p data)}
def decGo(l:List UInt8)(ah:Nat):List yx→(Nat→aT)→Nat→(Nat→aT)×Option Nat
 | [],M,n=>(M,S_ n)
 |q::qs,M,n=>if l.length-n<q.n then(M,N_)else decGo l ah qs (ou M q.x.d.bb (takeB (M q.x.d.bb) q.x.k ah q.p ((l.drop n).take q.n))) (n+q.n)
def WH(D:List bu)(l:List UInt8)(ah:Nat):List yx→(Nat→aT)→Nat→Prop
 | [],_,_=>True
 |q::qs,M,n=>(q.x.d∈D∧q.x.k<q.x.d.n∧q.p≤1000∧q.n<4294967296∧∀s,(M q.x.d.bb).ss[q.x.k]?=S_ s→s.ps.length+q.p≤1000∧s.bs.length+min q.n l.length≤10000000)∧WH D l ah qs (ou M q.x.d.bb (takeB (M q.x.d.bb) q.x.k ah q.p ((l.drop n).take q.n))) (n+q.n)
section
variable{D:List bu}{M:Nat→aT}{HB1 H0 Y:List HB}{w0 w:World}{d:bu}{k:Nat}{s:og}
theorem step_take(hB:iK D M HB1)(hd:d∈D)(hk:k<d.n)(hs:(M d.bb).ss[k]?=S_ s)(m:Mv w0 H0 w (Y++HB1))(ah p n:Nat)(data:List UInt8)(v:Value)(hv:BV w v data)(hs63:ah≤63)(hp:s.ps.length+p≤1000)(hb:s.bs.length+data.length≤10000000):Calls P_ 41 #[g_ #[p_ (S_ ⟨d.lb,k*5,N_⟩),p_ (S_ ⟨d.bb,0,N_⟩),i_ l_ k,i_ l_ p,i_ l_ n],i_ l_ ah,v] w fun e w'=>e=r_ (t_ #[])∧ ∃HB',iK D (ou M d.bb (takeB (M d.bb) k ah p data)) HB'∧Mv w0 H0 w' (Y++HB'):=by
 obtain⟨b,R,ok,em,fwd,back⟩:=QR hB m hd;obtain⟨st,hst,rfl⟩:=IB em hs;have m1:Mv w0 H0 w (b.heap d++(Y++R)):=(fwd w m).Z_;refine(take_any d b k ah p n st data v w ok hk hst m1.sat.left hv hs63 hp hb).mono ?_;rintro e w' ⟨rfl,b',q1,q2,q3⟩;obtain⟨HB',h6,h7⟩:=back b' Y q1;refine⟨rfl,HB',?_,h7 w' ?_⟩
 ·have e:takeB (M d.bb) k ah p data=b'.model:=by unfold takeB;rw[hs,q2,←em]
  rw[e];exact h6
 ·exact(Mv.call m1 q3).Z_
end
theorem JC(l:List UInt8)(ah:Nat)(q:yx)(qs:List yx)(M:Nat→aT)(n:Nat):decGo l ah (q::qs) M n=if l.length-n<q.n then(M,N_)else decGo l ah qs (ou M q.x.d.bb (takeB (M q.x.d.bb) q.x.k ah q.p ((l.drop n).take q.n))) (n+q.n):=rfl
theorem UZ(l:List UInt8)(s:jG):(zJ l s).1≤l.length∧(zJ l s).2≤10:=by
 have key:∀(n:Nat) (bad:Bool),(if l.length<n then((0,8):Nat×Nat)else if bad=T_ then(0,10)else(n,0)).1≤l.length∧(if l.length<n then((0,8):Nat×Nat)else if bad=T_ then(0,10)else(n,0)).2≤10:=by
  intro n bad;by_cases h:l.length<n
  ·rw[aK h];exact⟨aY _,by simp⟩
  ·rw[aJ h];cases bad
   ·exact⟨by simp;omega,by simp⟩
   ·exact⟨by simp,by simp⟩
 exact key _ _
def alv(l:List UInt8)(D:List bu)(HV HL HB0:List HB)(W:World)(q:Nat×Nat×(Nat→aT))(e:Ending)(w':World):Prop:=e=r_ (t_ #[i_ l_ q.1,i_ l_ q.2.1])∧(if q.2.1=0 then∃HB',iK D q.2.2 HB'∧Mv W ((HL++HB0)++HV) w' (HV++(HL++HB'))else Mv W ((HL++HB0)++HV) w' HV)
theorem Sat.yA{w:World}{b:HB}{H:List HB}(h:Sat w (b::H)):Sat w H:=Sat.right (A:=[b]) h
theorem aaw{w:World}{vg n c m mp:Nat}{l:List UInt8}(h:BV w (s_ (S_ ⟨vg,0,N_⟩) n c) l)(hn:l.length=n)(h1:m≤mp)(h2:mp≤n)(h3:n≤c):BV w (s_ (if c=m then S_ ⟨vg,0,N_⟩else S_ ⟨vg,m,N_⟩) (mp-m) (c-m)) ((l.drop m).take (mp-m)):=by
 split
 ·rename_i he;have e1:mp-m=0:=by omega
  have e2:c-m=0:=by omega
  rw[e1,e2,List.take_zero];exact⟨_,0,rfl,aN _,by decide,rfl,fun h=>absurd h (by decide)⟩
 ·have b2:=BV.mid h m mp h1 h2;rw[dH]at b2;exact b2
theorem Wu{g n c:Nat}{out:List yx}{Ho:List HB}{w:World}(h:AO (s_ (S_ ⟨g,0,N_⟩) n c) out Ho)(hs:Sat w Ho){i:Nat}{q:yx}(hq:out[i]?=S_ q):w.cell? ⟨g,i*5,N_⟩=S_ (p_ (S_ ⟨q.x.d.lb,q.x.k*5,N_⟩))∧w.cell? ⟨g,i*5+1,N_⟩=S_ (p_ (S_ ⟨q.x.d.bb,0,N_⟩))∧w.cell? ⟨g,i*5+2,N_⟩=S_ (i_ l_ q.x.k)∧w.cell? ⟨g,i*5+3,N_⟩=S_ (i_ l_ q.p)∧w.cell? ⟨g,i*5+4,N_⟩=S_ (i_ l_ q.n):=by
 have hi:=(aj.1 hq).1;have key:∀j,j<5→w.cell? ⟨g,i*5+j,N_⟩=(PE q)[j]?:=by intro j hj;rw[(dh.cell h hs (by obtain⟨a',c',e⟩:=dh.slice h;cases e;rfl) (i*5+j) (by omega)).1];exact flat_get PE 5 (fun _=>rfl) out i q hq j hj
 exact⟨key 0 (by omega),key 1 (by omega),key 2 (by omega),key 3 (by omega),key 4 (by omega)⟩
end
section
structure Ren(D:List bu)(r:bu→bu):Prop where
 n:∀d∈D,(r d).n=d.n
 inj:∀d∈D,∀e∈D,((r e).bb=(r d).bb↔e.bb=d.bb)
section
variable{D:List bu}{r:bu→bu}(hr:Ren D r)
include hr
omit hr in
theorem aad(l:List UInt8)(x:dF)(lb:Nat):∀(ps:List Int) (rd:jG),∀q∈(pcGo l x lb ps rd).1,q.x=x
 | [],rd,q,h=>by cases h
 |p::ps,rd,q,h=>by
  simp only[pcGo,aC]at h;rcases h with rfl|h
  ·rfl
  ·exact aad l x lb ps _ q h
end
end
section
open Go.RowKit
def zi:List (bu×aT)→List HB→Prop
 | [],H=>H=[]
 |p::L,H=>∃H1 H2,H=H1++H2∧sH p.1 p.2 H1∧zi L H2
theorem zi.snoc{L:List (bu×aT)}{H H1:List HB}{d:bu}{m:aT}(h:zi L H)(hb:sH d m H1):zi (L++[(d,m)]) (H++H1):=by
 induction L generalizing H with
 |nil=>cases h;exact⟨H1,[],by simp,hb,rfl⟩
 |cons p L ih=>obtain⟨A,B,rfl,h1,h2⟩:=h;exact⟨A,B++H1,by rw[az],h1,ih h2⟩
theorem zi.key{L:List (bu×aT)}{H:List HB}(h:zi L H){p:bu×aT}(hp:p∈L):p.1.bb∈keys H:=by
 induction L generalizing H with
 |nil=>cases hp
 |cons q L ih=>
  obtain⟨A,B,rfl,h1,h2⟩:=h;rw[mM,ay];rcases aC.1 hp with rfl|hp
  ·exact .inl h1.key
  ·exact .inr (ih h2 hp)
theorem zi.nodup{L:List (bu×aT)}{H:List HB}(h:zi L H)(hk:(keys H).Nodup):(L.map (·.1.bb)).Nodup:=by
 induction L generalizing H with
 |nil=>exact List.nodup_nil
 |cons q L ih=>obtain⟨A,B,rfl,h1,h2⟩:=h;rw[mM]at hk;obtain⟨k1,k2,k3⟩:=lQ.1 hk;rw[bJ,mf];refine⟨fun hm=>?_,ih h2 k2⟩;obtain⟨p,hp,e⟩:=bW.1 hm;exact k3 _ h1.key _ (h2.key hp) e.symm
def modelL:List (bu×aT)→Nat→aT
 | [],_=>vH 0 0 0
 |p::L,b=>if b=p.1.bb then p.2 else modelL L b
theorem Fp{L:List (bu×aT)}(hn:(L.map (·.1.bb)).Nodup){p:bu×aT}(hp:p∈L):modelL L p.1.bb=p.2:=by
 induction L with
 |nil=>cases hp
 |cons q L ih=>
  rw[bJ,mf]at hn;unfold modelL;rcases aC.1 hp with rfl|hp
  ·rw[aK rfl]
  ·rw[aJ fun e=>hn.1 (by rw[←e];exact bW.2 ⟨p,hp,rfl⟩)];exact ih hn.2 hp
theorem zi.af0{L:List (bu×aT)}{H:List HB}(h:zi L H){M:Nat→aT}(hM:∀p∈L,M p.1.bb=p.2):iK (L.map (·.1)) M H:=by
 induction L generalizing H with
 |nil=>exact h
 |cons q L ih=>obtain⟨A,B,rfl,h1,h2⟩:=h;exact⟨A,B,rfl,by rw[hM q aG];exact h1,ih h2 fun p hp=>hM p (aU _ hp)⟩
def Dn:List (Nat×aT)→List HB→Prop
 | [],H=>H=[]
 |p::L,H=>∃H1 H2,H=H1++H2∧kC p.1 p.2 F_ F_ H1∧Dn L H2
theorem Dn.snoc{L:List (Nat×aT)}{H H1:List HB}{b:Nat}{m:aT}(h:Dn L H)(hb:kC b m F_ F_ H1):Dn (L++[(b,m)]) (H++H1):=by
 induction L generalizing H with
 |nil=>cases h;exact⟨H1,[],by simp,hb,rfl⟩
 |cons p L ih=>obtain⟨A,B,rfl,h1,h2⟩:=h;exact⟨A,B++H1,by rw[az],h1,ih h2⟩
def wZ(v:Value)(D:List Nat)(H:List HB):Prop:=dh 47 1 v D.length (D.map fun b=>p_ (S_ ⟨b,0,N_⟩)) H
theorem afb:(Tryz.prog.info? 43).map (fun i=>(i.zero,i.size,i.bytes))=S_ (S_ (.pointer N_),1,8):=by kernel_rfl
theorem ae8:(Tryz.prog.info? 47).map (fun i=>(i.zero,i.size,i.bytes))=S_ (S_ (.pointer N_),1,8):=by kernel_rfl
def AB(l:List ShapeM)(ah:Nat):List aT:=l.mapIdx fun i s=>s.band i ah (s.W*s.H)
def Gu(l:List ShapeM):List aT:=l.map ShapeM.new
theorem AV(l:List ShapeM)(ah:Nat):(AB l ah).length=l.length:=by simp[AB]
theorem Es(l:List ShapeM):(Gu l).length=l.length:=by simp[Gu]
theorem Qi(l:List ShapeM)(ah:Nat){i:Nat}{s:ShapeM}(h:l[i]?=S_ s):(AB l ah).take (i+1)=(AB l ah).take i++[s.band i ah (s.W*s.H)]:=by rw[eU];congr 1;simp[AB,h]
theorem OG(l:List ShapeM){i:Nat}{s:ShapeM}(h:l[i]?=S_ s):(Gu l).take (i+1)=(Gu l).take i++[s.new]:=by rw[eU];congr 1;simp[Gu,h]
structure Vj where
 La:List (bu×aT)
 Lb:List (bu×aT)
 Lc:List (Nat×aT)
 Ld:List (Nat×aT)
 H1:List HB
 H2:List HB
 H3:List HB
 H4:List HB
 B1:List HB
 B2:List HB
 B3:List HB
 B4:List HB
structure Vj.ok(G:Vj)(l:List ShapeM)(ah i:Nat)(va vb vc vd:Value):Prop where
 ra:zn va (G.La.map (·.1)) G.H1
 rb:zn vb (G.Lb.map (·.1)) G.H2
 rc:wZ vc (G.Lc.map (·.1)) G.H3
 rd:wZ vd (G.Ld.map (·.1)) G.H4
 ba:zi G.La G.B1
 bb:zi G.Lb G.B2
 bc:Dn G.Lc G.B3
 bd:Dn G.Ld G.B4
 ma:G.La.map (·.2)=(AB l ah).take i
 mb:G.Lb.map (·.2)=(Gu l).take i
 mc:G.Lc.map (·.2)=(AB l ah).take i
 md:G.Ld.map (·.2)=(Gu l).take i
def Vj.heap(G:Vj):List HB:=G.H1++(G.H2++(G.H3++(G.H4++(G.B1++(G.B2++(G.B3++G.B4))))))
theorem Vj.ok.lens{G:Vj}{l:List ShapeM}{ah i:Nat}{va vb vc vd:Value}(h:G.ok l ah i va vb vc vd)(hi:i≤l.length):G.La.length=i∧G.Lb.length=i∧G.Lc.length=i∧G.Ld.length=i:=by have h1:=fM List.length h.ma;have h2:=fM List.length h.mb;have h3:=fM List.length h.mc;have h4:=fM List.length h.md;simp only[aO,bT,AV,Es]at h1 h2 h3 h4;omega
def XT(m:aT):Prop:=∀s∈m.ss,∀p∈s.ps,0≤p.1∧p.1≤100000000
theorem XT.Ah{m:aT}(h:XT m){k:Nat}{s:og}(hs:m.ss[k]?=S_ s)(f z:List bV)(said lb:Int):XT {m with first:=f,dA:=z,ss:=m.ss.set k (s.jP said lb)}:=by
 intro x hx;rcases cZ hx with hx|rfl
 ·exact h x hx
 ·exact h s (aF hs)
structure sG(m:aT):Prop where
 g:Dp m
 e:XT m
theorem sG.aeA{m:aT}(h:sG m)(c:Nat):sG (kF c m):=by obtain⟨e1,e2⟩:=Be c m;exact⟨h.g.aeA c,by unfold XT;rw[e1];exact h.e⟩
theorem sG.head{m:aT}(h:sG m){k:Nat}{s:og}(hs:m.ss[k]?=S_ s)(ah aB said cO:Nat):sG (ug m k ah aB said cO s).1:=by
 refine⟨h.g.head hs ah aB said cO (h.e s (aF hs)),?_⟩;unfold ug;split
 ·exact h.e
 ·exact h.e.Ah hs _ _ _ _
theorem sG.said{m:aT}(h:sG m)(k cO:Nat):sG (setSaidM m k cO):=by
 refine⟨h.g.said k cO,?_⟩;unfold setSaidM;split
 ·exact h.e
 ·rename_i s hs;exact h.e.Ah hs m.first m.dA _ _
theorem XJ{D:List bu}{M:Nat→aT}(h:∀d∈D,sG (M d.bb))(b:Nat){m:aT}(hm:sG m):∀d∈D,sG (ou M b m d.bb):=by
 intro d hd;unfold ou;split
 ·exact hm
 ·exact h d hd
theorem Na(c:Nat)(D:List bu):∀(l:List dF) (M:Nat→aT),(∀x∈l,x.d∈D)→(∀d∈D,sG (M d.bb))→∀d∈D,sG ((l.foldl (Ar c) M) d.bb)
 | [],M,_,h=>h
 |x::l,M,hl,h=>by rw[List.foldl_cons];exact Na c D l _ (fun y hy=>hl y (aU _ hy)) (XJ h _ ((h _ (hl x aG)).aeA c))
theorem OU(c st ly:Nat)(D:List bu)(S:zg)(x:dF)(hx:x.d∈D)(h:∀d∈D,sG (S.M d.bb)):∀d∈D,sG ((qK c st ly S x).M d.bb):=by
 unfold qK;split
 ·exact h
 ·rename_i s hs;exact XJ h _ (((h _ hx).head hs _ _ _ _).said _ _)
theorem Qn(c st ly:Nat)(D:List bu):∀(l:List dF) (S:zg),(∀x∈l,x.d∈D)→(∀d∈D,sG (S.M d.bb))→∀d∈D,sG ((l.foldl (qK c st ly) S).M d.bb)
 | [],S,_,h=>h
 |x::l,S,hl,h=>by rw[List.foldl_cons];exact Qn c st ly D l _ (fun y hy=>hl y (aU _ hy)) (OU c st ly D S x (hl x aG) h)
theorem ac8(c st ly:Nat)(D:List bu)(M:Nat→aT)(h:∀d∈D,sG (M d.bb)):∀d∈D,sG ((encS c st ly D M).M d.bb):=by
 have hx:∀x∈aX D,x.d∈D:=fun x h=>(qH h).1;have h1:=Na c D _ M hx h;unfold encS;split
 ·exact Qn c st ly D _ _ hx h1
 ·exact h1
theorem sH.n{d:bu}{m:aT}{H:List HB}(h:sH d m H):d.n=m.w*m.h:=by obtain⟨b,rfl,hk,-⟩:=h;exact hk.n
theorem zi.n{L:List (bu×aT)}{H:List HB}(h:zi L H):∀p∈L,p.1.n=p.2.w*p.2.h:=by
 induction L generalizing H with
 |nil=>intro p hp;cases hp
 |cons q L ih=>
  obtain⟨A,B,rfl,h1,h2⟩:=h;intro p hp;rcases aC.1 hp with rfl|hp
  ·exact h1.n
  ·exact ih h2 p hp
theorem ShapeM.both(s:ShapeM)(i ah:Nat):sG (s.band i ah (s.W*s.H))∧(s.band i ah (s.W*s.H)).w=s.W∧(s.band i ah (s.W*s.H)).h=s.H:=by
 obtain⟨h1,h2,h3,h4,h5,h6,h7,h8,h9⟩:=s.Lm i ah (s.W*s.H) (aN _);have hl:=s.lt;refine⟨⟨⟨by rw[h3];omega,fun x hx=>?_⟩,fun x hx=>?_⟩,h4,h5⟩
 ·rcases h9 x hx with rfl|⟨j,hj,rfl⟩
  ·exact⟨by simp[lV],by simp[lV],by simp[lV]⟩
  ·obtain⟨b1,b2,b3,b4⟩:=Af (i%4) ah (s.n j) s.ns (s.aeP j);exact⟨⟨by show 0≤((s.blk i ah j).aH:Int);omega,by show((s.blk i ah j).aH:Int)≤60;unfold ShapeM.blk;omega⟩,by show(3:Int)≤100;decide,by show(s.blk i ah j).bytes.length≤300000;unfold ShapeM.blk;omega⟩
 ·rcases h9 x hx with rfl|⟨j,hj,rfl⟩
  ·intro p hp;simp[lV]at hp
  ·obtain⟨b1,b2,b3,b4⟩:=Af (i%4) ah (s.n j) s.ns (s.aeP j);intro p hp;have:=b4 p hp;omega
theorem ν(l:List ShapeM)(ah:Nat):∀m∈AB l ah,sG m∧m.w*m.h≤9:=by intro m hm;obtain⟨i,hi⟩:=List.getElem?_of_mem hm;simp only[AB,jO]at hi;obtain⟨s,-,rfl⟩:=iU.1 hi;obtain⟨h1,h2,h3⟩:=s.both i ah;refine⟨h1,?_⟩;rw[h2,h3];have hl:=s.lt;exact bZ (show s.W≤3 by omega) (show s.H≤3 by omega)
theorem Iq:∀(D:List bu),(∀d∈D,d.n≤9)→(aX D).length≤D.length*9
 | [],_=>by simp[aX]
 |d::D,h=>by
  have h1:=Iq D fun e he=>h e (aU _ he);have h2:=h d aG;unfold aX at h1⊢;rw[dE,au,List.length_cons];have h3:(tY d d.n).length=d.n:=by simp[tY]
  omega
theorem Ff(t c l:Nat):jg (t:Int) (c:Int) (l:Int)≤jg (t:Int) (c:Int) ((l:Int)+1):=by
 have h0:=(Ef (t:Int) (c:Int) ((l:Int)+1)).1;unfold jg at h0⊢;by_cases h1:(l:Int)<1
 ·rw[aK h1];exact h0
 ·rw[aJ h1,aJ (show¬(l:Int)+1<1 by omega)];by_cases h2:(c:Int)<1
  ·rw[aK h2,aK h2];exact gG _
  ·rw[aJ h2,aJ h2];have hT:0≤min (max (t:Int) 0) 100:=by omega
   have hm:1≤min (c:Int) 100:=by omega
   by_cases h3:(c:Int)<l
   ·rw[aK h3,aK (show(c:Int)<l+1 by omega)];exact gG _
   ·rw[aJ h3];generalize min (max (t:Int) 0) 100=T at*;by_cases h4:(c:Int)<l+1
    ·rw[aK h4];have h5:min (l:Int) 100≤min (c:Int) 100:=by omega
     have h6:T*min (l:Int) 100≤T*min (c:Int) 100:=Int.mul_le_mul_of_nonneg_left h5 hT;exact Int.ediv_le_of_le_mul (by omega) h6
    ·rw[aJ h4];have h5:min (l:Int) 100≤min ((l:Int)+1) 100:=by omega
     exact Int.ediv_le_ediv (by omega) (Int.mul_le_mul_of_nonneg_left h5 hT)
def qQ(pre:List dF)(d:bu)(k:Nat):Bool:=pre.any fun x=>x.d.bb==d.bb && x.k==k
theorem U1(pre:List dF)(x:dF)(d:bu)(k:Nat):qQ (pre++[x]) d k=(qQ pre d k||(x.d.bb==d.bb && x.k==k)):=by unfold qQ;rw[List.any_append];simp
def jZ(count aB:Nat)(D:List bu)(pre:List dF)(M:Nat→aT):Prop:=∀d∈D,∀(k:Nat) (s:og),(M d.bb).ss[k]?=S_ s→s.said=jg (s.ps.length:Int) (count:Int) (if qQ pre d k=T_ then(aB:Int)+1 else(aB:Int))
theorem W!(m:aT)(k ah aB from_ cO:Nat){s:og}(h:m.ss[k]?=S_ s):∃y,(setSaidM (ug m k ah aB from_ cO s).1 k cO).ss=m.ss.set k y∧y.said=(cO:Int)∧y.ps=s.ps:=by
 have hk:=(aj.1 h).1;unfold ug;by_cases e:cO=from_
 ·rw[aK e];unfold setSaidM;simp only[h];exact⟨_,rfl,rfl,rfl⟩
 ·rw[aJ e];unfold setSaidM;simp only[dJ hk];refine⟨s.jP (cO:Int) (qy s ah from_ cO),?_,rfl,rfl⟩;rw[jo];rfl
theorem jZ.step{count aB:Nat}{D:List bu}{pre:List dF}{S:zg}(h:jZ count aB D pre S.M)(ah:Nat){x:dF}(_hx:x.d∈D):jZ count aB D (pre++[x]) (qK count ah aB S x).M:=by
 intro d hd k s' hs';rw[U1];unfold qK at hs';cases hs:(S.M x.d.bb).ss[x.k]? with
 |none=>
  simp only[hs]at hs';have hne:(x.d.bb==d.bb && x.k==k)=F_:=by
   cases hb:(x.d.bb==d.bb && x.k==k)with
   |false=>rfl
   |true=>simp only[dO,beq_iff_eq]at hb;rw[hb.1,hb.2,hs']at hs;cases hs
  rw[hne,Bool.or_false];exact h d hd k s' hs'
 |some s=>
  simp only[hs]at hs';obtain⟨y,e1,e2,e3⟩:=W! (S.M x.d.bb) x.k ah aB s.said.toNat (toM count aB s) hs;by_cases hb:d.bb=x.d.bb
  ·rw[hb,jX,e1]at hs';by_cases hk:x.k=k
   ·subst hk;rw[dJ (aj.1 hs).1]at hs';cases iL hs';have ed:(x.d.bb==d.bb && x.k==x.k)=T_:=by simp[hb]
    rw[ed,Bool.or_true,aK rfl,e2,e3];have hsd:=h d hd x.k s (by rw[hb];exact hs);have hm:=Ff s.ps.length count aB;have h1:=(Ef (s.ps.length:Int) (count:Int) (aB:Int)).1;have h2:s.said≤jg (s.ps.length:Int) (count:Int) ((aB:Int)+1)∧0≤s.said:=by
     rw[hsd];split
     ·exact⟨gG _,(Ef _ _ _).1⟩
     ·exact⟨hm,h1⟩
    unfold toM;omega
   ·rw[oC hk]at hs';have ed:(x.d.bb==d.bb && x.k==k)=F_:=by simp[hk]
    rw[ed,Bool.or_false];exact h d hd k s' (by rw[hb];exact hs')
  ·rw[kQ _ _ hb]at hs';have ed:(x.d.bb==d.bb && x.k==k)=F_:=by
    have:(x.d.bb==d.bb)=F_:=by simp;exact fun e=>hb e.symm
    rw[this];rfl
   rw[ed,Bool.or_false];exact h d hd k s' hs'
theorem jZ.fold{count aB:Nat}{D:List bu}(ah:Nat):∀(l pre:List dF) (S:zg),jZ count aB D pre S.M→(∀x∈l,x.d∈D)→jZ count aB D (pre++l) (l.foldl (qK count ah aB) S).M
 | [],pre,S,h,_=>by rw[dD];exact h
 |x::l,pre,S,h,hl=>by have:=jZ.fold ah l (pre++[x]) _ (h.step ah (hl x aG)) fun y hy=>hl y (aU _ hy);rw[az]at this;exact this
theorem Ry(count ah aB:Nat)(S:zg)(x:dF)(b:Nat):((qK count ah aB S x).M b).ss.length=(S.M b).ss.length:=by
 unfold qK;cases hs:(S.M x.d.bb).ss[x.k]? with
 |none=>rfl
 |some s=>
  simp only;obtain⟨y,e1,-⟩:=W! (S.M x.d.bb) x.k ah aB s.said.toNat (toM count aB s) hs;by_cases hb:b=x.d.bb
  ·rw[hb,jX,e1,fC]
  ·rw[kQ _ _ hb]
theorem MV(count ah aB:Nat)(b:Nat):∀(l:List dF) (S:zg),((l.foldl (qK count ah aB) S).M b).ss.length=(S.M b).ss.length
 | [],_=>rfl
 |x::l,S=>by rw[List.foldl_cons,MV count ah aB b l,Ry]
theorem ZV{count aB:Nat}{M:Nat→aT}{l:List dF}(h:xM count aB M l=F_){x:dF}(hx:x∈l):acu count aB M x=F_:=by unfold xM at h;rw[List.any_eq_false]at h;simpa using h x hx
theorem NF{D:List bu}{d:bu}(hd:d∈D){k:Nat}(hk:k<d.n):(⟨d,k⟩:dF)∈aX D:=by unfold aX;rw[iw];exact⟨d,hd,bW.2 ⟨k,lS.2 hk,rfl⟩⟩
theorem ac7(count ah aB:Nat)(D:List bu)(M:Nat→aT)(h:jZ count aB D [] M)(hn:∀d∈D,(M d.bb).ss.length=d.n):jZ count (aB+1) D [] (encS count ah aB D M).M:=by
 have h1:jZ count aB D [] ((aX D).foldl (Ar count) M):=by intro d hd k s hs;rw[uS]at hs;exact h d hd k s hs
 intro d hd k s hs;have e0:(if qQ [] d k=T_ then((aB+1:Nat):Int)+1 else((aB+1:Nat):Int))=(aB:Int)+1:=by rw[aJ (by simp[qQ])];push_cast;rfl
 rw[e0];unfold encS at hs;by_cases hm:xM count aB M (aX D)=T_
 ·rw[aK hm]at hs;have h2:=jZ.fold ah (aX D) [] ⟨(aX D).foldl (Ar count) M,[T_],[]⟩ h1 (fun x hx=>(qH hx).1);have h3:=h2 d hd k s hs;have hk:=(aj.1 hs).1;rw[MV,uS,hn d hd]at hk;rw[List.nil_append,aK ?_]at h3
  ·exact h3
  ·unfold qQ;rw[List.any_eq_true];exact⟨⟨d,k⟩,NF hd hk,by simp⟩
 ·rw[aJ hm]at hs;have h3:=h1 d hd k s hs;rw[aJ (by simp[qQ])]at h3;have hk:=(aj.1 hs).1;simp only[uS]at hs hk;rw[hn d hd]at hk;have h4:=ZV (Bool.eq_false_iff.2 hm) (NF hd hk);unfold acu at h4;simp only[hs,decide_eq_false_iff_not]at h4;have:=Ff s.ps.length count aB;omega
theorem jZ.round{count aB:Nat}{D:List bu}{pre:List dF}{M:Nat→aT}(h:jZ count aB D pre M){d:bu}(hd:d∈D){k:Nat}(hk:qQ pre d k=F_){s:og}(hs:(M d.bb).ss[k]?=S_ s):jg (s.ps.length:Int) (count:Int) (aB:Int)=s.said.toNat∧jg (s.ps.length:Int) (count:Int) ((aB:Int)+1)=((toM count aB s:Nat):Int)∧s.said.toNat≤toM count aB s∧toM count aB s≤s.ps.length:=by have h1:=h d hd k s hs;rw[aJ (by simp[hk])]at h1;have h2:=(Ef (s.ps.length:Int) (count:Int) (aB:Int)).1;have h3:=Ff s.ps.length count aB;have h4:=BH s.ps.length (count:Int) ((aB:Int)+1);unfold toM;omega
theorem Jf{D:List bu}(hn:(D.map (·.bb)).Nodup){i:Nat}{d:bu}(hd:D[i]?=S_ d)(k:Nat):qQ (aX (D.take i)++(List.range k).map (fun j=>(⟨d,j⟩:dF))) d k=F_:=by
 unfold qQ;rw[List.any_eq_false];intro x hx;rcases ay.1 hx with hx|hx
 ·have h1:=(qH hx).1;have:x.d.bb≠d.bb:=by
   intro e;obtain⟨j,hj,hje⟩:=wV h1;rw[bT]at hj;have hdl:=aj.1 hd;rw[List.getElem_take]at hje;have h2:(D.map (·.bb))[j]'(by rw[aO];omega)=(D.map (·.bb))[i]'(by rw[aO];exact hdl.1):=by rw[List.getElem_map,List.getElem_map,hje,hdl.2];exact e
   exact(List.pairwise_iff_getElem.1 hn) j i _ _ (by omega) h2
  simp[this]
 ·obtain⟨j,hj,rfl⟩:=bW.1 hx;have:=lS.1 hj;simp;omega
theorem su{D:List bu}{i:Nat}{d:bu}(hd:D[i]?=S_ d):aX (D.take (i+1))=aX (D.take i)++(List.range d.n).map (fun j=>(⟨d,j⟩:dF)):=by rw[eU,hd];unfold aX;rw[gX];simp[tY]
theorem gJ.mono{P Q:Nat→aT→List HB→Prop}(hpq:∀b m H,P b m H→Q b m H):∀{Bs:List Nat} {D:List bu} {M:Nat→aT} {H:List HB},gJ P Bs D M H→gJ Q Bs D M H
 | [],[],_,_,h=>h
 |_b::_bs,_d::_ds,_M,_H,⟨H1,H2,e,h1,h2⟩=>⟨H1,H2,e,hpq _ _ _ h1,gJ.mono hpq h2⟩
 | [],_::_,_,_,h=>h.elim
 |_::_,[],_,_,h=>h.elim
section
variable{w0 W:World}{xb:Nat}{P:Int}{pv:Value}{ba:Option Addr}{bn bc:Nat}{ps:List (Int×Bool)}{bs:List UInt8}{Hp Hb:List HB}
theorem ajk(hb:dR (s_ ba bn bc) bs Hb)(hpl: -1000≤P∧P≤1000)(hn:ps.length≤1000)(hm:bs.length≤10000000)(he:∀p∈ps,0≤p.1∧p.1≤100000000){d:bu}{m:aT}{HA H1 HC:List HB}{vp:Value}(r1:vM vp ps H1)(hB:sH d m HA)(k:Int)(hsd:(xZ m k).said=0)
 (M:Mv w0 [] W (H1++((HA++HC)++xK xb P pv (s_ ba bn bc) Hp Hb))):
 Calls P_ 19 #[p_ (S_ ⟨d.bb,0,N_⟩),i_ l_ k,g_ #[i_ l_ P,vp,s_ ba bn bc]] W fun e w'=>e=r_ (t_ #[])∧∃HA',sH d (DV m k P ps bs) HA'∧Mv w0 [] w' (HA'++(HC++xK xb P pv (s_ ba bn bc) Hp Hb)):=by
 have sX:Sat W (xK xb P pv (s_ ba bn bc) Hp Hb):=M.sat.right.right;have sB:Sat W Hb:=Sat.right (A:=[_]++Hp) (by simpa[xK]using sX);have M2:Mv w0 [] W (HA++(HC++xK xb P pv (s_ ba bn bc) Hp Hb)):=by have:=M.drop;rwa[az]at this
 refine(add_any d m HA W hB M2.sat.left k P vp (s_ ba bn bc) ps bs (r1.pv M.sat.left) (hb.bv sB) hpl hn hm he (by rw[hsd];omega)).mono ?_;rintro e w' ⟨rfl,HA',h1,h2⟩;exact⟨rfl,HA',h1,Mv.call M2 h2⟩
end
theorem akt(K:Act→World→Prop)(n c i b o sw sh:Nat)(x y:Int)(w:World)(hi:i<n)(_hn:n≤3)
 (e0:w.cell? ⟨b,o+i*5,N_⟩=S_ (i_ l_ x)) (e1:w.cell? ⟨b,o+i*5+1,N_⟩=S_ (i_ l_ y))
 (W1:Hid (∀V,Calls P_ 8 #[i_ l_ x,i_ l_ 4] V fun e w'=>e=r_ (i_ l_ sw)∧w'=V)) (W2:Hid (∀V,Calls P_ 8 #[i_ l_ y,i_ l_ 4] V fun e w'=>e=r_ (i_ l_ sh)∧w'=V))
 (hK:∀(t28 t29 t30 t31 t32 t33 t34 t35 t36 t37 t38 t39:Value),K ⟨List.toArray ((s_ (S_ ⟨b,o,N_⟩) n c)::s1::s2::s3::s4::s5::s6::s7::s8::s9::s10::s11::(i_ l_ i)::(i_ l_ sw)::(i_ l_ sh)::s15::s16::l9::kH::kS::s20::lF::lC::s23::s24::kZ::s26::kW::t28::t29::t30::t31::t32::t33::t34::t35::t36::t37::t38::t39::ni::mZ::mY::s43::s44::nI::mF::nH::nK::s49::mD::mg::lW::s53::mX::mQ::mP::mO::nX::nJ::oU::oQ::pO::qW::qN::qV::rD::rC::s68::rM::rJ::sN::s72::sK::sJ::ry::ru::rf::s78::qZ::rH::rG::s82::s83::uk::uj::xI::s87::xH::xG::xF::xE::xn::xk::xC::xA::xy::xw::xR::zl::oK::oJ::nT::nS::qj::qh::pY::pX::pG::pF::oI::oH::o9::oG::nP::nO::nN::nM::oZ::oW::oV::wK::wJ::wI::wH::wG::wF::wC::wB::wu::vY::vX::vW::uO::[]),[]⟩ w.drew):
 (dQ 6 Tryz.f9).wp P_ (Exit.then K qX) ⟨List.toArray ((s_ (S_ ⟨b,o,N_⟩) n c)::s1::s2::s3::s4::s5::s6::s7::s8::s9::s10::s11::(i_ l_ i)::s13::s14::s15::s16::l9::kH::kS::s20::lF::lC::s23::s24::kZ::s26::kW::kR::kY::lu::lJ::lK::lI::lL::lD::s36::lY::lX::mG::ni::mZ::mY::s43::s44::nI::mF::nH::nK::s49::mD::mg::lW::s53::mX::mQ::mP::mO::nX::nJ::oU::oQ::pO::qW::qN::qV::rD::rC::s68::rM::rJ::sN::s72::sK::sJ::ry::ru::rf::s78::qZ::rH::rG::s82::s83::uk::uj::xI::s87::xH::xG::xF::xE::xn::xk::xC::xA::xy::xw::xR::zl::oK::oJ::nT::nS::qj::qh::pY::pX::pG::pF::oI::oH::o9::oG::nP::nO::nN::nM::oZ::oW::oV::wK::wJ::wI::wH::wG::wF::wC::wB::wu::vY::vX::vW::uO::[]),[]⟩ w:=by
 conv in(dQ _ _)=>whnf
 unfold qX;have HK:=af hK;clear hK;go_region_law (first
  |(go_simp;go_at_call 8;(with_reducible refine(W1.out _).mono ?_);rintro e w' ⟨rfl,rfl⟩)
  |(go_simp;go_at_call 8;(with_reducible refine(W2.out _).mono ?_);rintro e w' ⟨rfl,rfl⟩))
 all_goals exact HK _ _ _ _ _ _ _ _ _ _ _ _
theorem aji(K:Act→World→Prop)(n c i b o k L pb po pc q nk:Nat)(x:Int)(w:World)(hi:i<n)(_hn:n≤3)(_hk:k≤100)(hq:q<L)(anu:L≤9223372036854775807)
 (e0:w.cell? ⟨b,o+i*5+3,N_⟩=S_ (s_ (S_ ⟨pb,po,N_⟩) L pc)) (e1:w.cell? ⟨pb,po+q,N_⟩=S_ (i_ l_ x)) (E1:Int.tmod (k:Int) (L:Int)=q)
 (W1:Hid (∀V,Calls P_ 8 #[i_ l_ x,i_ l_ 13] V fun e w'=>e=r_ (i_ l_ nk)∧w'=V))
 (hK:∀(t69 t70 t71 t72 t73 t74 t75 t76 t77 t78 t79 t80 t81 t82 t83 t84:Value),K ⟨List.toArray ((s_ (S_ ⟨b,o,N_⟩) n c)::s1::s2::s3::s4::s5::s6::s7::s8::s9::s10::s11::(i_ l_ i)::s13::s14::s15::s16::l9::(i_ l_ k)::(i_ l_ nk)::s20::lF::lC::s23::s24::kZ::s26::kW::kR::kY::lu::lJ::lK::lI::lL::lD::s36::lY::lX::mG::ni::mZ::mY::s43::s44::nI::mF::nH::nK::s49::mD::mg::lW::s53::mX::mQ::mP::mO::nX::nJ::oU::oQ::pO::qW::qN::qV::rD::rC::s68::t69::t70::t71::t72::t73::t74::t75::t76::t77::t78::t79::t80::t81::t82::t83::t84::uj::xI::s87::xH::xG::xF::xE::xn::xk::xC::xA::xy::xw::xR::zl::oK::oJ::nT::nS::qj::qh::pY::pX::pG::pF::oI::oH::o9::oG::nP::nO::nN::nM::oZ::oW::oV::wK::wJ::wI::wH::wG::wF::wC::wB::wu::vY::vX::vW::uO::[]),[]⟩ w.drew):
 (dQ 14 Tryz.f9).wp P_ (Exit.then K qX) ⟨List.toArray ((s_ (S_ ⟨b,o,N_⟩) n c)::s1::s2::s3::s4::s5::s6::s7::s8::s9::s10::s11::(i_ l_ i)::s13::s14::s15::s16::l9::(i_ l_ k)::kS::s20::lF::lC::s23::s24::kZ::s26::kW::kR::kY::lu::lJ::lK::lI::lL::lD::s36::lY::lX::mG::ni::mZ::mY::s43::s44::nI::mF::nH::nK::s49::mD::mg::lW::s53::mX::mQ::mP::mO::nX::nJ::oU::oQ::pO::qW::qN::qV::rD::rC::s68::rM::rJ::sN::s72::sK::sJ::ry::ru::rf::s78::qZ::rH::rG::s82::s83::uk::uj::xI::s87::xH::xG::xF::xE::xn::xk::xC::xA::xy::xw::xR::zl::oK::oJ::nT::nS::qj::qh::pY::pX::pG::pF::oI::oH::o9::oG::nP::nO::nN::nM::oZ::oW::oV::wK::wJ::wI::wH::wG::wF::wC::wB::wu::vY::vX::vW::uO::[]),[]⟩ w:=by
 conv in(dQ _ _)=>whnf
 unfold qX;have HK:=af hK;clear hK;have hL1:¬L=0:=by omega
 go_region_law (go_simp;go_at_call 8;(with_reducible refine(W1.out _).mono ?_);rintro e w' ⟨rfl,rfl⟩)
 all_goals exact HK _ _ _ _ _ _ _ _ _ _ _ _ _ _ _ _
theorem ajj(i ah nk:Nat)(ns:List Int)(hs:ah≤63)(hn:nk≤12)(V:World)(g:Nat)(hB:zh V g 3 (AU g (jI nk ns)).cs):Calls P_ 17 #[i_ l_ 3,i_ l_ 5,i_ l_ ((i:Int)%4),i_ l_ ah,s_ (S_ ⟨g,0,N_⟩) 15 15] V fun e w'=>∃pa np pc ba nb bc Hp Hb,e=r_ (t_ #[g_ #[i_ l_ ((jv (zk (i%4) ah (jI nk ns))).aH:Int),s_ pa np pc,s_ ba nb bc],i_ l_ 0])∧(jv (zk (i%4) ah (jI nk ns))).fZ.length=np∧(jv (zk (i%4) ah (jI nk ns))).bytes.length=nb∧lH (s_ pa np pc) (jv (zk (i%4) ah (jI nk ns))).fZ Hp∧dR (s_ ba nb bc) (jv (zk (i%4) ah (jI nk ns))).bytes Hb∧Mv V [] w' (Hp++Hb):=by
 have E:=ψ (zk (i%4) ah (jI nk ns)) (jI nk ns) g 15 V (ahY (i%4) ah nk ns (by omega) hs hn) rfl rfl (fun j m hj=>by rw[hB.cell j];simp only[AU,iy,aV,hj,Option.map_some]) hB.lt;rw[vT]at E;have e1:(((zk (i%4) ah (jI nk ns)).band:Nat):Int)=i%4:=by show((i%4:Nat):Int)=_;push_cast;rfl
 rw[e1]at E;refine Calls.mono (show Calls P_ 17 #[i_ l_ 3,i_ l_ 5,i_ l_ ((i:Int)%4),i_ l_ ah,s_ (S_ ⟨g,0,N_⟩) 15 15] V _ from E) ?_;rintro e w' ⟨pv,bv,Hp,Hb,rfl,rp,rb,m⟩;obtain⟨pa,pc,rfl⟩:=rp.slice;obtain⟨ba,bc,rfl⟩:=dR.slice rb;exact⟨pa,_,pc,ba,_,bc,Hp,Hb,rfl,rfl,rfl,rp,rb,m⟩
theorem aku(K:Act→World→Prop)(n c i b o k ah rb nk:Nat)(d:bu)(s:ShapeM)(vp vn:Value)(HA HC R:List HB)(W w:World)(hi:i<n)(hn:n≤3)(hs:ah≤63)(hk:k<s.W*s.H)(hk9:k≤9)
 (q3:W.cell? ⟨b,o+i*5+3,N_⟩=S_ vp) (q4:W.cell? ⟨b,o+i*5+4,N_⟩=S_ vn) (hlb:b<W.heap.size) (r1:w! W vp s.aH) (r2:w! W vn s.ns)
 (hBA:sH d (s.band i ah k) HA) (hBC:kC rb (s.band i ah k) F_ F_ HC) (m:Mv W [] w (HA++(HC++R))) (hnk:s.n k=nk)
 (hK:∀(t19 t20 t21 t62 t63 t64 t65 t66 t67 t68 t69 t70 t71 t72 t73 t74 t75 t76 t77 t78 t79 t80 t81 t82 t83 t84 t85 t86 t87 t88 t89 t90 t91 t92 t93 t94 t95 t96 t97 t98 t99 t100 t101 t102 t103 t104 t105 t106 t107:Value) (wx:World) (HA' HC':List HB),sH d (s.band i ah (k+1)) HA'→kC rb (s.band i ah (k+1)) F_ F_ HC'→Mv W [] wx (HA'++(HC'++R))→K ⟨List.toArray ((s_ (S_ ⟨b,o,N_⟩) n c)::(i_ l_ ah)::s2::s3::s4::s5::s6::s7::s8::s9::s10::s11::(i_ l_ i)::s13::s14::s15::(p_ (S_ ⟨d.bb,0,N_⟩))::(p_ (S_ ⟨rb,0,N_⟩))::(i_ l_ k)::t19::t20::t21::lC::s23::s24::kZ::s26::kW::kR::kY::lu::lJ::lK::lI::lL::lD::s36::lY::lX::mG::ni::mZ::mY::s43::s44::nI::mF::nH::nK::s49::mD::mg::lW::s53::mX::mQ::mP::mO::nX::nJ::oU::oQ::t62::t63::t64::t65::t66::t67::t68::t69::t70::t71::t72::t73::t74::t75::t76::t77::t78::t79::t80::t81::t82::t83::t84::t85::t86::t87::t88::t89::t90::t91::t92::t93::t94::t95::t96::t97::t98::t99::t100::t101::t102::t103::t104::t105::t106::t107::pG::pF::oI::oH::o9::oG::nP::nO::nN::nM::oZ::oW::oV::wK::wJ::wI::wH::wG::wF::wC::wB::wu::vY::vX::vW::uO::[]),[]⟩ wx):
 (jB 3 Tryz.f9).wp P_ (Exit.then K qX) ⟨List.toArray ((s_ (S_ ⟨b,o,N_⟩) n c)::(i_ l_ ah)::s2::s3::s4::s5::s6::s7::s8::s9::s10::s11::(i_ l_ i)::s13::s14::s15::(p_ (S_ ⟨d.bb,0,N_⟩))::(p_ (S_ ⟨rb,0,N_⟩))::(i_ l_ k)::kS::s20::lF::lC::s23::s24::kZ::s26::kW::kR::kY::lu::lJ::lK::lI::lL::lD::s36::lY::lX::mG::ni::mZ::mY::s43::s44::nI::mF::nH::nK::s49::mD::mg::lW::s53::mX::mQ::mP::mO::nX::nJ::oU::oQ::pO::qW::qN::qV::rD::rC::s68::rM::rJ::sN::s72::sK::sJ::ry::ru::rf::s78::qZ::rH::rG::s82::s83::uk::uj::xI::s87::xH::xG::xF::xE::xn::xk::xC::xA::xy::xw::xR::zl::oK::oJ::nT::nS::qj::qh::pY::pX::pG::pF::oI::oH::o9::oG::nP::nO::nN::nM::oZ::oW::oV::wK::wJ::wI::wH::wG::wF::wC::wB::wu::vY::vX::vW::uO::[]),[]⟩ w:=by
 conv in(jB _ _)=>whnf
 unfold qX;have HK:=af hK;clear hK;replace q3:=af q3;replace q4:=af q4;have e3:=m.old q3.out hlb;have e4:=m.old q4.out hlb;obtain⟨pA,pc,hvp,hp1,hp2,hp3⟩:=r1;obtain⟨L,hL⟩:=X_ (s.aH.length);rw[hL]at hvp hp1;subst hvp;have afh:nk≤12:=by rw[←hnk];exact s.aeP k
 have hL2:L≤9223372036854775807:=by unfold maxLen at hp2;omega
 have PF:Hid (0<L→∃pb po q x,pA=S_ ⟨pb,po,N_⟩∧q<L∧k%L=q∧W.cell? ⟨pb,po+q,N_⟩=S_ (i_ l_ x)∧JG x 13=nk):=af (by intro h0;have hq:=kP k h0;obtain⟨x,hx⟩:∃x,s.aH[k%L]?=S_ x:=⟨_,ai (by rw[hL];exact hq)⟩;obtain⟨pb,po,e,hc⟩:=hp3 _ x hx;refine⟨pb,po,_,x,e,hq,rfl,hc,?_⟩;rw[←hnk];unfold ShapeM.n;rw[hL,aJ (by omega),ax,hx];rfl);have PZ:Hid (L=0→nk=0):=af (by intro h0;rw[←hnk];unfold ShapeM.n;rw[hL,aK h0]);have KM:=nY hBA hBC m;have HNK:=af hnk;have KH:=af hk;clear hp1 hp2 hp3 hL hBA hBC m hnk hk;go_upto_if 68 with fail;go_cut [18,19,68]from 69 to 107 (fun kH kS _ wx=>kH=i_ l_ k∧kS=i_ l_ nk∧Mv W [] wx (HA++(HC++R)))
 case first=>
  by_cases h0:0<L
  ·have d3:decide (0<(L:Int))=T_:=by simp;omega
   obtain⟨pb,po,q,x,rfl,hq,hkq,hc,hnk⟩:=PF h0;have hc2:=KM.2.2.old hc (gZ W _ hc);have E1:Int.tmod (k:Int) (L:Int)=q:=by rw[Int.tmod_eq_emod_of_nonneg (by omega),←hkq];push_cast;rfl
   have W1:=af fun V=>zo x 13 V (by decide) (by decide);rw[hnk]at W1;simp only[Int.cast_ofNat_Int]at W1;clear hkq hc hnk;go_upto_region 14 with fail;refine ik (aji _ n c i b o k L pb po pc q nk x _ hi hn (by omega) hq hL2 e3 hc2 E1 W1 ?_);rintro t69 t70 t71 t72 t73 t74 t75 t76 t77 t78 t79 t80 t81 t82 t83 t84;go_wp2_with fail;go_meet;exact⟨rfl,rfl,KM.2.2.drew⟩
  ·have d3:decide (0<(L:Int))=F_:=by simp;omega
   have hnk:=PZ (by omega);subst hnk;go_wp2_with fail;go_meet;exact⟨rfl,rfl,KM.2.2⟩
 case rest=>
  obtain⟨rfl,rfl,mc⟩:=hcut;have e4:=mc.old q4.out hlb;have KC:=af mc;have VAL:Hid (∀V,Mv W [] V (HA++(HC++R))→Calls P_ 18 #[i_ l_ 3,i_ l_ 5,i_ l_ nk,vn] V fun e W'=>∃g,e=r_ (s_ (S_ ⟨g,0,N_⟩) 15 15)∧Mv W [] W' (AU g (jI nk s.ns)::(HA++(HC++R)))):=af (fun V mV=>by refine(Yc nk afh s.ns vn V (r2.keep mV.tC)).mono ?_;rintro e W' ⟨g,rfl,m1⟩;exact⟨g,rfl,Mv.call (H:=[]) mV m1⟩);have BE:=Af (i%4) ah nk s.ns afh;have EBL:Hid (s.blk i ah k=jv (zk (i%4) ah (jI nk s.ns))):=af (by unfold ShapeM.blk;rw[HNK.out]);have aj6:=fun V g hB=>ajj i ah nk s.ns hs afh V g hB;obtain⟨E,hE⟩:=X_ (jv (zk (i%4) ah (jI nk s.ns)));simp only[hE]at aj6 BE EBL;clear hE;have ENC:Hid (∀V g,Mv W [] V (AU g (jI nk s.ns)::(HA++(HC++R)))→Calls P_ 17 #[i_ l_ 3,i_ l_ 5,i_ l_ ((i:Int)%4),i_ l_ ah,s_ (S_ ⟨g,0,N_⟩) 15 15] V fun e w'=>∃pa np pc ba nb bc Hp Hb,e=r_ (t_ #[g_ #[i_ l_ E.aH,s_ pa np pc,s_ ba nb bc],i_ l_ 0])∧E.fZ.length=np∧E.bytes.length=nb∧lH (s_ pa np pc) E.fZ Hp∧dR (s_ ba nb bc) E.bytes Hb∧Mv W [] w' ((Hp++Hb)++(HA++(HC++R)))):=af (fun V g mV=>by refine(aj6 V g (mV.blk 0 rfl)).mono ?_;rintro e w' ⟨pa,np,pc,ba,nb,bc,Hp,Hb,rfl,h1,h2,h3,h4,h5⟩;exact⟨pa,np,pc,ba,nb,bc,Hp,Hb,rfl,h1,h2,h3,h4,Mv.call (H:=[]) mV.drop1 h5⟩);obtain⟨P,ps,bs⟩:=E;simp only at ENC BE EBL;obtain⟨hP,xu,hnb,he⟩:=BE;clear aj6 mc PF PZ r2;go_upto_region 16 with(first
   |(go_at_call 18;(with_reducible refine(VAL.out _ KC.out).mono ?_);rintro e w1 ⟨g,rfl,m1⟩;have K1:=af m1;clear m1)
   |(go_at_call 17;(with_reducible refine(ENC.out _ _ K1.out).mono ?_);rintro e w4 ⟨pa,np,pc,ba,nb,bc,Hp,Hb,rfl,l1,l2,rp,rq,m4⟩;have K4:=LH l1 l2 rp rq m4;clear l1 l2 rp rq m4))
  have l1:=K4.1;have l2:=K4.2.1;have rp:=K4.2.2.1;have rq:=K4.2.2.2.1;have M5:=K4.2.2.2.2.alloc 51 #[i_ l_ P,s_ pa np pc,s_ ba nb bc];obtain⟨xb,hxb⟩:=X_ (w4.heap.size);rw[hxb]at M5⊢;obtain⟨w5,hw5⟩:=Y_ (w4.alloc (.cells #[i_ l_ P,s_ pa np pc,s_ ba nb bc] 51));rw[←hw5]at M5⊢;have M6:Mv W [] w5 ((HA++(HC++R))++xK xb (P:Int) (s_ pa np pc) (s_ ba nb bc) Hp Hb):=M5.sub (fun g=>by simp only[xK,Bi,aP,bK];omega) (fun c hc=>by simp only[xK,Bi,ay,aC]at hc⊢;grind);obtain⟨s1,s2',s3',s4',s5',s6',s7',s8',-⟩:=s.Lm i ah k (by have:=KH.out;omega);have hnew:=s2' k (aN _) KH.out;have hst:=Oi hnew;have hsd:(xZ (s.band i ah k) (k:Int)).said=0:=by rw[hst];rfl
  have hWH:=s.lt;have amq:s.W*s.H≤3*3:=bZ (show s.W≤3 by omega) (show s.H≤3 by omega);have OFC:=af (fun(V:World) (m:Mv W [] V ((HA++(HC++R))++xK xb (P:Int) (s_ pa np pc) (s_ ba nb bc) Hp Hb))=>ahy rp (by omega) m);have BND:Hid (s.band i ah (k+1)=DV (s.band i ah k) (k:Int) (P:Int) ps bs):=af (by show DV _ _ _ _ _=_;rw[EBL.out]);have ADC:=af (fun(V:World) (H1:List YtjngfhgakokejaaGreat.HB) (vp:Value) (r1:vM vp ps H1) (M:Mv W [] V (H1++((HA++(HC++R))++xK xb (P:Int) (s_ pa np pc) (s_ ba nb bc) Hp Hb)))=>ajk (P:=(P:Int)) rq (by omega) (by omega) (by omega) (fun p hp=>by have:=he p hp;omega) r1 KM.1 (k:Int) hsd M);have RAD:Hid (∀(V:World) (HA':List YtjngfhgakokejaaGreat.HB),Mv W [] V (HA'++((HC++R)++xK xb (P:Int) (s_ pa np pc) (s_ ba nb bc) Hp Hb))→Calls P_ 21 #[p_ (S_ ⟨rb,0,N_⟩),i_ l_ k,g_ #[i_ l_ P,s_ pa np pc,s_ ba nb bc]] V fun e w'=>e=r_ (t_ #[])∧∃HC',kC rb (DV (s.band i ah k) (k:Int) (P:Int) ps bs) F_ F_ HC'∧Mv W [] w' (HA'++(HC'++R))):=af (by intro V HA' mV;have m1:Mv W [] V ((HC++(Hp++Hb))++(HA'++R)):=mV.sub (fun g=>by simp only[xK,aP,bK];omega) (fun c hc=>by simp only[xK,ay,aC]at hc⊢;grind);refine(aey rb (s.band i ah k) F_ F_ HC Hp Hb V KM.2.1 m1.sat.left k (by rw[s1];exact KH.out) (by rw[s1];omega) (P:Int) (s_ pa np pc) ba nb bc ps bs rp rq (by omega) (by omega) (by omega) (fun p hp=>by have:=he p hp;omega) (by rw[hsd];omega)).mono ?_;rintro e w' ⟨rfl,HC',h1,h2⟩;refine⟨rfl,HC',h1,(Mv.call m1 h2).Z_⟩);have XC:Hid (∀V H,Mv W [] V (H++xK xb (P:Int) (s_ pa np pc) (s_ ba nb bc) Hp Hb)→V.cell? ⟨xb,0,N_⟩=S_ (i_ l_ P)∧V.cell? ⟨xb,1,N_⟩=S_ (s_ pa np pc)∧V.cell? ⟨xb,2,N_⟩=S_ (s_ ba nb bc)):=af (fun V H m=>ND m);obtain⟨x0,x1,x2⟩:=ND M6;have K6:=af M6;clear M5 M6 hw5 hxb l1 l2 rp rq K4 he hnew hst hsd s1 s2' s3' s4' s5' s6' s7' s8' hWH amq K1 VAL ENC e3 e4 xu hnb;go_upto_region 17 with(first
   |(go_at_call 20;(with_reducible refine(OFC.out _ K6.out).mono ?_);rintro e w6 ⟨Ij,H1,rfl,r1,m6⟩;have K7:=dS r1 m6;clear r1 m6)
   |(go_at_call 19;(with_reducible refine(ADC.out _ _ _ K7.out.1 K7.out.2).mono ?_);rintro e w7 ⟨rfl,HA',h7,m7⟩;have K8:=dS h7 m7;clear h7 m7))
  clear x0 x1 x2 K7 K6;have M8:=K8.2;rw[←az]at M8;obtain⟨x0,x1,x2⟩:=XC _ _ M8;clear M8;go_wp2_with (go_at_call 21;(with_reducible refine(RAD.out _ _ K8.out.2).mono ?_);rintro e w9 ⟨rfl,HC',h9,m9⟩;have K9:=dS h9 m9;clear h9 m9);exact HK _ _ _ _ _ _ _ _ _ _ _ _ _ _ _ _ _ _ _ _ _ _ _ _ _ _ _ _ _ _ _ _ _ _ _ _ _ _ _ _ _ _ _ _ _ _ _ _ _ _ HA' HC' (by rw[BND.out];exact K8.1) (by rw[BND.out];exact K9.1) K9.2
theorem Ux{fn:Func}{t u v x:Tmp}(h:fn.results=#[.tmp t,.tmp u,.tmp v,.tmp x])(tmps:Array Value)(P:Program)(w:World):(results fn tmps).run P w=.ok (t_ #[tmps.getD t undef,tmps.getD u undef,tmps.getD v undef,tmps.getD x undef]) w:=by simp[results,h]
section
variable{W w:World}{H1 X:List HB}{T:TypeId}{cs:Array Value}{g:Nat}
theorem Om(m:Mv W [] w (H1++X))(T:TypeId)(cs:Array Value):Mv W [] (w.alloc (.cells cs T)) (H1++(⟨w.heap.size,T,cs⟩::X)):=(m.alloc T cs).Z_
theorem UL(m:Mv W [] w (H1++(⟨g,T,cs⟩::X))):Mv W [] w (H1++X):=m.Z_
theorem ajh{A B H1 H2 H3 H4 B1 B2 B3 B4:List HB}(m:Mv W [] w (A++(B++(H1++(H2++(H3++(H4++(B1++(B2++(B3++B4)))))))))):Mv W [] w (H1++(H2++(H3++(H4++((B1++(B2++(B3++B4)))++(A++B)))))):=m.sub (fun g=>by simp only[aP];omega) (fun c hc=>by simp only[ay,or_assoc]at hc⊢;rcases hc with h|h|h|h|h|h|h|h|h|h<;>simp only[h,true_or,or_true])
theorem ajg{H9 N H6 H3 H4 Z:List HB}(m:Mv W [] w (H9++(N++(H6++(H3++(H4++Z)))))):Mv W [] w (H3++(H4++(H9++(N++(H6++Z))))):=m.sub (fun g=>by simp only[aP];omega) (fun c hc=>by simp only[ay]at hc⊢;rcases hc with h|h|h|h|h|h<;>simp only[h,true_or,or_true])
theorem ajf{H12 HQ H10 H9 N H6 A B B1 B2 B3 B4:List HB}(m:Mv W [] w (H12++(HQ++(H10++(H9++(N++(H6++((B1++(B2++(B3++B4)))++(A++B))))))))):Mv W [] w (H6++(H9++(H10++(H12++((B1++A)++((B2++N)++((B3++B)++(B4++HQ)))))))):=m.sub (fun g=>by simp only[aP];omega) (fun c hc=>by simp only[ay,or_assoc]at hc⊢;rcases hc with h|h|h|h|h|h|h|h|h|h|h|h<;>simp only[h,true_or,or_true])
theorem Ol(b:Nat):∀u∈(#[Value.pointer (S_ ⟨b,0,N_⟩)]:Array Value).toList,u.oneCell'=T_:=by intro u hu;simp only[fJ]at hu;subst hu;rfl
end
theorem ae1(l:List ShapeM)(ah:Nat)(v:Value)(W:World)(hv:RdS W v l)(hl:l.length≤3)(hs:ah≤63):Calls P_ 9 #[v,i_ l_ ah] W fun e W'=>∃va vb vc vd G,e=r_ (t_ #[va,vb,vc,vd])∧Vj.ok G l ah l.length va vb vc vd∧Mv W [] W' G.heap:=by
 obtain⟨A,c,rfl,hv1,hv2,hv3⟩:=hv;obtain⟨n,hn⟩:=X_ (l.length);have HV:=dS hn hv3;rw[hn]at hv1 hl⊢;clear hv3 hn;go_enter Tryz.func9,Tryz.ntmps9;go_wp2_with fail;go_loopg [8,9,10,11,12] n (fun mm s8 s9 s10 s11 s12 wx=>∃(i:Nat) (G:Vj),i≤n∧mm=n-i∧s12=i_ l_ i∧G.ok l ah i s8 s9 s10 s11∧Mv W [] wx G.heap)
 case atStart=>exact⟨0,⟨[],[],[],[],[],[],[],[],[],[],[],[]⟩,aY _,rfl,rfl,⟨dh.nil _ _,dh.nil _ _,dh.nil _ _,dh.nil _ _,rfl,rfl,rfl,rfl,rfl,rfl,rfl,rfl⟩,Mv.refl (Sat.nil _)⟩
 case round=>
  obtain⟨i,G,hi,rfl,rfl,hG,m⟩:=hrel;by_cases ahR:i<n
  ·have d1:decide ((i:Int)<n)=T_:=by simp;omega
   obtain⟨s,hsi⟩:∃s,l[i]?=S_ s:=⟨_,ai (by rw[HV.1];exact ahR)⟩;obtain⟨b,o,vp,vn,rfl,c0,c1,c2,c3,c4,r1,r2⟩:=HV.2 i s hsi;have hlb:b<W.heap.size:=gZ W _ c0;have e0:=m.old c0 hlb;have e1:=m.old c1 hlb;have e2:=m.old c2 hlb;have W1:=af fun V=>zo s.w 4 V (by decide) (by decide);have W2:=af fun V=>zo s.h 4 V (by decide) (by decide);have W3:=af fun V=>zo s.spare 4 V (by decide) (by decide);simp only[Int.cast_ofNat_Int]at W1 W2 W3;have hs4:=s.lt;obtain⟨sw,hsw⟩:=X_ (s.W);obtain⟨sh,hsh⟩:=X_ (s.H);obtain⟨sm,hsm⟩:=X_ (JG s.spare 4);have ajw:s.most=12+sm:=by unfold ShapeM.most;rw[hsm]
   rw[hsw,hsh,ajw]at hs4;rw[show JG s.w 4=sw from hsw]at W1;rw[show JG s.h 4=sh from hsh]at W2;rw[hsm]at W3;obtain⟨R,hR⟩:=X_ (G.heap);rw[hR]at m;have KM:=dS hG m;have KR:=af hR;have HS:=zO hsi hsw hsh ajw;have RD:=zO c3 c4 r1 r2;obtain⟨amT,amV,-,amU⟩:=hs4;clear hR hG m hsi hsw hsh hsm ajw c0 c1 c2 c3 c4 r1 r2;go_upto_region 6 with fail;refine ik (akt _ n c i b o sw sh s.w s.h wr ahR hl e0 e1 W1 W2 ?_);rintro t28 t29 t30 t31 t32 t33 t34 t35 t36 t37 t38 t39;clear W1 W2;go_upto_region 8 with(go_at_call 8;(with_reducible refine(W3.out _).mono ?_);rintro e w' ⟨rfl,rfl⟩);have NB:Hid (∀V,Calls P_ 15 #[i_ l_ sw,i_ l_ sh,i_ l_ (12+(sm:Int))] V fun e W'=>∃d H,e=r_ (p_ (S_ ⟨d.bb,0,N_⟩))∧sH d s.new H∧Mv V [] W' H):=af (fun V=>by refine(XO sw sh (12+(sm:Int)) V (by omega) (by omega) (by omega)).mono ?_;rintro e W' ⟨d,H,rfl,-,h2,h3⟩;refine⟨d,H,rfl,?_,h3⟩;unfold ShapeM.new;rw[HS.2.1,HS.2.2.1,HS.2.2.2,show((12+sm:Nat):Int)=12+(sm:Int) by omega];exact h2);have RNB:Hid (∀V,Calls P_ 16 #[i_ l_ sw,i_ l_ sh,i_ l_ (12+(sm:Int))] V fun e W'=>∃bb H,e=r_ (p_ (S_ ⟨bb,0,N_⟩))∧kC bb s.new F_ F_ H∧Mv V [] W' H):=af (fun V=>by refine(acf sw sh (12+(sm:Int)) V (by omega) (by omega) (by omega)).mono ?_;rintro e W' ⟨d,H,rfl,h2,h3⟩;refine⟨d,H,rfl,?_,h3⟩;unfold ShapeM.new;rw[HS.2.1,HS.2.2.1,HS.2.2.2,show((12+sm:Nat):Int)=12+(sm:Int) by omega];exact h2);clear W3 e0 e1 e2;go_upto_region 9 with(first
    |(go_at_call 15;(with_reducible refine(NB.out _).mono ?_);rintro e w1 ⟨d,HA,rfl,q1,q2⟩;have K1:=dS q1 (Mv.call (H:=[]) (Mv.drew KM.out.2) q2);clear q1 q2)
    |(go_at_call 16;(with_reducible refine(RNB.out _).mono ?_);rintro e w2 ⟨rb,HC,rfl,q1,q2⟩;have K2:=dS q1 (Mv.call (H:=[]) K1.out.2 q2);clear q1 q2))
   have M2:Mv W [] w2 (HA++(HC++R)):=(show Mv W [] w2 (HC++(HA++R))from K2.2).Z_;have K3:Hid (sH d (s.band i ah 0) HA∧kC rb (s.band i ah 0) F_ F_ HC∧Mv W [] w2 (HA++(HC++R))):=af ⟨K1.1,K2.1,M2⟩;have KG:=dS KM.1 KR.out;obtain⟨nn,hnn⟩:=X_ (sw*sh);have hn9:sw*sh≤3*3:=bZ (by omega) (by omega);have am5:nn≤9:=by omega
   have b1:(sw:Int)*sh≤9:=by exact_mod_cast hn9
   have b2:0≤(sw:Int)*sh:=by exact_mod_cast aY (sw*sh)
   have HN:=af hnn;clear K1 K2 M2 KM KR hnn hn9;go_wp2_with fail;go_loopg [18] nn (fun mm kH wx=>∃(k:Nat) (HA' HC':List YtjngfhgakokejaaGreat.HB),k≤nn∧mm=nn-k∧kH=i_ l_ k∧sH d (s.band i ah k) HA'∧kC rb (s.band i ah k) F_ F_ HC'∧Mv W [] wx (HA'++(HC'++R)))
   case atStart=>exact⟨0,HA,HC,aY _,rfl,rfl,K3.1,K3.2.1,K3.2.2⟩
   case round=>
    clear K3;obtain⟨k,HA1,HC1,hk,rfl,rfl,hBA,hBC,m⟩:=hrel;by_cases hlt:k<nn
    ·have d2:decide ((k:Int)<sw*sh)=T_:=aQ (by have:=HN.out;exact_mod_cast (by omega:k<sw*sh));have KA:=nY hBA hBC m;clear hBA hBC m;go_upto_block 3 with fail;refine ik (aku _ n c i b o k ah rb (s.n k) d s vp vn HA1 HC1 R W _ ahR hl hs (by rw[HS.2.1,HS.2.2.1,HN.out];exact hlt) (by omega) RD.1 RD.2.1 hlb RD.2.2.1 RD.2.2.2 KA.1 KA.2.1 KA.2.2 rfl ?_);rintro t19 t20 t21 t62 t63 t64 t65 t66 t67 t68 t69 t70 t71 t72 t73 t74 t75 t76 t77 t78 t79 t80 t81 t82 t83 t84 t85 t86 t87 t88 t89 t90 t91 t92 t93 t94 t95 t96 t97 t98 t99 t100 t101 t102 t103 t104 t105 t106 t107 wx HA' HC' h1 h2 h3;have KB:=nY h1 h2 h3;clear h1 h2 h3 KA;go_wp2_with fail;go_roundg (nn-(k+1))
     case measure=>omega
     case rel=>exact⟨k+1,HA',HC',hlt,rfl,by push_cast;rfl,KB.1,KB.2.1,KB.2.2⟩
    ·have d2:decide ((k:Int)<sw*sh)=F_:=aW (by intro h;have h2:=HN.out;have h3:k<sw*sh:=(by exact_mod_cast h);omega);obtain rfl:k=nn:=by omega
     have KA:=nY hBA hBC m;clear hBA hBC m;obtain⟨n1,n2,n3,n4⟩:=KG.1.lens (by rw[HV.1];omega);have R8:dh 43 1 u8 i ((G.La.map (·.1)).map fun d=>p_ (S_ ⟨d.bb,0,N_⟩)) G.H1:=by have h:=KG.1.ra;unfold zn at h;rwa[aO,n1]at h
     have R9:dh 43 1 u9 i ((G.Lb.map (·.1)).map fun d=>p_ (S_ ⟨d.bb,0,N_⟩)) G.H2:=by have h:=KG.1.rb;unfold zn at h;rwa[aO,n2]at h
     have R10:dh 47 1 u10 i ((G.Lc.map (·.1)).map fun b=>p_ (S_ ⟨b,0,N_⟩)) G.H3:=by have h:=KG.1.rc;unfold wZ at h;rwa[aO,n3]at h
     have R11:dh 47 1 u11 i ((G.Ld.map (·.1)).map fun b=>p_ (S_ ⟨b,0,N_⟩)) G.H4:=by have h:=KG.1.rd;unfold wZ at h;rwa[aO,n4]at h
     obtain⟨a8,c8,rfl⟩:=R8.slice;obtain⟨a9,c9,rfl⟩:=R9.slice;obtain⟨a10,c10,rfl⟩:=R10.slice;obtain⟨a11,c11,rfl⟩:=R11.slice;obtain⟨Z,hZ⟩:=X_ ((G.B1++(G.B2++(G.B3++G.B4)))++(HA1++HC1));have M1:Mv W [] wr (G.H1++(G.H2++(G.H3++(G.H4++Z)))):=by rw[←hZ];refine ajh ?_;have h:=KA.2.2;rw[←KG.2]at h;exact h
     have P8:=af (Om M1 43 #[p_ (S_ ⟨d.bb,0,N_⟩)]);have RR:=zO R8 R9 R10 R11;have HZ:=af hZ;have KB:=dS KA.1 KA.2.1;clear M1 R8 R9 R10 R11 hZ KA n1 n2 n3 n4;go_upto_region 19 with(first
      |(at_builtin;refine rY Tryz.underlying26 afb rfl (by decide) (by decide) rfl (.tmp 108) (.tmp 110) rfl (.slice a8 i c8) rfl rfl RR.1 P8.sat.left (zy rfl rfl) ?alA ?len8 ?amN;(case alA=>exact Ol d.bb);(case len8=>omega);intro v6 w6 H6 h6 m6;obtain⟨a6,c6,rfl⟩:=h6.slice;have K6:=dS h6 (UL (Mv.call P8 m6));clear h6 m6)
      |(go_at_call 15;(with_reducible refine(NB.out _).mono ?_);rintro e w7 ⟨d2,HN2,rfl,q1,q2⟩;have K7:=dS q1 (Om (Mv.mv2 (Mv.call (H:=[]) K6.out.2 q2)) 43 #[p_ (S_ ⟨d2.bb,0,N_⟩)]);clear q1 q2)
      |(at_builtin;refine rY Tryz.underlying26 afb rfl (by decide) (by decide) rfl (.tmp 112) (.tmp 117) rfl (.slice a9 i c9) rfl rfl RR.2.1 K7.2.sat.left (zy rfl rfl) ?alz ?alG ?amM;(case alz=>exact Ol d2.bb);(case alG=>omega);intro v9 w9 H9 h9 m9;obtain⟨a9,c9,rfl⟩:=h9.slice;have K9:=dS h9 (UL (Mv.call K7.2 m9));clear h9 m9))
     have M9:Mv W [] w9 (G.H3++(G.H4++(H9++(HN2++(H6++Z))))):=ajg K9.2;have P10:=af (Om M9 47 #[p_ (S_ ⟨rb,0,N_⟩)]);have K9r:=nY K6.1 K7.1 K9.1;clear M9 P8 K6 K7 K9;go_upto_region 5 with(first
      |(at_builtin;refine rY Tryz.underlying27 ae8 rfl (by decide) (by decide) rfl (.tmp 119) (.tmp 121) rfl (.slice a10 i c10) rfl rfl RR.2.2.1 P10.sat.left (zy rfl rfl) ?akr ?aky ?amJ;(case akr=>exact Ol rb);(case aky=>omega);intro v10 w10 H10 h10 m10;obtain⟨a10,c10,rfl⟩:=h10.slice;have K10:=dS h10 (UL (Mv.call P10 m10));clear h10 m10)
      |(go_at_call 16;(with_reducible refine(RNB.out _).mono ?_);rintro e w11 ⟨rq,HQ,rfl,q1,q2⟩;have XP:=dS q1 (Om (Mv.mv2 (Mv.call (H:=[]) K10.out.2 q2)) 47 #[p_ (S_ ⟨rq,0,N_⟩)]);clear q1 q2)
      |(at_builtin;refine rY Tryz.underlying27 ae8 rfl (by decide) (by decide) rfl (.tmp 123) (.tmp 128) rfl (.slice a11 i c11) rfl rfl RR.2.2.2 XP.2.sat.left (zy rfl rfl) ?akq ?akx ?amI;(case akq=>exact Ol rq);(case akx=>omega);intro v12 w12 H12 h12 m12;obtain⟨a12,c12,rfl⟩:=h12.slice;have y!:=dS h12 (UL (Mv.call XP.2 m12));clear h12 m12))
     have G2:Hid (∃G':Vj,G'.ok l ah (i+1) (s_ a6 (i+1) c6) (s_ a9 (i+1) c9) (s_ a10 (i+1) c10) (s_ a12 (i+1) c12)∧Mv W [] w12 G'.heap):=af (by
      obtain⟨n1,n2,n3,n4⟩:=KG.1.lens (by rw[HV.1];omega);have hsi:=HS.1;have hks:k=s.W*s.H:=by rw[HS.2.1,HS.2.2.1];exact HN.symm
      have m:=y!.2;rw[←HZ.out]at m;refine⟨⟨G.La++[(d,s.band i ah k)],G.Lb++[(d2,s.new)],G.Lc++[(rb,s.band i ah k)],G.Ld++[(rq,s.new)],H6,H9,H10,H12,G.B1++HA1,G.B2++HN2,G.B3++HC1,G.B4++HQ⟩,⟨?_,?_,?_,?_,KG.1.ba.snoc KB.1,KG.1.bb.snoc K9r.2.1,KG.1.bc.snoc KB.2,KG.1.bd.snoc XP.1,?_,?_,?_,?_⟩,ajf m⟩
      ·have h:=K9r.1;unfold zn;simp only[bU,bJ,gW,au,aO,List.length_cons,List.length_nil,n1,dH];exact h
      ·have h:=K9r.2.2;unfold zn;simp only[bU,bJ,gW,au,aO,List.length_cons,List.length_nil,n2,dH];exact h
      ·have h:=K10.1;unfold wZ;simp only[bU,bJ,gW,au,aO,List.length_cons,List.length_nil,n3,dH];exact h
      ·have h:=y!.1;unfold wZ;simp only[bU,bJ,gW,au,aO,List.length_cons,List.length_nil,n4,dH];exact h
      ·rw[Qi l ah hsi,bU,KG.1.ma,hks];rfl
      ·rw[OG l hsi,bU,KG.1.mb];rfl
      ·rw[Qi l ah hsi,bU,KG.1.mc,hks];rfl
      ·rw[OG l hsi,bU,KG.1.md];rfl)
     clear y! XP K10 K9r P10 RR HZ KB NB RNB KG RD HS b1 b2;go_wp2_with fail;go_roundg (n-(i+1))
     case measure=>omega
     case rel=>obtain⟨G',h1,h2⟩:=G2.out;exact⟨i+1,G',ahR,rfl,by push_cast;rfl,h1,h2⟩
  ·have d1:decide ((i:Int)<n)=F_:=by simp;omega
   obtain rfl:i=n:=by omega
   have KA:=dS hG m;clear hG m;go_wp2_with fail
   (try simp only[Exit.inBlock,Exit.then])
   refine dU (Ux rfl _ _ _) rfl ?_;exact⟨u8,u9,u10,u11,G,rfl,KA.1,KA.2⟩
theorem XL(s:ShapeM)(i ah k:Nat)(_hs:ah≤63):Jh (s.most:Int) ⟨((s.blk i ah k).aH:Int),(s.blk i ah k).fZ,(s.blk i ah k).bytes,0,3⟩:=by
 have hb:=Af (i%4) ah (s.n k) s.ns (s.aeP k);have hm:=s.lt;have ok:=(Jz (zk (i%4) ah (jI (s.n k) s.ns)) (by show 1≤5;decide)).1;unfold ShapeM.blk;generalize jv (zk (i%4) ah (jI (s.n k) s.ns))=B at*;obtain⟨h1,h2,h3,h4⟩:=hb;refine⟨⟨?_,?_⟩,?_,(by show(3:Int)≤45;decide),?_,?_,ok.pos⟩
 ·show(B.aH:Int)≤s.most;omega
 ·show(s.most:Int)≤B.aH+60;omega
 ·show B.fZ.length≤100;omega
 ·show B.bytes.length≤300000;omega
 ·intro a b hab hbl;replace hbl:b<B.fZ.length:=hbl;show(B.fZ.map (·.1)).getD a 0≤(B.fZ.map (·.1)).getD b 0;rcases Nat.lt_or_eq_of_le hab with h|h
  ·have hu:=List.pairwise_iff_getElem.1 ok.up a b (by omega) hbl h;rw[ax,ax,aV,aV,ai hbl,ai (show a<B.fZ.length by omega)];exact hu
  ·subst h;exact gG _
theorem OX(P:Int)(h:0≤P∧P≤60):Jh P lV.m:=by
 refine⟨⟨?_,?_⟩,?_,?_,?_,?_,?_⟩
 ·show(0:Int)≤P;omega
 ·show P≤0+60;omega
 ·exact aY _
 ·show(3:Int)≤45;decide
 ·exact aY _
 ·intro i j _ hj;exact absurd hj (Nat.not_lt_zero _)
 ·intro p hp;cases hp
theorem Yt(s:ShapeM)(i ah:Nat)(hs:ah≤63):v! (s.band i ah (s.W*s.H))∧∀x∈(s.band i ah (s.W*s.H)).ss,x.said=0:=by
 obtain⟨h1,-,h3,h4,h5,h6,h7,h8,h9⟩:=s.Lm i ah (s.W*s.H) (aN _);have hl:=s.lt;have hm:s.W*s.H≤3*3:=bZ (by omega) (by omega);refine⟨⟨by rw[h1];omega,fun x hx=>?_,h6,by rw[h1,h4,h5],by rw[h4,h5];omega,by rw[h7,h4,h5],by rw[h8,h4,h5]⟩,fun x hx=>?_⟩
 ·rw[h3];rcases h9 x hx with rfl|⟨j,-,rfl⟩
  ·exact OX _ (by omega)
  ·exact XL s i ah j hs
 ·rcases h9 x hx with rfl|⟨j,-,rfl⟩
  ·rfl
  ·rfl
theorem acS(l:List ShapeM)(ah:Nat)(hs:ah≤63):∀m∈AB l ah,v! m∧∀x∈m.ss,x.said=0:=by intro m hm;unfold AB at hm;obtain⟨i,s,hi,rfl⟩:=List.mem_mapIdx.1 hm;exact Yt _ _ ah hs
theorem aiA:∀(La:List (bu×aT)) (Lc:List (Nat×aT)) (H:List HB) (M:Nat→aT),Dn Lc H→La.map (·.2)=Lc.map (·.2)→(∀p∈La,v! p.2)→(∀p∈La,M p.1.bb=p.2)→gJ Aw (Lc.map (·.1)) (La.map (·.1)) M H
 | [],[],H,M,h,_,_,_=>h
 |p::La,q::Lc,H,M,⟨H1,H2,e,h1,h2⟩,he,hr,hm=>by rw[bJ,bJ,iM]at he;refine⟨H1,H2,e,?_,aiA La Lc H2 M h2 he.2 (fun x hx=>hr x (aU _ hx)) fun x hx=>hm x (aU _ hx)⟩;show Aw q.1 (M p.1.bb) H1;rw[hm p aG];refine .inr ⟨?_,hr p aG⟩;rw[he.1];exact h1
 | [],_::_,_,_,_,he,_,_=>by simp at he
 |_::_,[],_,_,_,he,_,_=>by simp at he
theorem abj(count:Nat)(La:List (bu×aT))(M:Nat→aT)(h:∀p∈La,∀x∈p.2.ss,x.said=0)(hm:∀p∈La,M p.1.bb=p.2):jZ count 0 (La.map (·.1)) [] M:=by intro d hd k s hs;obtain⟨p,hp,rfl⟩:=bW.1 hd;rw[hm p hp]at hs;rw[h p hp s (aF hs)];rw[aJ (by simp[qQ])];unfold jg;rw[aK (by decide)]
theorem Ub{D:List bu}{M:Nat→aT}{H:List HB}(h:iK D M H):∀d∈D,(M d.bb).ss.length=d.n:=by intro d hd;obtain⟨b,e1,e2,-⟩:=h.band hd;rw[←e1];show(b.G.map _).length=_;rw[aO];exact e2.len
end
section
def Pr(b:List UInt8):Prop:=∀i,i+1<b.length→b.getD i 0=255→(b.getD (i+1) 0).toNat≤144
def Vr(b:List UInt8):Prop:=Pr b∧(2≤b.length→b.getD (b.length-2) 0=255→(b.getD (b.length-1) 0).toNat≤143)
def Fin2(b:List UInt8):Prop:=Pr b∧(0<b.length→b.getD (b.length-1) 0≠255)
theorem BM(l:List UInt8):l.getLastD 0=l.getD (l.length-1) 0:=by rw[kD,nG,ax]
theorem Vd(b:List UInt8)(y:UInt8):(∀i,i<b.length→(b++[y]).getD i 0=b.getD i 0)∧(b++[y]).getD b.length 0=y∧(b++[y]).length=b.length+1:=by
 refine⟨fun i hi=>?_,?_,by simp⟩
 ·rw[ax,df hi,←ax]
 ·rw[ax,aZ (aN _),iI];rfl
theorem Δ(b:List UInt8):b.dropLast.length=b.length-1∧∀i,i+1<b.length→b.dropLast.getD i 0=b.getD i 0:=by refine⟨iV,fun i hi=>?_⟩;rw[ax,List.getElem?_dropLast,aK (by omega),←ax]
theorem Pr.snoc{b:List UInt8}(h:Pr b){y:UInt8}(hy:0<b.length→b.getD (b.length-1) 0=255→y.toNat≤144):Pr (b++[y]):=by
 obtain⟨a1,a2,a3⟩:=Vd b y;intro i hi ig;rw[a3]at hi;rw[a1 i (by omega)]at ig;by_cases e:i+1=b.length
 ·rw[e,a2];exact hy (by omega) (by rw[show b.length-1=i by omega];exact ig)
 ·rw[a1 (i+1) (by omega)];exact h i (by omega) ig
theorem Vr.snoc{b:List UInt8}(h:Pr b){y:UInt8}(hy:0<b.length→b.getD (b.length-1) 0=255→y.toNat≤143):Vr (b++[y]):=by obtain⟨a1,a2,a3⟩:=Vd b y;refine⟨h.snoc fun h1 h2=>by have:=hy h1 h2;omega,fun h2 ig=>?_⟩;rw[a3]at h2 ig⊢;rw[show b.length+1-1=b.length by omega,a2];rw[show b.length+1-2=b.length-1 by omega,a1 _ (by omega)]at ig;exact hy (by omega) ig
theorem Pr.drop{b:List UInt8}(h:Pr b):Pr b.dropLast:=by obtain⟨a1,a2⟩:=Δ b;intro i hi ig;rw[a1]at hi;rw[a2 i (by omega)]at ig;rw[a2 (i+1) (by omega)];exact h i (by omega) ig
theorem Pr.tail{b:List UInt8}(h:Pr b):Pr (b.drop 1):=by
 have e:∀i,(b.drop 1).getD i 0=b.getD (i+1) 0:=fun i=>by rw[ax,nZ,Nat.add_comm,←ax]
 intro i hi ig;rw[fH]at hi;rw[e]at ig⊢;exact h (i+1) (by omega) ig
theorem afS{e:kV}(hne:e.b≠[])(h:Vr e.b):Pr (wY e).b∧(wY e).b≠[]∧(wY e).c≤e.c:=by
 unfold wY;split
 ·rename_i hc;rw[BM]at hc;have hp:=fP.2 hne;obtain⟨d1,d2⟩:=Δ e.b;refine⟨?_,by simp,by simp only;omega⟩;simp only;refine h.1.drop.snoc fun h1 h2=>?_;rw[d1]at h1 h2;rw[d2 _ (by omega)]at h2;have h3:=h.2 (by omega) (by rw[show e.b.length-2=e.b.length-1-1 by omega];exact h2);rw[BM,UInt8.toNat_add];show((e.b.getD (e.b.length-1) 0).toNat+1)%2^8≤144;omega
 ·exact⟨h.1,hne,aN _⟩
theorem UI{e:kV}(hne:e.b≠[])(hc:e.c<150994944)(h:Vr e.b):Vr (yc e).b:=by
 obtain⟨h1,h2,h3⟩:=afS hne h;unfold yc;generalize wY e=f at*;unfold Wq;split
 ·simp only;refine Vr.snoc h1 fun _ _=>?_;have:f.c/2^20≤143:=by omega
  rw[uq];omega
 ·rename_i hl;simp only;refine Vr.snoc h1 fun _ h5=>?_;rw[BM]at hl;exact absurd h5 hl
theorem ah9{e:kV}(h:e.W)(hc:Vr e.b):Vr (Gp e).b:=by
 obtain⟨w1,w2,w3,w4,w5,w6⟩:=h;unfold Gp;split
 ·rename_i h1;rw[h1]at w5;exact UI (e:={e with a:=2*e.a,c:=2*e.c,ct:=0}) w6 (by show 2*e.c<150994944;omega) hc
 ·exact hc
theorem WJ:∀(k:Nat) {e:kV},e.W→Vr e.b→Vr (normE k e).b
 |0,e,_,h=>h
 |k+1,e,hw,h=>by
  unfold normE;split
  ·rename_i ha;exact WJ k (QF hw ha).1 (ah9 hw h)
  ·exact h
theorem ah5{e:kV}{x:CG}{bit:Nat}(he:e.Ok)(hx:x.Ok)(h:Vr e.b):Vr (Ia e x bit).1.b:=by unfold Ia;exact WJ 16 (QM he hx).1 (by rw[Va];exact h)
theorem aab{c a k:Nat}(ha:1≤a)(h:(c+a)*2^k≤150994944):c*2^k<150994944:=by have h1:0<2^k:=Nat.pow_pos (by decide);have h2:(c+a)*2^k=c*2^k+a*2^k:=Nat.add_mul _ _ _;have h3:1*2^k≤a*2^k:=dK _ ha;omega
theorem TG{e:kV}(he:e.Ok)(h:Vr e.b):Vr (wX e).b:=by
 obtain⟨⟨w1,w2,w3,w4,w5,w6⟩,w7⟩:=he;have hf:sW e+1≤e.c+e.a:=by unfold sW;split<;>omega
 have h1:sW e*2^e.ct<150994944:=by have h2:(sW e+1)*2^e.ct≤(e.c+e.a)*2^e.ct:=dK _ hf;exact aab (aN 1) (fD h2 w5)
 have k1:=En (e:={e with c:=sW e}) w1 w2;have c1:Vr (lG {e with c:=sW e}).b:=UI (e:={e with c:=sW e*2^e.ct}) w6 h1 h;unfold wX;generalize lG {e with c:=sW e}=g at*;have ha:1≤g.a:=by rw[k1.1];exact w1
 exact UI (e:={g with c:=g.c*2^g.ct}) k1.2.2.2.2 (aab ha k1.2.2.2.1) c1
structure ClR(r:FU):Prop where
 pr:Pr r.b
 cur:r.cur<2^r.top
 last:0<r.b.length→r.b.getD (r.b.length-1) 0=255→r.top=7
theorem Su:ClR Aj:=⟨(fun i hi=>by simp[Aj]at hi),by decide,(fun h=>by simp[Aj]at h)⟩
theorem Wi{r:FU}(h:ClR r)(ok:r.Ok){c:Nat}(hc:c<2^r.top):Pr (r.b++[UInt8.ofNat c]):=by refine h.pr.snoc fun h1 h2=>?_;have h3:=h.last h1 h2;rw[h3]at hc;rw[uq];omega
theorem acj{r:FU}(h:ClR r)(ok:r.Ok)(bit:Nat):ClR (zA r bit):=by
 have f1:=ok.f1;have f2:=ok.f2;have f3:=ok.top;have hc:r.cur|||bit%2*2^(r.free-1)<2^r.top:=by
  refine Nat.or_lt_two_pow h.cur ?_;have h1:2^(r.free-1)*2≤2^r.top:=by rw[←Nat.pow_succ];exact fB (by decide) (by omega)
  have h2:bit%2*2^(r.free-1)≤1*2^(r.free-1):=dK _ (by omega);have h3:0<2^(r.free-1):=Nat.pow_pos (by decide);omega
 have hp:=Wi h ok hc;have h8:r.cur|||bit%2*2^(r.free-1)<256:=eH hc (fD (fB (by decide) f3) (by decide))
 unfold zA;simp only;generalize r.cur|||bit%2*2^(r.free-1)=c at*
 obtain⟨a1,a2,a3⟩:=Vd r.b (UInt8.ofNat c);split
 ·split
  ·exact⟨hp,by show 0<2^7;decide,fun _ _=>rfl⟩
  ·rename_i hne;refine⟨hp,by show 0<2^8;decide,fun h1 h2=>?_⟩;simp only[a3,gV,a2]at h2;have h4:=fM UInt8.toNat h2;rw[uq]at h4;have h5:(255:UInt8).toNat=255:=rfl;rw[h5]at h4;omega
 ·exact⟨h.pr,hc,h.last⟩
theorem Js{l:List UInt8}(h:Pr l):Fin2 (rO l):=by
 have hl:l.getLast?=S_ 255↔0<l.length∧l.getD (l.length-1) 0=255:=by
  rw[nG,ax];by_cases h:0<l.length
  ·rw[ai (by omega)];simp[h]
  ·have e:l=[]:=dN (by omega);subst e;simp
 unfold rO;split
 ·rename_i h1;obtain⟨h2,h3⟩:=hl.1 h1;obtain⟨d1,d2⟩:=Δ l;refine⟨h.drop,fun h4 h5=>?_⟩;rw[d1]at h4 h5;rw[d2 _ (by omega)]at h5;have h6:=h (l.length-1-1) (by omega) h5;rw[show l.length-1-1+1=l.length-1 by omega,h3]at h6;exact absurd h6 (by decide)
 ·rename_i h1;exact⟨h,fun h2 h3=>h1 (hl.2 ⟨h2,h3⟩)⟩
theorem Fin2.append{a b:List UInt8}(ha:Fin2 a)(hb:Fin2 b):Fin2 (a++b):=by
 have e1:∀i,i<a.length→(a++b).getD i 0=a.getD i 0:=fun i hi=>by rw[ax,df hi,←ax]
 have e2:∀i,(a++b).getD (a.length+i) 0=b.getD i 0:=fun i=>by rw[ax,aZ (by omega),Nat.add_sub_cancel_left,←ax]
 refine⟨fun i hi ig=>?_,fun hp=>?_⟩
 ·rw[au]at hi;by_cases h1:i+1<a.length
  ·rw[e1 i (by omega)]at ig;rw[e1 (i+1) h1];exact ha.1 i h1 ig
  ·by_cases h2:i<a.length
   ·rw[e1 i h2]at ig;exact absurd (show a.getD (a.length-1) 0=255 by rw[show a.length-1=i by omega];exact ig) (ha.2 (by omega))
   ·obtain⟨j,rfl⟩:∃j,i=a.length+j:=⟨i-a.length,by omega⟩;rw[e2]at ig;rw[kK,e2];exact hb.1 j (by omega) ig
 ·rw[au]at hp⊢;by_cases h0:0<b.length
  ·rw[show a.length+b.length-1=a.length+(b.length-1) by omega,e2];exact hb.2 h0
  ·have e:b=[]:=dN (by omega);subst e;simp only[List.length_nil,Nat.add_zero,dD]at hp⊢;exact ha.2 hp
theorem Fin2.nil:Fin2 []:=⟨(fun i hi=>by simp at hi),(fun h=>by simp at h)⟩
structure ClW(s:Eo):Prop where
 ok:s.Ok
 e:Vr s.e.b
 r:ClR s.r
theorem Says.cl{raw:Bool}{n:Nat}{s s':Eo}(h:Says raw n s s')(hs:ClW s):ClW s':=by
 induction h with
 |refl=>exact hs
 |bit k b hk _ ih=>
  have i:=ih hs;refine⟨AZ i.ok hk b,?_,?_⟩
  ·unfold kL;split
   ·exact i.e
   ·have hx:∀(cx:List CG),cx.length=19→(∀c∈cx,c.Ok)→(cx.getD k ⟨0,0⟩).Ok:=by intro cx hl hc;rw[ax,ai (by omega)];exact hc _ (kX _)
    exact ah5 i.ok.e (hx _ i.ok.len i.ok.cx) i.e
  ·unfold kL;split
   ·exact acj i.r i.ok.r b
   ·exact i.r
 |fresh _ ih=>have i:=ih hs;exact⟨⟨sZ.1,sZ.2,i.ok.e,i.ok.r⟩,i.e,i.r⟩
theorem agS{raw:Bool}{s:Eo}(h:ClW s):Fin2 (VN raw s):=by
 unfold VN;split
 ·unfold zZ;split
  ·exact Js (Wi h.r h.ok.r h.r.cur)
  ·exact Js h.r.pr
 ·exact Js (TG h.ok.e h.e).1.tail
theorem TN:Vr Aq.b:=⟨(fun i hi=>by simp[Aq]at hi),(fun h=>by simp[Aq]at h)⟩
theorem Xt{G:GeoM}(hh:1≤G.h)(aH n:Nat)(t:A7)(k:Nat)(h:ClW t.q.s∧Fin2 t.bytes):ClW (qP G aH n t k).q.s∧Fin2 (qP G aH n t k).bytes:=by
 obtain⟨h1,h2⟩:=h;have h0:ClW (Gw t k).s:=by
  unfold Gw;split
  ·exact⟨⟨h1.ok.len,h1.ok.cx,IC,Iw⟩,TN,Su⟩
  ·exact h1
 have hq:ClW (Oh G aH t k).s:=(Fg (raw:=yB G t k) hh aH k (Gw t k)).cl h0;unfold qP;split
 ·exact⟨⟨⟨hq.ok.len,hq.ok.cx,TF hq.ok.e,hq.ok.r⟩,TG hq.ok.e hq.e,hq.r⟩,h2.append (agS hq)⟩
 ·exact⟨hq,h2⟩
theorem Qv{G:GeoM}(hh:1≤G.h)(aH n:Nat):∀(f k:Nat) (t:A7),ClW t.q.s∧Fin2 t.bytes→Fin2 (DR G aH n f k t).bytes
 |0,_,_,h=>h.2
 |f+1,k,t,h=>Qv hh aH n f (k+1) _ (Xt hh aH n t k h)
theorem Xo(G:GeoM)(hh:1≤G.h):Fin2 (jv G).bytes:=Qv hh _ _ _ _ _ ⟨⟨⟨sZ.1,sZ.2,IC,Iw⟩,TN,Su⟩,Fin2.nil⟩
structure aiN(aH:Int)(s:og):Prop where
 g:Jh aH s
 pl:0≤s.pl∧s.pl≤12
 len:s.ps.length=3*s.pl.toNat-2
 last:0<s.ps.length→(s.ps.map (·.1)).getD (s.ps.length-1) 0=(s.bs.length:Int)
 none:s.ps.length=0→s.bs=[]
 bs:s.bs.length≤110000
 fin:Fin2 s.bs
theorem Qc(ah cO:Nat):∀(f k b:Nat),f+1=cO-k→b≤k→(jT (pcs ah cO (f+1) k b)).sum=(cO:Int)-b
 |0,k,b,h,hb=>by
  rw[pcs,aK (by simp;omega)];simp only[pcs,jT,bJ,gW,List.sum_cons,List.sum_nil];have:k+1=cO:=by omega
  rw[this];omega
 |f+1,k,b,h,hb=>by
  rw[pcs];split
  ·simp only[jT,bJ,List.sum_cons];have:=Qc ah cO f (k+1) (k+1) (by omega) (aN _);unfold jT at this;rw[this];push_cast;omega
  ·exact Qc ah cO f (k+1) b (by omega) (by omega)
def xY(l:List yx):Nat:=(l.map (·.p)).sum
def qR(l:List yx):Nat:=(l.map (·.n)).sum
theorem VA(a b:List yx):xY (a++b)=xY a+xY b:=by simp[xY]
theorem Nq(a b:List yx):qR (a++b)=qR a+qR b:=by simp[qR]
section
variable{l:List UInt8}{T:List Bool}(hR:alp l T)
include hR
end
def docPs(ah:Nat):Nat→List yx→List (Int×Bool)→List (Int×Bool)
 |_,[],ps=>ps
 |at_,q::qs,ps=>docPs ah (at_+q.n) qs (uP ah (at_+q.n) q.p ps)
def AX(ah:Nat)(s:og)(pcs:List yx)(data:List UInt8):og:={s with bs:=s.bs++data,ps:=docPs ah s.bs.length pcs s.ps}
def takeD(m:aT)(k ah:Nat)(pcs:List yx)(data:List UInt8):aT:=match m.ss[k]? with
 |none=>m
 |some s=>{m with ss:=m.ss.set k (AX ah s pcs data)}
theorem Xw(ah:Nat)(s:og):AX ah s [] []=s:=by unfold AX docPs;rw[dD]
theorem U3(ah:Nat)(s:og)(q:yx)(qs:List yx)(d1 d2:List UInt8)(h:d1.length=q.n):AX ah (OL ah s q.p d1) qs d2=AX ah s (q::qs) (d1++d2):=by unfold AX OL;simp only[docPs,au,az,h]
theorem aaP(m:aT)(k ah:Nat):takeD m k ah [] []=m:=by
 unfold takeD;cases h:m.ss[k]? with
 |none=>rfl
 |some s=>simp only;rw[Xw,yR h]
theorem Ye(m:aT)(k ah:Nat)(q:yx)(qs:List yx)(d1 d2:List UInt8)(h:d1.length=q.n):takeD (takeB m k ah q.p d1) k ah qs d2=takeD m k ah (q::qs) (d1++d2):=by
 unfold takeB;cases hs:m.ss[k]? with
 |none=>simp only;unfold takeD;rw[hs]
 |some s=>have hk:=(aj.1 hs).1;unfold takeD;simp only[hs,dJ hk];rw[U3 ah s q qs d1 d2 h,jo]
theorem NL(l:List UInt8)(ah:Nat)(d:bu)(k:Nat)(rest:List yx):∀(pcs:List yx) (M:Nat→aT) (n:Nat),(∀q∈pcs,q.x=⟨d,k⟩)→n≤l.length→(l.length-n<qR pcs→(decGo l ah (pcs++rest) M n).2=N_)∧(¬l.length-n<qR pcs→decGo l ah (pcs++rest) M n=decGo l ah rest (ou M d.bb (takeD (M d.bb) k ah pcs ((l.drop n).take (qR pcs)))) (n+qR pcs))
 | [],M,n,_,_=>by have e:qR []=0:=rfl;refine⟨fun h=>by rw[e]at h;omega,fun _=>?_⟩;rw[e,List.take_zero,aaP,LQ];rfl
 |q::qs,M,n,hq,hn=>by
  have eN:qR (q::qs)=q.n+qR qs:=by simp[qR]
  have hx:=hq q aG;rw[List.cons_append,JC,hx];by_cases h1:l.length-n<q.n
  ·rw[aK h1];exact⟨fun _=>rfl,fun h=>by omega⟩
  ·rw[aJ h1];obtain⟨i1,i2⟩:=NL l ah d k rest qs (ou M d.bb (takeB (M d.bb) k ah q.p ((l.drop n).take q.n))) (n+q.n) (fun x hx=>hq x (aU _ hx)) (by omega);refine⟨fun h=>i1 (by omega),fun h=>?_⟩;rw[i2 (by omega),jX,LM,Ye _ _ _ _ _ _ _ (by rw[bT,fH];omega),eN,kK,←List.drop_drop,←List.take_add]
structure qU where
 x:dF
 pcs:List yx
def Vo(l:List UInt8)(ah:Nat):List qU→(Nat→aT)→Nat→(Nat→aT)×Option Nat
 | [],M,n=>(M,S_ n)
 |q::qs,M,n=>if l.length-n<qR q.pcs then(M,N_)else Vo l ah qs (ou M q.x.d.bb (takeD (M q.x.d.bb) q.x.k ah q.pcs ((l.drop n).take (qR q.pcs)))) (n+qR q.pcs)
theorem J3(l:List UInt8)(ah:Nat)(q:qU)(qs:List qU)(M:Nat→aT)(n:Nat):Vo l ah (q::qs) M n=if l.length-n<qR q.pcs then(M,N_)else Vo l ah qs (ou M q.x.d.bb (takeD (M q.x.d.bb) q.x.k ah q.pcs ((l.drop n).take (qR q.pcs)))) (n+qR q.pcs):=rfl
def qU.ok(q:qU):Prop:=∀p∈q.pcs,p.x=q.x
theorem TS(l:List UInt8)(ah:Nat):∀(Q:List qU) (M:Nat→aT) (n:Nat),(∀q∈Q,q.ok)→n≤l.length→(decGo l ah (Q.flatMap qU.pcs) M n).2=(Vo l ah Q M n).2∧((Vo l ah Q M n).2≠N_→decGo l ah (Q.flatMap qU.pcs) M n=Vo l ah Q M n)
 | [],_,_,_,_=>⟨rfl,fun _=>rfl⟩
 |q::Q,M,n,h,hn=>by
  obtain⟨i1,i2⟩:=NL l ah q.x.d q.x.k (Q.flatMap qU.pcs) q.pcs M n (h q aG) hn;rw[dE,J3];by_cases h1:l.length-n<qR q.pcs
  ·rw[aK h1];exact⟨i1 h1,fun h=>absurd rfl h⟩
  ·rw[aJ h1,i2 h1];exact TS l ah Q _ _ (fun x hx=>h x (aU _ hx)) (by omega)
end
section
open Go.RowKit
variable{vR:Value}
def Q3(rb:Nat)(v:Value)(P cur left:Nat)(cut bad:Bool):HB:=⟨rb,172,#[v,i_ l_ P,i_ l_ cur,i_ l_ left,b_ cut,b_ bad]⟩
def iq(vR:Value)(rb:Nat)(l:List UInt8)(s:jG)(H:List HB):Prop:=∃Hr,H=Q3 rb vR s.begun (mJ l s.begun).toNat s.left (decide (l.length<s.begun)) s.bad::Hr∧dR vR l Hr
theorem Pn(rb:Nat)(l:List UInt8)(v:Value)(Hr:List HB)(P cur left:Nat)(cut bad:Bool)(W:World)(hr:dR v l Hr)(hs:Sat W (Q3 rb v P cur left cut bad::Hr))(hP:P≤80000000)(hl:l.length≤90000000)(h0:cur=255→0<P)(Xi:cur≤255):Calls P_ 96 #[p_ (S_ ⟨rb,0,N_⟩)] W fun e w'=>e=r_ (t_ #[])∧Mv W (Q3 rb v P cur left cut bad::Hr) w' (Q3 rb v (P+1) (l.getD P 0).toNat (if cur=255 then 7 else 8) (cut||decide (l.length≤P)) (if cur=255 then bad||decide (128≤(l.getD P 0).toNat)else bad)::Hr):=by
 obtain⟨a,vc,rfl⟩:=hr.slice;obtain⟨n,hn⟩:=X_ (l.length);rw[hn]at hr hs hl⊢;have M0:=Mv.refl hs;obtain⟨H0,hH0⟩:=X_ (Q3 rb (s_ a n vc) P cur left cut bad::Hr);have z0:W.cell? ⟨rb,0,N_⟩=S_ (s_ a n vc):=M0.cell 0 rfl 0;have z1:W.cell? ⟨rb,1,N_⟩=S_ (i_ l_ P):=M0.cell 0 rfl 1;have z2:W.cell? ⟨rb,2,N_⟩=S_ (i_ l_ cur):=M0.cell 0 rfl 2;have z3:W.cell? ⟨rb,3,N_⟩=S_ (i_ l_ left):=M0.cell 0 rfl 3;have f2:W.frozen? ⟨rb,2,N_⟩=F_:=M0.frozen 0 rfl 2;have f3:W.frozen? ⟨rb,3,N_⟩=F_:=M0.frozen 0 rfl 3;have M1:Mv W H0 ((W.setCell ⟨rb,2,N_⟩ (i_ l_ 0)).setCell ⟨rb,3,N_⟩ (i_ l_ 8)) (Q3 rb (s_ a n vc) P 0 8 cut bad::Hr):=by rw[←hH0];exact(M0.set 2 (i_ l_ 0)).set 3 (i_ l_ 8)
 obtain⟨w1,hw1⟩:=Y_ ((W.setCell ⟨rb,2,N_⟩ (i_ l_ 0)).setCell ⟨rb,3,N_⟩ (i_ l_ 8));rw[←hw1]at M1;have K1:=nY hr hn M1;have HW:=af hw1;obtain⟨x,hx⟩:=X_ ((l.getD P 0).toNat);have XZ:x<256:=by rw[←hx];exact jM _
 have HX:=af hx;have BY:Hid (∀V,Mv W H0 V (Q3 rb (s_ a n vc) P 0 8 cut bad::Hr)→P<n→∃g,a=S_ ⟨g,0,N_⟩∧V.cell? ⟨g,P,N_⟩=S_ (i_ .u8 (x:Int))):=af (by intro V m hlt;obtain⟨g,cap,cur',e,-⟩:=dh.form K1.1 (by rw[K1.2.1];omega);injection e with e1;subst e1;refine⟨g,rfl,?_⟩;have:=(dh.cell K1.1 (Sat.right (A:=[_]) m.sat) (show(Value.slice (S_ ⟨g,0,N_⟩) n vc)=s_ (S_ ⟨g,0,N_⟩) l.length vc by rw[K1.2.1]) P (by rw[K1.2.1];omega)).1;rw[this,←HX.out];unfold cellsB;rw[aV,ai (by rw[K1.2.1];exact hlt),ax,ai (by rw[K1.2.1];exact hlt)];rfl);have X0:Hid (n≤P→x=0):=af (by intro h;rw[←HX.out,ax,iQ (by rw[K1.2.1];exact h)];rfl);have alu:Hid (∀(V:World) (L:Nat) (C B:Bool),Mv W H0 V (Q3 rb (s_ a n vc) (P+1) x L C B::Hr)→(if cur=255 then 7 else 8)=L→(cut||decide (n≤P))=C→(if cur=255 then bad||decide (128≤x)else bad)=B→Mv W (Q3 rb (s_ a n vc) P cur left cut bad::Hr) V (Q3 rb (s_ a n vc) (P+1) (l.getD P 0).toNat (if cur=255 then 7 else 8) (cut||decide (n≤P)) (if cur=255 then bad||decide (128≤(l.getD P 0).toNat)else bad)::Hr)):=af (by intro V L C B m h1 h2 h3;rw[HX.out,h1,h2,h3,hH0];exact m);obtain⟨Q,hQ⟩:∃Q:World→Prop,Q=fun V=>Mv W (Q3 rb (s_ a n vc) P cur left cut bad::Hr) V (Q3 rb (s_ a n vc) (P+1) (l.getD P 0).toNat (if cur=255 then 7 else 8) (cut||decide (n≤P)) (if cur=255 then bad||decide (128≤(l.getD P 0).toNat)else bad)::Hr):=⟨_,rfl⟩;have FIN:Hid (∀(V:World) (L:Nat) (C B:Bool),Mv W H0 V (Q3 rb (s_ a n vc) (P+1) x L C B::Hr)→(if cur=255 then 7 else 8)=L→(cut||decide (n≤P))=C→(if cur=255 then bad||decide (128≤x)else bad)=B→Q V):=af (by rw[hQ];exact alu.out)
 suffices hh:Calls P_ 96 #[p_ (S_ ⟨rb,0,N_⟩)] W fun e w'=>e=r_ (t_ #[])∧Q w' by refine hh.mono ?_;rintro e w' ⟨h1,h2⟩;rw[hQ]at h2;exact⟨h1,h2⟩
 clear alu hQ;have hcI:((P+1:Nat):Int)=P+1:=by push_cast;rfl
 clear hr hs M0 M1 hw1 hx hH0 hn;by_cases hlt:P<n
 ·have d1:decide ((P:Int)<n)=T_:=aQ (by omega);have al2:(P:Int)<n:=by omega
  by_cases hw:cur=255
  ·have hp:=h0 hw;subst hw;clear h0;cases bad with
   |true=>
    go_enter Tryz.func96,Tryz.ntmps96;go_upto_region 2 with fail;rw[←HW.out];clear z0 z1 z2 z3 f2 f3;obtain⟨g,rfl,-⟩:=BY _ K1.2.2 hlt;have y0:w1.cell? ⟨rb,0,N_⟩=S_ (s_ (S_ ⟨g,0,N_⟩) n vc):=K1.2.2.cell 0 rfl 0;have y1:w1.cell? ⟨rb,1,N_⟩=S_ (i_ l_ P):=K1.2.2.cell 0 rfl 1;go_quiet (fail);have m1:=K1.2.2.drewN nq;generalize w1.drewN nq=w2 at*;have y0:=m1.cell 0 rfl 0;have y1:=m1.cell 0 rfl 1;have y2:=m1.cell 0 rfl 2;have y3:=m1.cell 0 rfl 3;have y4:=m1.cell 0 rfl 4;have y5:=m1.cell 0 rfl 5;have g1:=m1.frozen 0 rfl 1;have g2:=m1.frozen 0 rfl 2;have g3:=m1.frozen 0 rfl 3;have g4:=m1.frozen 0 rfl 4;have g5:=m1.frozen 0 rfl 5;obtain⟨g',e',hc⟩:=BY _ m1 hlt;cases e';go_upto_region 3 with fail;go_still_tail 13,(by kernel_rfl);go_wp2_with fail;refine dm (bH rfl _ _ _) rfl ⟨rfl,FIN _ 7 cut T_ ?_ ?_ ?_ ?_⟩
    ·have m2:=((((m1.drew.set 2 (i_ l_ x)).set 1 (i_ l_ ((P:Int)+1))).set 3 (i_ l_ 7)).set 5 (b_ T_));rw[←hcI]at m2;exact m2
    ·simp
    ·simp;omega
    ·simp
   |false=>
    by_cases h128:128≤x
    ·have d2:decide ((128:Int)≤x)=T_:=aQ (by omega);go_enter Tryz.func96,Tryz.ntmps96;go_upto_region 2 with fail;rw[←HW.out];clear z0 z1 z2 z3 f2 f3;obtain⟨g,rfl,-⟩:=BY _ K1.2.2 hlt;have y0:w1.cell? ⟨rb,0,N_⟩=S_ (s_ (S_ ⟨g,0,N_⟩) n vc):=K1.2.2.cell 0 rfl 0;have y1:w1.cell? ⟨rb,1,N_⟩=S_ (i_ l_ P):=K1.2.2.cell 0 rfl 1;go_quiet (fail);have m1:=K1.2.2.drewN nq;generalize w1.drewN nq=w2 at*;have y0:=m1.cell 0 rfl 0;have y1:=m1.cell 0 rfl 1;have y2:=m1.cell 0 rfl 2;have y3:=m1.cell 0 rfl 3;have y4:=m1.cell 0 rfl 4;have y5:=m1.cell 0 rfl 5;have g1:=m1.frozen 0 rfl 1;have g2:=m1.frozen 0 rfl 2;have g3:=m1.frozen 0 rfl 3;have g4:=m1.frozen 0 rfl 4;have g5:=m1.frozen 0 rfl 5;obtain⟨g',e',hc⟩:=BY _ m1 hlt;cases e';go_upto_region 3 with fail;go_still_tail 13,(by kernel_rfl);go_wp2_with fail;refine dm (bH rfl _ _ _) rfl ⟨rfl,FIN _ 7 cut T_ ?_ ?_ ?_ ?_⟩
     ·have m2:=((((m1.drew.set 2 (i_ l_ x)).set 1 (i_ l_ ((P:Int)+1))).set 3 (i_ l_ 7)).set 5 (b_ T_));rw[←hcI]at m2;exact m2
     ·simp
     ·simp;omega
     ·simp;omega
    ·have d2:decide ((128:Int)≤x)=F_:=aW (by omega);go_enter Tryz.func96,Tryz.ntmps96;go_upto_region 2 with fail;rw[←HW.out];clear z0 z1 z2 z3 f2 f3;obtain⟨g,rfl,-⟩:=BY _ K1.2.2 hlt;have y0:w1.cell? ⟨rb,0,N_⟩=S_ (s_ (S_ ⟨g,0,N_⟩) n vc):=K1.2.2.cell 0 rfl 0;have y1:w1.cell? ⟨rb,1,N_⟩=S_ (i_ l_ P):=K1.2.2.cell 0 rfl 1;go_quiet (fail);have m1:=K1.2.2.drewN nq;generalize w1.drewN nq=w2 at*;have y0:=m1.cell 0 rfl 0;have y1:=m1.cell 0 rfl 1;have y2:=m1.cell 0 rfl 2;have y3:=m1.cell 0 rfl 3;have y4:=m1.cell 0 rfl 4;have y5:=m1.cell 0 rfl 5;have g1:=m1.frozen 0 rfl 1;have g2:=m1.frozen 0 rfl 2;have g3:=m1.frozen 0 rfl 3;have g4:=m1.frozen 0 rfl 4;have g5:=m1.frozen 0 rfl 5;obtain⟨g',e',hc⟩:=BY _ m1 hlt;cases e';go_upto_region 3 with fail;go_still_tail 13,(by kernel_rfl);go_wp2_with fail;refine dm (bH rfl _ _ _) rfl ⟨rfl,FIN _ 7 cut F_ ?_ ?_ ?_ ?_⟩
     ·have m2:=((((m1.drew.set 2 (i_ l_ x)).set 1 (i_ l_ ((P:Int)+1))).set 3 (i_ l_ 7)).set 5 (b_ F_));rw[←hcI]at m2;exact m2
     ·simp
     ·simp;omega
     ·simp;omega
  ·have dw:((cur:Int)==255)=F_:=by simp;omega
   have hw2:¬(cur:Int)=255:=by omega
   clear h0;by_cases hp:0<P
   ·cases bad with
    |true=>
     go_enter Tryz.func96,Tryz.ntmps96;go_upto_region 2 with fail;rw[←HW.out];clear z0 z1 z2 z3 f2 f3;obtain⟨g,rfl,-⟩:=BY _ K1.2.2 hlt;have y0:w1.cell? ⟨rb,0,N_⟩=S_ (s_ (S_ ⟨g,0,N_⟩) n vc):=K1.2.2.cell 0 rfl 0;have y1:w1.cell? ⟨rb,1,N_⟩=S_ (i_ l_ P):=K1.2.2.cell 0 rfl 1;go_quiet (fail);have m1:=K1.2.2.drewN nq;generalize w1.drewN nq=w2 at*;have y0:=m1.cell 0 rfl 0;have y1:=m1.cell 0 rfl 1;have y2:=m1.cell 0 rfl 2;have y3:=m1.cell 0 rfl 3;have y4:=m1.cell 0 rfl 4;have y5:=m1.cell 0 rfl 5;have g1:=m1.frozen 0 rfl 1;have g2:=m1.frozen 0 rfl 2;have g3:=m1.frozen 0 rfl 3;have g4:=m1.frozen 0 rfl 4;have g5:=m1.frozen 0 rfl 5;obtain⟨g',e',hc⟩:=BY _ m1 hlt;cases e';go_upto_region 3 with fail;go_still_tail 13,(by kernel_rfl);go_wp2_with fail;refine dm (bH rfl _ _ _) rfl ⟨rfl,FIN _ 8 cut T_ ?_ ?_ ?_ ?_⟩
     ·have m2:=((m1.drew.set 2 (i_ l_ x)).set 1 (i_ l_ ((P:Int)+1)));rw[←hcI]at m2;exact m2
     ·rw[aJ hw]
     ·simp;omega
     ·rw[aJ hw]
    |false=>
     go_enter Tryz.func96,Tryz.ntmps96;go_upto_region 2 with fail;rw[←HW.out];clear z0 z1 z2 z3 f2 f3;obtain⟨g,rfl,-⟩:=BY _ K1.2.2 hlt;have y0:w1.cell? ⟨rb,0,N_⟩=S_ (s_ (S_ ⟨g,0,N_⟩) n vc):=K1.2.2.cell 0 rfl 0;have y1:w1.cell? ⟨rb,1,N_⟩=S_ (i_ l_ P):=K1.2.2.cell 0 rfl 1;go_quiet (fail);have m1:=K1.2.2.drewN nq;generalize w1.drewN nq=w2 at*;have y0:=m1.cell 0 rfl 0;have y1:=m1.cell 0 rfl 1;have y2:=m1.cell 0 rfl 2;have y3:=m1.cell 0 rfl 3;have y4:=m1.cell 0 rfl 4;have y5:=m1.cell 0 rfl 5;have g1:=m1.frozen 0 rfl 1;have g2:=m1.frozen 0 rfl 2;have g3:=m1.frozen 0 rfl 3;have g4:=m1.frozen 0 rfl 4;have g5:=m1.frozen 0 rfl 5;obtain⟨g',e',hc⟩:=BY _ m1 hlt;cases e';go_upto_region 3 with fail;go_still_tail 13,(by kernel_rfl);go_wp2_with fail;refine dm (bH rfl _ _ _) rfl ⟨rfl,FIN _ 8 cut F_ ?_ ?_ ?_ ?_⟩
     ·have m2:=((m1.drew.set 2 (i_ l_ x)).set 1 (i_ l_ ((P:Int)+1)));rw[←hcI]at m2;exact m2
     ·rw[aJ hw]
     ·simp;omega
     ·rw[aJ hw]
   ·cases bad with
    |true=>
     go_enter Tryz.func96,Tryz.ntmps96;go_upto_region 2 with fail;rw[←HW.out];clear z0 z1 z2 z3 f2 f3;obtain⟨g,rfl,-⟩:=BY _ K1.2.2 hlt;have y0:w1.cell? ⟨rb,0,N_⟩=S_ (s_ (S_ ⟨g,0,N_⟩) n vc):=K1.2.2.cell 0 rfl 0;have y1:w1.cell? ⟨rb,1,N_⟩=S_ (i_ l_ P):=K1.2.2.cell 0 rfl 1;go_quiet (fail);have m1:=K1.2.2.drewN nq;generalize w1.drewN nq=w2 at*;have y0:=m1.cell 0 rfl 0;have y1:=m1.cell 0 rfl 1;have y2:=m1.cell 0 rfl 2;have y3:=m1.cell 0 rfl 3;have y4:=m1.cell 0 rfl 4;have y5:=m1.cell 0 rfl 5;have g1:=m1.frozen 0 rfl 1;have g2:=m1.frozen 0 rfl 2;have g3:=m1.frozen 0 rfl 3;have g4:=m1.frozen 0 rfl 4;have g5:=m1.frozen 0 rfl 5;obtain⟨g',e',hc⟩:=BY _ m1 hlt;cases e';go_upto_region 3 with fail;go_still_tail 13,(by kernel_rfl);go_wp2_with fail;refine dm (bH rfl _ _ _) rfl ⟨rfl,FIN _ 8 cut T_ ?_ ?_ ?_ ?_⟩
     ·have m2:=((m1.drew.set 2 (i_ l_ x)).set 1 (i_ l_ ((P:Int)+1)));rw[←hcI]at m2;exact m2
     ·rw[aJ hw]
     ·simp;omega
     ·rw[aJ hw]
    |false=>
     go_enter Tryz.func96,Tryz.ntmps96;go_upto_region 2 with fail;rw[←HW.out];clear z0 z1 z2 z3 f2 f3;obtain⟨g,rfl,-⟩:=BY _ K1.2.2 hlt;have y0:w1.cell? ⟨rb,0,N_⟩=S_ (s_ (S_ ⟨g,0,N_⟩) n vc):=K1.2.2.cell 0 rfl 0;have y1:w1.cell? ⟨rb,1,N_⟩=S_ (i_ l_ P):=K1.2.2.cell 0 rfl 1;go_quiet (fail);have m1:=K1.2.2.drewN nq;generalize w1.drewN nq=w2 at*;have y0:=m1.cell 0 rfl 0;have y1:=m1.cell 0 rfl 1;have y2:=m1.cell 0 rfl 2;have y3:=m1.cell 0 rfl 3;have y4:=m1.cell 0 rfl 4;have y5:=m1.cell 0 rfl 5;have g1:=m1.frozen 0 rfl 1;have g2:=m1.frozen 0 rfl 2;have g3:=m1.frozen 0 rfl 3;have g4:=m1.frozen 0 rfl 4;have g5:=m1.frozen 0 rfl 5;obtain⟨g',e',hc⟩:=BY _ m1 hlt;cases e';go_upto_region 3 with fail;go_still_tail 13,(by kernel_rfl);go_wp2_with fail;refine dm (bH rfl _ _ _) rfl ⟨rfl,FIN _ 8 cut F_ ?_ ?_ ?_ ?_⟩
     ·have m2:=((m1.drew.set 2 (i_ l_ x)).set 1 (i_ l_ ((P:Int)+1)));rw[←hcI]at m2;exact m2
     ·rw[aJ hw]
     ·simp;omega
     ·rw[aJ hw]
 ·have d1:decide ((P:Int)<n)=F_:=aW (by omega);have al2:¬(P:Int)<n:=by omega
  by_cases hw:cur=255
  ·have hp:=h0 hw;subst hw;clear h0;cases bad with
   |true=>
    go_enter Tryz.func96,Tryz.ntmps96;go_upto_region 2 with fail;rw[←HW.out];clear z0 z1 z2 z3 f2 f3;have y0:w1.cell? ⟨rb,0,N_⟩=S_ (s_ a n vc):=K1.2.2.cell 0 rfl 0;have y1:w1.cell? ⟨rb,1,N_⟩=S_ (i_ l_ P):=K1.2.2.cell 0 rfl 1;go_quiet (fail);have m1:=K1.2.2.drewN nq;generalize w1.drewN nq=w2 at*;have y0:=m1.cell 0 rfl 0;have y1:=m1.cell 0 rfl 1;have y2:=m1.cell 0 rfl 2;have y3:=m1.cell 0 rfl 3;have y4:=m1.cell 0 rfl 4;have y5:=m1.cell 0 rfl 5;have g1:=m1.frozen 0 rfl 1;have g2:=m1.frozen 0 rfl 2;have g3:=m1.frozen 0 rfl 3;have g4:=m1.frozen 0 rfl 4;have g5:=m1.frozen 0 rfl 5;go_wp2_with fail;refine dm (bH rfl _ _ _) rfl ⟨rfl,FIN _ 7 T_ T_ ?_ ?_ ?_ ?_⟩
    ·have m2:=((((m1.set 4 (b_ T_)).set 1 (i_ l_ ((P:Int)+1))).set 3 (i_ l_ 7)).set 5 (b_ T_));rw[←hcI]at m2;rw[X0 (by omega)];exact m2
    ·simp
    ·simp;omega
    ·simp
   |false=>
    by_cases h128:128≤x
    ·have d2:decide ((128:Int)≤x)=T_:=aQ (by omega);exfalso;have h9:=X0 (by omega);omega
    ·have d2:decide ((128:Int)≤x)=F_:=aW (by omega);go_enter Tryz.func96,Tryz.ntmps96;go_upto_region 2 with fail;rw[←HW.out];clear z0 z1 z2 z3 f2 f3;have y0:w1.cell? ⟨rb,0,N_⟩=S_ (s_ a n vc):=K1.2.2.cell 0 rfl 0;have y1:w1.cell? ⟨rb,1,N_⟩=S_ (i_ l_ P):=K1.2.2.cell 0 rfl 1;go_quiet (fail);have m1:=K1.2.2.drewN nq;generalize w1.drewN nq=w2 at*;have y0:=m1.cell 0 rfl 0;have y1:=m1.cell 0 rfl 1;have y2:=m1.cell 0 rfl 2;have y3:=m1.cell 0 rfl 3;have y4:=m1.cell 0 rfl 4;have y5:=m1.cell 0 rfl 5;have g1:=m1.frozen 0 rfl 1;have g2:=m1.frozen 0 rfl 2;have g3:=m1.frozen 0 rfl 3;have g4:=m1.frozen 0 rfl 4;have g5:=m1.frozen 0 rfl 5;go_wp2_with fail;refine dm (bH rfl _ _ _) rfl ⟨rfl,FIN _ 7 T_ F_ ?_ ?_ ?_ ?_⟩
     ·have m2:=((((m1.set 4 (b_ T_)).set 1 (i_ l_ ((P:Int)+1))).set 3 (i_ l_ 7)).set 5 (b_ F_));rw[←hcI]at m2;rw[X0 (by omega)];exact m2
     ·simp
     ·simp;omega
     ·simp;omega
  ·have dw:((cur:Int)==255)=F_:=by simp;omega
   have hw2:¬(cur:Int)=255:=by omega
   clear h0;by_cases hp:0<P
   ·cases bad with
    |true=>
     go_enter Tryz.func96,Tryz.ntmps96;go_upto_region 2 with fail;rw[←HW.out];clear z0 z1 z2 z3 f2 f3;have y0:w1.cell? ⟨rb,0,N_⟩=S_ (s_ a n vc):=K1.2.2.cell 0 rfl 0;have y1:w1.cell? ⟨rb,1,N_⟩=S_ (i_ l_ P):=K1.2.2.cell 0 rfl 1;go_quiet (fail);have m1:=K1.2.2.drewN nq;generalize w1.drewN nq=w2 at*;have y0:=m1.cell 0 rfl 0;have y1:=m1.cell 0 rfl 1;have y2:=m1.cell 0 rfl 2;have y3:=m1.cell 0 rfl 3;have y4:=m1.cell 0 rfl 4;have y5:=m1.cell 0 rfl 5;have g1:=m1.frozen 0 rfl 1;have g2:=m1.frozen 0 rfl 2;have g3:=m1.frozen 0 rfl 3;have g4:=m1.frozen 0 rfl 4;have g5:=m1.frozen 0 rfl 5;go_wp2_with fail;refine dm (bH rfl _ _ _) rfl ⟨rfl,FIN _ 8 T_ T_ ?_ ?_ ?_ ?_⟩
     ·have m2:=((m1.set 4 (b_ T_)).set 1 (i_ l_ ((P:Int)+1)));rw[←hcI]at m2;rw[X0 (by omega)];exact m2
     ·rw[aJ hw]
     ·simp;omega
     ·rw[aJ hw]
    |false=>
     go_enter Tryz.func96,Tryz.ntmps96;go_upto_region 2 with fail;rw[←HW.out];clear z0 z1 z2 z3 f2 f3;have y0:w1.cell? ⟨rb,0,N_⟩=S_ (s_ a n vc):=K1.2.2.cell 0 rfl 0;have y1:w1.cell? ⟨rb,1,N_⟩=S_ (i_ l_ P):=K1.2.2.cell 0 rfl 1;go_quiet (fail);have m1:=K1.2.2.drewN nq;generalize w1.drewN nq=w2 at*;have y0:=m1.cell 0 rfl 0;have y1:=m1.cell 0 rfl 1;have y2:=m1.cell 0 rfl 2;have y3:=m1.cell 0 rfl 3;have y4:=m1.cell 0 rfl 4;have y5:=m1.cell 0 rfl 5;have g1:=m1.frozen 0 rfl 1;have g2:=m1.frozen 0 rfl 2;have g3:=m1.frozen 0 rfl 3;have g4:=m1.frozen 0 rfl 4;have g5:=m1.frozen 0 rfl 5;go_wp2_with fail;refine dm (bH rfl _ _ _) rfl ⟨rfl,FIN _ 8 T_ F_ ?_ ?_ ?_ ?_⟩
     ·have m2:=((m1.set 4 (b_ T_)).set 1 (i_ l_ ((P:Int)+1)));rw[←hcI]at m2;rw[X0 (by omega)];exact m2
     ·rw[aJ hw]
     ·simp;omega
     ·rw[aJ hw]
   ·cases bad with
    |true=>
     go_enter Tryz.func96,Tryz.ntmps96;go_upto_region 2 with fail;rw[←HW.out];clear z0 z1 z2 z3 f2 f3;have y0:w1.cell? ⟨rb,0,N_⟩=S_ (s_ a n vc):=K1.2.2.cell 0 rfl 0;have y1:w1.cell? ⟨rb,1,N_⟩=S_ (i_ l_ P):=K1.2.2.cell 0 rfl 1;go_quiet (fail);have m1:=K1.2.2.drewN nq;generalize w1.drewN nq=w2 at*;have y0:=m1.cell 0 rfl 0;have y1:=m1.cell 0 rfl 1;have y2:=m1.cell 0 rfl 2;have y3:=m1.cell 0 rfl 3;have y4:=m1.cell 0 rfl 4;have y5:=m1.cell 0 rfl 5;have g1:=m1.frozen 0 rfl 1;have g2:=m1.frozen 0 rfl 2;have g3:=m1.frozen 0 rfl 3;have g4:=m1.frozen 0 rfl 4;have g5:=m1.frozen 0 rfl 5;go_wp2_with fail;refine dm (bH rfl _ _ _) rfl ⟨rfl,FIN _ 8 T_ T_ ?_ ?_ ?_ ?_⟩
     ·have m2:=((m1.set 4 (b_ T_)).set 1 (i_ l_ ((P:Int)+1)));rw[←hcI]at m2;rw[X0 (by omega)];exact m2
     ·rw[aJ hw]
     ·simp;omega
     ·rw[aJ hw]
    |false=>
     go_enter Tryz.func96,Tryz.ntmps96;go_upto_region 2 with fail;rw[←HW.out];clear z0 z1 z2 z3 f2 f3;have y0:w1.cell? ⟨rb,0,N_⟩=S_ (s_ a n vc):=K1.2.2.cell 0 rfl 0;have y1:w1.cell? ⟨rb,1,N_⟩=S_ (i_ l_ P):=K1.2.2.cell 0 rfl 1;go_quiet (fail);have m1:=K1.2.2.drewN nq;generalize w1.drewN nq=w2 at*;have y0:=m1.cell 0 rfl 0;have y1:=m1.cell 0 rfl 1;have y2:=m1.cell 0 rfl 2;have y3:=m1.cell 0 rfl 3;have y4:=m1.cell 0 rfl 4;have y5:=m1.cell 0 rfl 5;have g1:=m1.frozen 0 rfl 1;have g2:=m1.frozen 0 rfl 2;have g3:=m1.frozen 0 rfl 3;have g4:=m1.frozen 0 rfl 4;have g5:=m1.frozen 0 rfl 5;go_wp2_with fail;refine dm (bH rfl _ _ _) rfl ⟨rfl,FIN _ 8 T_ F_ ?_ ?_ ?_ ?_⟩
     ·have m2:=((m1.set 4 (b_ T_)).set 1 (i_ l_ ((P:Int)+1)));rw[←hcI]at m2;rw[X0 (by omega)];exact m2
     ·rw[aJ hw]
     ·simp;omega
     ·rw[aJ hw]
end
section
open Go.RowKit
variable{vR:Value}
theorem aeq(rb:Nat)(l:List UInt8)(s:jG)(W:World)(H:List HB)(h:iq vR rb l s H)(hs:Sat W H)(hP:s.begun≤80000000)(hl:l.length≤90000000)(h0:s.left=0):Calls P_ 96 #[p_ (S_ ⟨rb,0,N_⟩)] W fun e w'=>e=r_ (t_ #[])∧∃H',iq vR rb l (Dx l s) H'∧Mv W H w' H':=by
 obtain⟨Hr,rfl,hr⟩:=h;have hc:(mJ l s.begun).toNat=255↔mJ l s.begun=255:=⟨fun h=>gU.1 h,fun h=>by rw[h];rfl⟩;refine(Pn rb l vR Hr s.begun (mJ l s.begun).toNat s.left (decide (l.length<s.begun)) s.bad W hr hs hP hl (fun h=>by
  rcases iZ s.begun with e|e
  ·rw[e]at h;have h9:mJ l 0=0:=rfl;rw[h9]at h;exact absurd h (by decide)
  ·exact e) (by have:=jM (mJ l s.begun);omega)).mono ?_
 rintro e w' ⟨rfl,m⟩;have eC:(decide (l.length<s.begun)||decide (l.length≤s.begun))=decide (l.length<s.begun+1):=by
  by_cases h1:l.length≤s.begun
  ·rw[aQ h1,aQ (show l.length<s.begun+1 by omega),Bool.or_true]
  ·rw[aW h1,aW (show¬l.length<s.begun by omega),aW (show¬l.length<s.begun+1 by omega)];rfl
 have eP:mJ l (s.begun+1)=l.getD s.begun 0:=by unfold mJ;rw[aJ (by omega),gV]
 rw[eC]at m;refine⟨rfl,_,⟨Hr,?_,hr⟩,m⟩;unfold Dx;rw[aK h0];by_cases h2:mJ l s.begun=255
 ·rw[aK h2,aK (hc.2 h2),aK (hc.2 h2),eP]
 ·rw[aJ h2,aJ (fun x=>h2 (hc.1 x)),aJ (fun x=>h2 (hc.1 x)),eP]
theorem VZ(v:Value)(l:List UInt8)(H:List HB)(w:World)(hv:dR v l H)(hs:Sat w H):Calls P_ 42 #[v] w fun e w'=>∃rb H',e=r_ (p_ (S_ ⟨rb,0,N_⟩))∧iq v rb l oL H'∧Mv w H w' H':=by
 obtain⟨a,c,rfl⟩:=hv.slice;have M:=(Mv.refl hs).alloc 172 #[s_ a l.length c,i_ l_ 0,i_ l_ 0,i_ l_ 0,b_ F_,b_ F_];have K:=dS hv M;obtain⟨n,hn⟩:=X_ (l.length);rw[hn]at K⊢;clear hv hs M hn;go_enter Tryz.func42,Tryz.ntmps42;go_wp2_with fail;go_ret
 first
  |exact⟨_,_,rfl,⟨H,rfl,K.1⟩,K.2⟩
  |exact⟨_,rfl,_,⟨H,rfl,K.1⟩,K.2⟩
theorem Iu(rb:Nat)(l:List UInt8)(s:jG)(W:World)(H:List HB)(h:iq vR rb l s H)(hs:Sat W H)(hl:l.length≤90000000)(hb:s.begun≤80000000)(h8:s.left≤8):Calls P_ 93 #[p_ (S_ ⟨rb,0,N_⟩)] W fun e w'=>e=r_ (i_ l_ ((eY l s).1:Int))∧∃H',iq vR rb l (eY l s).2 H'∧Mv W H w' H':=by
 have NX:=af (fun h0=>aeq rb l s W H h hs hb hl h0);have M0:=Mv.refl hs;have c3:W.cell? ⟨rb,3,N_⟩=S_ (i_ l_ s.left):=by obtain⟨Hr,rfl,-⟩:=id h;exact M0.cell 0 rfl 3
 obtain⟨t,ht⟩:=X_ (Dx l s);have htl:1≤t.left∧t.left≤8:=by
  rw[←ht];unfold Dx;split
  ·split<;>exact⟨by simp,by simp⟩
  ·omega
 have e1:eY l s=((mJ l t.begun).toNat/2^(t.left-1)%2,⟨t.begun,t.left-1,t.bad⟩):=by unfold eY;simp only[ht]
 rw[ht]at NX;have KH:=dS h M0;have HT:=af ht;have E1:=af e1;obtain⟨q,hq⟩:=X_ (eY l s);rw[hq]at E1⊢;clear h hs M0 ht e1 hq;go_enter Tryz.func93,Tryz.ntmps93;go_upto_if 7 with fail;go_cut [7]from 8 (fun _ wx=>∃H',iq vR rb l t H'∧Mv W H wx H')
 case first=>
  by_cases h0:s.left=0
  ·have d:((s.left:Int)==0)=T_:=by simp;omega
   have N0:=af (NX h0);rw[h0]at c3;clear NX h0;go_wp2_with (go_at_call 96;refine N0.out.mono ?_;rintro e w1 ⟨rfl,H1,q1,q2⟩;have K1:=dS q1 q2;clear q1 q2);go_meet;exact⟨H1,K1.1,K1.2⟩
  ·have d:((s.left:Int)==0)=F_:=by simp;exact h0
   have hh:¬(s.left:Int)=0:=by omega
   have e:Hid (t=s):=af (by rw[←HT.out];unfold Dx;rw[aJ h0]);clear NX;go_wp2_with fail;go_meet;exact⟨H,by rw[e.out];exact KH.1,KH.2⟩
 case rest=>
  obtain⟨H1,h1,m⟩:=hcut;obtain⟨Hr,rfl,hr⟩:=h1;clear c3 NX;have y3:wc.cell? ⟨rb,3,N_⟩=S_ (i_ l_ t.left):=m.cell 0 rfl 3;have g3:=m.frozen 0 rfl 3;obtain⟨k,hk⟩:∃k,t.left=k+1:=⟨t.left-1,by omega⟩;have hk7:k≤7:=by omega
  have ek:(t.left:Int)-1=(k:Int):=by omega
  have M2:=m.set 3 (i_ l_ k);have K2:=dS hr M2;obtain⟨w2,hw2⟩:=Y_ (wc.setCell ⟨rb,3,N_⟩ (i_ l_ k));rw[←hw2]at K2 M2;have HW2:=af hw2;obtain⟨pq,hpq⟩:=X_ (mJ l t.begun);have z2:w2.cell? ⟨rb,2,N_⟩=S_ (i_ l_ pq.toNat):=by rw[←hpq];exact M2.cell 0 rfl 2
  have z3:w2.cell? ⟨rb,3,N_⟩=S_ (i_ l_ k):=M2.cell 0 rfl 3;have hp8:=jM pq;have HP:=af hpq;have HK:=af hk;clear m hr M2 hw2 hpq;go_upto_region 4 with fail;rw[←HW2.out];clear y3 g3;go_still_tail 11,(by kernel_rfl);go_wp2_with fail;go_ret;rw[E1.out,HP.out,HK.out,gV];refine⟨?_,_,⟨Hr,rfl,K2.1⟩,?_⟩
  ·refine JY ?_;show _=((pq.toNat/2^k%2:Nat):Int);have ew:IntKind.u64.wrap (k:Int)=k:=IntWalk.u64_in _ (by omega);rw[ew,Int.toNat_natCast,show min k 64=k by omega];exact aaz pq k
  ·have h5:=K2.2.drew;exact h5
end
end Go.Proofs.YtjngfhgakokejaaGreat
