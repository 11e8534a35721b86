/- A string of a slice's bytes. PacketEncodes: the walk. A law's shapes, opened: they read. -/
import Derived.Test.YtjngfhgakokejaaGreatZp01
import Derived.Laws.BytesArg
import Derived.Test.YtjngfhgakokejaaGreatZp26
import Derived.Test.YtjngfhgakokejaaGreatChecked
import Derived.Test.YtjngfhgakokejaaGreatZp25
import Derived.WalkKit
import Derived.ProofKit
import Derived.OpenShut
import Derived.ShutString
import Derived.ChangeOld
import Derived.Below
import Derived.ChangeSlices
import Derived.ChangeArms
import Derived.Deep.Slices
set_option maxRecDepth 100000
set_option maxHeartbeats 8000000
namespace Go.Proofs.YtjngfhgakokejaaGreat
section
open Go.RowKit
theorem conv_string {w:World} {v:Value} {l:List UInt8} (h:BV w v l):(convert 30 9 v).run Tryz.prog w=.ok (.string ⟨l.toArray⟩) w:=by
 obtain ⟨A,c,rfl,h1,h2,h3⟩:=h
 rcases A with _ | ad
 ·have h0:l.length=0:=by
   rcases Nat.eq_zero_or_pos l.length with h | h
   ·exact h
   ·obtain ⟨_,h,_⟩:=h3.2 h;cases h
  obtain rfl:l=[]:=List.eq_nil_of_length_eq_zero h0
  exact run_convert_bytes_nil (P:=Tryz.prog) w 30 5 Tryz.underlying30 Tryz.underlying5 0 c 9 Tryz.underlying9
 ·exact run_convert_bytes_back (P:=Tryz.prog) w 30 9 5 ad c l Tryz.underlying30 Tryz.underlying5 Tryz.underlying9 (fun j hj=>by
   obtain ⟨ad',e,-,hc⟩:=h3.cell (List.getElem?_eq_getElem hj)
   injection e with e
   rw [e]
   exact hc)
end
section
open Go.RowKit
theorem few_any (A:Option Addr) (n c:Nat) (W:World) (hn:n≤9223372036854775807):Calls Tryz.prog 7 #[.slice A n c] W fun e w'=>e=.returned (.bool (decide (n≤3)))∧w'=W:=by
 by_cases h:n≤3
 ·have d:decide ((n:Int)≤3)=true:=decide_eq_true (by omega)
  have d2:=Lib.hid (decide_eq_true h)
  clear h
  go_enter Tryz.func7,Tryz.ntmps7
  go_wp2_with fail
  go_ret
  exact ⟨by rw [d2.out];rfl,rfl⟩
 ·have d:decide ((n:Int)≤3)=false:=decide_eq_false (by omega)
  have d2:=Lib.hid (decide_eq_false h)
  clear h
  go_enter Tryz.func7,Tryz.ntmps7
  go_wp2_with fail
  go_ret
  exact ⟨by rw [d2.out];rfl,rfl⟩
theorem penc_w (v:Value) (D:List BandA) (M:Nat→BandM) (st c k:Nat) (HL HB0 X:List HB) (w0 V:World) (hL:ListH v D HL) (hB:BandsR D M HB0) (m:Mv w0 [] V ((HL++HB0)++X)) (hk:k<c) (hc:c≤6) (hst:st≤63) (hD:D.length≤3) (hn:∀ d∈D,d.n≤9) (hg:∀ d∈D,BothB (M d.bb)) :
  Calls Tryz.prog 10 #[v,.int .i64 (st:Int),.int .i64 (c:Int),.int .i64 (k:Int)] V fun e W'=>∃ a1 n1 c1 a2 n2 c2 H1 H2 HB',e=.returned (.tuple #[.slice a1 n1 c1,.slice a2 n2 c2])∧RowB (.slice a1 n1 c1) (wout (wbits (encS c st k D M).bits)) H1∧RowB (.slice a2 n2 c2) (encS c st k D M).body H2 ∧
   BandsR D (encS c st k D M).M HB'∧Mv w0 [] W' ((H1++H2)++((HL++HB')++X)):=by
 obtain ⟨A,cA,rfl⟩:=RowH.slice hL
 have E:=enc_any A cA D M st k c HL HB0 V (by omega) hL hB m.sat.left (by omega) (by omega) hst (by have:=spots_few D hn;omega) (fun d hd=>(hg d hd).g)
 refine Calls.mono E ?_
 rintro e W' ⟨v1,v2,H1,H2,HB',rfl,r1,r2,r3,m1⟩
 obtain ⟨a1,c1,rfl⟩:=RowB.slice r1
 obtain ⟨a2,c2,rfl⟩:=RowB.slice r2
 refine ⟨a1,_,c1,a2,_,c2,H1,H2,HB',rfl,r1,r2,r3,?_⟩
 have h:=Mv.call m m1
 simpa only [List.append_assoc] using h
theorem renc_w (v:Value) (Bs:List Nat) (D:List BandA) (M:Nat→BandM) (st c k:Nat) (HL HB0 X:List HB) (w0 V:World) (hL:RListH v Bs HL) (hB:RBandsQ RBandA Bs D M HB0) (m:Mv w0 [] V ((HL++HB0)++X)) (hk:k<c) (hc:c≤6) (hst:st≤63) (hD:D.length≤3) (hn:∀ d∈D,d.n≤9) (hg:∀ d∈D,BothB (M d.bb)) (hnd:(D.map (·.bb)).Nodup) (hdn:∀ d∈D,(M d.bb).ss.length=d.n) (hsd:SaidInv c k D [] M) :
  Calls Tryz.prog 11 #[v,.int .i64 (st:Int),.int .i64 (c:Int),.int .i64 (k:Int)] V fun e W'=>∃ a1 n1 c1 a2 n2 c2 H1 H2 HB',e=.returned (.tuple #[.slice a1 n1 c1,.slice a2 n2 c2])∧RowB (.slice a1 n1 c1) (wout (wbits (encS c st k D M).bits)) H1∧RowB (.slice a2 n2 c2) (encS c st k D M).body H2 ∧
   RBandsQ RBandA Bs D (encS c st k D M).M HB'∧Mv w0 [] W' ((H1++H2)++((HL++HB')++X)):=by
 obtain ⟨A,cA,rfl⟩:=RowH.slice hL
 have e0:Bs.length=D.length:=hB.len
 have E:=renc_any A cA Bs.length st c k Bs D M HL HB0 V hL hB m.sat.left e0.symm (by omega) hnd hdn ⟨by omega,by omega⟩ (by omega) hst (by have:=spots_few D hn;omega) hsd hg
 refine Calls.mono E ?_
 rintro e W' ⟨v1,v2,H1,H2,HB',rfl,r1,r2,r3,m1⟩
 obtain ⟨a1,c1,rfl⟩:=RowB.slice r1
 obtain ⟨a2,c2,rfl⟩:=RowB.slice r2
 refine ⟨a1,_,c1,a2,_,c2,H1,H2,HB',rfl,r1,r2,r3.mono fun b m H=>rbandA_of,?_⟩
 have h:=Mv.call m m1
 simpa only [List.append_assoc] using h
section
variable {w0 w:World} {A B C D E:List HB}
theorem en_sh1 (m:Mv w0 [] w (A++(B++C))):Mv w0 [] w (C++(A++B)) :=
 m.sub (fun g=>by simp only [cnt_append];omega) (fun c hc=>by simp only [List.mem_append] at hc ⊢;grind)
theorem en_sh2 (m:Mv w0 [] w (E++(C++(A++B)))):Mv w0 [] w (B++C) :=
 m.sub (fun g=>by simp only [cnt_append];omega) (fun c hc=>by simp only [List.mem_append] at hc ⊢;grind)
theorem en_sh3 {G:MkG} (m:Mv w0 [] w (G.heap++[])):Mv w0 [] w ((G.H1++G.B1)++(G.H3++G.B3)) :=
 m.sub (fun g=>by simp only [MkG.heap,cnt_append,cnt_nil];omega) (fun c hc=>by
  simp only [MkG.heap,List.mem_append,List.not_mem_nil,or_false,or_assoc] at hc ⊢
  rcases hc with h | h | h | h <;> simp only [h,true_or,or_true])
end
theorem en_rows {G:MkG} {l:List ShapeM} {style:Nat} {va vb vc vd:Value} (h:G.ok l style l.length va vb vc vd) (hl:l.length≤3) (hs:style≤63) (hk:(keys G.B1).Nodup) (c:Nat) :
  BandsR (G.La.map (·.1)) (modelL G.La) G.B1∧(G.La.map (·.1)).length≤3∧(∀ d∈G.La.map (·.1),d.n≤9)∧(∀ d∈G.La.map (·.1),BothB (modelL G.La d.bb))∧((G.La.map (·.1)).map (·.bb)).Nodup∧RBandsQ RBandA (G.Lc.map (·.1)) (G.La.map (·.1)) (modelL G.La) G.B3∧SaidInv c 0 (G.La.map (·.1)) [] (modelL G.La):=by
 have hnd:=h.ba.nodup hk
 have hm:G.La.map (·.2)=fullB l style:=by rw [h.ma,List.take_of_length_le (by rw [fullB_length];exact Nat.le_refl _)]
 have hm2:G.Lc.map (·.2)=fullB l style:=by rw [h.mc,List.take_of_length_le (by rw [fullB_length];exact Nat.le_refl _)]
 have hb:∀ p∈G.La,BothB p.2∧p.2.w * p.2.h≤9:=fun p hp=>fullB_both l style p.2 (by rw [← hm];exact List.mem_map.2 ⟨p,hp,rfl⟩)
 have hr:∀ p∈G.La,RelN p.2∧∀ x∈p.2.ss,x.said=0:=fun p hp=>full_relN l style hs p.2 (by rw [← hm];exact List.mem_map.2 ⟨p,hp,rfl⟩)
 have hmm:∀ p∈G.La,modelL G.La p.1.bb=p.2:=fun p hp=>modelL_mem hnd hp
 refine ⟨h.ba.bandsR hmm,by rw [List.length_map,(h.lens (Nat.le_refl _)).1];exact hl,?_,?_,by rw [List.map_map];exact hnd,rq_of G.La G.Lc G.B3 _ h.bc (hm.trans hm2.symm) (fun p hp=>(hr p hp).1) hmm,said_zero c G.La _ (fun p hp=>(hr p hp).2) hmm⟩
 ·intro d hd
  obtain ⟨p,hp,rfl⟩:=List.mem_map.1 hd
  rw [h.ba.n p hp]
  exact (hb p hp).2
 ·intro d hd
  obtain ⟨p,hp,rfl⟩:=List.mem_map.1 hd
  rw [hmm p hp]
  exact (hb p hp).1
theorem encodes_any (l:List ShapeM) (v:Value) (x y:Int) (w:World) (hv:RdS w v l) :
  Calls Tryz.prog 3 #[v,.int .i64 x,.int .i64 y] w fun e w'=>e=.returned (.bool true)∧Below w.heap.size w w':=by
 have KN:=Lib.hid (known_any w)
 obtain ⟨A,c,hve,hv1,hv2,-⟩:=id hv
 have lA:l.length≤9223372036854775807:=by unfold maxLen at hv2;omega
 have F1:=Lib.hid fun V=>few_any A l.length c V lA
 by_cases h1:l.length≤3
 ·rw [decide_eq_true h1] at F1
  have hst:=wIn_lt x (n:=64) (by decide)
  have W1:=Lib.hid fun V=>within15W x 64 V (by decide) (by decide)
  have hof:=wIn_lt y (n:=6) (by decide)
  have W2:=Lib.hid fun V=>within15W y 6 V (by decide) (by decide)
  simp only [Int.cast_ofNat_Int] at W1 W2
  obtain ⟨st,hst2⟩:∃ st,wIn x 64=st:=⟨_,rfl⟩
  rw [hst2] at W1 hst
  obtain ⟨o6,ho6⟩:∃ o6,wIn y 6=o6:=⟨_,rfl⟩
  rw [ho6] at W2 hof
  obtain ⟨cn,hcn⟩:∃ cn,cn=1+o6:=⟨_,rfl⟩
  have hcn2:(1:Int)+(o6:Int)=(cn:Int):=by omega
  have hcn6:1≤cn∧cn≤6:=by omega
  have HCN:=Lib.hid hcn2
  have MA:=Lib.hid fun (V:World) (X:List YtjngfhgakokejaaGreat.HB) (mV:Mv w [] V X)=>make_any l st v V (hv.keep mV.below0) h1 (by omega)
  obtain ⟨ln,hln⟩:∃ ln,l.length=ln:=⟨_,rfl⟩
  rw [hln] at hve F1 h1
  have HLT:=Lib.hid (And.intro hln h1)
  clear hv lA hv1 hv2 h1 hst2 hln ho6 hcn
  subst hve
  go_enter Tryz.func3,Tryz.ntmps3
  go_upto_region 6 with (first
   | (go_at_call 6;refine KN.out.mono ?_;rintro e w1 ⟨rfl,m1⟩;have K1:=Lib.hid m1;clear m1)
   | (go_at_call 7;(with_reducible refine (F1.out _).mono ?_);rintro e w' ⟨rfl,rfl⟩)
   | (go_at_call 8;(with_reducible refine (W1.out _).mono ?_);rintro e w' ⟨rfl,rfl⟩)
   | (go_at_call 8;(with_reducible refine (W2.out _).mono ?_);rintro e w' ⟨rfl,rfl⟩))
  try simp only [HCN.out]
  clear F1 W1 W2 KN hcn2
  go_upto_region 7 with (go_at_call 9;(with_reducible refine (MA.out _ _ K1.out).mono ?_);rintro e w2 ⟨va,vb,vc,vd,GA,rfl,q1,q2⟩;have K2:=Lib.hid (And.intro q1 (Mv.call (H:=[]) K1.out q2));clear q1 q2 MA)
  have M4:Mv w [] w2 ((GA.H1++GA.B1)++(GA.H3++GA.B3)):=en_sh3 K2.out.2
  obtain ⟨bA,lA,nA,gA,ndA,bC,sA⟩:=en_rows K2.out.1 (by rw [HLT.out.1];exact HLT.out.2) (by omega) M4.sat.left.right.1 cn
  have LA:=K2.out.1.ra
  have LC:=K2.out.1.rc
  clear K2 K1 HLT
  generalize GA.La.map (·.1)=DA at *
  generalize GA.Lc.map (·.1)=Bs at *
  generalize modelL GA.La=N1 at *
  generalize GA.H1=PA at *
  generalize GA.H3=PC at *
  generalize GA.B1=BA0 at *
  generalize GA.B3=BC0 at *
  have K0:=Lib.hid (And.intro bA (And.intro bC (And.intro sA (And.intro gA M4))))
  have KL:=Lib.hid (And.intro LA (And.intro LC (And.intro lA (And.intro nA ndA))))
  clear bA bC sA gA M4 LA LC lA nA ndA
  go_wp2_with fail
  go_loopg [11] cn (fun mm s11 wx=>∃ (k:Nat) (M1:Nat→BandM) (BA BC:List YtjngfhgakokejaaGreat.HB),k≤cn∧mm=cn - k∧s11=.int .i64 (k:Int)∧BandsR DA M1 BA∧RBandsQ RBandA Bs DA M1 BC∧SaidInv cn k DA [] M1∧(∀ d∈DA,BothB (M1 d.bb))∧Mv w [] wx ((PA++BA)++(PC++BC)))
  case atStart=>exact ⟨0,N1,BA0,BC0,Nat.zero_le _,rfl,rfl,K0.out.1,K0.out.2.1,K0.out.2.2.1,K0.out.2.2.2.1,K0.out.2.2.2.2⟩
  case round =>
   clear K0
   obtain ⟨k,M1,BA,BC,hk,rfl,rfl,bA,bC,sA,gA,mm⟩:=hrel
   by_cases hlt:k<cn
   ·have d1:decide ((k:Int)<(cn:Int))=true:=by simp;omega
    have hdn:=bands_len bA
    have EA:=Lib.hid (penc_w va DA M1 st cn k PA BA (PC++BC) w wr KL.out.1 bA mm hlt (by omega) (by omega) KL.out.2.2.1 KL.out.2.2.2.1 gA)
    have EC:=Lib.hid fun (V:World) (Y:List YtjngfhgakokejaaGreat.HB) (mV:Mv w [] V ((PC++BC)++Y))=>renc_w vc Bs DA M1 st cn k PC BC Y w V KL.out.2.1 bC mV hlt (by omega) (by omega) KL.out.2.2.1 KL.out.2.2.2.1 gA KL.out.2.2.2.2 hdn sA
    have KE:=Lib.hid (And.intro (encS_said cn st k DA M1 sA hdn) (encS_both cn st k DA M1 gA))
    obtain ⟨l1,hl1⟩:∃ l1,wout (wbits (encS cn st k DA M1).bits)=l1:=⟨_,rfl⟩
    obtain ⟨l2,hl2⟩:∃ l2,(encS cn st k DA M1).body=l2:=⟨_,rfl⟩
    rw [hl1,hl2] at EA EC
    generalize (encS cn st k DA M1).M=P1 at *
    clear bA bC sA gA mm hdn hl1 hl2
    go_upto_region 12 with (first
     | (go_at_call 10;(with_reducible refine EA.out.mono ?_);rintro e w5 ⟨a1,n1,c1,a2,n2,c2,H1,H2,BA',rfl,r1,r2,r3,m5⟩;have K5:=Lib.hid (And.intro r1 (And.intro r2 (And.intro r3 m5)));clear r1 r2 r3 m5)
     | (go_at_call 11;(with_reducible refine (EC.out _ _ (en_sh1 K5.out.2.2.2)).mono ?_);rintro e w7 ⟨a5,n5,c5,a6,n6,c6,H5,H6,BC',rfl,r1,r2,r3,m7⟩;have K7:=Lib.hid (And.intro r1 (And.intro r2 (And.intro r3 m7)));clear r1 r2 r3 m7))
    have s7:=K7.out.2.2.2.sat
    have v1:=conv_string (K5.out.1.bv s7.right.right.left.left)
    have v2:=conv_string (K5.out.2.1.bv s7.right.right.left.right)
    have v5:=conv_string (K7.out.1.bv s7.left.left)
    have v6:=conv_string (K7.out.2.1.bv s7.left.right)
    have M9:=Lib.hid (en_sh2 K7.out.2.2.2)
    have K9:=Lib.hid (And.intro K5.out.2.2.1 K7.out.2.2.1)
    clear s7 K5 K7 EA EC
    go_wp2_with fail
    go_roundg (cn - (k+1))
    case measure=>omega
    case rel=>exact ⟨k+1,P1,BA',BC',hlt,rfl,by push_cast;rfl,K9.out.1,K9.out.2,KE.out.1,KE.out.2,M9.out⟩
   ·obtain rfl:k=cn:=by omega
    have d1:decide ((k:Int)<(k:Int))=false:=by simp
    have KX:=Lib.hid mm.below0
    clear bA bC sA gA mm
    go_wp2_with fail
    go_ret
    exact ⟨rfl,KX.out⟩
 ·rw [decide_eq_false h1] at F1
  clear hv lA hv1 hv2 h1
  subst hve
  generalize l.length=ln at *
  go_enter Tryz.func3,Tryz.ntmps3
  go_wp2_with (first
   | (go_at_call 6;refine KN.out.mono ?_;rintro e w1 ⟨rfl,m1⟩;have K1:=Lib.hid m1;clear m1)
   | (go_at_call 7;(with_reducible refine (F1.out _).mono ?_);rintro e w' ⟨rfl,rfl⟩))
  go_ret
  exact ⟨rfl,K1.out.below0⟩
end
section
open Go.ChangeShapes Go.WideShapes Go.ChangeAt Go.RowKit
theorem at_take {cs:List Value} {i:Nat} {v:Value} (h:(cs.drop i).take 1=[v]):cs[i]?=some v:=by
 have h2:((cs.drop i).take 1)[0]?=some v:=by rw [h];rfl
 rw [List.getElem?_take] at h2
 simpa [List.getElem?_drop] using h2
theorem spot_none {w:World} {a:Addr} {v:Value} (h:w.cell? a=some v):a.spot=none:=by
 unfold World.cell? at h
 split at h
 ·split at h
  ·cases h
  ·rename_i h2
   simpa using h2
 ·cases h
theorem addr_none {a:Addr} (h:a.spot=none):some a=some ⟨a.block,a.off,none⟩:=by
 obtain ⟨b,o,s⟩:=a
 simp at h
 rw [h]
theorem add_none {a:Addr} (h:a.spot=none) (k:Nat):a.add k=⟨a.block,a.off+k,none⟩:=by
 obtain ⟨b,o,s⟩:=a
 simp at h
 subst h
 unfold Addr.add
 split
 ·subst_vars;simp
 ·rfl
theorem open_rdi {H:Type} {enc:TypeId × Value→H} {W:World} {base fuel:Nat} {spare:Nat→Bool} {held:Bool} {v:Value} {x:DataW H × List MemPlace} (h:DataW.trod enc Tryz.prog W base spare held fuel 38 [v]=some x):∃ nl,RdI W v nl:=by
 rcases open_ints Tryz.underlying38 Tryz.underlying3 (by kernel_rfl) h with ⟨hz,-⟩ | ⟨a,l,c,zs,hz,-,hl,hm,hzl,-,hcell,-⟩
 ·obtain rfl:v=.slice none 0 0:=by simpa using hz
  exact ⟨[],none,0,rfl,Nat.le_refl _,by decide,fun k x hx=>by simp at hx⟩
 ·obtain rfl:v=.slice (some a) l c:=by simpa using hz
  have hzc:l≤zs.length:=by rw [hzl];split <;> omega
  have hl2:(zs.take l).length=l:=by rw [List.length_take];omega
  refine ⟨zs.take l,some a,c,by rw [hl2],by omega,hm,fun k x hx=>?_⟩
  have hk:k<l:=by have:=(List.getElem?_eq_some_iff.1 hx).1;omega
  have hx2:zs.getD k 0=x:=by
   rw [List.getElem?_take] at hx
   simp only [hk,if_true] at hx
   rw [List.getD_eq_getElem?_getD,hx]
   rfl
  have c0:=hcell 0 (by omega)
  rw [show a.add 0=a from rfl] at c0
  have hsp:=spot_none c0
  have ck:=hcell k (by omega)
  rw [hx2,add_none hsp] at ck
  exact ⟨a.block,a.off,addr_none hsp,ck⟩
theorem list_of {α:Type} (Q:Nat→α→Prop):∀ n,(∀ i,i<n→∃ s,Q i s)→∃ l:List α,l.length=n∧∀ i s,l[i]?=some s→Q i s
 | 0,_=>⟨[],rfl,fun i s h=>by simp at h⟩
 | n+1,h=>by
  obtain ⟨l,h1,h2⟩:=list_of Q n fun i hi=>h i (by omega)
  obtain ⟨s,hs⟩:=h n (by omega)
  refine ⟨l++[s],by simp [h1],fun i x hx=>?_⟩
  by_cases hi:i<n
  ·rw [List.getElem?_append_left (by omega)] at hx
   exact h2 i x hx
  ·have hi2:=(List.getElem?_eq_some_iff.1 hx).1
   rw [List.length_append,h1,List.length_singleton] at hi2
   obtain rfl:i=n:=by omega
   rw [List.getElem?_append_right (by omega),h1] at hx
   simp at hx
   subst hx
   exact hs
theorem open_shapes {H:Type} {enc:TypeId × Value→H} {W:World} {base b0:Nat} {r:Reach} {held:Bool} {v:Value} {d:DataW H} {ps:List MemPlace} (hval:Value.okWide Tryz.prog W r b0 22 v)
  (h:DataW.Trod enc Tryz.prog W base (fun _=>true) held 22 v d ps):∃ l,RdS W v l:=by
 obtain ⟨sa,sl,sc,rfl⟩:=okWide_slice Tryz.underlying22 hval
 obtain ⟨fuel,hf⟩:=h
 have hC:Tryz.prog.cellsOf 46=5:=by kernel_rfl
 have hI:Tryz.prog.cellsOf 3=1:=by kernel_rfl
 have hS:Tryz.prog.cellsOf 38=1:=by kernel_rfl
 rcases Go.Deep.open_slice Tryz.underlying22 hf with ⟨hz,-⟩ | ⟨a,len,cap,m,n,D,Pl,hz,hb,hl,hm,hmm,-,hx⟩
 ·simp [Value.cells] at hz
  obtain ⟨rfl,rfl,rfl⟩:=hz
  exact ⟨[],none,0,rfl,Nat.le_refl _,by decide,fun k x hx=>by simp at hx⟩
 ·simp [Value.cells] at hz
  obtain ⟨rfl,rfl,rfl⟩:=hz
  have hml:sl≤m:=by rw [hmm];simp;omega
  rw [hC] at hx
  obtain ⟨l,h1,h2⟩:=list_of (fun i (s:ShapeM)=>∃ b o vp vn,some a=some (⟨b,o,none⟩:Addr)∧W.cell? ⟨b,o+i * 5,none⟩=some (.int .i64 s.w)∧W.cell? ⟨b,o+i * 5+1,none⟩=some (.int .i64 s.h)∧W.cell? ⟨b,o+i * 5+2,none⟩=some (.int .i64 s.spare) ∧
   W.cell? ⟨b,o+i * 5+3,none⟩=some vp∧W.cell? ⟨b,o+i * 5+4,none⟩=some vn∧RdI W vp s.planes∧RdI W vn s.ns) sl (by
    intro i hi
    obtain ⟨cs,hc,ht⟩:=hx i (by omega)
    obtain ⟨hcb,hcl,hcc⟩:=World.cells?_some hc
    obtain ⟨xs,k,rfl,-,-,hxl,hall⟩:=DataW.trod_struct Tryz.underlying46 ht
    have hxl':xs.length=5:=hxl
    have gi:∀ (j:Nat) (fl:Field),(_:Array Field)[j]?=some fl→fl.type=3→fl.offset=j→j<5→∃ z,cs[j]?=some (.int .i64 z):=fun j fl hfl ht ho hj=>by
     have h1:=hall j fl hfl
     rw [ht,ho,hI,List.getElem?_eq_getElem (by omega)] at h1
     obtain ⟨z,hz,-⟩:=DataW.trod_int Tryz.underlying3 h1
     exact ⟨z,at_take hz⟩
    have gs:∀ (j:Nat) (fl:Field),(_:Array Field)[j]?=some fl→fl.type=38→fl.offset=j→j<5→∃ v nl,cs[j]?=some v∧RdI W v nl:=fun j fl hfl ht ho hj=>by
     have h1:=hall j fl hfl
     rw [ht,ho,hS,List.getElem?_eq_getElem (by omega)] at h1
     obtain ⟨v,hv⟩:∃ v,cs[j]?=some v:=⟨_,List.getElem?_eq_getElem (by omega)⟩
     have e:(cs.drop j).take 1=[v]:=by
      rw [List.drop_eq_getElem_cons (by omega)]
      have:=(List.getElem?_eq_some_iff.1 hv).2
      simp [this]
     rw [e] at h1
     obtain ⟨nl,hn⟩:=open_rdi h1
     exact ⟨v,nl,hv,hn⟩
    obtain ⟨z0,e0⟩:=gi 0 _ rfl rfl rfl (by decide)
    obtain ⟨z1,e1⟩:=gi 1 _ rfl rfl rfl (by decide)
    obtain ⟨z2,e2⟩:=gi 2 _ rfl rfl rfl (by decide)
    obtain ⟨v3,n3,e3,q3⟩:=gs 3 _ rfl rfl rfl (by decide)
    obtain ⟨v4,n4,e4,q4⟩:=gs 4 _ rfl rfl rfl (by decide)
    have hsp:a.spot=none:=by
     obtain ⟨cs0,hc0,ht0⟩:=hx 0 (by omega)
     obtain ⟨-,hcl0,hcc0⟩:=World.cells?_some hc0
     obtain ⟨u0,hu0⟩:∃ u,cs0[0]?=some u:=⟨_,List.getElem?_eq_getElem (by omega)⟩
     have c:=hcc0 0 (by decide)
     rw [hu0] at c
     exact spot_none (a:=a) c
    have g:∀ j u,j<5→cs[j]?=some u→W.cell? ⟨a.block,a.off+i * 5+j,none⟩=some u:=fun j u hj hu=>by
     have c:=hcc j hj
     rw [hu,add_none hsp] at c
     have hsp2:(⟨a.block,a.off+i * 5,none⟩:Addr).spot=none:=rfl
     rw [add_none hsp2] at c
     exact c
    exact ⟨⟨z0,z1,z2,n3,n4⟩,a.block,a.off,v3,v4,addr_none hsp,g 0 _ (by decide) e0,g 1 _ (by decide) e1,g 2 _ (by decide) e2,g 3 _ (by decide) e3,g 4 _ (by decide) e4,q3,q4⟩)
  exact ⟨l,some a,sc,by rw [h1],by omega,hm,h2⟩
end
end Go.Proofs.YtjngfhgakokejaaGreat
