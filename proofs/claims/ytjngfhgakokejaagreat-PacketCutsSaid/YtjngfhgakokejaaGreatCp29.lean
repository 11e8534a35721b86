/- PacketCuts: Make's two rows of bands; Decode's contracts. PacketCuts: the walk. A law's shapes, opened: they read. -/
import Derived.Test.YtjngfhgakokejaaGreatCp28
import Derived.Test.YtjngfhgakokejaaGreatCp27
import Derived.Test.YtjngfhgakokejaaGreatChecked
import Derived.Test.YtjngfhgakokejaaGreatCp23
import Derived.WalkKit
import Derived.ProofKit
import Derived.OpenShut
import Derived.ShutString
import Derived.ChangeOld
import Derived.Below
import Derived.ChangeSlices
import Derived.ChangeArms
import Derived.Deep.Slices
set_option maxRecDepth 100000
set_option maxHeartbeats 8000000
set_option linter.all false
namespace Go.Proofs.YtjngfhgakokejaaGreat
section
open Go.RowKit
theorem within_big (x:Int) (n:Nat) (w:World) (h3:1≤n) (h4:n≤9000000) :
  Calls Tryz.prog 8 #[.int .i64 x,.int .i64 (n:Int)] w fun e w'=>e=.returned (.int .i64 (wIn x n:Nat))∧w'=w:=by
 rw[wIn_cast x h3]
 have h3':(1:Int)≤(n:Int):=by omega
 have h4':(n:Int)≤9000000:=by omega
 obtain⟨m,hm⟩:∃ m:Int,(n:Int)=m:=⟨_,rfl⟩
 rw[hm] at h3' h4' ⊢
 clear hm h3 h4
 obtain⟨h5,h6⟩:=tmod_bd x m h3'
 have E:=Lib.hid (tmod_adj x m h3')
 go_enter Tryz.func8,Tryz.ntmps8
 go_wp2
 all_goals go_ret
 ·exact⟨by rw[← E.out,if_pos (by assumption)];rfl,rfl⟩
 ·exact⟨by rw[← E.out,if_neg (by omega)];rfl,rfl⟩
theorem RowB.cut {g c n:Nat} {l:List UInt8} {H:List HB} (h:RowB (.slice (some ⟨g,0,none⟩) n c) l H) {k:Nat} (hk:k≤n):RowB (.slice (some ⟨g,0,none⟩) k c) (l.take k) H:=by
 have hl:=h.len
 subst hl
 obtain⟨h1,h2⟩:=h
 rcases h2 with ⟨h3,-,-⟩ | ⟨g',cap,cur,e,k1,k2,k3,k4,rfl⟩
 ·cases h3
 ·cases e
  refine⟨by simp[cellsB],.inr ⟨g,c,cur,by rw[List.length_take,Nat.min_eq_left hk],by rw[List.length_take];omega,k2,k3,?_,rfl⟩⟩
  rw[List.length_take,Nat.min_eq_left hk]
  have e2:cellsB (l.take k)=(cellsB l).take k:=by unfold cellsB;rw[List.map_take]
  rw[e2,← k4,List.take_take,Nat.mul_one,Nat.mul_one,Nat.min_eq_left hk]
structure CutsP (D:List BandA) (U:Nat→BandM) (style:Nat) (h x:List UInt8):Prop where
 fin:Fin2 x
 h0:0<h.length
 len:h.length+x.length≤9000000
 cut:∀ j,j<x.length→(decodeF (h++x.take j) style 0 D U).1=0∧(decodeF (h++x.take j) style 0 D U).2.1=8∧decodeOk (h++x.take j) style 0 D U
 head:∃ Sd,headD (h++x) style 0 D U=some Sd∧endM (h++x) Sd.rd=(h.length,0)
 few:D.length≤3
 sp:(spotsOf D).length≤200
 good:∀ d∈D,GoodR (U d.bb)
theorem cuts_pack {G G2:MkG} {l:List ShapeM} {style:Nat} {va vb vc vd va2 vb2 vc2 vd2:Value} (h:G.ok l style l.length va vb vc vd) (h2:G2.ok l style l.length va2 vb2 vc2 vd2) (hl:l.length≤3) (hs:style≤63) (hkA:(keys G.B1).Nodup) (hkB:(keys G2.B2).Nodup) :
  BandsR (G2.Lb.map (·.1)) (modelL G2.Lb) G2.B2∧(wout (wbits (encS 1 style 0 (G.La.map (·.1)) (modelL G.La)).bits)).length+(encS 1 style 0 (G.La.map (·.1)) (modelL G.La)).body.length≤9000000∧(0<(encS 1 style 0 (G.La.map (·.1)) (modelL G.La)).body.length→CutsP (G2.Lb.map (·.1)) (modelL G2.Lb) style (wout (wbits (encS 1 style 0 (G.La.map (·.1)) (modelL G.La)).bits)) (encS 1 style 0 (G.La.map (·.1)) (modelL G.La)).body):=by
 have ndA:=h.ba.nodup hkA
 have ndB:=h2.bb.nodup hkB
 have mA:G.La.map (·.2)=fullB l style:=by rw[h.ma,List.take_of_length_le (by rw[fullB_length];exact Nat.le_refl _)]
 have mB:G2.Lb.map (·.2)=voidB l:=by rw[h2.mb,List.take_of_length_le (by rw[voidB_length];exact Nat.le_refl _)]
 have lA:=(h.lens (Nat.le_refl _)).1
 have lB:=(h2.lens (Nat.le_refl _)).2.1
 obtain⟨L',hL'⟩:∃ L',(G2.Lb.map (·.1)).zip (G.La.map (·.2))=L':=⟨_,rfl⟩
 have k1:L'.map (·.1)=G2.Lb.map (·.1):=by rw[← hL'];exact List.map_fst_zip (by simp[lA,lB])
 have k2:L'.map (·.2)=G.La.map (·.2):=by rw[← hL'];exact List.map_snd_zip (by simp[lA,lB])
 have ndL:(L'.map (·.1.bb)).Nodup:=by
  have e:L'.map (·.1.bb)=(L'.map (·.1)).map (·.bb):=by rw[List.map_map];rfl
  rw[e,k1,List.map_map]
  exact ndB
 have hnA:(G.La.map (·.1)).map (·.n)=l.map fun s=>s.W * s.H:=by
  have e1:(G.La.map (·.1)).map (·.n)=(G.La.map (·.2)).map fun m=>m.w * m.h:=by
   rw[List.map_map,List.map_map]
   exact List.map_congr_left fun p hp=>h.ba.n p hp
  rw[e1,mA]
  unfold fullB
  refine List.ext_getElem? fun i=>?_
  rw[List.getElem?_map,List.getElem?_mapIdx,List.getElem?_map]
  cases l[i]? with
  | none=>rfl
  | some s =>
   obtain⟨-,-,-,h4,h5,-⟩:=s.band_ss i style (s.W * s.H) (Nat.le_refl _)
   simp only[Option.map_some]
   rw[h4,h5]
 have hnB:(G2.Lb.map (·.1)).map (·.n)=l.map fun s=>s.W * s.H:=by
  have e1:(G2.Lb.map (·.1)).map (·.n)=(G2.Lb.map (·.2)).map fun m=>m.w * m.h:=by
   rw[List.map_map,List.map_map]
   exact List.map_congr_left fun p hp=>h2.bb.n p hp
  rw[e1,mB]
  unfold voidB
  rw[List.map_map]
  rfl
 obtain⟨r,hr,hR⟩:=ren_of (G.La.map (·.1)) (G2.Lb.map (·.1)) (hnA.trans hnB.symm) (by rw[List.map_map];exact ndA) (by rw[List.map_map];exact ndB)
 have Lk:=lock_of G.La L' r (by rw[hr,k1]) k2.symm ndA ndL
 have LE:=encS_ren hR 1 style 0 Lk
 rw[hr] at LE
 obtain⟨c1,c2,c3,c4⟩:=make_cuts l style hs G2.Lb (modelL L') L' k1 (k2.trans mA) mB (fun p hp=>h2.bb.n p hp) ndB rfl
 have hD3:(G2.Lb.map (·.1)).length≤3:=by rw[List.length_map,lB];exact hl
 have hsp:=spots_few (G2.Lb.map (·.1)) c2
 refine⟨h2.bb.bandsR fun p hp=>modelL_mem ndB hp,?_⟩
 cases hmo:moreM 1 0 (modelL L') (spotsOf (G2.Lb.map (·.1))) with
 | true =>
  obtain⟨q1,q2,q3,q4,q5⟩:=cuts_law style (G2.Lb.map (·.1)) (modelL L') (modelL G2.Lb) hmo (by rw[List.map_map];exact ndB) c1 (by omega) c4 _ _ (by rw[LE.bits]) LE.body
  exact⟨q3,fun _=>⟨q1,q2,q3,q4,q5,hD3,by omega,c3⟩⟩
 | false =>
  have e0:encS 1 style 0 (G2.Lb.map (·.1)) (modelL L')=⟨(spotsOf (G2.Lb.map (·.1))).foldl (encM 1) (modelL L'),[false],[]⟩:=by unfold encS;rw[hmo,if_neg (by simp)]
  have e1:=LE.bits
  have e2:=LE.body
  rw[e0] at e1 e2
  simp only at e1 e2
  rw[← e1,← e2]
  exact⟨by decide,fun hx=>by simp at hx⟩
theorem dec_cut (v:Value) (D:List BandA) (U:Nat→BandM) (st:Nat) (h x:List UInt8) (HL HB0 HV X:List HB) (vg n vc j:Nat) (w0 V:World) (P:CutsP D U st h x) (hL:ListH v D HL) (hB:BandsR D U HB0) (hv:RowB (.slice (some ⟨vg,0,none⟩) n vc) (h++x) HV) (m:Mv w0 [] V (((HL++HB0)++HV)++X)) (hj:j<x.length) (hst:st≤63) :
  Calls Tryz.prog 12 #[v,.int .i64 (st:Int),.int .i64 0,.slice (some ⟨vg,0,none⟩) (h.length+j) vc,.bool false] V fun e w'=>e=.returned (.tuple #[.int .i64 0,.int .i64 8])∧Mv w0 [] w' (HV++X):=by
 obtain⟨A,cA,rfl⟩:=RowH.slice hL
 have hln:=hv.len
 have hv2:=hv.cut (k:=h.length+j) (by rw[hln,List.length_append];omega)
 have e1:(h++x).take (h.length+j)=h++x.take j:=by rw[List.take_append,List.take_of_length_le (by omega),Nat.add_sub_cancel_left]
 rw[e1] at hv2
 obtain⟨q1,q2,q3⟩:=P.cut j hj
 have hs:Sat V (HV++(HL++HB0)):=m.sat.left.sub (fun g=>by simp only[cnt_append];omega) (fun y hy=>by simp only[List.mem_append] at hy ⊢;grind)
 have E:=decode_f A cA vg (h.length+j) vc D U st 0 (h++x.take j) HV HL HB0 V (by have:=P.few;omega) hL hB hs hv2 (by have:=P.len;rw[List.length_append,List.length_take];omega) (by decide) hst P.sp P.good q3
 refine Calls.mono E ?_
 rintro e w' ⟨rfl,h2⟩
 rw[if_neg (by rw[q2];decide)] at h2
 exact⟨by rw[q1,q2];rfl,Mv.call m h2⟩
theorem dec_mark (v:Value) (D:List BandA) (U:Nat→BandM) (st:Nat) (h x:List UInt8) (HL HB0 HV X:List HB) (vg n vc:Nat) (w0 V:World) (P:CutsP D U st h x) (hL:ListH v D HL) (hB:BandsR D U HB0) (hv:RowB (.slice (some ⟨vg,0,none⟩) n vc) (h++x) HV) (m:Mv w0 [] V (((HL++HB0)++HV)++X)) (hst:st≤63) :
  Calls Tryz.prog 12 #[v,.int .i64 (st:Int),.int .i64 0,.slice (some ⟨vg,0,none⟩) n vc,.bool true] V fun e w'=>e=.returned (.tuple #[.int .i64 0,.int .i64 (if x.length<2 then 8 else 12)])∧Mv w0 [] w' X:=by
 obtain⟨A,cA,rfl⟩:=RowH.slice hL
 have hln:=hv.len
 rw[List.length_append] at hln
 have hs:Sat V (HV++(HL++HB0)):=m.sat.left.sub (fun g=>by simp only[cnt_append];omega) (fun y hy=>by simp only[List.mem_append] at hy ⊢;grind)
 obtain⟨Sd,a1,a2⟩:=P.head
 have gd:∀ i,(h++x).getD (h.length+i) 0=x.getD i 0:=fun i=>by rw[List.getD_eq_getElem?_getD,List.getElem?_append_right (by omega),Nat.add_sub_cancel_left,← List.getD_eq_getElem?_getD]
 have E:=decode_m A cA vg n vc D U st 0 (h++x) HV HL HB0 V (by have:=P.few;omega) hL hB hs hv (by have:=P.len;rw[List.length_append];omega) (by decide) hst P.sp P.good Sd h.length a1 a2 (if x.length<2 then 8 else 12) (by
  by_cases h2:x.length<2
  ·rw[if_pos h2];exact .inl ⟨by omega,rfl⟩
  ·rw[if_neg h2]
   refine .inr ⟨by omega,rfl,?_⟩
   have:=fin_mark P.fin (by omega)
   rw[← gd 0,← gd 1,Nat.add_zero] at this
   exact this)
 refine Calls.mono E ?_
 rintro e w' ⟨rfl,h2⟩
 have h3:=Mv.call m h2
 exact⟨rfl,h3⟩
end
section
open Go.RowKit
theorem few_any (A:Option Addr) (n c:Nat) (W:World) (hn:n≤9223372036854775807):Calls Tryz.prog 7 #[.slice A n c] W fun e w'=>e=.returned (.bool (decide (n≤3)))∧w'=W:=by
 by_cases h:n≤3
 ·have d:decide ((n:Int)≤3)=true:=decide_eq_true (by omega)
  have d2:=Lib.hid (decide_eq_true h)
  clear h
  go_enter Tryz.func7,Tryz.ntmps7
  go_wp2_with fail
  go_ret
  exact⟨by rw[d2.out];rfl,rfl⟩
 ·have d:decide ((n:Int)≤3)=false:=decide_eq_false (by omega)
  have d2:=Lib.hid (decide_eq_false h)
  clear h
  go_enter Tryz.func7,Tryz.ntmps7
  go_wp2_with fail
  go_ret
  exact⟨by rw[d2.out];rfl,rfl⟩
theorem penc_c (v:Value) (D:List BandA) (M:Nat→BandM) (st:Nat) (HL HB0 X:List HB) (w0 V:World) (hL:ListH v D HL) (hB:BandsR D M HB0) (m:Mv w0 [] V ((HL++HB0)++X)) (hst:st≤63) (hD:D.length≤3) (hn:∀ d∈D,d.n≤9) (hg:∀ d∈D,BothB (M d.bb)) :
  Calls Tryz.prog 10 #[v,.int .i64 (st:Int),.int .i64 1,.int .i64 0] V fun e W'=>∃ a1 c1 a2 c2 H1 H2,e=.returned (.tuple #[.slice a1 (wout (wbits (encS 1 st 0 D M).bits)).length c1,.slice a2 (encS 1 st 0 D M).body.length c2])∧RowB (.slice a1 (wout (wbits (encS 1 st 0 D M).bits)).length c1) (wout (wbits (encS 1 st 0 D M).bits)) H1∧RowB (.slice a2 (encS 1 st 0 D M).body.length c2) (encS 1 st 0 D M).body H2∧Mv w0 [] W' ((H1++H2)++X):=by
 obtain⟨A,cA,rfl⟩:=RowH.slice hL
 have E:=enc_any A cA D M st 0 1 HL HB0 V (by omega) hL hB m.sat.left (by omega) (by omega) hst (by have:=spots_few D hn;omega) (fun d hd=>(hg d hd).g)
 refine Calls.mono E ?_
 rintro e W' ⟨v1,v2,H1,H2,HB',rfl,r1,r2,r3,m1⟩
 obtain⟨a1,c1,rfl⟩:=RowB.slice r1
 obtain⟨a2,c2,rfl⟩:=RowB.slice r2
 exact⟨a1,c1,a2,c2,H1,H2,rfl,r1,r2,(Mv.call m m1).sub (fun g=>by simp only[cnt_append];omega) (fun c hc=>by simp only[List.mem_append] at hc ⊢;grind)⟩
theorem cu_rows {G:MkG} {l:List ShapeM} {style:Nat} {va vb vc vd:Value} (h:G.ok l style l.length va vb vc vd) (hl:l.length≤3) (hk:(keys G.B1).Nodup) :
  BandsR (G.La.map (·.1)) (modelL G.La) G.B1∧(G.La.map (·.1)).length≤3∧(∀ d∈G.La.map (·.1),d.n≤9)∧(∀ d∈G.La.map (·.1),BothB (modelL G.La d.bb)):=by
 have hnd:=h.ba.nodup hk
 have hm:G.La.map (·.2)=fullB l style:=by rw[h.ma,List.take_of_length_le (by rw[fullB_length];exact Nat.le_refl _)]
 have hb:∀ p∈G.La,BothB p.2∧p.2.w * p.2.h≤9:=fun p hp=>fullB_both l style p.2 (by rw[← hm];exact List.mem_map.2 ⟨p,hp,rfl⟩)
 have hmm:∀ p∈G.La,modelL G.La p.1.bb=p.2:=fun p hp=>modelL_mem hnd hp
 refine⟨h.ba.bandsR hmm,by rw[List.length_map,(h.lens (Nat.le_refl _)).1];exact hl,?_,?_⟩
 ·intro d hd
  obtain⟨p,hp,rfl⟩:=List.mem_map.1 hd
  rw[h.ba.n p hp]
  exact(hb p hp).2
 ·intro d hd
  obtain⟨p,hp,rfl⟩:=List.mem_map.1 hd
  rw[hmm p hp]
  exact(hb p hp).1
section
variable {w0 w:World} {A B C D E F:List HB}
theorem cu_sh1 {G:MkG} (m:Mv w0 [] w (G.heap++[])):Mv w0 [] w ((G.H1++G.B1)++(G.H2++G.B2)) :=
 m.sub (fun g=>by simp only[MkG.heap,cnt_append,cnt_nil];omega) (fun c hc=>by
  simp only[MkG.heap,List.mem_append,List.not_mem_nil,or_false,or_assoc] at hc ⊢
  rcases hc with h | h | h | h <;> simp only[h,true_or,or_true])
theorem cu_sh2 (m:Mv w0 [] w (F++((C++D)++(A++B)))):Mv w0 [] w (((A++B)++F)++(C++D)) :=
 m.sub (fun g=>by simp only[cnt_append];omega) (fun c hc=>by simp only[List.mem_append] at hc ⊢;grind)
theorem cu_sh3 {G:MkG} (m:Mv w0 [] w (G.heap++(F++(C++D)))):Mv w0 [] w (((G.H2++G.B2)++F)++(C++D)) :=
 m.sub (fun g=>by simp only[MkG.heap,cnt_append];omega) (fun c hc=>by
  simp only[MkG.heap,List.mem_append,or_assoc] at hc ⊢
  rcases hc with h | h | h | h | h <;> simp only[h,true_or,or_true])
end
theorem cuts_any (l:List ShapeM) (v:Value) (x y:Int) (w:World) (hv:RdS w v l) :
  Calls Tryz.prog 4 #[v,.int .i64 x,.int .i64 y] w fun e w'=>e=.returned (.bool true)∧Below w.heap.size w w':=by
 have KN:=Lib.hid (known_any w)
 obtain⟨A,c,hve,hv1,hv2,-⟩:=id hv
 have lA:l.length≤9223372036854775807:=by unfold maxLen at hv2;omega
 have F1:=Lib.hid fun V=>few_any A l.length c V lA
 by_cases h1:l.length≤3
 ·rw[decide_eq_true h1] at F1
  by_cases hz:l.length=0
  ·clear hv hv1 hv2 h1 lA
   rw[hz] at hve F1
   subst hve
   clear hz
   go_enter Tryz.func4,Tryz.ntmps4
   go_wp2_with (first
    | (go_at_call 6;refine KN.out.mono ?_;rintro e w1 ⟨rfl,m1⟩;have K1:=Lib.hid m1;clear m1)
    | (go_at_call 7;(with_reducible refine(F1.out _).mono ?_);rintro e w' ⟨rfl,rfl⟩))
   go_ret
   exact⟨rfl,K1.out.below0⟩
  ·have hst:=wIn_lt x (n:=64) (by decide)
   have W1:=Lib.hid fun V=>within15W x 64 V (by decide) (by decide)
   simp only[Int.cast_ofNat_Int] at W1
   obtain⟨st,hst2⟩:∃ st,wIn x 64=st:=⟨_,rfl⟩
   rw[hst2] at W1 hst
   have hst3:st≤63:=by omega
   have MA:=Lib.hid fun (V:World) (X:List YtjngfhgakokejaaGreat.HB) (mV:Mv w [] V X)=>make_any l st v V (hv.keep mV.below0) h1 hst3
   obtain⟨ln,hln⟩:∃ ln,l.length=ln:=⟨_,rfl⟩
   rw[hln] at hve F1 h1 hz
   have d0:((ln:Int) == 0)=false:=by simp;exact hz
   have HLT:=Lib.hid (And.intro hln h1)
   clear hv lA hv1 hv2 hst2 hln
   subst hve
   go_enter Tryz.func4,Tryz.ntmps4
   go_upto_region 6 with (first
    | (go_at_call 6;refine KN.out.mono ?_;rintro e w1 ⟨rfl,m1⟩;have K1:=Lib.hid m1;clear m1)
    | (go_at_call 7;(with_reducible refine(F1.out _).mono ?_);rintro e w' ⟨rfl,rfl⟩)
    | (go_at_call 8;(with_reducible refine(W1.out _).mono ?_);rintro e w' ⟨rfl,rfl⟩))
   clear F1 W1 KN
   go_upto_region 7 with (go_at_call 9;(with_reducible refine(MA.out _ _ K1.out).mono ?_);rintro e w2 ⟨va,vb,vc,vd,GA,rfl,q1,q2⟩;have K2:=Lib.hid (And.intro q1 (Mv.call (H:=[]) K1.out q2));clear q1 q2)
   have M4:Mv w [] w2 ((GA.H1++GA.B1)++(GA.H2++GA.B2)):=cu_sh1 K2.out.2
   obtain⟨bA,lA,nA,gA⟩:=cu_rows K2.out.1 (by rw[HLT.out.1];exact HLT.out.2) M4.sat.left.right.1
   have hkA:(keys GA.B1).Nodup:=M4.sat.left.right.1
   have hkB:(keys GA.B2).Nodup:=M4.sat.right.right.1
   have EA:=Lib.hid (penc_c va _ _ st GA.H1 GA.B1 (GA.H2++GA.B2) w w2 K2.out.1.ra bA M4 hst3 lA nA gA)
   obtain⟨hd,hhd⟩:∃ hd,wout (wbits (encS 1 st 0 (GA.La.map (·.1)) (modelL GA.La)).bits)=hd:=⟨_,rfl⟩
   obtain⟨xb,hxb⟩:∃ xb,(encS 1 st 0 (GA.La.map (·.1)) (modelL GA.La)).body=xb:=⟨_,rfl⟩
   have PK:=Lib.hid fun (G2:MkG) (va2 vb2 vc2 vd2:Value) (h2:G2.ok l st l.length va2 vb2 vc2 vd2) (hk:(keys G2.B2).Nodup)=>cuts_pack K2.out.1 h2 (by rw[HLT.out.1];exact HLT.out.2) hst3 hkA hk
   rw[hhd,hxb] at EA PK
   have P0:=Lib.hid (PK.out GA va vb vc vd K2.out.1 hkB)
   have LB:=Lib.hid K2.out.1.rb
   obtain⟨nh,hnh⟩:∃ nh,hd.length=nh:=⟨_,rfl⟩
   obtain⟨nx,hnx⟩:∃ nx,xb.length=nx:=⟨_,rfl⟩
   rw[hnh,hnx] at EA
   have HNN:=Lib.hid (And.intro hnh hnx)
   clear bA lA nA gA hkA hkB M4 hhd hxb hnh hnx K2
   go_upto_region 8 with (go_at_call 10;(with_reducible refine EA.out.mono ?_);rintro e w5 ⟨a1,c1,a2,c2,H1,H2,rfl,r1,r2,m5⟩;have K5:=Lib.hid (And.intro r1 (And.intro r2 m5));clear r1 r2 m5)
   obtain⟨RR,hRR⟩:∃ RR,(H1++H2)++(GA.H2++GA.B2)=RR:=⟨_,rfl⟩
   have M6:=K5.out.2.2.alloc 5 #[]
   rw[hRR] at M6
   obtain⟨gx,hgx⟩:∃ gx,w5.heap.size=gx:=⟨_,rfl⟩
   obtain⟨w6,hw6⟩:∃ w6,w6=w5.alloc (.cells #[] 5):=⟨_,rfl⟩
   rw[← hw6,hgx] at M6
   have R6:RowB (.slice (some ⟨gx,0,none⟩) 0 0) [] [⟨gx,5,#[]⟩]:=RowB.lit _ [] 0 rfl (by decide)
   have K6:=Lib.hid (And.intro R6 M6)
   have KW:=Lib.hid hw6
   have BV12:Hid (∀ V Y,Mv w [] V (Y++RR)→BV V (.slice a1 nh c1) hd∧BV V (.slice a2 nx c2) xb):=Lib.hid (by
    intro V Y m
    have s:=m.drop.sat
    rw[← hRR] at s
    exact⟨K5.out.1.bv s.left.left,K5.out.2.1.bv s.left.right⟩)
   have hbig:nh+nx≤9000000:=by have h:=P0.out.2.1;rw[HNN.out.1,HNN.out.2] at h;exact h
   have HPL:Hid (([]:List UInt8).length+hd.length≤100000000∧hd.length+xb.length≤100000000):=Lib.hid (by
    rw[HNN.out.1,HNN.out.2,List.length_nil]
    omega)
   clear M6 R6 hw6
   go_upto_region 9 with (first
    | (at_builtin;(try rw[hgx]);rw[← KW.out];refine wpList_appB rfl (.tmp 50) (.tmp 51) rfl _ _ [] hd _ rfl rfl K6.out.1 K6.out.2.sat.left (BV12.out _ [_] K6.out.2).1 HPL.out.1 ?_;intro v7 w7 H7 hr7 m7;replace hr7:RowB v7 hd H7:=hr7;obtain⟨a7,c7,rfl⟩:=RowB.slice hr7;have K7:=Lib.hid (And.intro hr7 (Mv.call (H:=[_]) (R:=RR) K6.out.2 m7));clear hr7 m7)
    | (at_builtin;refine wpList_appB rfl (.tmp 52) (.tmp 53) rfl _ _ hd xb H7 rfl rfl K7.out.1 K7.out.2.sat.left (BV12.out _ _ K7.out.2).2 HPL.out.2 ?_;intro v8 w8 H8 hr8 m8;have K8:=Lib.hid (And.intro hr8 (Mv.call (H:=H7) (R:=RR) K7.out.2 m8));clear hr8 m8))
   by_cases hx0:nx=0
   ·have KF:=Lib.hid K8.out.2.below0
    subst hx0
    go_wp2_with fail
    go_ret
    exact⟨rfl,KF.out⟩
   ·have dx:((nx:Int) == 0)=false:=by simp;exact hx0
    have BB:=P0.out.1
    have P:=P0.out.2.2 (by rw[HNN.out.2];omega)
    have hlen:=P.len
    have hh0:=P.h0
    rw[HNN.out.1] at hlen hh0
    rw[HNN.out.2] at hlen
    obtain⟨g8,c8,hc8,hc8b,rfl⟩:∃ g8 c8,nh+nx≤c8∧c8≤9223372036854775807∧v8=.slice (some ⟨g8,0,none⟩) (nh+nx) c8:=by
     obtain⟨g8,c8,cur8,e8,u1,u2,-⟩:=RowH.form K8.out.1 (by rw[List.length_append,HNN.out.1,HNN.out.2];omega)
     rw[List.length_append,HNN.out.1,HNN.out.2] at e8 u1
     unfold maxLen at u2
     exact⟨g8,c8,u1,u2,e8⟩
    have WB:=Lib.hid fun V=>within_big y nx V (by omega) (by omega)
    have hj:=wIn_lt y (n:=nx) (by omega)
    obtain⟨j,hj2⟩:∃ j,wIn y nx=j:=⟨_,rfl⟩
    rw[hj2] at WB hj
    have hkk:(nh:Int)+(j:Int)=((nh+j:Nat):Int):=by push_cast;rfl
    obtain⟨kk,hkk2⟩:∃ kk,nh+j=kk:=⟨_,rfl⟩
    rw[hkk2] at hkk
    have M8:Mv w [] w8 (((GA.H2++GA.B2)++H8)++(H1++H2)):=by have h:=K8.out.2;rw[← hRR] at h;exact cu_sh2 h
    have D1:=Lib.hid (dec_cut vb _ _ st hd xb GA.H2 GA.B2 H8 (H1++H2) g8 (nh+nx) c8 j w w8 P LB.out BB K8.out.1 M8 (by rw[HNN.out.2];exact hj) hst3)
    rw[HNN.out.1,hkk2] at D1
    have hkc:kk≤c8:=by omega
    have hkb:kk≤9000000:=by omega
    have HJ:=Lib.hid (And.intro hj2 hkk2)
    clear P BB M8 hj2
    go_upto_region 12 with (go_at_call 8;(with_reducible refine(WB.out _).mono ?_);rintro e w' ⟨rfl,rfl⟩)
    try simp only[hkk]
    go_upto_region 13 with (go_at_call 12;(with_reducible refine D1.out.mono ?_);rintro e w9 ⟨rfl,m9⟩;have K9:=Lib.hid m9;clear m9)
    go_upto_region 14 with (go_at_call 9;(with_reducible refine(MA.out _ _ K9.out).mono ?_);rintro e w10 ⟨va2,vb2,vc2,vd2,GD,rfl,q1,q2⟩;have K10:=Lib.hid (And.intro q1 (Mv.call (H:=[]) K9.out q2));clear q1 q2)
    have M10:=cu_sh3 K10.out.2
    obtain⟨BB2,-,P2⟩:=PK.out GD va2 vb2 vc2 vd2 K10.out.1 M10.sat.left.left.right.1
    replace P2:=P2 (by rw[HNN.out.2];omega)
    have hfin:=P2.fin
    have D2:=Lib.hid (dec_mark vb2 _ _ st hd xb GD.H2 GD.B2 H8 (H1++H2) g8 (nh+nx) c8 w w10 P2 K10.out.1.rb BB2 K8.out.1 M10 hst3)
    rw[HNN.out.2] at D2
    obtain⟨g2,hg2⟩:∃ g2,a2=some ⟨g2,0,none⟩:=by
     obtain⟨g2,cap,cur,e,-⟩:=RowH.form K5.out.2.1 (by rw[HNN.out.2];omega)
     injection e with e1
     exact⟨g2,e1⟩
    subst hg2
    have XC:Hid (∀ V,Mv w [] V (H1++H2)→∀ i,i<nx→V.cell? ⟨g2,i,none⟩=some (.int .u8 ((xb.getD i 0).toNat:Int))):=Lib.hid (by
     intro V m i hi
     have:=(RowH.cell K5.out.2.1 m.sat.right (show (Value.slice (some ⟨g2,0,none⟩) nx c2)=.slice (some ⟨g2,0,none⟩) xb.length c2 by rw[HNN.out.2]) i (by rw[HNN.out.2];omega)).1
     rw[this]
     unfold cellsB
     rw[List.getElem?_map,List.getElem?_eq_getElem (by rw[HNN.out.2];exact hi),List.getD_eq_getElem?_getD,List.getElem?_eq_getElem (by rw[HNN.out.2];exact hi)]
     rfl)
    have FM:=Lib.hid fun (h2:2≤nx)=>fin_mark hfin (by rw[HNN.out.2];exact h2)
    clear P2 BB2 M10 hfin
    by_cases h2:nx<2
    ·rw[if_pos h2] at D2
     have d2:decide ((2:Int)≤(nx:Int))=false:=decide_eq_false (by omega)
     have d3:decide ((nx:Int)<2)=true:=decide_eq_true (by omega)
     go_upto_region 15 with (go_at_call 12;(with_reducible refine D2.out.mono ?_);rintro e w11 ⟨rfl,m11⟩;have K11:=Lib.hid m11;clear m11)
     go_wp2_with fail
     go_ret
     exact⟨rfl,K11.out.below0⟩
    ·rw[if_neg h2] at D2
     have d2:decide ((2:Int)≤(nx:Int))=true:=decide_eq_true (by omega)
     have d3:decide ((nx:Int)<2)=false:=decide_eq_false (by omega)
     have i0:(0:Int)<(nx:Int):=by omega
     have i1:(1:Int)<(nx:Int):=by omega
     have i2:0<nx:=by omega
     have i3:1<nx:=by omega
     go_upto_region 15 with (go_at_call 12;(with_reducible refine D2.out.mono ?_);rintro e w11 ⟨rfl,m11⟩;have K11:=Lib.hid m11;clear m11)
     have y0:=XC.out _ K11.out 0 i2
     have y1:=XC.out _ K11.out 1 i3
     have fm:=FM.out (by omega)
     generalize xb.getD 0 0=b0 at *
     generalize xb.getD 1 0=b1 at *
     by_cases e0:b0=255
     ·have e1:¬ b1=146:=fun h=>fm ⟨e0,h⟩
      have n1:¬ ((b1.toNat:Int)=146):=fun h=>e1 (UInt8.toNat_inj.1 (by show b1.toNat=146;omega))
      subst e0
      have d4:((b1.toNat:Int) == 146)=false:=by simp;omega
      clear fm e1
      go_wp2_with fail
      go_ret
      exact⟨rfl,K11.out.below0⟩
     ·have n0:¬ ((b0.toNat:Int)=255):=fun h=>e0 (UInt8.toNat_inj.1 (by show b0.toNat=255;omega))
      have d4:((b0.toNat:Int) == 255)=false:=by simp;omega
      clear fm e0
      go_wp2_with fail
      go_ret
      exact⟨rfl,K11.out.below0⟩
 ·rw[decide_eq_false h1] at F1
  clear hv lA hv1 hv2 h1
  subst hve
  generalize l.length=ln at *
  go_enter Tryz.func4,Tryz.ntmps4
  go_wp2_with (first
   | (go_at_call 6;refine KN.out.mono ?_;rintro e w1 ⟨rfl,m1⟩;have K1:=Lib.hid m1;clear m1)
   | (go_at_call 7;(with_reducible refine(F1.out _).mono ?_);rintro e w' ⟨rfl,rfl⟩))
  go_ret
  exact⟨rfl,K1.out.below0⟩
end
section
open Go.ChangeShapes Go.WideShapes Go.ChangeAt Go.RowKit
theorem at_take {cs:List Value} {i:Nat} {v:Value} (h:(cs.drop i).take 1=[v]):cs[i]?=some v:=by
 have h2:((cs.drop i).take 1)[0]?=some v:=by rw[h];rfl
 rw[List.getElem?_take] at h2
 simpa [List.getElem?_drop] using h2
theorem spot_none {w:World} {a:Addr} {v:Value} (h:w.cell? a=some v):a.spot=none:=by
 unfold World.cell? at h
 split at h
 ·split at h
  ·cases h
  ·rename_i h2
   simpa using h2
 ·cases h
theorem addr_none {a:Addr} (h:a.spot=none):some a=some ⟨a.block,a.off,none⟩:=by
 obtain⟨b,o,s⟩:=a
 simp at h
 rw[h]
theorem add_none {a:Addr} (h:a.spot=none) (k:Nat):a.add k=⟨a.block,a.off+k,none⟩:=by
 obtain⟨b,o,s⟩:=a
 simp at h
 subst h
 unfold Addr.add
 split
 ·subst_vars;simp
 ·rfl
theorem open_rdi {H:Type} {enc:TypeId × Value→H} {W:World} {base fuel:Nat} {spare:Nat→Bool} {held:Bool} {v:Value} {x:DataW H × List MemPlace} (h:DataW.trod enc Tryz.prog W base spare held fuel 38 [v]=some x):∃ nl,RdI W v nl:=by
 rcases open_ints Tryz.underlying38 Tryz.underlying3 (by kernel_rfl) h with ⟨hz,-⟩ | ⟨a,l,c,zs,hz,-,hl,hm,hzl,-,hcell,-⟩
 ·obtain rfl:v=.slice none 0 0:=by simpa using hz
  exact⟨[],none,0,rfl,Nat.le_refl _,by decide,fun k x hx=>by simp at hx⟩
 ·obtain rfl:v=.slice (some a) l c:=by simpa using hz
  have hzc:l≤zs.length:=by rw[hzl];split <;> omega
  have hl2:(zs.take l).length=l:=by rw[List.length_take];omega
  refine⟨zs.take l,some a,c,by rw[hl2],by omega,hm,fun k x hx=>?_⟩
  have hk:k<l:=by have:=(List.getElem?_eq_some_iff.1 hx).1;omega
  have hx2:zs.getD k 0=x:=by
   rw[List.getElem?_take] at hx
   simp only[hk,if_true] at hx
   rw[List.getD_eq_getElem?_getD,hx]
   rfl
  have c0:=hcell 0 (by omega)
  rw[show a.add 0=a from rfl] at c0
  have hsp:=spot_none c0
  have ck:=hcell k (by omega)
  rw[hx2,add_none hsp] at ck
  exact⟨a.block,a.off,addr_none hsp,ck⟩
theorem list_of {α:Type} (Q:Nat→α→Prop):∀ n,(∀ i,i<n→∃ s,Q i s)→∃ l:List α,l.length=n∧∀ i s,l[i]?=some s→Q i s
 | 0,_=>⟨[],rfl,fun i s h=>by simp at h⟩
 | n+1,h=>by
  obtain⟨l,h1,h2⟩:=list_of Q n fun i hi=>h i (by omega)
  obtain⟨s,hs⟩:=h n (by omega)
  refine⟨l++[s],by simp[h1],fun i x hx=>?_⟩
  by_cases hi:i<n
  ·rw[List.getElem?_append_left (by omega)] at hx
   exact h2 i x hx
  ·have hi2:=(List.getElem?_eq_some_iff.1 hx).1
   rw[List.length_append,h1,List.length_singleton] at hi2
   obtain rfl:i=n:=by omega
   rw[List.getElem?_append_right (by omega),h1] at hx
   simp at hx
   subst hx
   exact hs
theorem open_shapes {H:Type} {enc:TypeId × Value→H} {W:World} {base b0:Nat} {r:Reach} {held:Bool} {v:Value} {d:DataW H} {ps:List MemPlace} (hval:Value.okWide Tryz.prog W r b0 22 v)
  (h:DataW.Trod enc Tryz.prog W base (fun _=>true) held 22 v d ps):∃ l,RdS W v l:=by
 obtain⟨sa,sl,sc,rfl⟩:=okWide_slice Tryz.underlying22 hval
 obtain⟨fuel,hf⟩:=h
 have hC:Tryz.prog.cellsOf 46=5:=by kernel_rfl
 have hI:Tryz.prog.cellsOf 3=1:=by kernel_rfl
 have hS:Tryz.prog.cellsOf 38=1:=by kernel_rfl
 rcases Go.Deep.open_slice Tryz.underlying22 hf with ⟨hz,-⟩ | ⟨a,len,cap,m,n,D,Pl,hz,hb,hl,hm,hmm,-,hx⟩
 ·simp[Value.cells] at hz
  obtain⟨rfl,rfl,rfl⟩:=hz
  exact⟨[],none,0,rfl,Nat.le_refl _,by decide,fun k x hx=>by simp at hx⟩
 ·simp[Value.cells] at hz
  obtain⟨rfl,rfl,rfl⟩:=hz
  have hml:sl≤m:=by rw[hmm];simp;omega
  rw[hC] at hx
  obtain⟨l,h1,h2⟩:=list_of (fun i (s:ShapeM)=>∃ b o vp vn,some a=some (⟨b,o,none⟩:Addr)∧W.cell? ⟨b,o+i * 5,none⟩=some (.int .i64 s.w)∧W.cell? ⟨b,o+i * 5+1,none⟩=some (.int .i64 s.h)∧W.cell? ⟨b,o+i * 5+2,none⟩=some (.int .i64 s.spare) ∧
   W.cell? ⟨b,o+i * 5+3,none⟩=some vp∧W.cell? ⟨b,o+i * 5+4,none⟩=some vn∧RdI W vp s.planes∧RdI W vn s.ns) sl (by
    intro i hi
    obtain⟨cs,hc,ht⟩:=hx i (by omega)
    obtain⟨hcb,hcl,hcc⟩:=World.cells?_some hc
    obtain⟨xs,k,rfl,-,-,hxl,hall⟩:=DataW.trod_struct Tryz.underlying46 ht
    have hxl':xs.length=5:=hxl
    have gi:∀ (j:Nat) (fl:Field),(_:Array Field)[j]?=some fl→fl.type=3→fl.offset=j→j<5→∃ z,cs[j]?=some (.int .i64 z):=fun j fl hfl ht ho hj=>by
     have h1:=hall j fl hfl
     rw[ht,ho,hI,List.getElem?_eq_getElem (by omega)] at h1
     obtain⟨z,hz,-⟩:=DataW.trod_int Tryz.underlying3 h1
     exact⟨z,at_take hz⟩
    have gs:∀ (j:Nat) (fl:Field),(_:Array Field)[j]?=some fl→fl.type=38→fl.offset=j→j<5→∃ v nl,cs[j]?=some v∧RdI W v nl:=fun j fl hfl ht ho hj=>by
     have h1:=hall j fl hfl
     rw[ht,ho,hS,List.getElem?_eq_getElem (by omega)] at h1
     obtain⟨v,hv⟩:∃ v,cs[j]?=some v:=⟨_,List.getElem?_eq_getElem (by omega)⟩
     have e:(cs.drop j).take 1=[v]:=by
      rw[List.drop_eq_getElem_cons (by omega)]
      have:=(List.getElem?_eq_some_iff.1 hv).2
      simp[this]
     rw[e] at h1
     obtain⟨nl,hn⟩:=open_rdi h1
     exact⟨v,nl,hv,hn⟩
    obtain⟨z0,e0⟩:=gi 0 _ rfl rfl rfl (by decide)
    obtain⟨z1,e1⟩:=gi 1 _ rfl rfl rfl (by decide)
    obtain⟨z2,e2⟩:=gi 2 _ rfl rfl rfl (by decide)
    obtain⟨v3,n3,e3,q3⟩:=gs 3 _ rfl rfl rfl (by decide)
    obtain⟨v4,n4,e4,q4⟩:=gs 4 _ rfl rfl rfl (by decide)
    have hsp:a.spot=none:=by
     obtain⟨cs0,hc0,ht0⟩:=hx 0 (by omega)
     obtain⟨-,hcl0,hcc0⟩:=World.cells?_some hc0
     obtain⟨u0,hu0⟩:∃ u,cs0[0]?=some u:=⟨_,List.getElem?_eq_getElem (by omega)⟩
     have c:=hcc0 0 (by decide)
     rw[hu0] at c
     exact spot_none (a:=a) c
    have g:∀ j u,j<5→cs[j]?=some u→W.cell? ⟨a.block,a.off+i * 5+j,none⟩=some u:=fun j u hj hu=>by
     have c:=hcc j hj
     rw[hu,add_none hsp] at c
     have hsp2:(⟨a.block,a.off+i * 5,none⟩:Addr).spot=none:=rfl
     rw[add_none hsp2] at c
     exact c
    exact⟨⟨z0,z1,z2,n3,n4⟩,a.block,a.off,v3,v4,addr_none hsp,g 0 _ (by decide) e0,g 1 _ (by decide) e1,g 2 _ (by decide) e2,g 3 _ (by decide) e3,g 4 _ (by decide) e4,q3,q4⟩)
  exact⟨l,some a,sc,by rw[h1],by omega,hm,h2⟩
end
end Go.Proofs.YtjngfhgakokejaaGreat
