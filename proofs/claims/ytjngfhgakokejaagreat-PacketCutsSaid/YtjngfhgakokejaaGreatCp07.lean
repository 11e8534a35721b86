/- waveletref4: the arithmetic coder, over heaplets: new, a byte goes out. waveletref4: a byte goes out, with a carry. Small functions of packets: how many passes a layer brings; the k-th block; a flag. How many passes a block has behind a layer; the k-th block. A band's trees are laid: what that is; a band's cells. waveletref3: a state by its number. waveletref4: a bit is coded. -/
import Derived.Test.YtjngfhgakokejaaGreatCp06
import Derived.Test.YtjngfhgakokejaaGreatCp01
import Derived.Deep.RegionLaw
import Derived.Test.YtjngfhgakokejaaGreatCp05
import Derived.StillTailTactics
set_option maxRecDepth 100000
set_option maxHeartbeats 8000000
set_option linter.all false
namespace Go.Proofs.YtjngfhgakokejaaGreat
section
open Go.RowKit
theorem wpList_build_to {P:Program} {ops:Array Oper} {rest:List Oper} {o:Oper} {a:Act} {w:World} {Q:Exit→Act→World→Prop} (hg:o.guard=none) (t:TypeId) (parts:Array (Nat × Operand)) (ho:o.op=.build t parts) (cells:Array Value)
  (hf:P.built t (parts.map fun (i,x)=>(i,a.eval x)).toList=some cells) (h:wpList P ops Q rest (a.put o.dst (.agg cells)) w):wpList P ops Q (o::rest) a w :=
 wpList_build hg t parts ho (by rw[hf];rfl) (by rw[hf];exact h)
theorem Mv.behind {w0 w:World} {H0 B:List HB} {x y:HB} (h:Mv w0 H0 w (x::y::B)):Mv w0 H0 w (B++[x,y]) :=
 h.sub (fun g=>by simp only[cnt_append,cnt_cons,cnt_nil];omega) (fun c hc=>by simp only[List.mem_append,List.mem_cons] at hc ⊢;grind)
theorem Mv.second {w0 w:World} {H0 A:List HB} {x y:HB} (h:Mv w0 H0 w (A++[x,y])):Mv w0 H0 w (y::A) :=
 h.sub (fun g=>by simp only[cnt_append,cnt_cons,cnt_nil];omega) (fun c hc=>by simp only[List.mem_append,List.mem_cons] at hc ⊢;grind)
def encB (eg a c ct:Nat) (v:Value):HB:=⟨eg,187,#[.int .i64 (a:Int),.int .i64 (c:Int),.int .i64 (ct:Int),v]⟩
def MqR (eg:Nat) (e:EncM) (H:List HB):Prop:=∃ vb Hb,H=encB eg e.a e.c e.ct vb::Hb∧RowB vb e.b Hb
theorem new_enc (w:World):Calls Tryz.prog 57 #[] w fun e w'=>∃ eg H,e=.returned (.pointer (some ⟨eg,0,none⟩))∧MqR eg encNew H∧Mv w [] w' H:=by
 have M:=(mv_alloc w 5 #[.int .u8 0]).alloc 187 #[.int .i64 32768,.int .i64 0,.int .i64 12,.slice (some ⟨w.heap.size,0,none⟩) 1 1]
 rw[World.size_alloc] at M
 have K:=Lib.hid M
 clear M
 go_enter Tryz.func57,Tryz.ntmps57
 go_wp2_with fail
 go_ret
 exact⟨_,_,rfl,⟨_,_,rfl,RowB.lit w.heap.size [0] 1 rfl (by decide)⟩,K.out⟩
theorem u8_of_nat (n:Nat):(n:Int) % 256=((UInt8.ofNat n).toNat:Int):=by
 rw[UInt8.toNat_ofNat']
 omega
theorem byte_shr (c d:Nat):IntKind.u8.wrap ((c:Int) / (d:Int))=((UInt8.ofNat (c / d)).toNat:Int):=by
 rw[IntKind.wrap_u8,← u8_of_nat,Int.natCast_ediv]
theorem mask_nat (i c:Nat) (hi:i≤63) (hc:c<9223372036854775808):bits .and .i64 (c:Int) ((2:Int) ^ i - 1)=((c % 2 ^ i:Nat):Int):=by
 rw[and_mask i hi c (by omega) (by omega)]
 push_cast
 rfl
theorem mask20 (c:Nat) (hc:c<9223372036854775808):bits .and .i64 (c:Int) 1048575=((c % 2 ^ 20:Nat):Int):=mask_nat 20 c (by decide) hc
theorem mask19 (c:Nat) (hc:c<9223372036854775808):bits .and .i64 (c:Int) 524287=((c % 2 ^ 19:Nat):Int):=mask_nat 19 c (by decide) hc
theorem shr20 (c:Nat):IntKind.u8.wrap ((c:Int) / 1048576)=((UInt8.ofNat (c / 2 ^ 20)).toNat:Int):=byte_shr c (2 ^ 20)
theorem shr19 (c:Nat):IntKind.u8.wrap ((c:Int) / 524288)=((UInt8.ofNat (c / 2 ^ 19)).toNat:Int):=byte_shr c (2 ^ 19)
theorem u8_ne255 {q:UInt8} (h:q≠255):¬ ((q.toNat:Int)=255):=fun e=>h (UInt8.toNat_inj.1 (show q.toNat=255 by omega))
theorem u8_ne255b {q:UInt8} (h:q≠255):((q.toNat:Int) == 255)=false:=beq_eq_false_iff_ne.2 (u8_ne255 h)
theorem u8_inc (q:UInt8) (h:q≠255):((q+1).toNat:Int)=(q.toNat:Int)+1:=by
 have h1:q.toNat≠255:=fun e=>h (UInt8.toNat_inj.1 (by rw[e];rfl))
 have h2:=q.toNat_lt
 rw[UInt8.toNat_add]
 have:(1:UInt8).toNat=1:=rfl
 rw[this]
 omega
theorem out_f (eg:Nat) (e:EncM) (w:World) (H:List HB) (h:MqR eg e H) (hs:Sat w H) (hb:e.b≠[]) (hl:e.b.length≤90000000) (hc:e.c≤1000000000000) (hq:e.b.getLastD 0=255) :
  Calls Tryz.prog 104 #[.pointer (some ⟨eg,0,none⟩)] w fun e0 w'=>e0=.returned (.tuple #[])∧∃ H',MqR eg (outE e) H'∧Mv w H w' H':=by
 obtain⟨a,cc,ct,b⟩:=e
 simp only at hb hl hc hq
 have EO:outE ⟨a,cc,ct,b⟩=⟨a,cc % 2 ^ 20,7,b++[UInt8.ofNat (cc / 2 ^ 20)]⟩:=by
  unfold outE carryE putE
  simp only[hq,ne_eq,not_true_eq_false,false_and,if_false,if_true]
 rw[EO]
 obtain⟨vb,Hb,rfl,hr⟩:=h
 simp only at hr
 have hb0:0<b.length:=List.length_pos_iff.2 hb
 obtain⟨g,cp,rfl,-,-⟩:=hr.last (hs.right (A:=[_])) hb0
 have M0:=Mv.refl hs
 obtain⟨n,hn⟩:∃ n,b.length=n:=⟨_,rfl⟩
 have hn0:0<n:=by omega
 have hnl:n≤90000000:=by omega
 rw[hn] at hr M0 ⊢
 simp only at M0
 have c0:w.cell? ⟨eg,3,none⟩=some (.slice (some ⟨g,0,none⟩) n cp):=M0.cell 0 rfl 3
 have c1:w.cell? ⟨eg,1,none⟩=some (.int .i64 (cc:Int)):=M0.cell 0 rfl 1
 obtain⟨k1,k2⟩:=hr.at_last (hs.right (A:=[_])) hn hn0
 have f1:w.frozen? ⟨eg,1,none⟩=false:=M0.frozen 0 rfl 1
 have d2:(n:Int) - 1=((n - 1:Nat):Int):=by omega
 have d3:(((n - 1:Nat):Int))<(n:Int):=by omega
 rw[hq] at k1
 obtain⟨x,hx⟩:∃ x,UInt8.ofNat (cc / 2 ^ 20)=x:=⟨_,rfl⟩
 have hx8:=shr20 cc
 have hm:=mask20 cc (by omega)
 rw[hx] at hx8 ⊢
 have K:=Lib.hid (And.intro hr (And.intro M0 hn))
 clear hn hr M0 hs hb hl hb0 hq EO hx
 go_enter Tryz.func104,Tryz.ntmps104
 go_upto_region 5 with fail
 have M1':=K.out.2.1.alloc 5 #[.int .u8 (x.toNat:Int)]
 have y7:=M1'.cell 1 rfl 3
 have A1:Hid (BV (w.alloc (.cells #[.int .u8 (x.toNat:Int)] 5)).drew (.slice (some ⟨w.heap.size,0,none⟩) 1 1) [x]):=Lib.hid (bv_one w x _ rfl)
 have K1:=Lib.hid (Mv.behind M1'.drew)
 clear M1'
 go_region_law (first
  | ((with_reducible refine step_appB (o:=⟨some 61,_,_,_,_,_⟩) (v:=.slice (some ⟨g,0,none⟩) n cp) (u:=.slice (some ⟨w.heap.size,0,none⟩) 1 1) (l:=b) (r:=[x]) (H:=Hb) rfl (.tmp 53) (.tmp 60) rfl ?_ ?_ K.out.1 K1.out.sat.left A1.out ?_ ?_);simp[Act.eval];simp[Act.eval];(rw[K.out.2.2];simp;omega);intro v6 w6 H6 hr6 m6;obtain⟨a6,c6,rfl⟩:=hr6.slice;have M6:=Mv.second (Mv.call K1.out m6);have y3:=M6.cell 0 rfl 3;have y1:=M6.cell 0 rfl 1;have z3:=M6.frozen 0 rfl 3;have K6:=Lib.hid (And.intro hr6 M6);clear hr6 m6 M6))
 all_goals
  have M7:=K6.out.2.set 3 (.slice a6 (b.length+1) c6)
  obtain⟨w7,hw7⟩:∃ w7,w7=w6.setCell ⟨eg,3,none⟩ (.slice a6 (b.length+1) c6):=⟨_,rfl⟩
  rw[← hw7] at M7 ⊢
  have e1:=M7.cell 0 rfl 1
  have f1:=M7.frozen 0 rfl 1
  have e2:=M7.cell 0 rfl 2
  have f2:=M7.frozen 0 rfl 2
  have K7:=Lib.hid M7
  clear hw7 M7 y1 y3 z3
  go_wp2_with fail
  have M9:=(K7.out.set 1 (.int .i64 ((cc % 2 ^ 20:Nat):Int))).set 2 (.int .i64 7)
  have h6:=K6.out.1
  simp only[List.length_append,List.length_cons,List.length_nil,Nat.zero_add] at h6
  exact bodyPost_ret (results_none rfl _ _ _) rfl ⟨rfl,_,⟨_,H6,rfl,h6⟩,M9⟩
theorem out_n (eg:Nat) (e:EncM) (w:World) (H:List HB) (h:MqR eg e H) (hs:Sat w H) (hb:e.b≠[]) (hl:e.b.length≤90000000) (hc:e.c≤1000000000000) (hq:e.b.getLastD 0≠255) (hcc:e.c<134217728) :
  Calls Tryz.prog 104 #[.pointer (some ⟨eg,0,none⟩)] w fun e0 w'=>e0=.returned (.tuple #[])∧∃ H',MqR eg (outE e) H'∧Mv w H w' H':=by
 obtain⟨a,cc,ct,b⟩:=e
 simp only at hb hl hc hq hcc
 have EO:outE ⟨a,cc,ct,b⟩=⟨a,cc % 2 ^ 19,8,b++[UInt8.ofNat (cc / 2 ^ 19)]⟩:=by
  have h1:¬ (b.getLastD 0≠255∧134217728≤cc):=fun k=>by omega
  unfold outE carryE putE
  rw[if_neg h1,if_neg hq]
 rw[EO]
 obtain⟨vb,Hb,rfl,hr⟩:=h
 simp only at hr
 have hb0:0<b.length:=List.length_pos_iff.2 hb
 obtain⟨g,cp,rfl,-,-⟩:=hr.last (hs.right (A:=[_])) hb0
 have M0:=Mv.refl hs
 obtain⟨n,hn⟩:∃ n,b.length=n:=⟨_,rfl⟩
 have hn0:0<n:=by omega
 have hnl:n≤90000000:=by omega
 rw[hn] at hr M0 ⊢
 simp only at M0
 have c0:w.cell? ⟨eg,3,none⟩=some (.slice (some ⟨g,0,none⟩) n cp):=M0.cell 0 rfl 3
 have c1:w.cell? ⟨eg,1,none⟩=some (.int .i64 (cc:Int)):=M0.cell 0 rfl 1
 obtain⟨k1,k2⟩:=hr.at_last (hs.right (A:=[_])) hn hn0
 have f1:w.frozen? ⟨eg,1,none⟩=false:=M0.frozen 0 rfl 1
 have d2:(n:Int) - 1=((n - 1:Nat):Int):=by omega
 have d3:(((n - 1:Nat):Int))<(n:Int):=by omega
 obtain⟨q,hqq⟩:∃ q,b.getLastD 0=q:=⟨_,rfl⟩
 rw[hqq] at k1 hq
 have h255:q≠255:=hq
 have q0:=u8_ne255b h255
 have q9:=u8_ne255 h255
 have d5:decide ((134217728:Int)≤(cc:Int))=false:=by simp;omega
 obtain⟨x,hx⟩:∃ x,UInt8.ofNat (cc / 2 ^ 19)=x:=⟨_,rfl⟩
 have hx8:=shr19 cc
 have hm:=mask19 cc (by omega)
 rw[hx] at hx8 ⊢
 have K:=Lib.hid (And.intro hr (And.intro M0 hn))
 clear hn hr M0 hs hb hl hb0 hq EO hx hqq hcc h255
 go_enter Tryz.func104,Tryz.ntmps104
 go_upto_region 8 with fail
 have M1':=K.out.2.1.alloc 5 #[.int .u8 (x.toNat:Int)]
 have y7:=M1'.cell 1 rfl 3
 have A1:Hid (BV (w.alloc (.cells #[.int .u8 (x.toNat:Int)] 5)).drew (.slice (some ⟨w.heap.size,0,none⟩) 1 1) [x]):=Lib.hid (bv_one w x _ rfl)
 have K1:=Lib.hid (Mv.behind M1'.drew)
 clear M1'
 go_region_law (first
  | ((with_reducible refine step_appB (o:=⟨some 87,_,_,_,_,_⟩) (v:=.slice (some ⟨g,0,none⟩) n cp) (u:=.slice (some ⟨w.heap.size,0,none⟩) 1 1) (l:=b) (r:=[x]) (H:=Hb) rfl (.tmp 79) (.tmp 86) rfl ?_ ?_ K.out.1 K1.out.sat.left A1.out ?_ ?_);simp[Act.eval];simp[Act.eval];(rw[K.out.2.2];simp;omega);intro v6 w6 H6 hr6 m6;obtain⟨a6,c6,rfl⟩:=hr6.slice;have M6:=Mv.second (Mv.call K1.out m6);have y3:=M6.cell 0 rfl 3;have y1:=M6.cell 0 rfl 1;have z3:=M6.frozen 0 rfl 3;have K6:=Lib.hid (And.intro hr6 M6);clear hr6 m6 M6))
 all_goals
  have M7:=K6.out.2.set 3 (.slice a6 (b.length+1) c6)
  obtain⟨w7,hw7⟩:∃ w7,w7=w6.setCell ⟨eg,3,none⟩ (.slice a6 (b.length+1) c6):=⟨_,rfl⟩
  rw[← hw7] at M7 ⊢
  have e1:=M7.cell 0 rfl 1
  have f1:=M7.frozen 0 rfl 1
  have e2:=M7.cell 0 rfl 2
  have f2:=M7.frozen 0 rfl 2
  have K7:=Lib.hid M7
  clear hw7 M7 y1 y3 z3
  go_wp2_with fail
  have M9:=(K7.out.set 1 (.int .i64 ((cc % 2 ^ 19:Nat):Int))).set 2 (.int .i64 8)
  have h6:=K6.out.1
  simp only[List.length_append,List.length_cons,List.length_nil,Nat.zero_add] at h6
  exact bodyPost_end (results_none rfl _ _ _) rfl ⟨rfl,_,⟨_,H6,rfl,h6⟩,M9⟩
end
section
open Go.RowKit
theorem out_cf (eg:Nat) (e:EncM) (w:World) (H:List HB) (h:MqR eg e H) (hs:Sat w H) (hb:e.b≠[]) (hl:e.b.length≤90000000) (hc:e.c≤1000000000000) (hq:e.b.getLastD 0=254) (hcc:134217728≤e.c) :
  Calls Tryz.prog 104 #[.pointer (some ⟨eg,0,none⟩)] w fun e0 w'=>e0=.returned (.tuple #[])∧∃ H',MqR eg (outE e) H'∧Mv w H w' H':=by
 obtain⟨a,cc,ct,b⟩:=e
 simp only at hb hl hc hq hcc
 have EO:outE ⟨a,cc,ct,b⟩=⟨a,(cc - 134217728) % 2 ^ 20,7,b.dropLast++[b.getLastD 0+1]++[UInt8.ofNat ((cc - 134217728) / 2 ^ 20)]⟩:=by
  have h1:b.getLastD 0≠255∧134217728≤cc:=⟨by rw[hq];decide,hcc⟩
  have h2:(b.dropLast++[b.getLastD 0+1]).getLastD 0=b.getLastD 0+1:=by simp
  unfold outE carryE putE
  rw[if_pos h1]
  simp only[h2]
  rw[if_pos (by rw[hq];rfl)]
 rw[EO]
 obtain⟨vb,Hb,rfl,hr⟩:=h
 simp only at hr
 have hb0:0<b.length:=List.length_pos_iff.2 hb
 obtain⟨g,cp,rfl,-,-⟩:=hr.last (hs.right (A:=[_])) hb0
 have M0:=Mv.refl hs
 obtain⟨n,hn⟩:∃ n,b.length=n:=⟨_,rfl⟩
 have hn0:0<n:=by omega
 have hnl:n≤90000000:=by omega
 rw[hn] at hr M0 ⊢
 simp only at M0
 have c0:w.cell? ⟨eg,3,none⟩=some (.slice (some ⟨g,0,none⟩) n cp):=M0.cell 0 rfl 3
 have c1:w.cell? ⟨eg,1,none⟩=some (.int .i64 (cc:Int)):=M0.cell 0 rfl 1
 obtain⟨k1,k2⟩:=hr.at_last (hs.right (A:=[_])) hn hn0
 have f1:w.frozen? ⟨eg,1,none⟩=false:=M0.frozen 0 rfl 1
 have d2:(n:Int) - 1=((n - 1:Nat):Int):=by omega
 have d3:(((n - 1:Nat):Int))<(n:Int):=by omega
 obtain⟨q,hqq⟩:∃ q,b.getLastD 0=q:=⟨_,rfl⟩
 rw[hqq] at k1 hq
 have h255:q≠255:=by rw[hq];decide
 have hq254:q=254:=hq
 have q0:=u8_ne255b h255
 have q9:=u8_ne255 h255
 have q1:=(u8_inc q h255).symm
 have ql:(q.toNat:Int)<255:=by have:=(q+1).toNat_lt;omega
 have d5:decide ((134217728:Int)≤(cc:Int))=true:=by simp;omega
 have cw:(cc:Int) - 134217728=((cc - 134217728:Nat):Int):=by omega
 have cl:cc - 134217728≤1000000000000:=by omega
 obtain⟨c1',hc1'⟩:∃ c1',cc - 134217728=c1':=⟨_,rfl⟩
 rw[hc1'] at cw cl ⊢
 rw[hqq]
 obtain⟨H1,j1,j2⟩:=RowB.set_last (by rw[hn];exact hr) (hs.right (A:=[_])) (by omega) (q+1)
 rw[hn] at j1 j2
 have M1:=Mv.call (R:=[encB eg a cc ct (.slice (some ⟨g,0,none⟩) n cp)]) (M0.sub (H1:=Hb++[encB eg a cc ct (.slice (some ⟨g,0,none⟩) n cp)]) (fun g=>by simp only[cnt_append,cnt_cons,cnt_nil];omega) (fun c hc=>by simp only[List.mem_append,List.mem_cons] at hc ⊢;grind)) j2
 have M2:Mv w _ _ (encB eg a cc ct (.slice (some ⟨g,0,none⟩) n cp)::H1):=M1.sub (fun g=>by simp only[cnt_append,cnt_cons,cnt_nil];omega) (fun c hc=>by simp only[List.mem_append,List.mem_cons] at hc ⊢;grind)
 have g1:=M2.cell 0 rfl 1
 have g2:=M2.frozen 0 rfl 1
 have M3:=M2.set 1 (.int .i64 (c1':Int))
 obtain⟨q',hq'⟩:∃ q',q+1=q':=⟨_,rfl⟩
 rw[hq'] at M1 M2 M3 g1 g2 q1 j1 ⊢
 obtain⟨b1,hb1⟩:∃ b1,b.dropLast++[q']=b1:=⟨_,rfl⟩
 rw[hb1] at j1 ⊢
 have hn1:b1.length=n:=by rw[← hb1,List.length_append,List.length_dropLast,List.length_singleton];omega
 have hl1:b1.getLastD 0=q':=by rw[← hb1];simp
 obtain⟨x,hx⟩:∃ x,UInt8.ofNat (c1' / 2 ^ 20)=x:=⟨_,rfl⟩
 have hx8:=shr20 c1'
 have hm:=mask20 c1' (by omega)
 rw[hx] at hx8 ⊢
 obtain⟨kk1,kk2⟩:=j1.at_last (M3.sat.right (A:=[_])) hn1 hn0
 rw[hl1] at kk1
 have y0:=M3.cell 0 rfl 3
 have y1:=M3.cell 0 rfl 1
 have K:=Lib.hid (And.intro j1 (And.intro M3 hn1))
 obtain⟨w1,hw1⟩:∃ w1,w1=(w.setCell ⟨g,n - 1,none⟩ (.int .u8 (q'.toNat:Int))).setCell ⟨eg,1,none⟩ (.int .i64 (c1':Int)):=⟨_,rfl⟩
 rw[← hw1] at kk1 kk2 y0 y1 K
 have HW:=Lib.hid hw1
 clear hn hr M0 hs hb hl hb0 hq EO j1 j2 M1 M2 M3 hb1 hn1 hl1 hx hqq hc1' hcc h255 hw1
 have q2:((q'.toNat:Int) == 255)=true:=by rw[← q1,hq254];rfl
 clear hq254 hq'
 go_enter Tryz.func104,Tryz.ntmps104
 have Q1:=Lib.hid q1
 have CW:=Lib.hid cw
 clear q1 cw
 go_upto_region 2 with fail
 have q1:=Q1.out
 go_upto_region 3 with fail
 clear q1
 have cw:=CW.out
 go_upto_region 4 with fail
 clear cw
 rw[← HW.out]
 clear HW c0 c1 k1 k2 f1 g1 g2
 go_upto_region 5 with fail
 have M1':=K.out.2.1.alloc 5 #[.int .u8 (x.toNat:Int)]
 have y7:=M1'.cell 1 rfl 3
 have A1:Hid (BV (w1.alloc (.cells #[.int .u8 (x.toNat:Int)] 5)).drew (.slice (some ⟨w1.heap.size,0,none⟩) 1 1) [x]):=Lib.hid (bv_one w1 x _ rfl)
 have K1:=Lib.hid (Mv.behind M1'.drew)
 clear M1'
 go_region_law (first
  | ((with_reducible refine step_appB (o:=⟨some 61,_,_,_,_,_⟩) (v:=.slice (some ⟨g,0,none⟩) n cp) (u:=.slice (some ⟨w1.heap.size,0,none⟩) 1 1) (l:=b1) (r:=[x]) (H:=H1) rfl (.tmp 53) (.tmp 60) rfl ?_ ?_ K.out.1 K1.out.sat.left A1.out ?_ ?_);simp[Act.eval];simp[Act.eval];(rw[K.out.2.2];simp;omega);intro v6 w6 H6 hr6 m6;obtain⟨a6,c6,rfl⟩:=hr6.slice;have M6:=Mv.second (Mv.call K1.out m6);have y3:=M6.cell 0 rfl 3;have y1:=M6.cell 0 rfl 1;have z3:=M6.frozen 0 rfl 3;have K6:=Lib.hid (And.intro hr6 M6);clear hr6 m6 M6))
 all_goals
  have M7:=K6.out.2.set 3 (.slice a6 (b1.length+1) c6)
  obtain⟨w7,hw7⟩:∃ w7,w7=w6.setCell ⟨eg,3,none⟩ (.slice a6 (b1.length+1) c6):=⟨_,rfl⟩
  rw[← hw7] at M7 ⊢
  have e1:=M7.cell 0 rfl 1
  have f1:=M7.frozen 0 rfl 1
  have e2:=M7.cell 0 rfl 2
  have f2:=M7.frozen 0 rfl 2
  have K7:=Lib.hid M7
  clear hw7 M7 y1 y3 z3
  go_wp2_with fail
  have M9:=(K7.out.set 1 (.int .i64 ((c1' % 2 ^ 20:Nat):Int))).set 2 (.int .i64 7)
  have h6:=K6.out.1
  simp only[List.length_append,List.length_cons,List.length_nil,Nat.zero_add] at h6
  exact bodyPost_ret (results_none rfl _ _ _) rfl ⟨rfl,_,⟨_,H6,rfl,h6⟩,M9⟩
theorem out_cn (eg:Nat) (e:EncM) (w:World) (H:List HB) (h:MqR eg e H) (hs:Sat w H) (hb:e.b≠[]) (hl:e.b.length≤90000000) (hc:e.c≤1000000000000) (hq:e.b.getLastD 0≠255) (hq2:e.b.getLastD 0≠254) (hcc:134217728≤e.c) :
  Calls Tryz.prog 104 #[.pointer (some ⟨eg,0,none⟩)] w fun e0 w'=>e0=.returned (.tuple #[])∧∃ H',MqR eg (outE e) H'∧Mv w H w' H':=by
 obtain⟨a,cc,ct,b⟩:=e
 simp only at hb hl hc hq hcc hq2
 have EO:outE ⟨a,cc,ct,b⟩=⟨a,(cc - 134217728) % 2 ^ 19,8,b.dropLast++[b.getLastD 0+1]++[UInt8.ofNat ((cc - 134217728) / 2 ^ 19)]⟩:=by
  have h1:b.getLastD 0≠255∧134217728≤cc:=⟨hq,hcc⟩
  have h2:(b.dropLast++[b.getLastD 0+1]).getLastD 0=b.getLastD 0+1:=by simp
  unfold outE carryE putE
  rw[if_pos h1]
  simp only[h2]
  rw[if_neg (fun k=>hq2 (by have:=congrArg (fun x=>x - 1) k;simpa using this))]
 rw[EO]
 obtain⟨vb,Hb,rfl,hr⟩:=h
 simp only at hr
 have hb0:0<b.length:=List.length_pos_iff.2 hb
 obtain⟨g,cp,rfl,-,-⟩:=hr.last (hs.right (A:=[_])) hb0
 have M0:=Mv.refl hs
 obtain⟨n,hn⟩:∃ n,b.length=n:=⟨_,rfl⟩
 have hn0:0<n:=by omega
 have hnl:n≤90000000:=by omega
 rw[hn] at hr M0 ⊢
 simp only at M0
 have c0:w.cell? ⟨eg,3,none⟩=some (.slice (some ⟨g,0,none⟩) n cp):=M0.cell 0 rfl 3
 have c1:w.cell? ⟨eg,1,none⟩=some (.int .i64 (cc:Int)):=M0.cell 0 rfl 1
 obtain⟨k1,k2⟩:=hr.at_last (hs.right (A:=[_])) hn hn0
 have f1:w.frozen? ⟨eg,1,none⟩=false:=M0.frozen 0 rfl 1
 have d2:(n:Int) - 1=((n - 1:Nat):Int):=by omega
 have d3:(((n - 1:Nat):Int))<(n:Int):=by omega
 obtain⟨q,hqq⟩:∃ q,b.getLastD 0=q:=⟨_,rfl⟩
 rw[hqq] at k1 hq hq2
 have h255:q≠255:=hq
 have hq3:q≠254:=hq2
 have q0:=u8_ne255b h255
 have q9:=u8_ne255 h255
 have q1:=(u8_inc q h255).symm
 have ql:(q.toNat:Int)<255:=by have:=(q+1).toNat_lt;omega
 have d5:decide ((134217728:Int)≤(cc:Int))=true:=by simp;omega
 have cw:(cc:Int) - 134217728=((cc - 134217728:Nat):Int):=by omega
 have cl:cc - 134217728≤1000000000000:=by omega
 obtain⟨c1',hc1'⟩:∃ c1',cc - 134217728=c1':=⟨_,rfl⟩
 rw[hc1'] at cw cl ⊢
 rw[hqq]
 obtain⟨H1,j1,j2⟩:=RowB.set_last (by rw[hn];exact hr) (hs.right (A:=[_])) (by omega) (q+1)
 rw[hn] at j1 j2
 have M1:=Mv.call (R:=[encB eg a cc ct (.slice (some ⟨g,0,none⟩) n cp)]) (M0.sub (H1:=Hb++[encB eg a cc ct (.slice (some ⟨g,0,none⟩) n cp)]) (fun g=>by simp only[cnt_append,cnt_cons,cnt_nil];omega) (fun c hc=>by simp only[List.mem_append,List.mem_cons] at hc ⊢;grind)) j2
 have M2:Mv w _ _ (encB eg a cc ct (.slice (some ⟨g,0,none⟩) n cp)::H1):=M1.sub (fun g=>by simp only[cnt_append,cnt_cons,cnt_nil];omega) (fun c hc=>by simp only[List.mem_append,List.mem_cons] at hc ⊢;grind)
 have g1:=M2.cell 0 rfl 1
 have g2:=M2.frozen 0 rfl 1
 have M3:=M2.set 1 (.int .i64 (c1':Int))
 obtain⟨q',hq'⟩:∃ q',q+1=q':=⟨_,rfl⟩
 rw[hq'] at M1 M2 M3 g1 g2 q1 j1 ⊢
 obtain⟨b1,hb1⟩:∃ b1,b.dropLast++[q']=b1:=⟨_,rfl⟩
 rw[hb1] at j1 ⊢
 have hn1:b1.length=n:=by rw[← hb1,List.length_append,List.length_dropLast,List.length_singleton];omega
 have hl1:b1.getLastD 0=q':=by rw[← hb1];simp
 obtain⟨x,hx⟩:∃ x,UInt8.ofNat (c1' / 2 ^ 19)=x:=⟨_,rfl⟩
 have hx8:=shr19 c1'
 have hm:=mask19 c1' (by omega)
 rw[hx] at hx8 ⊢
 obtain⟨kk1,kk2⟩:=j1.at_last (M3.sat.right (A:=[_])) hn1 hn0
 rw[hl1] at kk1
 have y0:=M3.cell 0 rfl 3
 have y1:=M3.cell 0 rfl 1
 have K:=Lib.hid (And.intro j1 (And.intro M3 hn1))
 obtain⟨w1,hw1⟩:∃ w1,w1=(w.setCell ⟨g,n - 1,none⟩ (.int .u8 (q'.toNat:Int))).setCell ⟨eg,1,none⟩ (.int .i64 (c1':Int)):=⟨_,rfl⟩
 rw[← hw1] at kk1 kk2 y0 y1 K
 have HW:=Lib.hid hw1
 clear hn hr M0 hs hb hl hb0 hq EO j1 j2 M1 M2 M3 hb1 hn1 hl1 hx hqq hq2 hc1' hcc h255 hw1
 have h255':q'≠255:=fun e=>hq3 (by rw[← hq'] at e;have:=congrArg (fun x=>x - 1) e;simpa using this)
 have q2:=u8_ne255b h255'
 have q3:=u8_ne255 h255'
 clear h255'
 clear hq3 hq'
 go_enter Tryz.func104,Tryz.ntmps104
 have Q1:=Lib.hid q1
 have CW:=Lib.hid cw
 clear q1 cw
 go_upto_region 2 with fail
 have q1:=Q1.out
 go_upto_region 3 with fail
 clear q1
 have cw:=CW.out
 go_upto_region 4 with fail
 clear cw
 rw[← HW.out]
 clear HW c0 c1 k1 k2 f1 g1 g2
 go_upto_region 8 with fail
 have M1':=K.out.2.1.alloc 5 #[.int .u8 (x.toNat:Int)]
 have y7:=M1'.cell 1 rfl 3
 have A1:Hid (BV (w1.alloc (.cells #[.int .u8 (x.toNat:Int)] 5)).drew (.slice (some ⟨w1.heap.size,0,none⟩) 1 1) [x]):=Lib.hid (bv_one w1 x _ rfl)
 have K1:=Lib.hid (Mv.behind M1'.drew)
 clear M1'
 go_region_law (first
  | ((with_reducible refine step_appB (o:=⟨some 87,_,_,_,_,_⟩) (v:=.slice (some ⟨g,0,none⟩) n cp) (u:=.slice (some ⟨w1.heap.size,0,none⟩) 1 1) (l:=b1) (r:=[x]) (H:=H1) rfl (.tmp 79) (.tmp 86) rfl ?_ ?_ K.out.1 K1.out.sat.left A1.out ?_ ?_);simp[Act.eval];simp[Act.eval];(rw[K.out.2.2];simp;omega);intro v6 w6 H6 hr6 m6;obtain⟨a6,c6,rfl⟩:=hr6.slice;have M6:=Mv.second (Mv.call K1.out m6);have y3:=M6.cell 0 rfl 3;have y1:=M6.cell 0 rfl 1;have z3:=M6.frozen 0 rfl 3;have K6:=Lib.hid (And.intro hr6 M6);clear hr6 m6 M6))
 all_goals
  have M7:=K6.out.2.set 3 (.slice a6 (b1.length+1) c6)
  obtain⟨w7,hw7⟩:∃ w7,w7=w6.setCell ⟨eg,3,none⟩ (.slice a6 (b1.length+1) c6):=⟨_,rfl⟩
  rw[← hw7] at M7 ⊢
  have e1:=M7.cell 0 rfl 1
  have f1:=M7.frozen 0 rfl 1
  have e2:=M7.cell 0 rfl 2
  have f2:=M7.frozen 0 rfl 2
  have K7:=Lib.hid M7
  clear hw7 M7 y1 y3 z3
  go_wp2_with fail
  have M9:=(K7.out.set 1 (.int .i64 ((c1' % 2 ^ 19:Nat):Int))).set 2 (.int .i64 8)
  have h6:=K6.out.1
  simp only[List.length_append,List.length_cons,List.length_nil,Nat.zero_add] at h6
  exact bodyPost_end (results_none rfl _ _ _) rfl ⟨rfl,_,⟨_,H6,rfl,h6⟩,M9⟩
theorem out_any (eg:Nat) (e:EncM) (w:World) (H:List HB) (h:MqR eg e H) (hs:Sat w H) (hb:e.b≠[]) (hl:e.b.length≤90000000) (hc:e.c≤1000000000000) :
  Calls Tryz.prog 104 #[.pointer (some ⟨eg,0,none⟩)] w fun e0 w'=>e0=.returned (.tuple #[])∧∃ H',MqR eg (outE e) H'∧Mv w H w' H':=by
 by_cases h1:e.b.getLastD 0=255
 ·exact out_f eg e w H h hs hb hl hc h1
 ·by_cases h2:e.c<134217728
  ·exact out_n eg e w H h hs hb hl hc h1 h2
  ·by_cases h3:e.b.getLastD 0=254
   ·exact out_cf eg e w H h hs hb hl hc h3 (by omega)
   ·exact out_cn eg e w H h hs hb hl hc h1 h3 (by omega)
end
section
open Go.RowKit
def passN (total layers l:Int):Int:=if l<1 then 0 else if layers<1 then 0 else if layers<l then min (max total 0) 100 else min (max total 0) 100 * min l 100 / min layers 100
theorem passN_zero (layers l:Int):passN 0 layers l=0:=by
 unfold passN
 split
 ·rfl
 ·split
  ·rfl
  ·have e:min (max (0:Int) 0) 100=0:=by omega
   rw[e]
   split
   ·rfl
   ·rw[Int.zero_mul,Int.zero_ediv]
theorem passN_le (total layers l:Int):0≤passN total layers l∧passN total layers l≤100:=by
 unfold passN
 split
 ·omega
 ·split
  ·omega
  ·split
   ·omega
   ·have h1:1≤min layers 100:=by omega
    have h2:0≤min (max total 0) 100∧min (max total 0) 100≤100:=by omega
    have h3:1≤min l 100∧min l 100≤min layers 100:=by omega
    generalize min layers 100=a at *
    generalize min (max total 0) 100=b at *
    generalize min l 100=c at *
    constructor
    ·exact Int.ediv_nonneg (Int.mul_nonneg h2.1 (by omega)) (by omega)
    ·have:b * c≤100 * a:=Int.mul_le_mul h2.2 h3.2 (by omega) (by omega)
     exact Int.ediv_le_of_le_mul (by omega) this
theorem pass_mid (t n l a b c:Int) (h1:1≤l) (h2:1≤n) (h3:l≤n) (ha:a=min (max t 0) 100) (hb:b=min l 100) (hc:c=min n 100):wrap64 ((wrap64 (a * b)).tdiv c)=passN t n l:=by
 have e:passN t n l=a * b / c:=by unfold passN;rw[if_neg (by omega),if_neg (by omega),if_neg (by omega),ha,hb,hc]
 have k:=passN_le t n l
 have ha1:0≤a∧a≤100:=by omega
 have hb1:0≤b∧b≤100:=by omega
 have h4:0≤a * b:=Int.mul_nonneg ha1.1 hb1.1
 have h5:a * b≤100 * 100:=Int.mul_le_mul ha1.2 hb1.2 hb1.1 (by omega)
 rw[e] at k ⊢
 rw[← IntWalk.i64_left (a * b),IntWalk.i64_in _ (by omega),Int.tdiv_eq_ediv_of_nonneg h4,← IntWalk.i64_left (a * b / c),IntWalk.i64_in _ (by omega)]
theorem passes_any (t n l:Int) (w:World) (ht:0≤t∧t≤1000000) (hn : -1000000≤n∧n≤1000000) (hl : -1000000≤l∧l≤1000000) :
  Calls Tryz.prog 70 #[.int .i64 t,.int .i64 n,.int .i64 l] w fun e w'=>e=.returned (.int .i64 (passN t n l))∧Mv w [] w' []:=by
 go_enter Tryz.func70,Tryz.ntmps70
 go_wp2_with fail
 all_goals
  go_ret
  refine⟨?_,Mv.refl (Sat.nil _)⟩
  refine congrArg Ending.returned (congrArg (Value.int .i64) ?_)
  first
  | (unfold passN;omega)
  | exact pass_mid t n l 100 100 100 (by omega) (by omega) (by omega) (by omega) (by omega) (by omega)
  | exact pass_mid t n l _ _ _ (by omega) (by omega) (by omega) (by omega) (by omega) (by omega)
theorem flag_any (b:Bool) (w:World) :
  Calls Tryz.prog 27 #[.bool b] w fun e w'=>e=.returned (.int .i64 (if b then 1 else 0))∧w'=w:=by
 cases b
 all_goals
  go_enter Tryz.func27,Tryz.ntmps27
  go_wp2_with fail
  go_ret
  exact⟨rfl,rfl⟩
end
section
open Go.RowKit
theorem fresh_any (x:SpotX) (count layer:Int) (w:World) (A:Option Addr) (n c:Nat) (hc:w.cell? ⟨x.d.lb,x.k * 5+1,none⟩=some (.slice A n c)) (_hx:x.k≤100000) (hn:n≤1000000) (hct:0≤count∧count≤100000) (hl : -1≤layer∧layer≤100000) :
  Calls Tryz.prog 24 #[x.v,.int .i64 count,.int .i64 layer] w fun e w'=>e=.returned (.int .i64 (passN n count (layer+1)))∧Mv w [] w' []:=by
 have C:=Lib.hid fun W=>passes_any n count (layer+1) W ⟨by omega,by omega⟩ ⟨by omega,by omega⟩ ⟨by omega,by omega⟩
 have M:=(mv_alloc w 66 x.cells).drop1
 have c1:=((Below.refl w.heap.size w).alloc (Nat.le_refl _) (.cells x.cells 66)).cell (p:=⟨x.d.lb,x.k * 5+1,none⟩) (World.block_lt_of_cell? w _ hc)
 rw[hc] at c1
 have b0:=(Blk.new w 66 x.cells).cell 0
 unfold SpotX.v
 unfold SpotX.cells at M c1 b0
 have K:=Lib.hid M
 clear M
 go_enter Tryz.func24,Tryz.ntmps24
 go_wp2_with (go_at_call 70;with_reducible refine(C.out _).mono ?_;rintro e w2 ⟨rfl,m2⟩;have K2:=Lib.hid m2;clear m2)
 go_ret
 exact⟨rfl,K.out.trans K2.out⟩
theorem getT_any (tb lb n c:Nat) (k:Int) (w:World) (hc:w.cell? ⟨tb,0,none⟩=some (.slice (some ⟨lb,0,none⟩) n c)) (_hn:n≤100000) :
  Calls Tryz.prog 66 #[.pointer (some ⟨tb,0,none⟩),.int .i64 k] w fun e w'=>w'=w∧e=.returned (if k<0∨(n:Int)≤k then .tuple #[.pointer none,.bool false] else .tuple #[.pointer (some ⟨lb,k.toNat * 5,none⟩),.bool true]):=by
 by_cases h:k<0∨(n:Int)≤k
 ·rw[if_pos h]
  go_enter Tryz.func66,Tryz.ntmps66
  go_wp2_with fail
  all_goals first
  | omega
  | (go_ret2;exact⟨rfl,rfl⟩)
 ·rw[if_neg h]
  obtain⟨j,rfl⟩:∃ j:Nat,k=(j:Int):=⟨k.toNat,by omega⟩
  have hj:j<n:=by omega
  have d1:decide ((j:Int)<0)=false:=by simp
  have d2:decide ((n:Int)≤(j:Int))=false:=by simp;omega
  rw[Int.toNat_natCast]
  go_enter Tryz.func66,Tryz.ntmps66
  go_wp2_with fail
  all_goals first
  | omega
  | (go_ret2;exact⟨rfl,rfl⟩)
end
section
open Go.RowKit
def setUpL:LevM→List LevM→Nat→Nat→List LevM
 | _,[],_,_=>[]
 | B,L::R,x,y=>L.setN (x / 2) (y / 2) (leastM B (x / 2) (y / 2))::setUpL (L.setN (x / 2) (y / 2) (leastM B (x / 2) (y / 2))) R (x / 2) (y / 2)
def setT (T:List LevM) (k:Nat) (n:Int):List LevM :=
 match T with
 | []=>[]
 | L::R=>L.setN (k % L.w) (k / L.w) n::setUpL (L.setN (k % L.w) (k / L.w) n) R (k % L.w) (k / L.w)
theorem setUpP_map (B:LevM) (R:List LvG) (x y:Nat):(setUpP B R x y).map (·.2)=setUpL B (R.map (·.2)) x y:=by
 induction R generalizing B x y with
 | nil=>rfl
 | cons p R ih =>
  show _::_=_::_
  rw[ih]
theorem setP_map (P:List LvG) (k:Nat) (n:Int) (p0:LvG) (h:P[0]?=some p0):(setP P (k % p0.2.w) (k / p0.2.w) n).map (·.2)=setT (P.map (·.2)) k n:=by
 cases P with
 | nil=>simp at h
 | cons p R =>
  simp at h
  subst h
  show _::_=_::_
  rw[setUpP_map]
def frGo (count np:Int):Nat→Nat→Nat
 | 0,n=>n
 | f+1,n=>if passN np count ((n:Int)+1)=0 then frGo count np f (n+1) else n
def frN (count:Nat) (np:Nat):Nat:=frGo count np count 0
def plantStep (count:Nat) (m:BandM) (k:Nat):BandM :=
 match m.ss[k]? with
 | none=>m
 | some s=>{ m with first:=setT m.first k (frN count s.ps.length),zeros:=setT m.zeros k (max (m.planes - s.pl) 0) }
def plantM (count:Nat) (m:BandM):BandM:=if m.set then m else (List.range m.ss.length).foldl (plantStep count) { m with set:=true }
theorem state_cells {w:World} {lb:Nat} {G:List StG} (h:Blk w lb 69 (G.flatMap StG.v).toArray) {k:Nat} {s:StG} (hs:G[k]?=some s) :
  w.cell? ⟨lb,k * 5,none⟩=some (.int .i64 s.m.pl)∧w.cell? ⟨lb,k * 5+1,none⟩=some s.vp∧w.cell? ⟨lb,k * 5+2,none⟩=some s.vb∧w.cell? ⟨lb,k * 5+3,none⟩=some (.int .i64 s.m.said)∧w.cell? ⟨lb,k * 5+4,none⟩=some (.int .i64 s.m.lb)∧∀ i,w.frozen? ⟨lb,i,none⟩=false:=by
 have g:=fun j (hj:j<5)=>flat_get StG.v 5 StG.v_length G k s hs j hj
 have c:=fun i=>h.cell i
 simp only[List.getElem?_toArray] at c
 refine⟨?_,?_,?_,?_,?_,fun i=>h.frozen i⟩
 ·rw[c];exact g 0 (by omega)
 ·rw[c];exact g 1 (by omega)
 ·rw[c];exact g 2 (by omega)
 ·rw[c];exact g 3 (by omega)
 ·rw[c];exact g 4 (by omega)
theorem BandG.mem_band (b:BandG) (d:BandA):bandB b d∈b.heap d:=List.mem_cons_self
theorem BandG.mem_states (b:BandG) (d:BandA):statesB b d∈b.heap d:=List.mem_cons_of_mem _ List.mem_cons_self
theorem Mv.blkm {w0 w:World} {H0 H:List HB} (h:Mv w0 H0 w H) {x:HB} (hx:x∈H):Blk w x.g x.t x.cs:=h.sat.2 x hx
end
section
open Go.RowKit
theorem store_tab {R:Array Value} (h:R.size=188) (h1:∀ v∈R.toList,v.oneCell'=true) (W:World) :
  (storeCells ⟨W.heap.size,0,none⟩ R.toList).run Tryz.prog (W.alloc (.cells Tryz.zeroCells225 225))=.ok () ((W.alloc (.cells Tryz.zeroCells225 225)).setRow W.heap.size R):=by
 have:=run_storeCells_from (P:=Tryz.prog) W.heap.size 225 R.toList 0 Tryz.zeroCells225 (W.alloc (.cells Tryz.zeroCells225 225)) (Blk.new W _ _) (by rw[Nat.zero_add,Array.length_toList,h];kernel_rfl) h1
 rw[this]
 simp
theorem newTab_blk (W:World) (R:Array Value):Mv W [] ((W.alloc (.cells Tryz.zeroCells225 225)).setRow W.heap.size R) [⟨W.heap.size,225,R⟩] :=
 (mv_alloc W _ _).trans (setRow_eq (Blk.new W _ _))
theorem rowsV_size:rowsV.toArray.size=188:=by kernel_rfl
theorem rowsV_one:∀ v∈rowsV.toArray.toList,v.oneCell'=true:=by
 intro v hv
 simp only[rowsV,List.mem_flatMap,List.mem_cons,List.not_mem_nil,or_false] at hv
 obtain⟨s,-,rfl | rfl | rfl | rfl⟩:=hv <;> rfl
theorem rowsV_at (i:Nat) (hi:i<47):rowsV.toArray[i * 4]?=some (.int .i64 (qeAt i).qe)∧rowsV.toArray[i * 4+1]?=some (.int .i64 (qeAt i).mps)∧rowsV.toArray[i * 4+2]?=some (.int .i64 (qeAt i).lps)∧rowsV.toArray[i * 4+3]?=some (.int .i64 (if (qeAt i).swap then 1 else 0)):=by
 have hl:qeT.length=47:=rfl
 have hg:qeT[i]?=some (qeAt i):=by
  unfold qeAt
  rw[List.getD_eq_getElem?_getD,List.getElem?_eq_getElem (by omega)]
  rfl
 have g:=fun j (hj:j<4)=>flat_get (fun s:QeM=>[.int .i64 s.qe,.int .i64 s.mps,.int .i64 s.lps,.int .i64 (if s.swap then 1 else 0)]) 4 (fun _=>rfl) qeT i (qeAt i) hg j hj
 simp only[List.getElem?_toArray]
 exact⟨g 0 (by omega),g 1 (by omega),g 2 (by omega),g 3 (by omega)⟩
theorem state_any (i:Nat) (hi:i<47) (w:World):Calls Tryz.prog 139 #[.int .i64 (i:Int)] w fun e w'=>e=.returned (.agg #[.int .i64 (qeAt i).qe,.int .i64 (qeAt i).mps,.int .i64 (qeAt i).lps,.bool (qeAt i).swap])∧Mv w [] w' []:=by
 have RW:=Lib.hid fun W=>rows3_any W
 obtain⟨R,hR⟩:∃ R,rowsV.toArray=R:=⟨_,rfl⟩
 obtain⟨q,hq⟩:∃ q,qeAt i=q:=⟨_,rfl⟩
 obtain⟨r0,r1,r2,r3⟩:=rowsV_at i hi
 have hz:=rowsV_size
 have ho:=rowsV_one
 rw[hq] at r0 r1 r2 r3 ⊢
 rw[hR] at RW r0 r1 r2 r3 hz ho
 clear hR hq
 have M0:=Lib.hid (mv_alloc w 218 #[.int .i64 0,.int .i64 0,.int .i64 0,.bool false])
 have ST:=Lib.hid (fun W=>store_tab hz ho W)
 clear ho
 have d1:decide ((i:Int)<0)=false:=by simp
 have d2:decide ((46:Int)<(i:Int))=false:=by simp;omega
 have d3:(i:Int)<47:=by omega
 go_enter Tryz.func139,Tryz.ntmps139
 go_upto_region 4 with (go_at_call 141;refine(RW.out _).mono ?_;rintro e w1 ⟨rfl,m1⟩;have hst:=ST.out w1;have K1:=Lib.hid (Mv.call (H:=[]) (H':=[]) M0.out m1);clear m1)
 obtain⟨w2,hw2⟩:∃ w2,w2=((w1.alloc (.cells Tryz.zeroCells225 225)).setRow w1.heap.size R):=⟨_,rfl⟩
 have M2:Mv w [] w2.drew ([⟨w1.heap.size,225,R⟩]++[⟨w.heap.size,218,#[.int .i64 0,.int .i64 0,.int .i64 0,.bool false]⟩]):=by
  rw[hw2]
  exact(Mv.call (H:=[]) K1.out (newTab_blk w1 R)).drew
 rw[← hw2]
 clear hst hw2 K1 RW ST M0
 have B:=Mv.blkm M2 (x:=⟨w1.heap.size,225,R⟩) List.mem_cons_self
 have l0:=(B.cell (i * 4)).trans r0
 have l1:=(B.cell (i * 4+1)).trans r1
 have l2:=(B.cell (i * 4+2)).trans r2
 have l3:=(B.cell (i * 4+3)).trans r3
 simp only at l0 l1 l2 l3
 have S:=Mv.blkm M2 (x:=⟨w.heap.size,218,#[.int .i64 0,.int .i64 0,.int .i64 0,.bool false]⟩) (List.mem_append_right _ List.mem_cons_self)
 have s0:=S.cell 0
 have s1:=S.cell 1
 have s2:=S.cell 2
 have s3:=S.cell 3
 have z0:=S.frozen 0
 have z1:=S.frozen 1
 have z2:=S.frozen 2
 have z3:=S.frozen 3
 simp only at s0 s1 s2 s3 z0 z1 z2 z3
 have M3:Mv w [] w2.drew (⟨w.heap.size,218,#[.int .i64 0,.int .i64 0,.int .i64 0,.bool false]⟩::[]):=M2.drop
 have K3:=Lib.hid M3
 clear M2 M3 B S r0 r1 r2 r3 hz
 go_still_tail 18,(by kernel_rfl)
 change wpList _ _ _ _ _ w2.drew
 generalize w2.drew=w4 at *
 go_wp2_with fail
 case inl =>
  have M9:=(((K3.out.set 0 (.int .i64 (q.qe:Int))).set 1 (.int .i64 (q.mps:Int))).set 2 (.int .i64 (q.lps:Int))).set 3 (.bool true)
  exact bodyPost_ret (v:=.agg #[.int .i64 (q.qe:Int),.int .i64 (q.mps:Int),.int .i64 (q.lps:Int),.bool true]) (results_cell_row Tryz.results139 _ _ w.heap.size 218 _ (0,0) _ rfl (Mv.blkm M9 List.mem_cons_self) Tryz.underlying218 rfl (by kernel_rfl)) rfl ⟨rfl,M9.drop1⟩
 case inr =>
  have M9:=(((K3.out.set 0 (.int .i64 (q.qe:Int))).set 1 (.int .i64 (q.mps:Int))).set 2 (.int .i64 (q.lps:Int))).set 3 (.bool false)
  exact bodyPost_ret (v:=.agg #[.int .i64 (q.qe:Int),.int .i64 (q.mps:Int),.int .i64 (q.lps:Int),.bool false]) (results_cell_row Tryz.results139 _ _ w.heap.size 218 _ (0,0) _ rfl (Mv.blkm M9 List.mem_cons_self) Tryz.underlying218 rfl (by kernel_rfl)) rfl ⟨rfl,M9.drop1⟩
end
section
open Go.RowKit
def cxSet (cs:Array Value) (j i m:Nat):Array Value:=(cs.setIfInBounds j (.int .i64 (i:Int))).setIfInBounds (j+1) (.int .i64 (m:Int))
theorem cxSet_self {cs:Array Value} {j i m:Nat} (h1:cs[j]?=some (.int .i64 (i:Int))) (h2:cs[j+1]?=some (.int .i64 (m:Int))):cxSet cs j i m=cs:=by
 apply Array.ext_getElem?
 intro k
 simp only[cxSet,Array.getElem?_setIfInBounds,Array.size_setIfInBounds]
 have k1:=(Array.getElem?_eq_some_iff.1 h1).1
 have k2:=(Array.getElem?_eq_some_iff.1 h2).1
 by_cases e1:j+1=k
 ·subst e1
  rw[if_pos rfl,if_pos k2,h2]
 ·rw[if_neg e1]
  by_cases e2:j=k
  ·subst e2
   rw[if_pos rfl,if_pos k1,h1]
  ·rw[if_neg e2]
theorem cxSet_i (cs:Array Value) (j i m i':Nat):(cxSet cs j i m).setIfInBounds j (.int .i64 (i':Int))=cxSet cs j i' m:=by
 apply Array.ext_getElem?
 intro k
 simp only[cxSet,Array.getElem?_setIfInBounds,Array.size_setIfInBounds]
 grind
theorem cxSet_m (cs:Array Value) (j i m m':Nat):(cxSet cs j i m).setIfInBounds (j+1) (.int .i64 (m':Int))=cxSet cs j i m':=by
 apply Array.ext_getElem?
 intro k
 simp only[cxSet,Array.getElem?_setIfInBounds,Array.size_setIfInBounds]
 grind
theorem cxSet_get {cs:Array Value} {j:Nat} (h:j+1<cs.size) (i m:Nat):(cxSet cs j i m)[j]?=some (.int .i64 (i:Int))∧(cxSet cs j i m)[j+1]?=some (.int .i64 (m:Int)):=by
 simp only[cxSet,Array.getElem?_setIfInBounds,Array.size_setIfInBounds]
 constructor
 ·rw[if_neg (by omega),if_pos trivial,if_pos (by omega)]
 ·rw[if_pos trivial,if_pos (by omega)]
def stB (sb:Nat) (q:QeM):HB:=⟨sb,218,#[.int .i64 (q.qe:Int),.int .i64 (q.mps:Int),.int .i64 (q.lps:Int),.bool q.swap]⟩
def mqL (eg cb sb:Nat) (t:TypeId) (cs:Array Value) (j:Nat) (v:Value) (q:QeM) (a c ct i m:Nat) (R:List HB):List HB:=encB eg a c ct v::⟨cb,t,cxSet cs j i m⟩::stB sb q::R
section
variable {w0 w:World} {H0 R:List HB} {eg cb sb:Nat} {t:TypeId} {cs:Array Value} {j:Nat} {v:Value} {q:QeM} {a c ct i m:Nat}
theorem mqL_a (h:Mv w0 H0 w (mqL eg cb sb t cs j v q a c ct i m R)) (a':Nat):Mv w0 H0 (w.setCell ⟨eg,0,none⟩ (.int .i64 (a':Int))) (mqL eg cb sb t cs j v q a' c ct i m R):=h.set 0 _
theorem mqL_c (h:Mv w0 H0 w (mqL eg cb sb t cs j v q a c ct i m R)) (c':Nat):Mv w0 H0 (w.setCell ⟨eg,1,none⟩ (.int .i64 (c':Int))) (mqL eg cb sb t cs j v q a c' ct i m R):=h.set 1 _
theorem mqL_i (h:Mv w0 H0 w (mqL eg cb sb t cs j v q a c ct i m R)) (i':Nat):Mv w0 H0 (w.setCell ⟨cb,j,none⟩ (.int .i64 (i':Int))) (mqL eg cb sb t cs j v q a c ct i' m R):=by
 have:=Mv.setAt (A:=[_]) h j (.int .i64 (i':Int))
 rw[cxSet_i] at this
 exact this
theorem mqL_m (h:Mv w0 H0 w (mqL eg cb sb t cs j v q a c ct i m R)) (m':Nat):Mv w0 H0 (w.setCell ⟨cb,j+1,none⟩ (.int .i64 (m':Int))) (mqL eg cb sb t cs j v q a c ct i m' R):=by
 have:=Mv.setAt (A:=[_]) h (j+1) (.int .i64 (m':Int))
 rw[cxSet_m] at this
 exact this
structure MqF (w:World) (eg cb sb j:Nat) (q:QeM) (a c i m:Nat):Prop where
 a:w.cell? ⟨eg,0,none⟩=some (.int .i64 (a:Int))
 c:w.cell? ⟨eg,1,none⟩=some (.int .i64 (c:Int))
 i:w.cell? ⟨cb,j,none⟩=some (.int .i64 (i:Int))
 m:w.cell? ⟨cb,j+1,none⟩=some (.int .i64 (m:Int))
 qe:w.cell? ⟨sb,0,none⟩=some (.int .i64 (q.qe:Int))
 mps:w.cell? ⟨sb,1,none⟩=some (.int .i64 (q.mps:Int))
 lps:w.cell? ⟨sb,2,none⟩=some (.int .i64 (q.lps:Int))
 sw:w.cell? ⟨sb,3,none⟩=some (.bool q.swap)
 fa:w.frozen? ⟨eg,0,none⟩=false
 fc:w.frozen? ⟨eg,1,none⟩=false
 fi:w.frozen? ⟨cb,j,none⟩=false
 fm:w.frozen? ⟨cb,j+1,none⟩=false
theorem mqL_f (h:Mv w0 H0 w (mqL eg cb sb t cs j v q a c ct i m R)) (hj:j+1<cs.size):MqF w eg cb sb j q a c i m:=by
 have b1:=Mv.blkm h (x:=encB eg a c ct v) List.mem_cons_self
 have b2:=Mv.blkm h (x:=⟨cb,t,cxSet cs j i m⟩) (List.mem_cons_of_mem _ List.mem_cons_self)
 have b3:=Mv.blkm h (x:=stB sb q) (List.mem_cons_of_mem _ (List.mem_cons_of_mem _ List.mem_cons_self))
 have g:=cxSet_get hj i m
 exact⟨b1.cell 0,b1.cell 1,(b2.cell j).trans g.1,(b2.cell (j+1)).trans g.2,b3.cell 0,b3.cell 1,b3.cell 2,b3.cell 3,b1.frozen 0,b1.frozen 1,b2.frozen j,b2.frozen (j+1)⟩
end
theorem and1_nat (b:Nat) (h:b≤1):bits .and .i64 (b:Int) 1=(b:Int):=by rw[i64_and1];omega
theorem mq_enc (eg cb k bit:Nat) (t:TypeId) (cs:Array Value) (e:EncM) (x:CxM) (w:World) (H:List HB) (hk:k<19) (h:MqR eg e H) (hs:Sat w (⟨cb,t,cs⟩::H)) (hc1:cs[9+k * 2]?=some (.int .i64 (x.i:Int))) (hc2:cs[9+k * 2+1]?=some (.int .i64 (x.mps:Int)))
  (he:e.Ok) (hx:x.Ok) (hl:e.b.length≤80000000) (hbit:bit≤1) :
  Calls Tryz.prog 136 #[.pointer (some ⟨eg,0,none⟩),.pointer (some ⟨cb,9,none⟩),.int .i64 (k:Int),.int .i64 (bit:Int)] w fun r w'=>r=.returned (.tuple #[]) ∧
   ∃ H',MqR eg (encE e x bit).1 H'∧Mv w (⟨cb,t,cs⟩::H) w' (⟨cb,t,cxSet cs (9+k * 2) (encE e x bit).2.i (encE e x bit).2.mps⟩::H'):=by
 obtain⟨hw1,hx2⟩:=bitE_w (bit:=bit) he hx
 have hbl:(bitE e x bit).1.b=e.b:=bitE_b e x bit
 have hcs:9+k * 2+1<cs.size:=(Array.getElem?_eq_some_iff.1 hc2).1
 obtain⟨⟨a1,a2,a3,a4,a5,a6⟩,a7⟩:=he
 obtain⟨x1,x2⟩:=hx
 obtain⟨a,c,ct,b⟩:=e
 obtain⟨xi,xm⟩:=x
 simp only at a1 a2 a3 a4 a5 a6 a7 x1 x2 hl hc1 hc2
 obtain⟨q1,q2,q3,q4⟩:=qeT_ok xi x1
 obtain⟨q,hq⟩:∃ q,qeAt xi=q:=⟨_,rfl⟩
 rw[hq] at q1 q2 q3 q4
 have hcb:c≤150994944:=by
  have:c+a≤(c+a) * 2 ^ ct:=Nat.le_mul_of_pos_right _ (Nat.two_pow_pos _)
  omega
 have AT:=Lib.hid fun W=>state_any xi x1 W
 rw[hq] at AT
 have BE:Hid (bitE ⟨a,c,ct,b⟩ ⟨xi,xm⟩ bit=if bit=xm then (if 0x8000≤a - q.qe then (⟨a - q.qe,c+q.qe,ct,b⟩,⟨xi,xm⟩) else (if a - q.qe<q.qe then ⟨q.qe,c,ct,b⟩ else ⟨a - q.qe,c+q.qe,ct,b⟩,⟨q.mps,xm⟩))
   else (if a - q.qe<q.qe then ⟨a - q.qe,c+q.qe,ct,b⟩ else ⟨q.qe,c,ct,b⟩,⟨q.lps,if q.swap then 1 - xm else xm⟩)):=Lib.hid (by unfold bitE;simp only[hq])
 clear hq a5
 obtain⟨vb,Hb,rfl,hr⟩:=h
 simp only at hr
 obtain⟨va,vc,rfl⟩:=hr.slice
 obtain⟨v,hv⟩:∃ v,v=Value.slice va b.length vc:=⟨_,rfl⟩
 have HR:=Lib.hid hr
 rw[← hv] at HR hs ⊢
 have HV:=Lib.hid hv
 clear hv hr
 have M0:Mv w (⟨cb,t,cs⟩::(encB eg a c ct v::Hb)) w (⟨cb,t,cs⟩::(encB eg a c ct v::Hb)):=Mv.refl hs
 have k0:=((M0.blk 0 rfl).cell (9+k * 2)).trans hc1
 have K0:=Lib.hid M0
 have hcx:=cxSet_self hc1 hc2
 have HC:=Lib.hid (And.intro hcx hcs)
 have HE:=Lib.hid (And.intro hw1 (And.intro hx2 hbl))
 clear M0 hs hc1 hc2 hcx hcs hw1 hx2 hbl
 have d1:decide ((k:Int)<0)=false:=by simp
 have d2:decide ((19:Int)≤(k:Int))=false:=by simp;omega
 have d3:(k:Int)<19:=by omega
 go_enter Tryz.func136,Tryz.ntmps136
 go_upto_region 2 with (go_at_call 139;refine(AT.out _).mono ?_;rintro r w1 ⟨rfl,m1⟩;have K1:=Lib.hid (Mv.call (H:=[]) (H':=[]) (R:=⟨cb,t,cs⟩::(encB eg a c ct v::Hb)) K0.out m1);clear m1)
 have M2:=K1.out.alloc 218 #[.int .i64 (q.qe:Int),.int .i64 (q.mps:Int),.int .i64 (q.lps:Int),.bool q.swap]
 obtain⟨sb,hsb⟩:∃ sb,w1.heap.size=sb:=⟨_,rfl⟩
 obtain⟨w2,hw2⟩:∃ w2,w2=w1.alloc (.cells #[.int .i64 (q.qe:Int),.int .i64 (q.mps:Int),.int .i64 (q.lps:Int),.bool q.swap] 218):=⟨_,rfl⟩
 rw[← hw2,hsb] at M2
 rw[← hw2,hsb]
 obtain⟨H0,hH0⟩:∃ H0,((⟨cb,t,cs⟩:HB)::(encB eg a c ct v::Hb))=H0:=⟨_,rfl⟩
 have M3:Mv w H0 w2.drew (mqL eg cb sb t cs (9+k * 2) v q a c ct xi xm Hb):=by
  unfold mqL
  rw[HC.out.1,← hH0]
  exact(M2.sub (fun g=>by simp only[cnt_append,cnt_cons,cnt_nil,stB];omega) (fun c hc=>by simp only[List.mem_append,List.mem_cons,stB] at hc ⊢;grind)).drew
 have KH:=Lib.hid hH0
 clear hw2 hsb hH0 M2 K1 k0 K0 AT
 obtain⟨f1,-,-,-,f5,-,-,-,f9,-,-,-⟩:=mqL_f M3 HC.out.2
 obtain⟨a',ha'⟩:∃ a',a - q.qe=a':=⟨_,rfl⟩
 obtain⟨c',hc'⟩:∃ c',c+q.qe=c':=⟨_,rfl⟩
 rw[ha',hc'] at BE
 have CQ:Hid ((c:Int)+(q.qe:Int)=(c':Int)):=Lib.hid (by omega)
 have c'1:(c':Int)≤150994944+22017:=by omega
 have aq:(a:Int) - (q.qe:Int)=(a':Int):=by omega
 have a'1:(a':Int)≤65535:=by omega
 have a'0:(1:Int)≤a':=by omega
 have K3:=Lib.hid M3
 clear M3 ha' hc'
 go_still_tail 10,(by kernel_rfl)
 change wpList _ _ _ _ _ w2.drew
 generalize w2.drew=w3 at *
 go_upto_region 3 with fail
 obtain⟨w4,hw4⟩:∃ w4,w4=w3.setCell ⟨eg,0,none⟩ (.int .i64 ((a':Nat):Int)):=⟨_,rfl⟩
 have M4:=mqL_a K3.out a'
 rw[← hw4] at M4 ⊢
 have K4:=Lib.hid M4
 clear hw4 M4
 clear f1 f5 f9 aq
 obtain⟨fa,fc,fi,fm,fqe,fmps,flps,fsw,ga,gc,gi,gm⟩:=mqL_f K4.out HC.out.2
 have e1:=and1_nat bit hbit
 go_upto_if 40 with fail
 go_cut [40] from 41 (fun _ wx=>∃ ar cr ir mr,bitE ⟨a,c,ct,b⟩ ⟨xi,xm⟩ bit=(⟨ar,cr,ct,b⟩,⟨ir,mr⟩)∧Mv w H0 wx (mqL eg cb sb t cs (9+k * 2) v q ar cr ct ir mr Hb))
 case first =>
  by_cases hm:bit=xm
  ·have d4:((bit:Int) == (xm:Int))=true:=by rw[hm];simp
   have HM:=Lib.hid hm
   clear hm
   by_cases hA:32768≤a'
   ·have d5:decide ((32768:Int)≤(a':Int))=true:=by simp;omega
    have cq:=CQ.out
    have HA:=Lib.hid hA
    clear hA
    go_upto_region 5 with fail
    clear fa fc fi fm fqe fmps flps fsw ga gc gi gm
    have MD:=K4.out.drew
    obtain⟨fa,fc,fi,fm,fqe,fmps,flps,fsw,ga,gc,gi,gm⟩:=mqL_f MD HC.out.2
    have K5:=Lib.hid MD
    clear MD
    go_still_tail 10,(by kernel_rfl)
    change wpList _ _ _ _ _ w4.drew
    generalize w4.drew=w5 at *
    go_wp2_with fail
    have M9:=mqL_c K5.out c'
    have EE:encE ⟨a,c,ct,b⟩ ⟨xi,xm⟩ bit=(⟨a',c',ct,b⟩,⟨xi,xm⟩):=by
     unfold encE
     rw[BE.out,if_pos HM.out,if_pos HA.out]
     have:normE 16 ⟨a',c',ct,b⟩=⟨a',c',ct,b⟩:=by unfold normE;rw[if_neg (by simp only;have:=HA.out;omega)]
     simp only[this]
    rw[EE]
    exact bodyPost_ret (results_none rfl _ _ _) rfl ⟨rfl,_,⟨v,Hb,rfl,HR.out⟩,by rw[KH.out];exact M9.sub (fun g=>by simp only[mqL,cnt_cons];omega) (fun c hc=>by simp only[mqL,List.mem_cons] at hc ⊢;grind)⟩
   ·have d5:decide ((32768:Int)≤(a':Int))=false:=by simp;omega
    have HA:=Lib.hid hA
    clear hA
    go_upto_region 6 with fail
    by_cases hq:a'<q.qe
    ·have d6:decide ((a':Int)<(q.qe:Int))=true:=by simp;omega
     have HQ:=Lib.hid hq
     clear hq
     go_quiet (fail)
     have K7:=Lib.hid (K4.out.drewN nq)
     clear fa fc fi fm fqe fmps flps fsw ga gc gi gm
     generalize w4.drewN nq=w7 at *
     obtain⟨fa,fc,fi,fm,fqe,fmps,flps,fsw,ga,gc,gi,gm⟩:=mqL_f K7.out HC.out.2
     go_upto_region 9 with fail
     clear fa fc fi fm fqe fmps flps fsw ga gc gi gm
     obtain⟨w8,hw8⟩:∃ w8,w8=w7.setCell ⟨eg,0,none⟩ (.int .i64 ((q.qe:Nat):Int)):=⟨_,rfl⟩
     have M8:=mqL_a K7.out q.qe
     rw[← hw8] at M8 ⊢
     have K8:=Lib.hid M8
     clear hw8 M8
     have MD:=K8.out.drew
     obtain⟨fa,fc,fi,fm,fqe,fmps,flps,fsw,ga,gc,gi,gm⟩:=mqL_f MD HC.out.2
     have K9:=Lib.hid MD
     clear MD
     go_still_tail 7,(by kernel_rfl)
     change wpList _ _ _ _ _ w8.drew
     generalize w8.drew=w9 at *
     go_wp2_with fail
     go_meet
     exact⟨_,_,_,_,(by rw[BE.out,if_pos HM.out,if_neg HA.out,if_pos HQ.out]),mqL_i K9.out q.mps⟩
    ·have d6:decide ((a':Int)<(q.qe:Int))=false:=by simp;omega
     have HQ:=Lib.hid hq
     clear hq
     go_quiet (fail)
     have K7:=Lib.hid (K4.out.drewN nq)
     clear fa fc fi fm fqe fmps flps fsw ga gc gi gm
     generalize w4.drewN nq=w7 at *
     have cq:=CQ.out
     go_upto_region 8 with fail
     have MD:=K7.out.drew
     obtain⟨fa,fc,fi,fm,fqe,fmps,flps,fsw,ga,gc,gi,gm⟩:=mqL_f MD HC.out.2
     have K10:=Lib.hid MD
     clear MD
     go_still_tail 10,(by kernel_rfl)
     change wpList _ _ _ _ _ w7.drew
     generalize w7.drew=w10 at *
     go_upto_region 9 with fail
     clear fa fc fi fm fqe fmps flps fsw ga gc gi gm
     clear cq
     obtain⟨w11,hw11⟩:∃ w11,w11=w10.setCell ⟨eg,1,none⟩ (.int .i64 ((c':Nat):Int)):=⟨_,rfl⟩
     have M11:=mqL_c K10.out c'
     rw[← hw11] at M11 ⊢
     have K11:=Lib.hid M11
     clear hw11 M11
     have MD:=K11.out.drew
     obtain⟨fa,fc,fi,fm,fqe,fmps,flps,fsw,ga,gc,gi,gm⟩:=mqL_f MD HC.out.2
     have K12:=Lib.hid MD
     clear MD
     go_still_tail 7,(by kernel_rfl)
     change wpList _ _ _ _ _ w11.drew
     generalize w11.drew=w12 at *
     go_wp2_with fail
     go_meet
     exact⟨_,_,_,_,(by rw[BE.out,if_pos HM.out,if_neg HA.out,if_neg HQ.out]),mqL_i K12.out q.mps⟩
  ·have d4:((bit:Int) == (xm:Int))=false:=beq_eq_false_iff_ne.2 (by omega)
   have HM:=Lib.hid hm
   clear hm
   go_upto_region 10 with fail
   obtain⟨m',hm'⟩:∃ m',1 - xm=m':=⟨_,rfl⟩
   have MQ:Hid ((1:Int) - (xm:Int)=(m':Int)):=Lib.hid (by omega)
   have ME:=Lib.hid hm'
   clear hm'
   by_cases hq:a'<q.qe
   ·have d6:decide ((a':Int)<(q.qe:Int))=true:=by simp;omega
    have HQ:=Lib.hid hq
    clear hq
    go_quiet (fail)
    have K7:=Lib.hid (K4.out.drewN nq)
    clear fa fc fi fm fqe fmps flps fsw ga gc gi gm
    generalize w4.drewN nq=w7 at *
    have cq:=CQ.out
    go_upto_region 11 with fail
    have MD:=K7.out.drew
    obtain⟨fa,fc,fi,fm,fqe,fmps,flps,fsw,ga,gc,gi,gm⟩:=mqL_f MD HC.out.2
    have K13:=Lib.hid MD
    clear MD
    go_still_tail 10,(by kernel_rfl)
    change wpList _ _ _ _ _ w7.drew
    generalize w7.drew=w13 at *
    go_upto_region 13 with fail
    clear fa fc fi fm fqe fmps flps fsw ga gc gi gm
    clear cq
    obtain⟨w14,hw14⟩:∃ w14,w14=w13.setCell ⟨eg,1,none⟩ (.int .i64 ((c':Nat):Int)):=⟨_,rfl⟩
    have M14:=mqL_c K13.out c'
    rw[← hw14] at M14 ⊢
    have K14:=Lib.hid M14
    clear hw14 M14
    rcases(Bool.eq_false_or_eq_true q.swap).symm with hsw | hsw
    ·obtain⟨fa,fc,fi,fm,fqe,fmps,flps,fsw,ga,gc,gi,gm⟩:=mqL_f K14.out HC.out.2
     rw[hsw] at fsw
     have HS:=Lib.hid hsw
     clear hsw
     go_upto_region 15 with fail
     clear fa fc fi fm fqe fmps flps fsw ga gc gi gm
     have MD:=K14.out.drew
     obtain⟨fa,fc,fi,fm,fqe,fmps,flps,fsw,ga,gc,gi,gm⟩:=mqL_f MD HC.out.2
     have K15:=Lib.hid MD
     clear MD
     go_still_tail 7,(by kernel_rfl)
     change wpList _ _ _ _ _ w14.drew
     generalize w14.drew=w15 at *
     go_wp2_with fail
     go_meet
     exact⟨_,_,_,_,(by rw[BE.out,if_neg HM.out,if_pos HQ.out,if_neg (by rw[HS.out];decide)]),mqL_i K15.out q.lps⟩
    ·obtain⟨fa,fc,fi,fm,fqe,fmps,flps,fsw,ga,gc,gi,gm⟩:=mqL_f K14.out HC.out.2
     rw[hsw] at fsw
     have HS:=Lib.hid hsw
     clear hsw
     go_upto_region 14 with fail
     clear fa fc fi fm fqe fmps flps fsw ga gc gi gm
     have mq:=MQ.out
     have MD:=K14.out.drew
     obtain⟨fa,fc,fi,fm,fqe,fmps,flps,fsw,ga,gc,gi,gm⟩:=mqL_f MD HC.out.2
     have K16:=Lib.hid MD
     clear MD
     go_still_tail 12,(by kernel_rfl)
     change wpList _ _ _ _ _ w14.drew
     generalize w14.drew=w16 at *
     go_upto_region 15 with fail
     clear fa fc fi fm fqe fmps flps fsw ga gc gi gm
     clear mq
     obtain⟨w17,hw17⟩:∃ w17,w17=w16.setCell ⟨cb,9+k * 2+1,none⟩ (.int .i64 ((m':Nat):Int)):=⟨_,rfl⟩
     have M17:=mqL_m K16.out m'
     rw[← hw17] at M17 ⊢
     have K17:=Lib.hid M17
     clear hw17 M17
     have MD:=K17.out.drew
     obtain⟨fa,fc,fi,fm,fqe,fmps,flps,fsw,ga,gc,gi,gm⟩:=mqL_f MD HC.out.2
     have K18:=Lib.hid MD
     clear MD
     go_still_tail 7,(by kernel_rfl)
     change wpList _ _ _ _ _ w17.drew
     generalize w17.drew=w18 at *
     go_wp2_with fail
     go_meet
     exact⟨_,_,_,_,(by rw[BE.out,if_neg HM.out,if_pos HQ.out,if_pos HS.out,← ME.out]),mqL_i K18.out q.lps⟩
   ·have d6:decide ((a':Int)<(q.qe:Int))=false:=by simp;omega
    have HQ:=Lib.hid hq
    clear hq
    go_quiet (fail)
    have K7:=Lib.hid (K4.out.drewN nq)
    clear fa fc fi fm fqe fmps flps fsw ga gc gi gm
    generalize w4.drewN nq=w7 at *
    obtain⟨fa,fc,fi,fm,fqe,fmps,flps,fsw,ga,gc,gi,gm⟩:=mqL_f K7.out HC.out.2
    go_upto_region 13 with fail
    clear fa fc fi fm fqe fmps flps fsw ga gc gi gm
    obtain⟨w19,hw19⟩:∃ w19,w19=w7.setCell ⟨eg,0,none⟩ (.int .i64 ((q.qe:Nat):Int)):=⟨_,rfl⟩
    have M19:=mqL_a K7.out q.qe
    rw[← hw19] at M19 ⊢
    have K19:=Lib.hid M19
    clear hw19 M19
    rcases(Bool.eq_false_or_eq_true q.swap).symm with hsw | hsw
    ·obtain⟨fa,fc,fi,fm,fqe,fmps,flps,fsw,ga,gc,gi,gm⟩:=mqL_f K19.out HC.out.2
     rw[hsw] at fsw
     have HS:=Lib.hid hsw
     clear hsw
     go_upto_region 15 with fail
     clear fa fc fi fm fqe fmps flps fsw ga gc gi gm
     have MD:=K19.out.drew
     obtain⟨fa,fc,fi,fm,fqe,fmps,flps,fsw,ga,gc,gi,gm⟩:=mqL_f MD HC.out.2
     have K20:=Lib.hid MD
     clear MD
     go_still_tail 7,(by kernel_rfl)
     change wpList _ _ _ _ _ w19.drew
     generalize w19.drew=w20 at *
     go_wp2_with fail
     go_meet
     exact⟨_,_,_,_,(by rw[BE.out,if_neg HM.out,if_neg HQ.out,if_neg (by rw[HS.out];decide)]),mqL_i K20.out q.lps⟩
    ·obtain⟨fa,fc,fi,fm,fqe,fmps,flps,fsw,ga,gc,gi,gm⟩:=mqL_f K19.out HC.out.2
     rw[hsw] at fsw
     have HS:=Lib.hid hsw
     clear hsw
     go_upto_region 14 with fail
     clear fa fc fi fm fqe fmps flps fsw ga gc gi gm
     have mq:=MQ.out
     have MD:=K19.out.drew
     obtain⟨fa,fc,fi,fm,fqe,fmps,flps,fsw,ga,gc,gi,gm⟩:=mqL_f MD HC.out.2
     have K21:=Lib.hid MD
     clear MD
     go_still_tail 12,(by kernel_rfl)
     change wpList _ _ _ _ _ w19.drew
     generalize w19.drew=w21 at *
     go_upto_region 15 with fail
     clear fa fc fi fm fqe fmps flps fsw ga gc gi gm
     clear mq
     obtain⟨w22,hw22⟩:∃ w22,w22=w21.setCell ⟨cb,9+k * 2+1,none⟩ (.int .i64 ((m':Nat):Int)):=⟨_,rfl⟩
     have M22:=mqL_m K21.out m'
     rw[← hw22] at M22 ⊢
     have K22:=Lib.hid M22
     clear hw22 M22
     have MD:=K22.out.drew
     obtain⟨fa,fc,fi,fm,fqe,fmps,flps,fsw,ga,gc,gi,gm⟩:=mqL_f MD HC.out.2
     have K23:=Lib.hid MD
     clear MD
     go_still_tail 7,(by kernel_rfl)
     change wpList _ _ _ _ _ w22.drew
     generalize w22.drew=w23 at *
     go_wp2_with fail
     go_meet
     exact⟨_,_,_,_,(by rw[BE.out,if_neg HM.out,if_neg HQ.out,if_pos HS.out,← ME.out]),mqL_i K23.out q.lps⟩
 obtain⟨ar,cr,ir,mr,hbe,m1⟩:=hcut
 obtain⟨W1,X1,B1⟩:=HE.out
 rw[hbe] at W1 X1
 obtain⟨R,hR⟩:∃ R,normE 16 ⟨ar,cr,ct,b⟩=R:=⟨_,rfl⟩
 have EE:Hid (encE ⟨a,c,ct,b⟩ ⟨xi,xm⟩ bit=(R,⟨ir,mr⟩)):=Lib.hid (by unfold encE;rw[hbe];simp only[hR])
 obtain⟨CX,hCX⟩:∃ CX:HB,CX=⟨cb,t,cxSet cs (9+k * 2) ir mr⟩:=⟨_,rfl⟩
 have m2:Mv w H0 wc ((encB eg ar cr ct v::Hb)++[CX]):=by
  rw[hCX]
  exact m1.sub (fun g=>by simp only[mqL,cnt_append,cnt_cons,cnt_nil];omega) (fun c hc=>by simp only[mqL,List.mem_append,List.mem_cons] at hc ⊢;grind)
 have KL:=Lib.hid (And.intro W1 (And.intro hR m2))
 have HX:=Lib.hid hCX
 have r0:1≤ar:=W1.1
 have r1:32768≤ar * 2 ^ 16:=by omega
 have HB1:=Lib.hid (And.intro r1 hl)
 clear hbe m1 W1 X1 B1 hR hCX m2 r1 r0 HE BE K3 K4 CQ HC e1 a1 a2 a3 a4 a6 a7 hl c'1 a'1 a'0
 go_wp2_with fail
 go_loopg [] 16 (fun m wx=>∃ (f:Nat) (e1:EncM) (H1:List HB),m=f∧f≤16∧MqR eg e1 H1∧Mv w H0 wx (H1++[CX])∧e1.W∧32768≤e1.a * 2 ^ f∧normE f e1=R∧e1.b.length+f≤80000016)
 case atStart=>exact⟨16,⟨ar,cr,ct,b⟩,_,rfl,Nat.le_refl _,⟨v,Hb,rfl,HR.out⟩,KL.out.2.2,KL.out.1,HB1.out.1,KL.out.2.1,by have:=HB1.out.2;simp only;omega⟩
 case round =>
  obtain⟨f,⟨ae,ce,cte,be⟩,H1,rfl,hf,⟨ve,Hbe,rfl,hre⟩,mE,wE,hE,nE,lE⟩:=hrel
  obtain⟨g1,g2,g3,g4,g5,g6⟩:=wE
  simp only at g1 g2 g3 g4 g5 g6 hE lE hre mE
  have b0:=(mE.blk 0 rfl)
  have y0:=b0.cell 0
  have KE:=Lib.hid (And.intro hre (And.intro mE (And.intro (show EncM.W ⟨ae,ce,cte,be⟩ from ⟨g1,g2,g3,g4,g5,g6⟩) (And.intro hE nE))))
  by_cases hlt:ae<32768
  ·have d1:decide ((ae:Int)<32768)=true:=by simp;omega
   obtain⟨f',rfl⟩:∃ f',gk=f'+1:=⟨gk - 1,by
    rcases gk with _ | gk
    ·simp at hE;omega
    ·omega⟩
   have hc2:(ce+ae) * 2≤150994944:=Nat.le_trans (Nat.mul_le_mul_left _ (show 2≤2 ^ cte from Nat.le_trans (by decide) (Nat.pow_le_pow_right (by decide) g3))) g5
   obtain⟨a2,ha2⟩:∃ a2,2 * ae=a2:=⟨_,rfl⟩
   obtain⟨c2,hc2'⟩:∃ c2,2 * ce=c2:=⟨_,rfl⟩
   obtain⟨ct1,hct1⟩:∃ ct1,cte - 1=ct1:=⟨_,rfl⟩
   have EA:Hid ((2:Int) * (ae:Int)=(a2:Int)):=Lib.hid (by omega)
   have EC:Hid ((2:Int) * (ce:Int)=(c2:Int)):=Lib.hid (by omega)
   have ET:Hid ((cte:Int) - 1=(ct1:Int)):=Lib.hid (by omega)
   have ba:(a2:Int)≤65536:=by omega
   have bc:(c2:Int)≤150994944:=by omega
   have bcn:c2≤1000000000000:=by omega
   have bt:(ct1:Int)≤12:=by omega
   have DB:Hid (dblE ⟨ae,ce,cte,be⟩=if cte=1 then outE ⟨a2,c2,0,be⟩ else ⟨a2,c2,ct1,be⟩):=Lib.hid (by unfold dblE;simp only[ha2,hc2',hct1])
   have HCT:=Lib.hid hct1
   obtain⟨DW,DA⟩:=dblE_w KE.out.2.2.1 hlt
   have DL:(dblE ⟨ae,ce,cte,be⟩).b.length≤be.length+1:=by
    unfold dblE
    split
    ·have:=outE_len ⟨2 * ae,2 * ce,0,be⟩ g6
     simp only at this
     simp only
     omega
    ·simp
   have NE:normE f' (dblE ⟨ae,ce,cte,be⟩)=R:=by
    have h1:=KE.out.2.2.2.2
    unfold normE at h1
    rw[if_pos (show (⟨ae,ce,cte,be⟩:EncM).a<0x8000 from hlt)] at h1
    exact h1
   have HE2:32768≤(dblE ⟨ae,ce,cte,be⟩).a * 2 ^ f':=by
    rw[DA]
    have h1:=KE.out.2.2.2.1
    rw[Nat.pow_succ] at h1
    have h2:2 * ae * 2 ^ f'=ae * (2 ^ f' * 2):=by rw[Nat.mul_comm 2 ae,Nat.mul_assoc,Nat.mul_comm 2 (2 ^ f')]
    simp only
    omega
   have KD:=Lib.hid (And.intro DW (And.intro DL (And.intro NE HE2)))
   clear b0 g5 hE nE hc2 ha2 hc2' hct1 DW DA DL NE HE2
   go_upto_region 17 with fail
   have MD:=mE
   have z0:=(MD.blk 0 rfl)
   have z1:=z0.cell 0
   have z2:=z0.cell 1
   have z3:=z0.frozen 0
   have z4:=z0.frozen 1
   have ea:=EA.out
   have ec:=EC.out
   have KM:=Lib.hid MD
   clear MD z0 mE y0
   go_cut [] from 133 to 162 (fun wx=>Mv w H0 wx (encB eg a2 c2 cte ve::(Hbe++[CX])))
   case first =>
    go_region
    all_goals
     go_wp2_with fail
     go_meet
     exact((KM.out.set 0 (.int .i64 (a2:Int))).set 1 (.int .i64 (c2:Int))).drew
   clear ea ec z1 z2 z3 z4 KM
   obtain⟨v2,rfl⟩:∃ v2:World,v2=wc:=⟨_,rfl⟩
   have M2:=hcut
   have t1:=(M2.blk 0 rfl).cell 2
   have t2:=(M2.blk 0 rfl).frozen 2
   have K2:=Lib.hid M2
   have et:=ET.out
   clear M2 hcut
   go_upto_region 19 with fail
   clear et t1 t2
   have M3:Mv w H0 (v2.setCell ⟨eg,2,none⟩ (.int .i64 (ct1:Int))) (encB eg a2 c2 ct1 ve::(Hbe++[CX])):=K2.out.set 2 (.int .i64 (ct1:Int))
   obtain⟨v3,hv3⟩:∃ v3,v3=v2.setCell ⟨eg,2,none⟩ (.int .i64 (ct1:Int)):=⟨_,rfl⟩
   rw[← hv3] at M3 ⊢
   have t1:=(M3.blk 0 rfl).cell 2
   have K3:=Lib.hid M3
   clear hv3 M3 K2
   by_cases hct:ct1=0
   ·subst hct
    have HCT1:Hid (cte=1):=Lib.hid (by have:=HCT.out;omega)
    have OUT:Hid (Calls Tryz.prog 104 #[.pointer (some ⟨eg,0,none⟩)] v3 fun r w'=>r=.returned (.tuple #[])∧∃ H',MqR eg (outE ⟨a2,c2,0,be⟩) H'∧Mv v3 (encB eg a2 c2 0 ve::Hbe) w' H') :=
     Lib.hid (out_any eg ⟨a2,c2,0,be⟩ v3 _ ⟨ve,Hbe,rfl,KE.out.1⟩ (K3.out.sat.left (A:=encB eg a2 c2 0 ve::Hbe)) g6 (by simp only;omega) bcn)
    go_wp2_with (go_at_call 104;refine OUT.out.mono ?_;rintro r v4 ⟨rfl,H4,h4,m4⟩;have K4:=Lib.hid (And.intro h4 (Mv.call (H:=encB eg a2 c2 0 ve::Hbe) (R:=[CX]) K3.out m4));clear h4 m4)
    go_roundg f'
    case measure=>omega
    case rel =>
     have e2:dblE ⟨ae,ce,cte,be⟩=outE ⟨a2,c2,0,be⟩:=by rw[DB.out,if_pos HCT1.out]
     obtain⟨k1,k2,k3,k4⟩:=KD.out
     rw[e2] at k1 k2 k3 k4
     exact⟨f',_,H4,rfl,by omega,K4.out.1,K4.out.2,k1,k4,k3,by omega⟩
   ·have d4:((ct1:Int) == 0)=false:=beq_eq_false_iff_ne.2 (by omega)
    have HCT1:Hid (¬ cte=1):=Lib.hid (by have:=HCT.out;omega)
    go_wp2_with fail
    go_roundg f'
    case measure=>omega
    case rel =>
     have e2:dblE ⟨ae,ce,cte,be⟩=⟨a2,c2,ct1,be⟩:=by rw[DB.out,if_neg HCT1.out]
     obtain⟨k1,k2,k3,k4⟩:=KD.out
     rw[e2] at k1 k2 k3 k4
     exact⟨f',⟨a2,c2,ct1,be⟩,_,rfl,by omega,⟨ve,Hbe,rfl,KE.out.1⟩,K3.out,k1,k4,k3,by simp only at k2 ⊢;omega⟩
  ·have d1:decide ((ae:Int)<32768)=false:=by simp;omega
   clear b0 mE g5 hE nE
   go_wp2_with fail
   have eR:R=⟨ae,ce,cte,be⟩:=by
    rw[← KE.out.2.2.2.2]
    cases gk with
    | zero=>rfl
    | succ gk=>unfold normE;rw[if_neg (by simp only;omega)]
   refine bodyPost_end (results_none rfl _ _ _) rfl ?_
   rw[EE.out]
   refine⟨rfl,_,⟨ve,Hbe,by rw[eR],by rw[eR];exact KE.out.1⟩,?_⟩
   rw[KH.out,← HX.out]
   exact KE.out.2.1.sub (fun g=>by simp only[cnt_append,cnt_cons,cnt_nil];omega) (fun c hc=>by simp only[List.mem_append,List.mem_cons] at hc ⊢;grind)
end
end Go.Proofs.YtjngfhgakokejaaGreat
