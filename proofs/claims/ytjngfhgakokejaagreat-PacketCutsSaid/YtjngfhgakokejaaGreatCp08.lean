/- waveletref5: raw bits, over heaplets. waveletref6, waveletref7, waveletref8: the small functions: contexts, a pass's kind. waveletref6, waveletref7, waveletref8: more small functions. waveletref8: a coder in memory; is a neighbour significant? waveletref8: what stands around a place. waveletref8: a bit is said. waveletref8: a place becomes significant; a place is tried. -/
import Derived.Test.YtjngfhgakokejaaGreatCp07
import Derived.StillTailTactics
import Derived.Test.YtjngfhgakokejaaGreatCp06
import Derived.Test.YtjngfhgakokejaaGreatCp01
import Derived.Laws.Bits64b
import Derived.Deep.RegionHeld3
set_option maxRecDepth 100000
set_option maxHeartbeats 8000000
set_option linter.all false
namespace Go.Proofs.YtjngfhgakokejaaGreat
section
open Go.RowKit
def rawB (rg cur free top:Nat) (v:Value):HB:=⟨rg,189,#[v,.int .i64 (cur:Int),.int .i64 (free:Int),.int .i64 (top:Int)]⟩
def RawR (rg:Nat) (r:RawM) (H:List HB):Prop:=∃ vb Hb,H=rawB rg r.cur r.free r.top vb::Hb∧RowB vb r.b Hb
theorem new_raw (w:World):Calls Tryz.prog 58 #[] w fun e w'=>∃ rg H,e=.returned (.pointer (some ⟨rg,0,none⟩))∧RawR rg rawNew H∧Mv w [] w' H:=by
 go_enter Tryz.func58,Tryz.ntmps58
 go_wp2_with fail
 go_ret
 exact⟨_,_,rfl,⟨_,_,rfl,RowH.nil _ _⟩,mv_alloc w _ _⟩
theorem shl_bit (b k:Nat) (hk:k≤8):IntKind.i64.wrap (((b % 2:Nat):Int) * 2 ^ k)=((b % 2 * 2 ^ k:Nat):Int):=by
 have h1:2 ^ k≤2 ^ 8:=Nat.pow_le_pow_right (by omega) hk
 have h2:b % 2 * 2 ^ k≤1 * 2 ^ k:=Nat.mul_le_mul_right _ (by omega)
 have e:((b % 2:Nat):Int) * 2 ^ k=((b % 2 * 2 ^ k:Nat):Int):=by push_cast;rfl
 rw[e,IntWalk.i64_in _ (by omega)]
theorem raw_or (cur b k:Nat) (hk:k≤8) (hc:cur<256):bits .or .i64 (cur:Int) (IntKind.i64.wrap (bits .and .i64 (b:Int) 1 * 2 ^ min (IntKind.u64.wrap (k:Int)).toNat 64))=((cur ||| b % 2 * 2 ^ k:Nat):Int):=by
 have e1:bits .and .i64 (b:Int) 1=((b % 2:Nat):Int):=by rw[i64_and1];omega
 have e2:IntKind.u64.wrap (k:Int)=(k:Int):=IntWalk.u64_in _ (by omega)
 have e3:min (k:Int).toNat 64=k:=by omega
 have h1:2 ^ k≤2 ^ 8:=Nat.pow_le_pow_right (by omega) hk
 have h2:b % 2 * 2 ^ k≤1 * 2 ^ k:=Nat.mul_le_mul_right _ (by omega)
 rw[e1,e2,e3,shl_bit b k hk,i64_or_nat cur _ (by omega) (by omega)]
theorem raw_bit (rg:Nat) (r:RawM) (b:Nat) (w:World) (H:List HB) (h:RawR rg r H) (hs:Sat w H) (hok:r.Ok) (hl:r.b.length≤90000000) (_hb:b≤1) :
  Calls Tryz.prog 135 #[.pointer (some ⟨rg,0,none⟩),.int .i64 (b:Int)] w fun e w'=>e=.returned (.tuple #[])∧∃ H',RawR rg (rawBit r b) H'∧Mv w H w' H':=by
 obtain⟨o1,o2,o3,o4⟩:=hok
 have hcl:=rawCur_lt ⟨o1,o2,o3,o4⟩ b
 obtain⟨bs,cur,free,top⟩:=r
 simp only at o1 o2 o3 o4 hcl hl
 obtain⟨vb,Hb,rfl,hr⟩:=h
 simp only at hr
 obtain⟨k,rfl⟩:∃ k,free=k+1:=⟨free - 1,by omega⟩
 simp only[Nat.add_sub_cancel] at hcl
 have EO:rawBit ⟨bs,cur,k+1,top⟩ b=if k=0 then (if cur ||| b % 2 * 2 ^ k=255 then ⟨bs++[UInt8.ofNat (cur ||| b % 2 * 2 ^ k)],0,7,7⟩ else ⟨bs++[UInt8.ofNat (cur ||| b % 2 * 2 ^ k)],0,8,8⟩) else ⟨bs,cur ||| b % 2 * 2 ^ k,k,top⟩:=by
  unfold rawBit
  simp only[Nat.add_sub_cancel]
  by_cases hk:k=0
  ·rw[if_pos hk,if_pos (by omega)]
  ·rw[if_neg hk,if_neg (by omega)]
 have VOR:=raw_or cur b k (by omega) o4
 obtain⟨c,hc⟩:∃ c,cur ||| b % 2 * 2 ^ k=c:=⟨_,rfl⟩
 rw[hc] at EO hcl VOR
 clear hc
 rw[EO]
 have VO:=Lib.hid VOR
 clear VOR EO
 obtain⟨n,hn⟩:∃ n,bs.length=n:=⟨_,rfl⟩
 obtain⟨va,vc,rfl⟩:=hr.slice
 have M0:=Mv.refl hs
 rw[hn] at hr M0 ⊢
 simp only at M0
 have c2:w.cell? ⟨rg,2,none⟩=some (.int .i64 ((k+1:Nat):Int)):=M0.cell 0 rfl 2
 have f2:w.frozen? ⟨rg,2,none⟩=false:=M0.frozen 0 rfl 2
 have M1:=M0.set 2 (.int .i64 (k:Int))
 obtain⟨w1,hw1⟩:∃ w1,w1=w.setCell ⟨rg,2,none⟩ (.int .i64 (k:Int)):=⟨_,rfl⟩
 rw[← hw1] at M1
 have HW:=Lib.hid hw1
 have K1:=Lib.hid (And.intro hr M1)
 have d1:((k+1:Nat):Int) - 1=(k:Int):=by omega
 have kb:(k:Int)≤7:=by omega
 clear hw1 hr M0 M1 hs
 go_enter Tryz.func135,Tryz.ntmps135
 go_upto_region 1 with fail
 rw[← HW.out]
 clear HW c2 f2 d1
 have e1:=K1.out.2.drew.cell 0 rfl 1
 have e2:=K1.out.2.drew.cell 0 rfl 2
 have g1:=K1.out.2.drew.frozen 0 rfl 1
 go_still_tail 16,(by kernel_rfl)
 change wpList _ _ _ _ _ w1.drew
 simp only[VO.out]
 have M2:=K1.out.2.drew.set 1 (.int .i64 (c:Int))
 generalize w1.drew=w2 at *
 obtain⟨w3,hw3⟩:∃ w3,w3=w2.setCell ⟨rg,1,none⟩ (.int .i64 (c:Int)):=⟨_,rfl⟩
 rw[← hw3] at M2
 replace M2:Mv w (rawB rg cur (k+1) top (.slice va n vc)::Hb) w3 (rawB rg c k top (.slice va n vc)::Hb):=M2
 have K2:=Lib.hid (And.intro K1.out.1 (And.intro M2 hn))
 have HW:=Lib.hid hw3
 clear M2 K1 VO hn hw3
 by_cases hk:k=0
 case neg =>
  have d1:decide ((0:Int)<(k:Int))=true:=by simp;omega
  have y2:=K2.out.2.1.cell 0 rfl 2
  go_upto_region 2 with fail
  rw[← HW.out]
  clear e1 e2 g1 HW
  go_wp2_with fail
  refine bodyPost_ret (results_none rfl _ _ _) rfl ⟨rfl,_,?_,K2.out.2.1⟩
  exact⟨_,Hb,rfl,K2.out.1⟩
 case pos =>
  subst hk
  have y2:=K2.out.2.1.cell 0 rfl 2
  go_upto_region 2 with fail
  rw[← HW.out]
  clear e1 e2 g1 HW
  obtain⟨x,hx⟩:∃ x,UInt8.ofNat c=x:=⟨_,rfl⟩
  have hx8:IntKind.u8.wrap (c:Int)=(x.toNat:Int):=by rw[IntKind.wrap_u8,← hx,← u8_of_nat]
  go_upto_region 3 with fail
  have e0:=K2.out.2.1.cell 0 rfl 0
  have e1:=K2.out.2.1.cell 0 rfl 1
  have M1':=K2.out.2.1.alloc 5 #[.int .u8 (x.toNat:Int)]
  have y7:=M1'.cell 1 rfl 0
  have A1:Hid (BV (w3.alloc (.cells #[.int .u8 (x.toNat:Int)] 5)).drew (.slice (some ⟨w3.heap.size,0,none⟩) 1 1) [x]):=Lib.hid (bv_one w3 x _ rfl)
  have K3:=Lib.hid (Mv.behind M1'.drew)
  have HX:=Lib.hid hx
  clear M1' hx
  go_region_law (first
   | ((with_reducible refine step_appB (o:=⟨some 43,_,_,_,_,_⟩) (v:=.slice va n vc) (u:=.slice (some ⟨w3.heap.size,0,none⟩) 1 1) (l:=bs) (r:=[x]) (H:=Hb) rfl (.tmp 36) (.tmp 42) rfl ?_ ?_ K2.out.1 K3.out.sat.left A1.out ?_ ?_);simp[Act.eval];simp[Act.eval];(simp;omega);intro v6 w6 H6 hr6 m6;obtain⟨a6,c6,rfl⟩:=hr6.slice;have M6:=Mv.second (Mv.call K3.out m6);have y3:=M6.cell 0 rfl 0;have z3:=M6.frozen 0 rfl 0;have K6:=Lib.hid (And.intro hr6 M6);clear hr6 m6 M6))
  all_goals
   have M7:=K6.out.2.set 0 (.slice a6 (bs.length+1) c6)
   obtain⟨w7,hw7⟩:∃ w7,w7=w6.setCell ⟨rg,0,none⟩ (.slice a6 (bs.length+1) c6):=⟨_,rfl⟩
   rw[← hw7] at M7 ⊢
   replace M7:Mv w (rawB rg cur (0+1) top (.slice va n vc)::Hb) w7 (rawB rg c 0 top (.slice a6 (bs.length+1) c6)::H6):=M7
   have m1:=M7.cell 0 rfl 1
   have m2:=M7.cell 0 rfl 2
   have m3:=M7.cell 0 rfl 3
   have n1:=M7.frozen 0 rfl 1
   have n2:=M7.frozen 0 rfl 2
   have n3:=M7.frozen 0 rfl 3
   have K7:=Lib.hid M7
   have h6:RowB (.slice a6 (bs.length+1) c6) (bs++[x]) H6:=by
    have:=K6.out.1
    simp only[List.length_append,List.length_cons,List.length_nil,Nat.zero_add] at this
    exact this
   have HR:=Lib.hid h6
   clear hw7 M7 y3 z3 y2 e0 e1 y7 K6 h6 hx8
   by_cases h255:c=255
   ·have d3:((c:Int) == 255)=true:=by rw[h255];rfl
    have HC:=Lib.hid h255
    clear h255
    go_wp2_with fail
    have M9:Mv w (rawB rg cur (0+1) top (.slice va n vc)::Hb) _ (rawB rg 0 7 7 (.slice a6 (bs.length+1) c6)::H6):=((((K7.out.set 2 (.int .i64 8)).set 3 (.int .i64 8)).set 2 (.int .i64 7)).set 3 (.int .i64 7)).set 1 (.int .i64 0)
    refine bodyPost_end (results_none rfl _ _ _) rfl ⟨rfl,_,?_,M9⟩
    (try rw[if_pos rfl])
    (try rw[if_pos HC.out])
    have hx255:x=255:=by rw[← HX.out,HC.out];rfl
    exact⟨_,H6,rfl,by have:=HR.out;rw[hx255] at this;exact this⟩
   ·have d3:((c:Int) == 255)=false:=beq_eq_false_iff_ne.2 (by omega)
    have d4:¬ ((c:Int)=255):=by omega
    have HC:=Lib.hid h255
    clear h255
    go_wp2_with fail
    have M9:Mv w (rawB rg cur (0+1) top (.slice va n vc)::Hb) _ (rawB rg 0 8 8 (.slice a6 (bs.length+1) c6)::H6):=((K7.out.set 2 (.int .i64 8)).set 3 (.int .i64 8)).set 1 (.int .i64 0)
    refine bodyPost_end (results_none rfl _ _ _) rfl ⟨rfl,_,?_,M9⟩
    (try rw[if_pos rfl])
    (try rw[if_neg HC.out])
    (try rw[HX.out])
    exact⟨_,H6,rfl,HR.out⟩
end
section
open Go.RowKit
theorem zero3 (h v d:Nat) (w:World) (h1:h≤2) (h2:v≤2) (h3:d≤4) :
  Calls Tryz.prog 130 #[.int .i64 3,.int .i64 (h:Int),.int .i64 (v:Int),.int .i64 (d:Int)] w fun e w'=>e=.returned (.int .i64 ((zctx 3 h v d:Nat):Int))∧w'=w:=by
 rcases(show h=0∨h=1∨h=2 by omega) with rfl | rfl | rfl <;> rcases(show v=0∨v=1∨v=2 by omega) with rfl | rfl | rfl <;> rcases(show d=0∨d=1∨d=2∨d=3∨d=4 by omega) with rfl | rfl | rfl | rfl | rfl
 all_goals
  clear h1 h2 h3
  go_enter Tryz.func130,Tryz.ntmps130
  go_wp2_with fail
  go_ret
  exact⟨rfl,rfl⟩
theorem zero1 (h v d:Nat) (w:World) (h1:h≤2) (h2:v≤2) (h3:d≤4) :
  Calls Tryz.prog 130 #[.int .i64 1,.int .i64 (h:Int),.int .i64 (v:Int),.int .i64 (d:Int)] w fun e w'=>e=.returned (.int .i64 ((zctx 1 h v d:Nat):Int))∧w'=w:=by
 rcases(show h=0∨h=1∨h=2 by omega) with rfl | rfl | rfl <;> rcases(show v=0∨v=1∨v=2 by omega) with rfl | rfl | rfl <;> rcases(show d=0∨d=1∨d=2∨d=3∨d=4 by omega) with rfl | rfl | rfl | rfl | rfl
 all_goals
  clear h1 h2 h3
  go_enter Tryz.func130,Tryz.ntmps130
  go_wp2_with fail
  go_ret
  exact⟨rfl,rfl⟩
theorem zero0 (band:Nat) (h v d:Nat) (w:World) (h1:h≤2) (h2:v≤2) (h3:d≤4) (n3:band≠3) (n1:band≠1) :
  Calls Tryz.prog 130 #[.int .i64 (band:Int),.int .i64 (h:Int),.int .i64 (v:Int),.int .i64 (d:Int)] w fun e w'=>e=.returned (.int .i64 ((zctx band h v d:Nat):Int))∧w'=w:=by
 have c3:((band:Int) == 3)=false:=beq_eq_false_iff_ne.2 (by omega)
 have c1:((band:Int) == 1)=false:=beq_eq_false_iff_ne.2 (by omega)
 have e:zctx band h v d=zctx 0 h v d:=by unfold zctx;rw[if_neg n3,if_neg n1];rfl
 rw[e]
 clear e n3 n1
 rcases(show h=0∨h=1∨h=2 by omega) with rfl | rfl | rfl <;> rcases(show v=0∨v=1∨v=2 by omega) with rfl | rfl | rfl <;> rcases(show d=0∨d=1∨d=2∨d=3∨d=4 by omega) with rfl | rfl | rfl | rfl | rfl
 all_goals
  clear h1 h2 h3
  go_enter Tryz.func130,Tryz.ntmps130
  go_wp2_with fail
  go_ret
  exact⟨rfl,rfl⟩
theorem zero_ctx (band h v d:Nat) (w:World) (h1:h≤2) (h2:v≤2) (h3:d≤4) :
  Calls Tryz.prog 130 #[.int .i64 (band:Int),.int .i64 (h:Int),.int .i64 (v:Int),.int .i64 (d:Int)] w fun e w'=>e=.returned (.int .i64 ((zctx band h v d:Nat):Int))∧w'=w:=by
 by_cases n3:band=3
 ·subst n3;exact zero3 h v d w h1 h2 h3
 ·by_cases n1:band=1
  ·subst n1;exact zero1 h v d w h1 h2 h3
  ·exact zero0 band h v d w h1 h2 h3 n3 n1
end
section
open Go.RowKit
theorem sign_ctx (h v:Int) (w:World) (h1 : -1≤h∧h≤1) (h2 : -1≤v∧v≤1) :
  Calls Tryz.prog 132 #[.int .i64 h,.int .i64 v] w fun e w'=>e=.returned (.tuple #[.int .i64 (((sctx h v).k:Nat):Int),.int .i64 (((sctx h v).turn:Nat):Int)])∧w'=w:=by
 rcases(show h = -1∨h=0∨h=1 by omega) with rfl | rfl | rfl <;> rcases(show v = -1∨v=0∨v=1 by omega) with rfl | rfl | rfl
 all_goals
  clear h1 h2
  go_enter Tryz.func132,Tryz.ntmps132
  go_wp2_with fail
  go_ret2
  exact⟨rfl,rfl⟩
theorem refine_ctx (first:Bool) (n:Nat) (w:World):Calls Tryz.prog 125 #[.bool first,.int .i64 (n:Int)] w fun e w'=>e=.returned (.int .i64 ((rctx first n:Nat):Int))∧w'=w:=by
 by_cases hn:0<n
 ·have d1:decide ((0:Int)<(n:Int))=true:=by simp;omega
  have e:rctx first n=if first then 15 else 16:=by unfold rctx;rw[if_pos hn]
  rw[e]
  clear e
  cases first <;> (go_enter Tryz.func125,Tryz.ntmps125;go_wp2_with fail;go_ret;exact⟨rfl,rfl⟩)
 ·have d1:decide ((0:Int)<(n:Int))=false:=by simp;omega
  have e:rctx first n=if first then 14 else 16:=by unfold rctx;rw[if_neg hn]
  rw[e]
  clear e
  cases first <;> (go_enter Tryz.func125,Tryz.ntmps125;go_wp2_with fail;go_ret;exact⟨rfl,rfl⟩)
theorem count_any (p:Nat) (w:World) (hp:p≤1000):Calls Tryz.prog 55 #[.int .i64 (p:Int)] w fun e w'=>e=.returned (.int .i64 ((countM p:Nat):Int))∧w'=w:=by
 go_enter Tryz.func55,Tryz.ntmps55
 go_wp2_with fail
 all_goals
  go_ret
  refine⟨congrArg (fun z=>Ending.returned (.int .i64 z)) ?_,rfl⟩
  unfold countM
  omega
theorem kind_any (k:Nat) (w:World) (hp:k≤1000):Calls Tryz.prog 100 #[.int .i64 (k:Int)] w fun e w'=>e=.returned (.int .i64 ((kindM k:Nat):Int))∧w'=w:=by
 by_cases h0:k=0
 ·subst h0
  go_enter Tryz.func100,Tryz.ntmps100
  go_wp2_with fail
  go_ret
  exact⟨rfl,rfl⟩
 ·obtain⟨j,rfl⟩:∃ j,k=j+1:=⟨k - 1,by omega⟩
  have d1:(((j+1:Nat):Int) == 0)=false:=beq_eq_false_iff_ne.2 (by omega)
  have e:kindM (j+1)=j % 3:=by unfold kindM;rw[if_neg h0,Nat.add_sub_cancel]
  rw[e]
  have d2:((j+1:Nat):Int) - 1=(j:Int):=by omega
  clear h0 e
  go_enter Tryz.func100,Tryz.ntmps100
  go_wp2_with fail
  go_ret
  refine⟨congrArg (fun z=>Ending.returned (.int .i64 z)) ?_,rfl⟩
  omega
theorem one_any (b:Bool) (w:World):Calls Tryz.prog 54 #[.bool b] w fun e w'=>e=.returned (.int .i64 ((oneN b:Nat):Int))∧w'=w:=by
 cases b <;> (go_enter Tryz.func54,Tryz.ntmps54;go_wp2_with fail;go_ret;exact⟨rfl,rfl⟩)
end
section
open Go.RowKit
structure CodA where
 cb:Nat
 gm:Nat
 gn:Nat
 gs:Nat
 ge:Nat
 ga:Nat
def slV (g n:Nat):Value:=.slice (some ⟨g,0,none⟩) n n
def cxV (l:List CxM):List Value:=l.flatMap fun c=>[.int .i64 (c.i:Int),.int .i64 (c.mps:Int)]
def codV (A:CodA) (G:GeoM) (cx:List CxM) (raw:Bool) (eg rg:Nat):List Value :=
 [.int .i64 (G.w:Int),.int .i64 (G.h:Int),.int .i64 (G.band:Int),.int .i64 (G.style:Int),slV A.gm (G.w * G.h),slV A.gn (G.w * G.h),slV A.gs (G.w * G.h),slV A.ge (G.w * G.h),slV A.ga (G.w * G.h)] ++
  (cxV cx++[.bool true,.bool raw,.pointer (some ⟨eg,0,none⟩),.pointer (some ⟨rg,0,none⟩),.pointer none,.pointer none])
def codB (A:CodA) (G:GeoM) (cx:List CxM) (raw:Bool) (eg rg:Nat):HB:=⟨A.cb,133,(codV A G cx raw eg rg).toArray⟩
def rowN (g:Nat) (l:List Nat):HB:=⟨g,3,(l.map fun (n:Nat)=>Value.int .i64 (n:Int)).toArray⟩
def rowL (g:Nat) (l:List Bool):HB:=⟨g,4,(l.map Value.bool).toArray⟩
def CodR (A:CodA) (G:GeoM) (q:CS) (raw:Bool) (eg rg:Nat) (H:List HB):Prop :=
 ∃ He Hr,MqR eg q.s.e He∧RawR rg q.s.r Hr∧H=codB A G q.s.cx raw eg rg::rowN A.gm G.mag::rowN A.gn G.neg::rowL A.gs q.c.sig::rowL A.ge q.c.seen::rowL A.ga q.c.again::(He++Hr)
structure CodSee (w:World) (A:CodA) (G:GeoM) (c:CodM):Prop where
 w_:w.cell? ⟨A.cb,0,none⟩=some (.int .i64 (G.w:Int))
 h_:w.cell? ⟨A.cb,1,none⟩=some (.int .i64 (G.h:Int))
 band:w.cell? ⟨A.cb,2,none⟩=some (.int .i64 (G.band:Int))
 style:w.cell? ⟨A.cb,3,none⟩=some (.int .i64 (G.style:Int))
 m_:w.cell? ⟨A.cb,4,none⟩=some (slV A.gm (G.w * G.h))
 n_:w.cell? ⟨A.cb,5,none⟩=some (slV A.gn (G.w * G.h))
 s_:w.cell? ⟨A.cb,6,none⟩=some (slV A.gs (G.w * G.h))
 e_:w.cell? ⟨A.cb,7,none⟩=some (slV A.ge (G.w * G.h))
 a_:w.cell? ⟨A.cb,8,none⟩=some (slV A.ga (G.w * G.h))
 mag:∀ i,i<G.w * G.h→w.cell? ⟨A.gm,i,none⟩=some (.int .i64 ((G.mag.getD i 0:Nat):Int))
 neg:∀ i,i<G.w * G.h→w.cell? ⟨A.gn,i,none⟩=some (.int .i64 ((G.neg.getD i 0:Nat):Int))
 sig:∀ i,i<G.w * G.h→w.cell? ⟨A.gs,i,none⟩=some (.bool (c.sig.getD i false))
 seen:∀ i,i<G.w * G.h→w.cell? ⟨A.ge,i,none⟩=some (.bool (c.seen.getD i false))
 again:∀ i,i<G.w * G.h→w.cell? ⟨A.ga,i,none⟩=some (.bool (c.again.getD i false))
theorem CodSee.drewN {w:World} {A:CodA} {G:GeoM} {c:CodM} (h:CodSee w A G c) (n:Nat):CodSee (w.drewN n) A G c:=⟨h.w_,h.h_,h.band,h.style,h.m_,h.n_,h.s_,h.e_,h.a_,h.mag,h.neg,h.sig,h.seen,h.again⟩
theorem rowN_get {w:World} {g:Nat} {l:List Nat} (h:Blk w (rowN g l).g (rowN g l).t (rowN g l).cs) {n:Nat} (hl:l.length=n) (i:Nat) (hi:i<n):w.cell? ⟨g,i,none⟩=some (.int .i64 ((l.getD i 0:Nat):Int)):=by
 have h1:w.cell? ⟨g,i,none⟩=(l.map fun (n:Nat)=>Value.int .i64 (n:Int)).toArray[i]?:=h.cell i
 have h2:l[i]?=some (l.getD i 0):=by rw[List.getD_eq_getElem?_getD,List.getElem?_eq_getElem (by omega)];rfl
 rw[h1,List.getElem?_toArray,List.getElem?_map,h2]
 rfl
theorem rowL_get {w:World} {g:Nat} {l:List Bool} (h:Blk w (rowL g l).g (rowL g l).t (rowL g l).cs) {n:Nat} (hl:l.length=n) (i:Nat) (hi:i<n):w.cell? ⟨g,i,none⟩=some (.bool (l.getD i false)):=by
 have h1:w.cell? ⟨g,i,none⟩=(l.map Value.bool).toArray[i]?:=h.cell i
 have h2:l[i]?=some (l.getD i false):=by rw[List.getD_eq_getElem?_getD,List.getElem?_eq_getElem (by omega)];rfl
 rw[h1,List.getElem?_toArray,List.getElem?_map,h2]
 rfl
theorem CodR.see {A:CodA} {G:GeoM} {q:CS} {raw:Bool} {eg rg:Nat} {H:List HB} {w:World} (h:CodR A G q raw eg rg H) (hg:G.Ok) (hc:q.c.Ok G) (hs:Sat w H):CodSee w A G q.c:=by
 obtain⟨He,Hr,-,-,rfl⟩:=h
 have b0:=hs.at_ 0 (by rfl)
 have c:=fun i=>b0.cell i
 simp only[codV,List.cons_append,List.nil_append] at c
 exact⟨c 0,c 1,c 2,c 3,c 4,c 5,c 6,c 7,c 8,rowN_get (hs.at_ 1 (by rfl)) hg.mag,rowN_get (hs.at_ 2 (by rfl)) hg.neg,rowL_get (hs.at_ 3 (by rfl)) hc.sig,rowL_get (hs.at_ 4 (by rfl)) hc.seen,rowL_get (hs.at_ 5 (by rfl)) hc.again⟩
theorem and8:∀ s,s<64→(s &&& 8)=if s.testBit 3 then 8 else 0:=by decide
theorem style8 (s:Nat) (h:s≤63):bits .and .i64 (s:Int) 8=if s.testBit 3 then 8 else 0:=by
 have h1:=i64_and_nat s 8 (by omega) (by omega)
 rw[and8 s (by omega)] at h1
 rw[show ((8:Nat):Int)=8 from rfl] at h1
 rw[h1]
 split <;> rfl
theorem sig_any (A:CodA) (G:GeoM) (c:CodM) (x y:Nat) (dx dy:Int) (w:World) (hg:G.Ok) (hv:CodSee w A G c) (hx:x<G.w) (hy:y<G.h) (h1 : -1≤dx∧dx≤1) (h2 : -1≤dy∧dy≤1) :
  Calls Tryz.prog 133 #[.pointer (some ⟨A.cb,0,none⟩),.int .i64 (x:Int),.int .i64 (y:Int),.int .i64 dx,.int .i64 dy] w fun e w'=>e=.returned (.bool (sigM G c x y dx dy))∧∃ n,w'=w.drewN n:=by
 have c0:=hv.w_
 have c1:=hv.h_
 have c3:=hv.style
 have c6:=hv.s_
 unfold slV at c6
 have e8:=style8 G.style hg.style
 have hw1:=hg.w1
 have hw2:=hg.w2
 have hh1:=hg.h1
 have hh2:=hg.h2
 have HS:=Lib.hid hv.sig
 clear hv hg
 obtain⟨W,hW⟩:∃ W,G.w=W:=⟨_,rfl⟩
 obtain⟨Hh,hH⟩:∃ Hh,G.h=Hh:=⟨_,rfl⟩
 obtain⟨S,hS⟩:∃ S,G.style=S:=⟨_,rfl⟩
 obtain⟨B,hB⟩:∃ B,sigM G c x y dx dy=B:=⟨_,rfl⟩
 have SM:Hid (B=(inM G x y dx dy && c.sig.getD (atM G x y dx dy) false)):=Lib.hid hB.symm
 obtain⟨I,hI⟩:∃ I,inM G x y dx dy=I:=⟨_,rfl⟩
 have IM:Hid (I=(decide (0≤(x:Int)+dx) && (decide ((x:Int)+dx<(W:Int)) && (decide (0≤(y:Int)+dy) && (decide ((y:Int)+dy<(Hh:Int)) && !(S.testBit 3 && (decide (0<dy) && decide (y % 4=3)))))))):=Lib.hid (by rw[← hI,← hW,← hH,← hS];rfl)
 have AM:Hid (atM G x y dx dy=((y:Int)+dy).toNat * W+((x:Int)+dx).toNat):=Lib.hid (by rw[← hW];rfl)
 rw[hI] at SM
 rw[hW,hH] at HS
 rw[hW] at c0 hx hw1 hw2
 rw[hH] at c1 hy hh1 hh2
 rw[hS] at c3 e8
 rw[hW,hH] at c6
 rw[hB]
 have NN:W * Hh≤4096:=Nat.mul_le_mul hw2 hh2
 clear hW hH hS hB hI
 by_cases k1:(x:Int)+dx<0
 ·have d1:decide ((x:Int)+dx<0)=true:=by simpa using k1
  have r:B=false:=by rw[SM.out,IM.out,decide_eq_false (by omega)];rfl
  rw[r]
  clear r
  go_enter Tryz.func133,Tryz.ntmps133
  go_wp2_with fail
  go_ret
  exact⟨rfl,0,rfl⟩
 obtain⟨p,hp⟩:∃ p:Nat,(x:Int)+dx=p:=⟨((x:Int)+dx).toNat,by omega⟩
 have d1:decide ((p:Int)<0)=false:=by simp
 by_cases k2:(W:Int)≤(p:Int)
 ·have d2:decide ((W:Int)≤(p:Int))=true:=by simpa using k2
  have r:B=false:=by rw[SM.out,IM.out,hp,decide_eq_true (by omega),decide_eq_false (show ¬ ((p:Int)<(W:Int)) by omega)];rfl
  rw[r]
  clear r
  go_enter Tryz.func133,Tryz.ntmps133
  go_wp2_with fail
  go_ret
  exact⟨rfl,0,rfl⟩
 have d2:decide ((W:Int)≤(p:Int))=false:=by simpa using k2
 by_cases k3:(y:Int)+dy<0
 ·have d3:decide ((y:Int)+dy<0)=true:=by simpa using k3
  have r:B=false:=by rw[SM.out,IM.out,hp,decide_eq_true (by omega),decide_eq_true (show ((p:Int)<(W:Int)) by omega),decide_eq_false (show ¬ (0≤(y:Int)+dy) by omega)];rfl
  rw[r]
  clear r
  go_enter Tryz.func133,Tryz.ntmps133
  go_wp2_with fail
  go_ret
  exact⟨rfl,0,rfl⟩
 obtain⟨q,hq⟩:∃ q:Nat,(y:Int)+dy=q:=⟨((y:Int)+dy).toNat,by omega⟩
 have d3:decide ((q:Int)<0)=false:=by simp
 by_cases k4:(Hh:Int)≤(q:Int)
 ·have d4:decide ((Hh:Int)≤(q:Int))=true:=by simpa using k4
  have r:B=false:=by rw[SM.out,IM.out,hp,hq,decide_eq_true (show (0:Int)≤p by omega),decide_eq_true (show ((p:Int)<(W:Int)) by omega),decide_eq_true (show (0:Int)≤q by omega),decide_eq_false (show ¬ ((q:Int)<(Hh:Int)) by omega)];rfl
  rw[r]
  clear r
  go_enter Tryz.func133,Tryz.ntmps133
  go_wp2_with fail
  go_ret
  exact⟨rfl,0,rfl⟩
 have d4:decide ((Hh:Int)≤(q:Int))=false:=by simpa using k4
 have IM2:Hid (I=!(S.testBit 3 && (decide (0<dy) && decide (y % 4=3)))):=Lib.hid (by rw[IM.out,hp,hq,decide_eq_true (show (0:Int)≤p by omega),decide_eq_true (show ((p:Int)<(W:Int)) by omega),decide_eq_true (show (0:Int)≤q by omega),decide_eq_true (show ((q:Int)<(Hh:Int)) by omega)];rfl)
 have AM2:Hid (atM G x y dx dy=q * W+p):=Lib.hid (by rw[AM.out,hp,hq,Int.toNat_natCast,Int.toNat_natCast])
 clear IM AM k1 k2 k3 k4
 have hpW:p<W:=by simp at d2;omega
 have hqH:q<Hh:=by simp at d4;omega
 have hI0:q * W+p<W * Hh:=by
  have h1:(q+1) * W≤Hh * W:=Nat.mul_le_mul_right _ hqH
  rw[Nat.succ_mul,Nat.mul_comm Hh W] at h1
  omega
 have cs:=HS.out (q * W+p) hI0
 have i0:(0:Int)≤(q:Int) * (W:Int)+(p:Int):=by
  have:(0:Int)≤(q:Int) * (W:Int):=Int.mul_nonneg (by omega) (by omega)
  omega
 have i1:(q:Int) * (W:Int)+(p:Int)<((W * Hh:Nat):Int):=by
  have:((q * W+p:Nat):Int)<((W * Hh:Nat):Int):=by omega
  push_cast at this ⊢
  exact this
 have i2:(q:Int) * (W:Int)≤4096:=by omega
 have i3:(0:Int)≤(q:Int) * (W:Int):=Int.mul_nonneg (by omega) (by omega)
 rcases(Bool.eq_false_or_eq_true (S.testBit 3)).symm with ht | ht
 ·rw[ht] at e8 IM2
  simp only[Bool.false_eq_true,if_false] at e8
  clear ht
  have r:B=c.sig.getD (q * W+p) false:=by rw[SM.out,AM2.out,IM2.out];simp
  rw[r]
  clear r
  generalize c.sig.getD (q * W+p) false=bb at *
  go_enter Tryz.func133,Tryz.ntmps133
  go_upto_region 4 with fail
  go_quiet (fail)
  go_wp2_with fail
  go_ret
  exact⟨rfl,_,rfl⟩
 ·rw[ht] at e8 IM2
  simp only[if_true] at e8
  clear ht
  by_cases hd:0<dy
  ·have d5:decide ((0:Int)<dy)=true:=by simpa using hd
   have IM3:Hid (I=!(decide (y % 4=3))):=Lib.hid (by rw[IM2.out,decide_eq_true hd];simp)
   clear hd IM2
   by_cases hy3:y % 4=3
   ·have d6:(((y:Int) % 4) == 3)=true:=by simp;omega
    have r:B=false:=by rw[SM.out,IM3.out,decide_eq_true hy3];rfl
    rw[r]
    clear r hy3
    go_enter Tryz.func133,Tryz.ntmps133
    go_wp2_with fail
    go_ret
    exact⟨rfl,0,rfl⟩
   ·have d6:(((y:Int) % 4) == 3)=false:=beq_eq_false_iff_ne.2 (by omega)
    have IM2:Hid (I=true):=Lib.hid (by rw[IM3.out,decide_eq_false hy3];rfl)
    clear hy3 IM3
    have r:B=c.sig.getD (q * W+p) false:=by rw[SM.out,AM2.out,IM2.out];simp
    rw[r]
    clear r
    generalize c.sig.getD (q * W+p) false=bb at *
    go_enter Tryz.func133,Tryz.ntmps133
    go_upto_region 4 with fail
    go_quiet (fail)
    go_wp2_with fail
    go_ret
    exact⟨rfl,_,rfl⟩
  ·have d5:decide ((0:Int)<dy)=false:=by simpa using hd
   have IM3:Hid (I=true):=Lib.hid (by rw[IM2.out,decide_eq_false hd];simp)
   clear hd IM2
   have IM2:=IM3
   clear IM3
   have r:B=c.sig.getD (q * W+p) false:=by rw[SM.out,AM2.out,IM2.out];simp
   rw[r]
   clear r
   generalize c.sig.getD (q * W+p) false=bb at *
   go_enter Tryz.func133,Tryz.ntmps133
   go_upto_region 4 with fail
   go_quiet (fail)
   go_wp2_with fail
   go_ret
   exact⟨rfl,_,rfl⟩
end
section
open Go.RowKit
def Drew (w w':World):Prop:=∃ n,w'=w.drewN n
theorem Drew.refl (w:World):Drew w w:=⟨0,rfl⟩
theorem Drew.trans {a b c:World} (h:Drew a b) (k:Drew b c):Drew a c:=by
 obtain⟨n,rfl⟩:=h
 obtain⟨m,rfl⟩:=k
 refine⟨n+m,?_⟩
 show ({ a with drawn:=a.drawn+n+m }:World)={ a with drawn:=a.drawn+(n+m) }
 rw[Nat.add_assoc]
theorem Drew.see {w w':World} {A:CodA} {G:GeoM} {c:CodM} (h:Drew w w') (k:CodSee w A G c):CodSee w' A G c:=by
 obtain⟨n,rfl⟩:=h
 exact k.drewN n
theorem Drew.mv {w0 w w':World} {H0 H:List HB} (h:Drew w w') (k:Mv w0 H0 w H):Mv w0 H0 w' H:=by
 obtain⟨n,rfl⟩:=h
 exact k.drewN n
theorem around_any (A:CodA) (G:GeoM) (c:CodM) (x y:Nat) (w:World) (hg:G.Ok) (hv:CodSee w A G c) (hx:x<G.w) (hy:y<G.h) :
  Calls Tryz.prog 124 #[.pointer (some ⟨A.cb,0,none⟩),.int .i64 (x:Int),.int .i64 (y:Int)] w fun e w'=>e=.returned (.tuple #[.int .i64 (((ardM G c x y).h:Nat):Int),.int .i64 (((ardM G c x y).v:Nat):Int),.int .i64 (((ardM G c x y).d:Nat):Int)])∧Drew w w':=by
 have SG:∀ dx dy:Int,-1≤dx∧dx≤1 → -1≤dy∧dy≤1→∀ W,Drew w W→Calls Tryz.prog 133 #[.pointer (some ⟨A.cb,0,none⟩),.int .i64 (x:Int),.int .i64 (y:Int),.int .i64 dx,.int .i64 dy] W fun e w'=>e=.returned (.bool (sigM G c x y dx dy))∧Drew w w' :=
  fun dx dy h1 h2 W hW=>(sig_any A G c x y dx dy W hg (hW.see hv) hx hy h1 h2).mono fun _e _w' q=>⟨q.1,hW.trans q.2⟩
 obtain⟨s0,S0,h0⟩:∃ s,Hid (∀ W,Drew w W→Calls Tryz.prog 133 #[.pointer (some ⟨A.cb,0,none⟩),.int .i64 (x:Int),.int .i64 (y:Int),.int .i64 (-1),.int .i64 0] W fun e w'=>e=.returned (.bool s)∧Drew w w')∧sigM G c x y (-1) 0=s:=⟨_,Lib.hid (SG (-1) 0 (by decide) (by decide)),rfl⟩
 obtain⟨s1,S1,h1⟩:∃ s,Hid (∀ W,Drew w W→Calls Tryz.prog 133 #[.pointer (some ⟨A.cb,0,none⟩),.int .i64 (x:Int),.int .i64 (y:Int),.int .i64 1,.int .i64 0] W fun e w'=>e=.returned (.bool s)∧Drew w w')∧sigM G c x y 1 0=s:=⟨_,Lib.hid (SG 1 0 (by decide) (by decide)),rfl⟩
 obtain⟨s2,S2,h2⟩:∃ s,Hid (∀ W,Drew w W→Calls Tryz.prog 133 #[.pointer (some ⟨A.cb,0,none⟩),.int .i64 (x:Int),.int .i64 (y:Int),.int .i64 0,.int .i64 (-1)] W fun e w'=>e=.returned (.bool s)∧Drew w w')∧sigM G c x y 0 (-1)=s:=⟨_,Lib.hid (SG 0 (-1) (by decide) (by decide)),rfl⟩
 obtain⟨s3,S3,h3⟩:∃ s,Hid (∀ W,Drew w W→Calls Tryz.prog 133 #[.pointer (some ⟨A.cb,0,none⟩),.int .i64 (x:Int),.int .i64 (y:Int),.int .i64 0,.int .i64 1] W fun e w'=>e=.returned (.bool s)∧Drew w w')∧sigM G c x y 0 1=s:=⟨_,Lib.hid (SG 0 1 (by decide) (by decide)),rfl⟩
 obtain⟨s4,S4,h4⟩:∃ s,Hid (∀ W,Drew w W→Calls Tryz.prog 133 #[.pointer (some ⟨A.cb,0,none⟩),.int .i64 (x:Int),.int .i64 (y:Int),.int .i64 (-1),.int .i64 (-1)] W fun e w'=>e=.returned (.bool s)∧Drew w w')∧sigM G c x y (-1) (-1)=s:=⟨_,Lib.hid (SG (-1) (-1) (by decide) (by decide)),rfl⟩
 obtain⟨s5,S5,h5⟩:∃ s,Hid (∀ W,Drew w W→Calls Tryz.prog 133 #[.pointer (some ⟨A.cb,0,none⟩),.int .i64 (x:Int),.int .i64 (y:Int),.int .i64 1,.int .i64 (-1)] W fun e w'=>e=.returned (.bool s)∧Drew w w')∧sigM G c x y 1 (-1)=s:=⟨_,Lib.hid (SG 1 (-1) (by decide) (by decide)),rfl⟩
 obtain⟨s6,S6,h6⟩:∃ s,Hid (∀ W,Drew w W→Calls Tryz.prog 133 #[.pointer (some ⟨A.cb,0,none⟩),.int .i64 (x:Int),.int .i64 (y:Int),.int .i64 (-1),.int .i64 1] W fun e w'=>e=.returned (.bool s)∧Drew w w')∧sigM G c x y (-1) 1=s:=⟨_,Lib.hid (SG (-1) 1 (by decide) (by decide)),rfl⟩
 obtain⟨s7,S7,h7⟩:∃ s,Hid (∀ W,Drew w W→Calls Tryz.prog 133 #[.pointer (some ⟨A.cb,0,none⟩),.int .i64 (x:Int),.int .i64 (y:Int),.int .i64 1,.int .i64 1] W fun e w'=>e=.returned (.bool s)∧Drew w w')∧sigM G c x y 1 1=s:=⟨_,Lib.hid (SG 1 1 (by decide) (by decide)),rfl⟩
 have EA:ardM G c x y=⟨oneN s0+oneN s1,oneN s2+oneN s3,oneN s4+oneN s5+oneN s6+oneN s7⟩:=by unfold ardM;rw[h0,h1,h2,h3,h4,h5,h6,h7]
 rw[EA]
 clear EA SG h0 h1 h2 h3 h4 h5 h6 h7 hv hg hx hy
 obtain⟨n0,N0,b0,e0⟩:∃ n:Nat,Hid (∀ W,Calls Tryz.prog 54 #[.bool s0] W fun e w'=>e=.returned (.int .i64 (n:Int))∧w'=W)∧n≤1∧oneN s0=n:=⟨_,Lib.hid fun W=>one_any s0 W,oneN_le _,rfl⟩
 obtain⟨n1,N1,b1,e1⟩:∃ n:Nat,Hid (∀ W,Calls Tryz.prog 54 #[.bool s1] W fun e w'=>e=.returned (.int .i64 (n:Int))∧w'=W)∧n≤1∧oneN s1=n:=⟨_,Lib.hid fun W=>one_any s1 W,oneN_le _,rfl⟩
 obtain⟨n2,N2,b2,e2⟩:∃ n:Nat,Hid (∀ W,Calls Tryz.prog 54 #[.bool s2] W fun e w'=>e=.returned (.int .i64 (n:Int))∧w'=W)∧n≤1∧oneN s2=n:=⟨_,Lib.hid fun W=>one_any s2 W,oneN_le _,rfl⟩
 obtain⟨n3,N3,b3,e3⟩:∃ n:Nat,Hid (∀ W,Calls Tryz.prog 54 #[.bool s3] W fun e w'=>e=.returned (.int .i64 (n:Int))∧w'=W)∧n≤1∧oneN s3=n:=⟨_,Lib.hid fun W=>one_any s3 W,oneN_le _,rfl⟩
 obtain⟨n4,N4,b4,e4⟩:∃ n:Nat,Hid (∀ W,Calls Tryz.prog 54 #[.bool s4] W fun e w'=>e=.returned (.int .i64 (n:Int))∧w'=W)∧n≤1∧oneN s4=n:=⟨_,Lib.hid fun W=>one_any s4 W,oneN_le _,rfl⟩
 obtain⟨n5,N5,b5,e5⟩:∃ n:Nat,Hid (∀ W,Calls Tryz.prog 54 #[.bool s5] W fun e w'=>e=.returned (.int .i64 (n:Int))∧w'=W)∧n≤1∧oneN s5=n:=⟨_,Lib.hid fun W=>one_any s5 W,oneN_le _,rfl⟩
 obtain⟨n6,N6,b6,e6⟩:∃ n:Nat,Hid (∀ W,Calls Tryz.prog 54 #[.bool s6] W fun e w'=>e=.returned (.int .i64 (n:Int))∧w'=W)∧n≤1∧oneN s6=n:=⟨_,Lib.hid fun W=>one_any s6 W,oneN_le _,rfl⟩
 obtain⟨n7,N7,b7,e7⟩:∃ n:Nat,Hid (∀ W,Calls Tryz.prog 54 #[.bool s7] W fun e w'=>e=.returned (.int .i64 (n:Int))∧w'=W)∧n≤1∧oneN s7=n:=⟨_,Lib.hid fun W=>one_any s7 W,oneN_le _,rfl⟩
 rw[e0,e1,e2,e3,e4,e5,e6,e7]
 clear e0 e1 e2 e3 e4 e5 e6 e7
 have D:Hid (Drew w w):=Lib.hid (Drew.refl w)
 go_enter Tryz.func124,Tryz.ntmps124
 go_wp2_with (first
  | (go_at_call 133;(with_reducible refine(S0.out _ D.out).mono ?_);rintro e v0 ⟨rfl,D0⟩;replace D:=Lib.hid D0;clear D0)
  | (go_at_call 54;(with_reducible refine(N0.out _).mono ?_);rintro e v ⟨rfl,rfl⟩)
  | (go_at_call 133;(with_reducible refine(S1.out _ D.out).mono ?_);rintro e v1 ⟨rfl,D1⟩;replace D:=Lib.hid D1;clear D1)
  | (go_at_call 54;(with_reducible refine(N1.out _).mono ?_);rintro e v ⟨rfl,rfl⟩)
  | (go_at_call 133;(with_reducible refine(S2.out _ D.out).mono ?_);rintro e v2 ⟨rfl,D2⟩;replace D:=Lib.hid D2;clear D2)
  | (go_at_call 54;(with_reducible refine(N2.out _).mono ?_);rintro e v ⟨rfl,rfl⟩)
  | (go_at_call 133;(with_reducible refine(S3.out _ D.out).mono ?_);rintro e v3 ⟨rfl,D3⟩;replace D:=Lib.hid D3;clear D3)
  | (go_at_call 54;(with_reducible refine(N3.out _).mono ?_);rintro e v ⟨rfl,rfl⟩)
  | (go_at_call 133;(with_reducible refine(S4.out _ D.out).mono ?_);rintro e v4 ⟨rfl,D4⟩;replace D:=Lib.hid D4;clear D4)
  | (go_at_call 54;(with_reducible refine(N4.out _).mono ?_);rintro e v ⟨rfl,rfl⟩)
  | (go_at_call 133;(with_reducible refine(S5.out _ D.out).mono ?_);rintro e v5 ⟨rfl,D5⟩;replace D:=Lib.hid D5;clear D5)
  | (go_at_call 54;(with_reducible refine(N5.out _).mono ?_);rintro e v ⟨rfl,rfl⟩)
  | (go_at_call 133;(with_reducible refine(S6.out _ D.out).mono ?_);rintro e v6 ⟨rfl,D6⟩;replace D:=Lib.hid D6;clear D6)
  | (go_at_call 54;(with_reducible refine(N6.out _).mono ?_);rintro e v ⟨rfl,rfl⟩)
  | (go_at_call 133;(with_reducible refine(S7.out _ D.out).mono ?_);rintro e v7 ⟨rfl,D7⟩;replace D:=Lib.hid D7;clear D7)
  | (go_at_call 54;(with_reducible refine(N7.out _).mono ?_);rintro e v ⟨rfl,rfl⟩))
 go_ret3
 exact⟨rfl,D.out⟩
theorem zero_any (A:CodA) (G:GeoM) (c:CodM) (x y:Nat) (w:World) (hg:G.Ok) (hv:CodSee w A G c) (hx:x<G.w) (hy:y<G.h) :
  Calls Tryz.prog 121 #[.pointer (some ⟨A.cb,0,none⟩),.int .i64 (x:Int),.int .i64 (y:Int)] w fun e w'=>e=.returned (.int .i64 ((zeroM G c x y:Nat):Int))∧Drew w w':=by
 have AR:=Lib.hid (around_any A G c x y w hg hv hx hy)
 obtain⟨l1,l2,l3⟩:=ardM_le G c x y
 obtain⟨a,ha⟩:∃ a,ardM G c x y=a:=⟨_,rfl⟩
 have e:zeroM G c x y=zctx G.band a.h a.v a.d:=by unfold zeroM;rw[ha]
 rw[e]
 rw[ha] at AR l1 l2 l3
 have V:=Lib.hid hv
 have ZC:=Lib.hid fun W=>zero_ctx G.band a.h a.v a.d W l1 l2 l3
 clear e ha hv hg
 go_enter Tryz.func121,Tryz.ntmps121
 go_wp2_with (first
  | (go_at_call 124;refine AR.out.mono ?_;rintro e w1 ⟨rfl,d1⟩;have c2:=(d1.see V.out).band;have D:=Lib.hid d1;clear d1)
  | (go_at_call 130;refine(ZC.out _).mono ?_;rintro e w2 ⟨rfl,rfl⟩))
 go_ret
 exact⟨rfl,D.out⟩
theorem inM_true {G:GeoM} {x y:Nat} {dx dy:Int} (h:inM G x y dx dy=true):∃ p q:Nat,(x:Int)+dx=p∧(y:Int)+dy=q∧p<G.w∧q<G.h:=by
 unfold inM at h
 simp only[Bool.and_eq_true,decide_eq_true_eq] at h
 obtain⟨h1,h2,h3,h4,-⟩:=h
 exact⟨((x:Int)+dx).toNat,((y:Int)+dy).toNat,by omega,by omega,by omega,by omega⟩
theorem says_any (A:CodA) (G:GeoM) (c:CodM) (x y:Nat) (dx dy:Int) (w:World) (hg:G.Ok) (hv:CodSee w A G c) (hx:x<G.w) (hy:y<G.h) (h1 : -1≤dx∧dx≤1) (h2 : -1≤dy∧dy≤1) :
  Calls Tryz.prog 131 #[.pointer (some ⟨A.cb,0,none⟩),.int .i64 (x:Int),.int .i64 (y:Int),.int .i64 dx,.int .i64 dy] w fun e w'=>e=.returned (.int .i64 (saysM G c x y dx dy))∧Drew w w':=by
 have SG:Hid (Calls Tryz.prog 133 #[.pointer (some ⟨A.cb,0,none⟩),.int .i64 (x:Int),.int .i64 (y:Int),.int .i64 dx,.int .i64 dy] w fun e w'=>e=.returned (.bool (sigM G c x y dx dy))∧Drew w w'):=Lib.hid (sig_any A G c x y dx dy w hg hv hx hy h1 h2)
 rcases(Bool.eq_false_or_eq_true (sigM G c x y dx dy)).symm with hs | hs
 ·have e:saysM G c x y dx dy=0:=by unfold saysM;rw[hs];rfl
  rw[e]
  rw[hs] at SG
  clear hs e hv hg
  go_enter Tryz.func131,Tryz.ntmps131
  go_wp2_with (go_at_call 133;refine SG.out.mono ?_;rintro e w1 ⟨rfl,d1⟩;have D:=Lib.hid d1;clear d1)
  go_ret
  exact⟨rfl,D.out⟩
 ·have hin:inM G x y dx dy=true:=by
   unfold sigM at hs
   simp only[Bool.and_eq_true] at hs
   exact hs.1
  obtain⟨p,q,hp,hq,hpW,hqH⟩:=inM_true hin
  have e:saysM G c x y dx dy=1 - 2 * ((G.neg.getD (q * G.w+p) 0:Nat):Int):=by
   unfold saysM atM
   rw[hs,hp,hq,Int.toNat_natCast,Int.toNat_natCast]
   rfl
  rw[e]
  rw[hs] at SG
  have hw2:=hg.w2
  have hh2:=hg.h2
  have hI0:q * G.w+p<G.w * G.h:=by
   have h1:(q+1) * G.w≤G.h * G.w:=Nat.mul_le_mul_right _ hqH
   rw[Nat.succ_mul,Nat.mul_comm G.h G.w] at h1
   omega
  have NN:G.w * G.h≤4096:=Nat.mul_le_mul hw2 hh2
  obtain⟨ng,hng⟩:∃ ng,G.neg.getD (q * G.w+p) 0=ng:=⟨_,rfl⟩
  have hnb:ng≤1:=by
   rw[← hng,List.getD_eq_getElem?_getD,List.getElem?_eq_getElem (by rw[hg.neg];exact hI0)]
   exact hg.negB _ (List.getElem_mem _)
  rw[hng]
  have V:=Lib.hid hv
  have HG:=Lib.hid (And.intro hI0 hng)
  clear hs e hv hg hin hng
  obtain⟨W,hW⟩:∃ W,G.w=W:=⟨_,rfl⟩
  obtain⟨Hh,hH⟩:∃ Hh,G.h=Hh:=⟨_,rfl⟩
  rw[hW] at hx hw2 hpW hI0
  rw[hH] at hy hh2 hqH
  rw[hW,hH] at NN
  rw[hH] at hI0
  have HWH:=Lib.hid (And.intro hW hH)
  clear hW hH
  have i0:(0:Int)≤(q:Int) * (W:Int)+(p:Int):=by
   have:(0:Int)≤(q:Int) * (W:Int):=Int.mul_nonneg (by omega) (by omega)
   omega
  have i1:(q:Int) * (W:Int)+(p:Int)<((W * Hh:Nat):Int):=by
   have:((q * W+p:Nat):Int)<((W * Hh:Nat):Int):=by omega
   push_cast at this ⊢
   exact this
  have i2:(q:Int) * (W:Int)≤4096:=by omega
  have i3:(0:Int)≤(q:Int) * (W:Int):=Int.mul_nonneg (by omega) (by omega)
  have ea:(q:Int) * (W:Int)+(x:Int)+dx=(q:Int) * (W:Int)+(p:Int):=by omega
  clear hI0
  go_enter Tryz.func131,Tryz.ntmps131
  go_upto_region 3 with (go_at_call 133;refine SG.out.mono ?_;rintro e w1 ⟨rfl,d1⟩;have D:=Lib.hid d1;clear d1)
  have hv1:=D.out.see V.out
  have c0:=hv1.w_
  have c5:=hv1.n_
  unfold slV at c5
  rw[HWH.out.1] at c0 c5
  rw[HWH.out.2] at c5
  have cn:=hv1.neg (q * G.w+p) HG.out.1
  rw[HG.out.2,HWH.out.1] at cn
  clear hv1
  go_quiet (fail)
  go_wp2_with fail
  go_ret
  exact⟨rfl,D.out.trans ⟨_,rfl⟩⟩
end
section
open Go.RowKit
theorem cxV_get {l:List CxM} {k:Nat} {x:CxM} (h:l[k]?=some x):(cxV l)[k * 2]?=some (.int .i64 (x.i:Int))∧(cxV l)[k * 2+1]?=some (.int .i64 (x.mps:Int)):=by
 have g:=fun j (hj:j<2)=>flat_get (fun c:CxM=>[Value.int .i64 (c.i:Int),.int .i64 (c.mps:Int)]) 2 (fun _=>rfl) l k x h j hj
 exact⟨g 0 (by omega),g 1 (by omega)⟩
theorem cxV_length (l:List CxM):(cxV l).length=l.length * 2:=flat_length _ 2 (fun _=>rfl) l
theorem cxV_set {l:List CxM} {k:Nat} {x:CxM} (h:l[k]?=some x) (x':CxM):((cxV l).set (k * 2) (.int .i64 (x'.i:Int))).set (k * 2+1) (.int .i64 (x'.mps:Int))=cxV (l.set k x'):=by
 have e1:=flat_set (fun c:CxM=>[Value.int .i64 (c.i:Int),.int .i64 (c.mps:Int)]) 2 (fun _=>rfl) l k x ⟨x'.i,x.mps⟩ h 0 (by omega) (.int .i64 (x'.i:Int)) rfl
 have hk:=(List.getElem?_eq_some_iff.1 h).1
 have e2:=flat_set (fun c:CxM=>[Value.int .i64 (c.i:Int),.int .i64 (c.mps:Int)]) 2 (fun _=>rfl) (l.set k ⟨x'.i,x.mps⟩) k ⟨x'.i,x.mps⟩ x' (by rw[List.getElem?_set_self hk]) 1 (by omega) (.int .i64 (x'.mps:Int)) rfl
 unfold cxV
 rw[show k * 2+0=k * 2 from rfl] at e1
 rw[e1,e2]
 simp
theorem codV_get {A:CodA} {G:GeoM} {cx:List CxM} {raw:Bool} {eg rg k:Nat} {x:CxM} (h:cx[k]?=some x):(codV A G cx raw eg rg).toArray[9+k * 2]?=some (.int .i64 (x.i:Int))∧(codV A G cx raw eg rg).toArray[9+k * 2+1]?=some (.int .i64 (x.mps:Int)):=by
 have hk:=(List.getElem?_eq_some_iff.1 h).1
 have hl:=cxV_length cx
 obtain⟨g0,g1⟩:=cxV_get h
 simp only[List.getElem?_toArray,codV]
 constructor
 ·rw[List.getElem?_append_right (by simp only[List.length_cons,List.length_nil];omega),List.getElem?_append_left (by simp only[List.length_cons,List.length_nil];omega)]
  rw[← g0]
  congr 1
  simp only[List.length_cons,List.length_nil]
  omega
 ·rw[List.getElem?_append_right (by simp only[List.length_cons,List.length_nil];omega),List.getElem?_append_left (by simp only[List.length_cons,List.length_nil];omega)]
  rw[← g1]
  congr 1
  simp only[List.length_cons,List.length_nil]
  omega
theorem codV_set {A:CodA} {G:GeoM} {cx:List CxM} {raw:Bool} {eg rg k:Nat} {x:CxM} (h:cx[k]?=some x) (x':CxM):cxSet (codV A G cx raw eg rg).toArray (9+k * 2) x'.i x'.mps=(codV A G (cx.set k x') raw eg rg).toArray:=by
 have hk:=(List.getElem?_eq_some_iff.1 h).1
 have hl:=cxV_length cx
 unfold cxSet codV
 rw[← cxV_set h x']
 simp only[List.setIfInBounds_toArray]
 congr 1
 rw[List.set_append_right _ _ (by simp only[List.length_cons,List.length_nil];omega),List.set_append_right _ _ (by simp only[List.length_cons,List.length_nil];omega)]
 congr 1
 rw[List.set_append_left _ _ (by simp only[List.length_cons,List.length_nil];omega),List.set_append_left _ _ (by simp only[List.length_cons,List.length_nil,List.length_set];omega)]
 congr 1
 simp only[List.length_cons,List.length_nil]
 rw[show 9+k * 2 - (0+1+1+1+1+1+1+1+1+1)=k * 2 by omega,show 9+k * 2+1 - (0+1+1+1+1+1+1+1+1+1)=k * 2+1 by omega]
theorem codB_tail {w:World} {A:CodA} {G:GeoM} {cx:List CxM} {raw:Bool} {eg rg:Nat} (h:Blk w A.cb 133 (codV A G cx raw eg rg).toArray) (hl:cx.length=19) :
  w.cell? ⟨A.cb,47,none⟩=some (.bool true)∧w.cell? ⟨A.cb,48,none⟩=some (.bool raw)∧w.cell? ⟨A.cb,49,none⟩=some (.pointer (some ⟨eg,0,none⟩))∧w.cell? ⟨A.cb,50,none⟩=some (.pointer (some ⟨rg,0,none⟩)):=by
 have hc:=cxV_length cx
 have c:=fun i=>h.cell i
 have e:∀ i v,i<4→[Value.bool true,.bool raw,.pointer (some ⟨eg,0,none⟩),.pointer (some ⟨rg,0,none⟩),.pointer none,.pointer none][i]?=some v→w.cell? ⟨A.cb,47+i,none⟩=some v:=by
  intro i v hi hv
  rw[c,List.getElem?_toArray,← hv]
  unfold codV
  rw[List.getElem?_append_right (by simp only[List.length_cons,List.length_nil];omega),List.getElem?_append_right (by simp only[List.length_cons,List.length_nil];omega)]
  congr 1
  simp only[List.length_cons,List.length_nil]
  omega
 exact⟨e 0 _ (by omega) rfl,e 1 _ (by omega) rfl,e 2 _ (by omega) rfl,e 3 _ (by omega) rfl⟩
def rowsR (A:CodA) (G:GeoM) (c:CodM):List HB:=[rowN A.gm G.mag,rowN A.gn G.neg,rowL A.gs c.sig,rowL A.ge c.seen,rowL A.ga c.again]
theorem cod_bit (A:CodA) (G:GeoM) (q:CS) (raw:Bool) (eg rg k b:Nat) (H:List HB) (w:World) (h:CodR A G q raw eg rg H) (hs:Sat w H) (hq:q.s.Ok) (hz:q.s.size≤80000000) (hk:k<19) (hb:b≤1) :
  Calls Tryz.prog 127 #[.pointer (some ⟨A.cb,0,none⟩),.int .i64 (k:Int),.int .i64 (b:Int)] w fun e w'=>e=.returned (.int .i64 (b:Int))∧∃ H',CodR A G ⟨q.c,bitW raw q.s k b⟩ raw eg rg H'∧Mv w H w' H':=by
 obtain⟨He,Hr,hme,hmr,rfl⟩:=h
 have bb:Blk w A.cb 133 (codV A G q.s.cx raw eg rg).toArray:=hs.at_ 0 (by rfl)
 obtain⟨t0,t1,t2,t3⟩:=codB_tail bb hq.len
 unfold WrM.size at hz
 cases raw with
 | true =>
  have M0:Mv w (codB A G q.s.cx true eg rg::(rowsR A G q.c++(He++Hr))) w (Hr++(codB A G q.s.cx true eg rg::(rowsR A G q.c++He))):=(Mv.refl hs).sub (fun g=>by simp only[rowsR,cnt_append,cnt_cons,cnt_nil];omega) (fun c hc=>by simp only[rowsR,List.mem_append,List.mem_cons] at hc ⊢;grind)
  have RB:=Lib.hid (raw_bit rg q.s.r b w Hr hmr M0.sat.left hq.r (by omega) hb)
  have K0:=Lib.hid M0
  have HE:=Lib.hid hme
  clear hme hmr hs bb M0 hq
  go_enter Tryz.func127,Tryz.ntmps127
  go_wp2_with (go_at_call 135;refine RB.out.mono ?_;rintro e w1 ⟨rfl,H1,h1,m1⟩;have K1:=Lib.hid (And.intro h1 (Mv.call (H:=Hr) K0.out m1));clear h1 m1)
  go_ret
  refine⟨rfl,_,⟨He,H1,HE.out,K1.out.1,rfl⟩,K1.out.2.sub (fun g=>?_) (fun c hc=>?_)⟩
  ·simp only[rowsR,bitW,if_true,cnt_append,cnt_cons,cnt_nil];omega
  ·simp only[rowsR,bitW,if_true,List.mem_append,List.mem_cons] at hc ⊢;grind
 | false =>
  have hkl:k<q.s.cx.length:=by rw[hq.len];exact hk
  obtain⟨x,hx⟩:∃ x,q.s.cx[k]?=some x:=⟨_,List.getElem?_eq_getElem hkl⟩
  have hxd:q.s.cx.getD k ⟨0,0⟩=x:=by rw[List.getD_eq_getElem?_getD,hx];rfl
  obtain⟨g0,g1⟩:=codV_get (A:=A) (G:=G) (raw:=false) (eg:=eg) (rg:=rg) hx
  have M0:Mv w (codB A G q.s.cx false eg rg::(rowsR A G q.c++(He++Hr))) w ((⟨A.cb,133,(codV A G q.s.cx false eg rg).toArray⟩::He)++(rowsR A G q.c++Hr)):=(Mv.refl hs).sub (fun g=>by simp only[rowsR,codB,cnt_append,cnt_cons,cnt_nil];omega) (fun c hc=>by simp only[rowsR,codB,List.mem_append,List.mem_cons] at hc ⊢;grind)
  have EB:=Lib.hid (mq_enc eg A.cb k b 133 (codV A G q.s.cx false eg rg).toArray q.s.e x w.drew He hk hme M0.drew.sat.left g0 g1 hq.e (hq.cx x (List.mem_of_getElem? hx)) (by omega) hb)
  rw[codV_set hx] at EB
  have BW:Hid (bitW false q.s k b={ q.s with e:=(encE q.s.e x b).1,cx:=q.s.cx.set k (encE q.s.e x b).2 }):=Lib.hid (by unfold bitW;rw[hxd];rfl)
  have K0:=Lib.hid M0.drew
  have HR:=Lib.hid hmr
  clear hme hmr hs bb M0 hq hx hxd g0 g1
  go_enter Tryz.func127,Tryz.ntmps127
  go_upto_region 5 with fail
  go_still_tail 9,(by kernel_rfl)
  change wpList _ _ _ _ _ w.drew
  generalize w.drew=w0 at *
  go_wp2_with (go_at_call 136;refine EB.out.mono ?_;rintro e w1 ⟨rfl,H1,h1,m1⟩;have K1:=Lib.hid (And.intro h1 m1);clear h1 m1)
  have M1:Mv w _ w1 _:=Mv.call (H:=⟨A.cb,133,(codV A G q.s.cx false eg rg).toArray⟩::He) (R:=rowsR A G q.c++Hr) K0.out K1.out.2
  go_ret
  rw[BW.out]
  refine⟨rfl,_,⟨H1,Hr,K1.out.1,HR.out,rfl⟩,M1.sub (fun g=>?_) (fun c hc=>?_)⟩
  ·simp only[rowsR,codB,cnt_append,cnt_cons,cnt_nil];omega
  ·simp only[rowsR,codB,List.mem_append,List.mem_cons] at hc ⊢;grind
end
section
open Go.RowKit
theorem neg_le {G:GeoM} (hg:G.Ok) (i:Nat):G.neg.getD i 0≤1:=by
 rw[List.getD_eq_getElem?_getD]
 cases h:G.neg[i]? with
 | none=>simp
 | some n=>exact hg.negB n (List.mem_of_getElem? h)
theorem saysM_le {G:GeoM} (hg:G.Ok) (c:CodM) (x y:Nat) (dx dy:Int) : -1≤saysM G c x y dx dy∧saysM G c x y dx dy≤1:=by
 unfold saysM
 split
 ·have:=neg_le hg (atM G x y dx dy)
  omega
 ·omega
theorem rowN_same (g:Nat) (l:List Nat) (i:Nat):(rowN g l).cs.setIfInBounds i (.int .i64 ((l.getD i 0:Nat):Int))=(rowN g l).cs:=by
 simp only[rowN,List.setIfInBounds_toArray]
 congr 1
 apply List.ext_getElem?
 intro j
 rw[List.getElem?_set]
 split
 ·rename_i h
  subst h
  split
  ·rename_i hl
   rw[List.length_map] at hl
   rw[List.getElem?_map,List.getElem?_eq_getElem hl,List.getD_eq_getElem?_getD,List.getElem?_eq_getElem hl]
   rfl
  ·rename_i hl
   rw[List.getElem?_eq_none (by omega)]
 ·rfl
theorem rowL_set (g:Nat) (l:List Bool) (i:Nat) (b:Bool):(rowL g l).cs.setIfInBounds i (.bool b)=(rowL g (l.set i b)).cs:=by
 simp only[rowL,List.setIfInBounds_toArray,List.map_set]
theorem CodR.setNeg {A:CodA} {G:GeoM} {q:CS} {raw:Bool} {eg rg:Nat} {H H0:List HB} {w0 w:World} (h:CodR A G q raw eg rg H) (m:Mv w0 H0 w H) (i:Nat):Mv w0 H0 (w.setCell ⟨A.gn,i,none⟩ (.int .i64 ((G.neg.getD i 0:Nat):Int))) H:=by
 obtain⟨He,Hr,-,-,rfl⟩:=h
 have:=Mv.setAt (A:=[_,_]) m i (.int .i64 ((G.neg.getD i 0:Nat):Int))
 have e:(G.neg.map fun (n:Nat)=>Value.int .i64 (n:Int)).toArray.setIfInBounds i (.int .i64 ((G.neg.getD i 0:Nat):Int))=(G.neg.map fun (n:Nat)=>Value.int .i64 (n:Int)).toArray:=rowN_same A.gn G.neg i
 rw[e] at this
 exact this
theorem CodR.setSig {A:CodA} {G:GeoM} {q:CS} {raw:Bool} {eg rg:Nat} {H H0:List HB} {w0 w:World} (h:CodR A G q raw eg rg H) (m:Mv w0 H0 w H) (i:Nat) (b:Bool):∃ H',CodR A G ⟨{ q.c with sig:=q.c.sig.set i b },q.s⟩ raw eg rg H'∧Mv w0 H0 (w.setCell ⟨A.gs,i,none⟩ (.bool b)) H':=by
 obtain⟨He,Hr,h1,h2,rfl⟩:=h
 have:=Mv.setAt (A:=[_,_,_]) m i (.bool b)
 have e:(q.c.sig.map Value.bool).toArray.setIfInBounds i (.bool b)=((q.c.sig.set i b).map Value.bool).toArray:=rowL_set A.gs q.c.sig i b
 rw[e] at this
 exact⟨_,⟨He,Hr,h1,h2,rfl⟩,this⟩
theorem CodR.setSeen {A:CodA} {G:GeoM} {q:CS} {raw:Bool} {eg rg:Nat} {H H0:List HB} {w0 w:World} (h:CodR A G q raw eg rg H) (m:Mv w0 H0 w H) (i:Nat) (b:Bool):∃ H',CodR A G ⟨{ q.c with seen:=q.c.seen.set i b },q.s⟩ raw eg rg H'∧Mv w0 H0 (w.setCell ⟨A.ge,i,none⟩ (.bool b)) H':=by
 obtain⟨He,Hr,h1,h2,rfl⟩:=h
 have:=Mv.setAt (A:=[_,_,_,_]) m i (.bool b)
 have e:(q.c.seen.map Value.bool).toArray.setIfInBounds i (.bool b)=((q.c.seen.set i b).map Value.bool).toArray:=rowL_set A.ge q.c.seen i b
 rw[e] at this
 exact⟨_,⟨He,Hr,h1,h2,rfl⟩,this⟩
theorem CodR.setAgain {A:CodA} {G:GeoM} {q:CS} {raw:Bool} {eg rg:Nat} {H H0:List HB} {w0 w:World} (h:CodR A G q raw eg rg H) (m:Mv w0 H0 w H) (i:Nat) (b:Bool):∃ H',CodR A G ⟨{ q.c with again:=q.c.again.set i b },q.s⟩ raw eg rg H'∧Mv w0 H0 (w.setCell ⟨A.ga,i,none⟩ (.bool b)) H':=by
 obtain⟨He,Hr,h1,h2,rfl⟩:=h
 have:=Mv.setAt (A:=[_,_,_,_,_]) m i (.bool b)
 have e:(q.c.again.map Value.bool).toArray.setIfInBounds i (.bool b)=((q.c.again.set i b).map Value.bool).toArray:=rowL_set A.ga q.c.again i b
 rw[e] at this
 exact⟨_,⟨He,Hr,h1,h2,rfl⟩,this⟩
theorem CodR.frozen {A:CodA} {G:GeoM} {q:CS} {raw:Bool} {eg rg:Nat} {H:List HB} {w:World} (h:CodR A G q raw eg rg H) (hs:Sat w H) (i:Nat):w.frozen? ⟨A.gn,i,none⟩=false∧w.frozen? ⟨A.gs,i,none⟩=false∧w.frozen? ⟨A.ge,i,none⟩=false∧w.frozen? ⟨A.ga,i,none⟩=false∧w.frozen? ⟨A.cb,i,none⟩=false:=by
 obtain⟨He,Hr,-,-,rfl⟩:=h
 exact⟨(hs.at_ 2 (by rfl)).frozen i,(hs.at_ 3 (by rfl)).frozen i,(hs.at_ 4 (by rfl)).frozen i,(hs.at_ 5 (by rfl)).frozen i,(hs.at_ 0 (by rfl)).frozen i⟩
theorem CodR.tail {A:CodA} {G:GeoM} {q:CS} {raw:Bool} {eg rg:Nat} {H:List HB} {w:World} (h:CodR A G q raw eg rg H) (hs:Sat w H) (hq:q.s.Ok) :
  w.cell? ⟨A.cb,47,none⟩=some (.bool true)∧w.cell? ⟨A.cb,48,none⟩=some (.bool raw)∧w.cell? ⟨A.cb,49,none⟩=some (.pointer (some ⟨eg,0,none⟩))∧w.cell? ⟨A.cb,50,none⟩=some (.pointer (some ⟨rg,0,none⟩)):=by
 obtain⟨He,Hr,-,-,rfl⟩:=h
 exact codB_tail (hs.at_ 0 (by rfl)) hq.len
theorem place {G:GeoM} (hg:G.Ok) {x y:Nat} (hx:x<G.w) (hy:y<G.h):y * G.w+x<G.w * G.h∧G.w * G.h≤4096∧(0:Int)≤(y:Int) * (G.w:Int)+(x:Int)∧(y:Int) * (G.w:Int)+(x:Int)<((G.w * G.h:Nat):Int)∧(y:Int) * (G.w:Int)≤4096∧(0:Int)≤(y:Int) * (G.w:Int):=by
 have h0:y * G.w+x<G.w * G.h:=by
  have h1:(y+1) * G.w≤G.h * G.w:=Nat.mul_le_mul_right _ hy
  rw[Nat.succ_mul,Nat.mul_comm G.h G.w] at h1
  omega
 have h2:G.w * G.h≤4096:=Nat.mul_le_mul hg.w2 hg.h2
 have h3:(0:Int)≤(y:Int) * (G.w:Int):=Int.mul_nonneg (by omega) (by omega)
 have h4:(y:Int) * (G.w:Int)+(x:Int)<((G.w * G.h:Nat):Int):=by
  have:((y * G.w+x:Nat):Int)<((G.w * G.h:Nat):Int):=by omega
  push_cast at this ⊢
  exact this
 exact⟨h0,h2,by omega,h4,by omega,h3⟩
theorem clampW (s:Int):(if (if 1<s then 1 else s) < -1 then -1 else if 1<s then 1 else s)=clampI s:=by
 unfold clampI
 repeat' split
 all_goals omega
theorem xor_le {a b:Nat} (h:a≤1) (k:b≤1):a ^^^ b≤1∧(a ^^^ b) ^^^ b=a:=by
 rcases(show a=0∨a=1 by omega) with rfl | rfl <;> rcases(show b=0∨b=1 by omega) with rfl | rfl <;> decide
theorem cod_sign (A:CodA) (G:GeoM) (q:CS) (raw:Bool) (eg rg x y:Nat) (H:List HB) (w:World) (hg:G.Ok) (hc:q.c.Ok G) (h:CodR A G q raw eg rg H) (hs:Sat w H) (hq:q.s.Ok) (hz:q.s.size≤80000000) (hx:x<G.w) (hy:y<G.h) :
  Calls Tryz.prog 123 #[.pointer (some ⟨A.cb,0,none⟩),.int .i64 (x:Int),.int .i64 (y:Int)] w fun e w'=>e=.returned (.tuple #[])∧∃ H',CodR A G (signM G raw q x y) raw eg rg H'∧Mv w H w' H':=by
 have SY:∀ dx dy:Int,-1≤dx∧dx≤1 → -1≤dy∧dy≤1→∀ W,Drew w W→Calls Tryz.prog 131 #[.pointer (some ⟨A.cb,0,none⟩),.int .i64 (x:Int),.int .i64 (y:Int),.int .i64 dx,.int .i64 dy] W fun e w'=>e=.returned (.int .i64 (saysM G q.c x y dx dy))∧Drew w w' :=
  fun dx dy h1 h2 W hW=>(says_any A G q.c x y dx dy W hg (hW.see (h.see hg hc hs)) hx hy h1 h2).mono fun _e _w' q=>⟨q.1,hW.trans q.2⟩
 have V:=h.see hg hc hs
 have c0:=V.w_
 obtain⟨p0,p1,p2,p3,p4,p5⟩:=place hg hx hy
 obtain⟨d0,S0,b0,h0⟩:∃ d,Hid (∀ W,Drew w W→Calls Tryz.prog 131 #[.pointer (some ⟨A.cb,0,none⟩),.int .i64 (x:Int),.int .i64 (y:Int),.int .i64 (-1),.int .i64 0] W fun e w'=>e=.returned (.int .i64 d)∧Drew w w')∧(-1≤d∧d≤1)∧saysM G q.c x y (-1) 0=d:=⟨_,Lib.hid (SY (-1) 0 (by decide) (by decide)),saysM_le hg q.c x y (-1) 0,rfl⟩
 obtain⟨d1,S1,b1,h1⟩:∃ d,Hid (∀ W,Drew w W→Calls Tryz.prog 131 #[.pointer (some ⟨A.cb,0,none⟩),.int .i64 (x:Int),.int .i64 (y:Int),.int .i64 1,.int .i64 0] W fun e w'=>e=.returned (.int .i64 d)∧Drew w w')∧(-1≤d∧d≤1)∧saysM G q.c x y 1 0=d:=⟨_,Lib.hid (SY 1 0 (by decide) (by decide)),saysM_le hg q.c x y 1 0,rfl⟩
 obtain⟨d2,S2,b2,h2⟩:∃ d,Hid (∀ W,Drew w W→Calls Tryz.prog 131 #[.pointer (some ⟨A.cb,0,none⟩),.int .i64 (x:Int),.int .i64 (y:Int),.int .i64 0,.int .i64 (-1)] W fun e w'=>e=.returned (.int .i64 d)∧Drew w w')∧(-1≤d∧d≤1)∧saysM G q.c x y 0 (-1)=d:=⟨_,Lib.hid (SY 0 (-1) (by decide) (by decide)),saysM_le hg q.c x y 0 (-1),rfl⟩
 obtain⟨d3,S3,b3,h3⟩:∃ d,Hid (∀ W,Drew w W→Calls Tryz.prog 131 #[.pointer (some ⟨A.cb,0,none⟩),.int .i64 (x:Int),.int .i64 (y:Int),.int .i64 0,.int .i64 1] W fun e w'=>e=.returned (.int .i64 d)∧Drew w w')∧(-1≤d∧d≤1)∧saysM G q.c x y 0 1=d:=⟨_,Lib.hid (SY 0 1 (by decide) (by decide)),saysM_le hg q.c x y 0 1,rfl⟩
 have ES:Hid (sgnM G q.c x y=sctx (clampI (d0+d1)) (clampI (d2+d3))):=Lib.hid (by unfold sgnM;rw[h0,h1,h2,h3])
 have V2:=Lib.hid V
 have KR:=Lib.hid (And.intro h (And.intro hs (And.intro hq (And.intro hz (And.intro hg hc)))))
 have D:Hid (Drew w w):=Lib.hid (Drew.refl w)
 clear SY V h0 h1 h2 h3 h hs hq hz hg hc
 go_enter Tryz.func123,Tryz.ntmps123
 go_upto_region 3 with (first
  | (go_at_call 131;(with_reducible refine(S0.out _ D.out).mono ?_);rintro e v0 ⟨rfl,D0⟩;replace D:=Lib.hid D0;clear D0)
  | (go_at_call 131;(with_reducible refine(S1.out _ D.out).mono ?_);rintro e v0 ⟨rfl,D0⟩;replace D:=Lib.hid D0;clear D0)
  | (go_at_call 131;(with_reducible refine(S2.out _ D.out).mono ?_);rintro e v0 ⟨rfl,D0⟩;replace D:=Lib.hid D0;clear D0)
  | (go_at_call 131;(with_reducible refine(S3.out _ D.out).mono ?_);rintro e v0 ⟨rfl,D0⟩;replace D:=Lib.hid D0;clear D0))
 simp only[clampW]
 obtain⟨hh,hhe,hhb⟩:∃ hh,clampI (d0+d1)=hh∧(-1≤hh∧hh≤1):=⟨_,rfl,clampI_bd _⟩
 obtain⟨vv,vve,vvb⟩:∃ vv,clampI (d2+d3)=vv∧(-1≤vv∧vv≤1):=⟨_,rfl,clampI_bd _⟩
 simp only[hhe,vve] at ES ⊢
 generalize (if (1:Int)<d0+d1 then (1:Int) else d0+d1)=u1
 generalize (if (1:Int)<d2+d3 then (1:Int) else d2+d3)=u2
 generalize d0+d1=u3 at *
 generalize d2+d3=u4 at *
 have SC:=Lib.hid fun W=>sign_ctx hh vv W hhb vvb
 obtain⟨s,hs⟩:∃ s,sctx hh vv=s:=⟨_,rfl⟩
 obtain⟨sk,st⟩:=sctx_le hhb vvb
 rw[hs] at ES SC sk st
 clear hhe vve hs S0 S1 S2 S3 b0 b1 b2 b3
 have M1:=D.out.mv (Mv.refl KR.out.2.1)
 have t1:=(KR.out.1.tail M1.sat KR.out.2.2.1).2.1
 go_upto_region 4 with (go_at_call 132;refine(SC.out _).mono ?_;rintro e v1 ⟨rfl,rfl⟩)
 obtain⟨i,hi⟩:∃ i,y * G.w+x=i:=⟨_,rfl⟩
 have hii:(y:Int) * (G.w:Int)+(x:Int)=(i:Int):=by rw[← hi];push_cast;rfl
 simp only[hii]
 obtain⟨n,hn⟩:∃ n,G.w * G.h=n:=⟨_,rfl⟩
 rw[hi,hn] at p0
 rw[hn] at p1
 obtain⟨nb,hnb⟩:∃ nb,G.neg.getD i 0=nb:=⟨_,rfl⟩
 have nbl:nb≤1:=by rw[← hnb];exact neg_le KR.out.2.2.2.2.1 i
 have i1:(i:Int)<(n:Int):=by omega
 clear hii p2 p3 p4 p5 c0 SC
 cases raw with
 | true =>
  have SM:signM G true q x y=⟨{ q.c with sig:=q.c.sig.set i true },bitW true q.s s.k (nb ^^^ 0)⟩:=by unfold signM;rw[ES.out,hi,hnb];rfl
  obtain⟨xb1,xb2⟩:=xor_le nbl (show 0≤1 by omega)
  have X1:bits .xor .i64 (nb:Int) 0=((nb ^^^ 0:Nat):Int):=i64_xor_nat nb 0 (by omega) (by omega)
  have X2:bits .xor .i64 ((nb ^^^ 0:Nat):Int) 0=(nb:Int):=(i64_xor_nat (nb ^^^ 0) 0 (by omega) (by omega)).trans (by rw[xb2])
  obtain⟨b,hbe⟩:∃ b,nb ^^^ 0=b:=⟨_,rfl⟩
  rw[hbe] at X1 X2 xb1 SM
  have SMh:=Lib.hid SM
  clear hbe xb2 SM ES
  have BT:Hid (∀ W,Mv w H W H→Calls Tryz.prog 127 #[.pointer (some ⟨A.cb,0,none⟩),.int .i64 (s.k:Int),.int .i64 (b:Int)] W fun e w'=>e=.returned (.int .i64 (b:Int))∧∃ H',CodR A G ⟨q.c,bitW true q.s s.k b⟩ true eg rg H'∧Mv W H w' H'):=Lib.hid fun W m=>cod_bit A G q true eg rg s.k b H W KR.out.1 m.sat KR.out.2.2.1 KR.out.2.2.2.1 (by omega) xb1
  have SF:Hid (∀ W q2 H2,q2.c=q.c→CodR A G q2 true eg rg H2→Mv w H W H2→(W.cell? ⟨A.cb,5,none⟩=some (.slice (some ⟨A.gn,0,none⟩) n n)∧W.cell? ⟨A.gn,i,none⟩=some (.int .i64 (nb:Int)))):=Lib.hid (by
   intro W q2 H2 hq2 h2 m
   have V:=h2.see KR.out.2.2.2.2.1 (by rw[hq2];exact KR.out.2.2.2.2.2) m.sat
   have c5:=V.n_
   have ci:=V.neg i (by rw[hn];exact p0)
   rw[hnb] at ci
   unfold slV at c5
   rw[hn] at c5
   exact⟨c5,ci⟩)
  have HN:=Lib.hid (And.intro hn hnb)
  clear hi hn hnb nbl V2 sk st
  go_upto_region 6 with fail
  have F0:=SF.out v1.drew q H rfl KR.out.1 M1.drew
  clear t1
  go_region_held3 (fun w'=>w'.cell? ⟨A.cb,5,none⟩=some (.slice (some ⟨A.gn,0,none⟩) n n)∧w'.cell? ⟨A.gn,i,none⟩=some (.int .i64 (nb:Int)))
   (first | (with_reducible exact F0) | (with_reducible exact F2) | (with_reducible exact F3))
   (first | (go_at_call 127;refine(BT.out _ M1.drew).mono ?_;rintro e v2 ⟨rfl,H2,h2,m2⟩;have M2:=M1.drew.trans m2;have F2:=SF.out v2 ⟨q.c,bitW true q.s s.k b⟩ H2 rfl h2 M2;have g2:=(h2.frozen M2.sat i).1;have N2:=h2.setNeg M2 i;rw[HN.out.2] at N2;have F3:=SF.out _ ⟨q.c,bitW true q.s s.k b⟩ H2 rfl h2 N2;have K2:=Lib.hid (And.intro h2 N2);clear h2 m2 M2 N2))
  all_goals
   have N2:=K2.out.2
   obtain⟨v3,hv3⟩:∃ v3,v3=v2.setCell ⟨A.gn,i,none⟩ (.int .i64 (nb:Int)):=⟨_,rfl⟩
   rw[← hv3] at N2 ⊢
   have V3:=K2.out.1.see KR.out.2.2.2.2.1 KR.out.2.2.2.2.2 N2.sat
   have c6:=V3.s_
   unfold slV at c6
   rw[HN.out.1] at c6
   have ci:=V3.sig i (by rw[HN.out.1];exact p0)
   have gi:=(K2.out.1.frozen N2.sat i).2.1
   obtain⟨H3,h3,m3⟩:=K2.out.1.setSig N2 i true
   have K3:=Lib.hid (And.intro h3 m3)
   clear hv3 V3 N2 h3 m3 F0 F2 F3 K2 g2
   go_wp2_with fail
   exact bodyPost_end (results_none rfl _ _ _) rfl ⟨rfl,H3,by rw[SMh.out];exact K3.out.1,K3.out.2⟩
 | false =>
  have SM:signM G false q x y=⟨{ q.c with sig:=q.c.sig.set i true },bitW false q.s s.k (nb ^^^ s.turn)⟩:=by unfold signM;rw[ES.out,hi,hnb];rfl
  obtain⟨xb1,xb2⟩:=xor_le nbl (show s.turn≤1 by exact st)
  have X1:bits .xor .i64 (nb:Int) (s.turn:Int)=((nb ^^^ s.turn:Nat):Int):=i64_xor_nat nb s.turn (by omega) (by omega)
  have X2:bits .xor .i64 ((nb ^^^ s.turn:Nat):Int) (s.turn:Int)=(nb:Int):=(i64_xor_nat (nb ^^^ s.turn) s.turn (by omega) (by omega)).trans (by rw[xb2])
  obtain⟨b,hbe⟩:∃ b,nb ^^^ s.turn=b:=⟨_,rfl⟩
  rw[hbe] at X1 X2 xb1 SM
  have SMh:=Lib.hid SM
  clear hbe xb2 SM ES
  have BT:Hid (∀ W,Mv w H W H→Calls Tryz.prog 127 #[.pointer (some ⟨A.cb,0,none⟩),.int .i64 (s.k:Int),.int .i64 (b:Int)] W fun e w'=>e=.returned (.int .i64 (b:Int))∧∃ H',CodR A G ⟨q.c,bitW false q.s s.k b⟩ false eg rg H'∧Mv W H w' H'):=Lib.hid fun W m=>cod_bit A G q false eg rg s.k b H W KR.out.1 m.sat KR.out.2.2.1 KR.out.2.2.2.1 (by omega) xb1
  have SF:Hid (∀ W q2 H2,q2.c=q.c→CodR A G q2 false eg rg H2→Mv w H W H2→(W.cell? ⟨A.cb,5,none⟩=some (.slice (some ⟨A.gn,0,none⟩) n n)∧W.cell? ⟨A.gn,i,none⟩=some (.int .i64 (nb:Int)))):=Lib.hid (by
   intro W q2 H2 hq2 h2 m
   have V:=h2.see KR.out.2.2.2.2.1 (by rw[hq2];exact KR.out.2.2.2.2.2) m.sat
   have c5:=V.n_
   have ci:=V.neg i (by rw[hn];exact p0)
   rw[hnb] at ci
   unfold slV at c5
   rw[hn] at c5
   exact⟨c5,ci⟩)
  have HN:=Lib.hid (And.intro hn hnb)
  clear hi hn hnb nbl V2 sk st
  go_upto_region 6 with fail
  have F0:=SF.out v1.drew q H rfl KR.out.1 M1.drew
  clear t1
  go_region_held3 (fun w'=>w'.cell? ⟨A.cb,5,none⟩=some (.slice (some ⟨A.gn,0,none⟩) n n)∧w'.cell? ⟨A.gn,i,none⟩=some (.int .i64 (nb:Int)))
   (first | (with_reducible exact F0) | (with_reducible exact F2) | (with_reducible exact F3))
   (first | (go_at_call 127;refine(BT.out _ M1.drew).mono ?_;rintro e v2 ⟨rfl,H2,h2,m2⟩;have M2:=M1.drew.trans m2;have F2:=SF.out v2 ⟨q.c,bitW false q.s s.k b⟩ H2 rfl h2 M2;have g2:=(h2.frozen M2.sat i).1;have N2:=h2.setNeg M2 i;rw[HN.out.2] at N2;have F3:=SF.out _ ⟨q.c,bitW false q.s s.k b⟩ H2 rfl h2 N2;have K2:=Lib.hid (And.intro h2 N2);clear h2 m2 M2 N2))
  all_goals
   have N2:=K2.out.2
   obtain⟨v3,hv3⟩:∃ v3,v3=v2.setCell ⟨A.gn,i,none⟩ (.int .i64 (nb:Int)):=⟨_,rfl⟩
   rw[← hv3] at N2 ⊢
   have V3:=K2.out.1.see KR.out.2.2.2.2.1 KR.out.2.2.2.2.2 N2.sat
   have c6:=V3.s_
   unfold slV at c6
   rw[HN.out.1] at c6
   have ci:=V3.sig i (by rw[HN.out.1];exact p0)
   have gi:=(K2.out.1.frozen N2.sat i).2.1
   obtain⟨H3,h3,m3⟩:=K2.out.1.setSig N2 i true
   have K3:=Lib.hid (And.intro h3 m3)
   clear hv3 V3 N2 h3 m3 F0 F2 F3 K2 g2
   go_wp2_with fail
   exact bodyPost_end (results_none rfl _ _ _) rfl ⟨rfl,H3,by rw[SMh.out];exact K3.out.1,K3.out.2⟩
end
end Go.Proofs.YtjngfhgakokejaaGreat
