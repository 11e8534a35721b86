/- waveletlaw8.Of: a block of the reference becomes the program's. A law's numbers within bounds. PacketNone: a coded block's copies, as its law needs them. packet: log, tell. packet: what a head says of a block: the trees. packet: what a head says of a block: its Lblock, the sizes of its segments. -/
import Derived.Test.YtjngfhgakokejaaGreatZp14
import Derived.Test.YtjngfhgakokejaaGreatZp12
import Derived.Test.YtjngfhgakokejaaGreatZp02
import Derived.Test.YtjngfhgakokejaaGreatZp16
import Derived.Test.YtjngfhgakokejaaGreatZp11
import Derived.Test.YtjngfhgakokejaaGreatZp05
set_option maxRecDepth 100000
set_option maxHeartbeats 8000000
namespace Go.Proofs.YtjngfhgakokejaaGreat
section
open Go.RowKit
theorem step_appP {ops:Array Oper} {o:Oper} {a:Act} {w:World} {K:Act→World→Prop} {Q:Exit→Act→World→Prop} {E:Prop} (hgd:o.guard=none) (s x:Operand) (ho:o.op=.call { callee:=.builtin .append,args:=#[s,x],argTypes:=#[56,56] }) (v u:Value) (l r:List (Int × Bool)) (H:List HB)
  (hsv:a.eval s=v) (hxu:a.eval x=u) (h:RowP v l H) (hs:Sat w H) (hu:PV w u r) (hl:l.length+r.length≤100000000)
  (hK:∀ v' w' H',RowP v' (l++r) H'→Mv w H w' H'→K (a.put o.dst v') w'):if Region.wanted o (yielded ops a.tmps)=true then Oper.wp Tryz.prog o a w K Q else E:=by
 have hw:Region.wanted o (yielded ops a.tmps)=true:=by simp [Region.wanted,hgd]
 rw [if_pos hw]
 exact wp_appP s x ho v u l r H hsv hxu h hs hu hl hK
theorem pv_one (w:World) (p:Int × Bool) (g:Nat) (hg:g=w.heap.size):PV (w.alloc (.cells #[.int .i64 p.1,.bool p.2] 142)) (.slice (some ⟨g,0,none⟩) 1 1) [p]:=by
 subst hg
 have h:RowP (.slice (some ⟨w.heap.size,0,none⟩) 1 1) [p] [⟨w.heap.size,142,#[.int .i64 p.1,.bool p.2]⟩]:=RowH.new 142 w.heap.size 1 #[.int .i64 p.1,.bool p.2] rfl (by decide)
 exact h.pv (mv_alloc w 142 _).sat
theorem RowQ.at2 {w:World} {g n c:Nat} {l:List (Int × Bool)} {H:List HB} (h:RowQ (.slice (some ⟨g,0,none⟩) n c) l H) (hs:Sat w H) {k:Nat} {p:Int × Bool} (hk:l[k]?=some p):w.cell? ⟨g,k * 2+1,none⟩=some (.bool p.2):=by
 obtain ⟨a',c',e⟩:=h.slice
 cases e
 have hi:=(List.getElem?_eq_some_iff.1 hk).1
 exact (RowH.cell h hs rfl (k * 2+1) (by omega)).1.trans (passesV_get hk).2
def blT (g:Nat) (pl:Int) (vp vb:Value):HB:=⟨g,58,#[.int .i64 pl,vp,vb]⟩
def blQ (g:Nat) (pl:Int) (vp vb:Value):HB:=⟨g,51,#[.int .i64 pl,vp,vb]⟩
theorem of_any (pl:Int) (vp:Value) (ba:Option Addr) (bn bc:Nat) (ps:List (Int × Bool)) (Hq:List HB) (w:World) (hq:RowQ vp ps Hq) (hs:Sat w Hq) (hn:ps.length≤1000) :
  Calls Tryz.prog 20 #[.agg #[.int .i64 pl,vp,.slice ba bn bc]] w fun e w'=>∃ vp' Hp,e=.returned (.agg #[.int .i64 pl,vp',.slice ba bn bc])∧RowP vp' ps Hp∧Mv w Hq w' (Hp++Hq):=by
 obtain ⟨qa,qc,rfl⟩:=hq.slice
 obtain ⟨n,hnn⟩:∃ n,ps.length=n:=⟨_,rfl⟩
 rw [hnn] at hq hn ⊢
 have M1:=((Mv.refl hs).alloc 51 #[.int .i64 pl,.slice qa n qc,.slice ba bn bc]).alloc 58 #[.int .i64 0,.slice none 0 0,.slice none 0 0]
 have M2:=M1.alloc 58 #[.int .i64 pl,.slice none 0 0,.slice ba bn bc]
 simp only [World.size_alloc] at M1 M2
 have K2:Hid (Mv w Hq _ ([]++(blT (w.heap.size+1+1) pl (.slice none 0 0) (.slice ba bn bc)::blT (w.heap.size+1) 0 (.slice none 0 0) (.slice none 0 0)::blQ w.heap.size pl (.slice qa n qc) (.slice ba bn bc)::Hq))):=Lib.hid M2
 have KQ:=Lib.hid (And.intro hq hnn)
 clear M1 M2 hq hs hnn
 go_enter Tryz.func20,Tryz.ntmps20
 go_upto_region 2 with fail
 generalize ((w.alloc (.cells #[.int .i64 pl,.slice qa n qc,.slice ba bn bc] 51)).alloc (.cells #[.int .i64 0,.slice none 0 0,.slice none 0 0] 58)).alloc (.cells #[.int .i64 pl,.slice none 0 0,.slice ba bn bc] 58)=w2 at *
 generalize w.heap.size=g at *
 have K3:Hid (Mv w Hq w2 ([]++(blT (g+2) pl (.slice none 0 0) (.slice ba bn bc)::blT (g+1) 0 (.slice none 0 0) (.slice none 0 0)::blQ g pl (.slice qa n qc) (.slice ba bn bc)::Hq))):=K2
 clear K2
 go_wp2_with fail
 go_loopg [4] n (fun mm s4 wx=>∃ (k:Nat) (l:List (Int × Bool)) (a:Option Addr) (c:Nat) (H:List HB),k≤n∧mm=n - k∧s4=.int .i64 (k:Int)∧ps.take k=l∧l.length=k∧RowP (.slice a k c) l H∧Mv w Hq wx (H++(blT (g+2) pl (.slice a k c) (.slice ba bn bc)::blT (g+1) 0 (.slice none 0 0) (.slice none 0 0)::blQ g pl (.slice qa n qc) (.slice ba bn bc)::Hq)))
 case atStart=>exact ⟨0,[],none,0,[],Nat.zero_le _,rfl,rfl,rfl,rfl,RowH.nil _ _,K3.out⟩
 case round =>
  obtain ⟨k,l,a,c,H,hk,rfl,rfl,hl,hll,hp,hm⟩:=hrel
  have c1:wr.cell? ⟨g,1,none⟩=some (.slice qa n qc):=(hm.drop.cell 2 (g:=g) rfl 1)
  by_cases hlt:k<n
  ·have d1:decide ((k:Int)<(n:Int))=true:=by simp;omega
   obtain ⟨-,qg,rfl⟩:=KQ.out.1.form (by omega)
   obtain ⟨p,hpk⟩:∃ p,ps[k]?=some p:=⟨_,List.getElem?_eq_getElem (by rw [KQ.out.2];exact hlt)⟩
   have SQ:Sat wr Hq:=Sat.right (A:=[_,_,_]) hm.drop.sat
   have p1:=(KQ.out.1.at_ SQ hpk).1
   have p2:=KQ.out.1.at2 SQ hpk
   have hkn:(k:Int)<(n:Int):=by omega
   have r0:wr.drew.cell? ⟨g,1,none⟩=some (.slice (some ⟨qg,0,none⟩) n qc):=c1
   have r1:wr.drew.cell? ⟨qg,k * 2,none⟩=some (.int .i64 p.1):=p1
   have r2:wr.drew.cell? ⟨qg,k * 2+1,none⟩=some (.bool p.2):=p2
   have r3:wr.drew.cell? ⟨g+2,1,none⟩=some (.slice a k c):=(hm.drop.cell 0 (g:=g+2) rfl 1)
   have M1:=hm.alloc 142 #[.int .i64 p.1,.bool p.2]
   have A1:Hid (PV (wr.alloc (.cells #[.int .i64 p.1,.bool p.2] 142)).drew (.slice (some ⟨wr.heap.size,0,none⟩) 1 1) [p]):=Lib.hid (pv_one wr p _ rfl)
   have r4:(wr.alloc (.cells #[.int .i64 p.1,.bool p.2] 142)).drew.cell? ⟨g+2,1,none⟩=some (.slice a k c):=(M1.drop1.drop.cell 0 (g:=g+2) rfl 1)
   have K1:=Lib.hid M1.drop1.drew
   have KP:=Lib.hid hp
   obtain ⟨l6,hl6⟩:∃ l6,ps.take (k+1)=l6:=⟨_,rfl⟩
   have HL6:Hid (l++[p]=l6):=Lib.hid (by rw [← hl6,List.take_add_one,hl,hpk];rfl)
   have hl6l:l6.length=k+1:=by rw [← HL6.out,List.length_append,hll];rfl
   have HT:=Lib.hid hl6
   have hbd:l.length+[p].length≤100000000:=by rw [hll];simp only [List.length_cons,List.length_nil];omega
   clear M1 hp hm hl hl6 SQ p1 p2 hpk
   go_upto_region 5 with fail
   clear c1
   go_region_law (first
    | ((with_reducible refine step_appP (o:=⟨some 33,_,_,_,_,_⟩) (v:=.slice a k c) (u:=.slice (some ⟨wr.heap.size,0,none⟩) 1 1) (l:=l) (r:=[p]) (H:=H) rfl (.tmp 18) (.tmp 32) rfl ?_ ?_ KP.out K1.out.sat.left A1.out hbd ?_);simp [Act.eval];simp [Act.eval];intro v6 w6 H6 hr6 m6;rw [HL6.out] at hr6;obtain ⟨a6,c6,rfl⟩:=hr6.slice;have M6:=Mv.call K1.out m6;(have y3:w6.cell? ⟨g+2,1,none⟩=some (.slice a k c):=(by first | exact (M6.drop.cell 0 (g:=g+2) rfl 1)));(have z3:w6.frozen? ⟨g+2,1,none⟩=false:=(by first | exact (M6.drop.frozen 0 (g:=g+2) rfl 1)));have K6:=Lib.hid (And.intro hr6 M6);clear hr6 m6 M6))
   all_goals
    have M7:=Lib.hid (Mv.setAt (A:=H6) (g:=g+2) (t:=58) (cs:=#[.int .i64 pl,.slice a k c,.slice ba bn bc]) K6.out.2 1 (.slice a6 (k+1) c6))
    go_wp2_with fail
    go_roundg (n - (k+1))
    case measure=>omega
    case rel=>exact ⟨k+1,l6,a6,c6,H6,by omega,rfl,by push_cast;rfl,HT.out,hl6l,by (have:=K6.out.1;rw [hl6l] at this;exact this),M7.out⟩
  ·have d1:decide ((k:Int)<(n:Int))=false:=by simp;omega
   obtain rfl:k=n:=by omega
   have el:ps=l:=by rw [← hl,List.take_of_length_le (by rw [KQ.out.2];exact Nat.le_refl _)]
   rw [← el] at hp
   have HL:=Lib.hid hp
   have m1:Mv w Hq wr ([blT (g+1) 0 (.slice none 0 0) (.slice none 0 0)]++(blT (g+2) pl (.slice a k c) (.slice ba bn bc)::(H++Hq))):=hm.sub (fun g=>by simp only [cnt_append,cnt_cons,cnt_nil];omega) (fun b hb=>by
    simp only [List.mem_append,List.mem_cons,List.not_mem_nil,or_false] at hb ⊢
    rcases hb with h | h | h | h
    ·exact .inr (.inr (.inl h))
    ·exact .inr (.inl h)
    ·exact .inl h
    ·exact .inr (.inr (.inr (.inr h))))
   have K1:=Lib.hid m1
   clear el hl hll hp hm m1
   go_upto_region 6 with fail
   clear c1
   refine wp_region_lit ?_
   refine wpList_load_row rfl 58 (.tmp 3) rfl (g+2) rfl 58 #[.int .i64 pl,.slice a k c,.slice ba bn bc] (0,0) _ (K1.out.blk 1 (g:=g+2) (t:=58) (cs:=#[.int .i64 pl,.slice a k c,.slice ba bn bc]) rfl) Tryz.underlying58 rfl (by kernel_rfl) ?_
   refine wpList_store_row rfl 58 (.tmp 2) (.tmp 35) rfl (g+1) #[.int .i64 pl,.slice a k c,.slice ba bn bc] rfl rfl 58 _ (K1.out.blk 0 (g:=g+1) (t:=58) (cs:=#[.int .i64 0,.slice none 0 0,.slice none 0 0]) rfl) (by kernel_rfl) rfl (by simp [Value.oneCell']) ?_
   have M9:=Lib.hid (Mv.call K1.out (setRow_eq (cs:=#[.int .i64 pl,.slice a k c,.slice ba bn bc]) (K1.out.blk 0 (g:=g+1) (t:=58) (cs:=#[.int .i64 0,.slice none 0 0,.slice none 0 0]) rfl)))
   generalize wr.setRow (g+1) #[.int .i64 pl,.slice a k c,.slice ba bn bc]=w9 at *
   go_wp2_with fail
   refine bodyPost_ret (v:=.agg #[.int .i64 pl,.slice a k c,.slice ba bn bc]) (results_cell_row Tryz.results20 _ _ (g+1) 58 _ (0,0) _ rfl (M9.out.blk 0 rfl) Tryz.underlying58 rfl (by kernel_rfl)) rfl ?_
   exact ⟨_,H,rfl,HL.out,M9.out.drop1.drop1⟩
end
section
open Go.RowKit
theorem within15 (x n:Int) (w:World) (h3:1≤n) (h4:n≤1000000) :
  Calls Tryz.prog 8 #[.int .i64 x,.int .i64 n] w fun e w'=>e=.returned (.int .i64 (x % n))∧w'=w:=by
 obtain ⟨h5,h6⟩:=tmod_bd x n h3
 have E:=Lib.hid (tmod_adj x n h3)
 go_enter Tryz.func8,Tryz.ntmps8
 go_wp2
 all_goals go_ret
 ·exact ⟨by rw [← E.out,if_pos (by assumption)];rfl,rfl⟩
 ·exact ⟨by rw [← E.out,if_neg (by omega)];rfl,rfl⟩
end
section
open Go.RowKit
def noneX (xb:Nat) (P:Int) (pv bv:Value) (Hp Hb:List HB):List HB:=blQ xb P pv bv::(Hp++Hb)
theorem noneX_cells {w0 W:World} {H0 H Hp Hb:List HB} {xb:Nat} {P:Int} {pv bv:Value} (m:Mv w0 H0 W (H++noneX xb P pv bv Hp Hb)) :
  W.cell? ⟨xb,0,none⟩=some (.int .i64 P)∧W.cell? ⟨xb,1,none⟩=some pv∧W.cell? ⟨xb,2,none⟩=some bv :=
 ⟨m.drop.cell 0 rfl 0,m.drop.cell 0 rfl 1,m.drop.cell 0 rfl 2⟩
section
variable {w0 W:World} {xb:Nat} {P:Int} {pv:Value} {ba:Option Addr} {bn bc:Nat} {ps:List (Int × Bool)} {bs:List UInt8} {Hp Hb:List HB}
theorem none_of (hp:RowQ pv ps Hp) (hn:ps.length≤1000) {H:List HB} (m:Mv w0 [] W (H++noneX xb P pv (.slice ba bn bc) Hp Hb)) :
  Calls Tryz.prog 20 #[.agg #[.int .i64 P,pv,.slice ba bn bc]] W fun e w'=>∃ vp' H1,e=.returned (.agg #[.int .i64 P,vp',.slice ba bn bc])∧RowP vp' ps H1∧Mv w0 [] w' (H1++(H++noneX xb P pv (.slice ba bn bc) Hp Hb)):=by
 have m1:Mv w0 [] W (Hp++(H++(blQ xb P pv (.slice ba bn bc)::Hb))):=m.sub (fun g=>by simp only [noneX,cnt_append,cnt_cons];omega) (fun c hc=>by simp only [noneX,List.mem_append,List.mem_cons] at hc ⊢;grind)
 refine (of_any P pv ba bn bc ps Hp W hp m1.sat.left hn).mono ?_
 rintro e w' ⟨vp',H1,rfl,r1,m2⟩
 exact ⟨vp',H1,rfl,r1,(Mv.call m1 m2).sub (fun g=>by simp only [noneX,cnt_append,cnt_cons];omega) (fun c hc=>by simp only [noneX,List.mem_append,List.mem_cons] at hc ⊢;grind)⟩
end
end
section
open Go.RowKit
theorem stOf_in {m:BandM} {j:Nat} {s:StM} (h:m.ss[j]?=some s):stOf m (j:Int)=s:=by
 have hj:=(List.getElem?_eq_some_iff.1 h).1
 unfold stOf
 rw [if_neg (by omega),Int.toNat_natCast,List.getD_eq_getElem?_getD,h]
 rfl
theorem addM_ss {m:BandM} {j:Nat} {s:StM} (h:m.ss[j]?=some s) (pl:Int) (ps:List (Int × Bool)) (bs:List UInt8):(addM m (j:Int) pl ps bs).ss=m.ss.set j ⟨pl,ps,bs,s.said,s.lb⟩:=by
 have hj:=(List.getElem?_eq_some_iff.1 h).1
 unfold addM
 rw [if_neg (by omega),Int.toNat_natCast,stOf_in h]
theorem newBandM_ss (p q:Nat) (planes:Int) {j:Nat} (hj:j<p * q):(newBandM p q planes).ss[j]?=some stNew.m:=by
 simp only [newBandM,List.getElem?_replicate]
 rw [if_pos hj]
end
section
open Go.RowKit
theorem log_more {n k:Nat} (h:0<n / 2 ^ (k+1)):k+1≤n.log2:=by
 have h1:2 ^ (k+1)≤n:=by
  rcases Nat.lt_or_ge n (2 ^ (k+1)) with h2 | h2
  ·rw [Nat.div_eq_of_lt h2] at h
   exact absurd h (by decide)
  ·exact h2
 have h0:n≠0:=by have:=Nat.two_pow_pos (k+1);omega
 exact (Nat.le_log2 h0).2 h1
theorem log_done {n k:Nat} (h:¬ 0<n / 2 ^ (k+1)) (hk:k≤n.log2):k=n.log2:=by
 have h1:n<2 ^ (k+1):=by
  rcases Nat.lt_or_ge n (2 ^ (k+1)) with h2 | h2
  ·exact h2
  ·exact absurd (Nat.div_pos h2 (Nat.two_pow_pos _)) h
 by_cases h0:n=0
 ·subst h0
  have:Nat.log2 0=0:=by decide
  omega
 ·have:=(Nat.log2_lt h0 (k:=k+1)).2 h1
  omega
theorem log_le {n:Nat} (h:n≤1000000000000):n.log2≤40:=by
 by_cases h0:n=0
 ·subst h0;decide
 ·have:=(Nat.log2_lt h0 (k:=41)).2 (by have:(2:Nat) ^ 41=2199023255552:=rfl;omega)
  omega
theorem div_pos_dec {m q:Nat} (h:0<m / 2 ^ q):decide ((0:Int)<(m:Int) / 2 ^ q)=true:=by
 have e:(m:Int) / 2 ^ q=((m / 2 ^ q:Nat):Int):=by push_cast;rfl
 rw [e]
 exact decide_eq_true (Int.natCast_pos.2 h)
theorem div_not_dec {m q:Nat} (h:¬ 0<m / 2 ^ q):decide ((0:Int)<(m:Int) / 2 ^ q)=false:=by
 have e:(m:Int) / 2 ^ q=((m / 2 ^ q:Nat):Int):=by push_cast;rfl
 rw [e]
 exact decide_eq_false (fun hh=>h (Int.natCast_pos.1 hh))
theorem log_any (n:Nat) (w:World) (hn:n≤1000000000000):Calls Tryz.prog 77 #[.int .i64 (n:Int)] w fun e w'=>e=.returned (.int .i64 ((n.log2:Nat):Int))∧w'=w:=by
 have hl:=log_le hn
 go_enter Tryz.func77,Tryz.ntmps77
 go_wp2_with fail
 go_loopg [3] n.log2 (fun m s3 wx=>∃ k:Nat,k≤n.log2∧m=n.log2 - k∧s3=.int .i64 (k:Int)∧wx=w)
 case atStart=>exact ⟨0,Nat.zero_le _,rfl,rfl,rfl⟩
 case round =>
  obtain ⟨k,hk,rfl,rfl,rfl⟩:=hrel
  have hk40:k+1≤41:=by omega
  by_cases h:0<n / 2 ^ (k+1)
  ·have d1:=div_pos_dec h
   have h2:=log_more h
   clear h
   go_wp2_with fail
   go_roundg (n.log2 - (k+1))
   case measure=>omega
   case rel=>exact ⟨k+1,h2,rfl,by push_cast;rfl,rfl⟩
  ·have d1:=div_not_dec h
   have h2:=Lib.hid (log_done h hk)
   clear h
   go_wp2_with fail
   go_ret
   exact ⟨by rw [← h2.out];rfl,rfl⟩
def tellM (n:Nat):List Bool:=if n<2 then [false] else if n<3 then bitsG 2 2 else if n<6 then bitsG 3 2++bitsG (n - 3:Int) 2 else if n<37 then bitsG 15 4++bitsG (n - 6:Int) 5 else bitsG 511 9++bitsG (n - 37:Int) 7
theorem tellM_length (n:Nat):(tellM n).length≤64:=by
 have h:=bitsG_length
 unfold tellM
 split
 ·decide
 ·split
  ·have:=h 2 2;omega
  ·split
   ·have h1:=h 3 2;have h2:=h (n - 3:Int) 2;rw [List.length_append];omega
   ·split
    ·have h1:=h 15 4;have h2:=h (n - 6:Int) 5;rw [List.length_append];omega
    ·have h1:=h 511 9;have h2:=h (n - 37:Int) 7;rw [List.length_append];omega
theorem tell_any (wb:Nat) (bs:List Bool) (n:Nat) (w:World) (H:List HB) (h:WrB wb bs H) (hs:Sat w H) (hl:bs.length≤60000000) (hn:n≤1000) :
  Calls Tryz.prog 74 #[.pointer (some ⟨wb,0,none⟩),.int .i64 (n:Int)] w fun e w'=>e=.returned (.tuple #[])∧∃ H',WrB wb (bs++tellM n) H'∧Mv w H w' H':=by
 have BI:=Lib.hid (bit_any wb bs 0 w H h hs (by omega))
 have BS:=Lib.hid (fun (a b:Int)=>bits_any wb bs a b w H h hs (by omega))
 have BT:=Lib.hid (fun (l:List Bool) (a b:Int) (W:World) (H1:List HB) (h1:WrB wb (bs++l) H1) (s1:Sat W H1) (hll:l.length≤32)=>bits_any wb (bs++l) a b W H1 h1 s1 (by rw [List.length_append];omega))
 have HL:=Lib.hid bitsG_length
 obtain ⟨R,hR⟩:∃ R,tellM n=R:=⟨_,rfl⟩
 rw [hR]
 unfold tellM at hR
 have HR:=Lib.hid hR
 clear h hs hR
 by_cases c1:n<2
 ·have e:=Lib.hid (HR.out.symm.trans (if_pos c1))
  have d1:decide ((n:Int)<2)=true:=by simp;omega
  clear c1
  go_enter Tryz.func74,Tryz.ntmps74
  go_wp2_with (go_at_call 71;refine BI.out.mono ?_;rintro e w1 ⟨rfl,H1,h1,m1⟩;have K1:=Lib.hid (And.intro h1 m1);clear h1 m1)
  exact bodyPost_end (results_none rfl _ _ _) rfl ⟨rfl,H1,by rw [e.out];exact K1.out.1,K1.out.2⟩
 have HR2:=Lib.hid (HR.out.symm.trans (if_neg c1))
 have d1:decide ((n:Int)<2)=false:=by simp;omega
 by_cases c2:n<3
 ·have e:=Lib.hid (HR2.out.trans (if_pos c2))
  have d2:decide ((n:Int)<3)=true:=by simp;omega
  clear c1 c2
  go_enter Tryz.func74,Tryz.ntmps74
  go_wp2_with (go_at_call 26;refine (BS.out _ _).mono ?_;rintro e w1 ⟨rfl,H1,h1,m1⟩;have K1:=Lib.hid (And.intro h1 m1);clear h1 m1)
  exact bodyPost_end (results_none rfl _ _ _) rfl ⟨rfl,H1,by rw [e.out];exact K1.out.1,K1.out.2⟩
 have HR3:=Lib.hid (HR2.out.trans (if_neg c2))
 have d2:decide ((n:Int)<3)=false:=by simp;omega
 by_cases c3:n<6
 ·have e:=Lib.hid (HR3.out.trans (if_pos c3))
  have d3:decide ((n:Int)<6)=true:=by simp;omega
  clear c1 c2 c3
  go_enter Tryz.func74,Tryz.ntmps74
  go_wp2_with (first
   | (go_at_call 26;(with_reducible refine (BS.out 3 2).mono ?_);rintro e w1 ⟨rfl,H1,h1,m1⟩;have K1:=Lib.hid (And.intro h1 m1);clear h1 m1)
   | (go_at_call 26;(with_reducible refine (BT.out _ _ _ _ _ K1.out.1 K1.out.2.sat (HL.out _ _)).mono ?_);rintro e w2 ⟨rfl,H2,h2,m2⟩;have K2:=Lib.hid (And.intro h2 (K1.out.2.trans m2));clear h2 m2))
  exact bodyPost_end (results_none rfl _ _ _) rfl ⟨rfl,H2,by rw [e.out,← List.append_assoc];exact K2.out.1,K2.out.2⟩
 have HR4:=Lib.hid (HR3.out.trans (if_neg c3))
 have d3:decide ((n:Int)<6)=false:=by simp;omega
 by_cases c4:n<37
 ·have e:=Lib.hid (HR4.out.trans (if_pos c4))
  have d4:decide ((n:Int)<37)=true:=by simp;omega
  clear c1 c2 c3 c4
  go_enter Tryz.func74,Tryz.ntmps74
  go_wp2_with (first
   | (go_at_call 26;(with_reducible refine (BS.out 15 4).mono ?_);rintro e w1 ⟨rfl,H1,h1,m1⟩;have K1:=Lib.hid (And.intro h1 m1);clear h1 m1)
   | (go_at_call 26;(with_reducible refine (BT.out _ _ _ _ _ K1.out.1 K1.out.2.sat (HL.out _ _)).mono ?_);rintro e w2 ⟨rfl,H2,h2,m2⟩;have K2:=Lib.hid (And.intro h2 (K1.out.2.trans m2));clear h2 m2))
  exact bodyPost_end (results_none rfl _ _ _) rfl ⟨rfl,H2,by rw [e.out,← List.append_assoc];exact K2.out.1,K2.out.2⟩
 ·have e:=Lib.hid (HR4.out.trans (if_neg c4))
  have d4:decide ((n:Int)<37)=false:=by simp;omega
  clear c1 c2 c3 c4
  go_enter Tryz.func74,Tryz.ntmps74
  go_wp2_with (first
   | (go_at_call 26;(with_reducible refine (BS.out 511 9).mono ?_);rintro e w1 ⟨rfl,H1,h1,m1⟩;have K1:=Lib.hid (And.intro h1 m1);clear h1 m1)
   | (go_at_call 26;(with_reducible refine (BT.out _ _ _ _ _ K1.out.1 K1.out.2.sat (HL.out _ _)).mono ?_);rintro e w2 ⟨rfl,H2,h2,m2⟩;have K2:=Lib.hid (And.intro h2 (K1.out.2.trans m2));clear h2 m2))
  exact bodyPost_end (results_none rfl _ _ _) rfl ⟨rfl,H2,by rw [e.out,← List.append_assoc];exact K2.out.1,K2.out.2⟩
end
section
open Go.RowKit
theorem band_encF {d:BandA} {b:BandG} {w0 w:World} {H0 X HW:List HB} {wb:Nat} {bs:List Bool} (ok:b.ok d) (hw:WrB wb bs HW) (m:Mv w0 H0 w (HW++(X++b.heap d))) (k:Nat) (hk:k<d.n) (bd:Int) (hb:bd≤1000) (hbs:bs.length≤60000000) :
  Calls Tryz.prog 73 #[.pointer (some ⟨b.ft,0,none⟩),.pointer (some ⟨wb,0,none⟩),.int .i64 (k:Int),.int .i64 bd] w fun e w2=>e=.returned (.tuple #[]) ∧
   ∃ (b':BandG) (HW':List HB),b'.ok d∧b'.model={ b.model with first:=(encAt b.model.first k bd).1 }∧b'.G=b.G∧WrB wb (bs++(encAt b.model.first k bd).2) HW'∧Mv w0 H0 w2 (HW'++(X++b'.heap d)):=by
 have hkw:k<b.w * b.h:=by rw [← ok.n];exact hk
 obtain ⟨p0,h0,hw1,hh⟩:=ok.kf.2.2 (by omega)
 have m1:Mv w0 H0 w ((HW++b.Hf)++(X++bandB b d::statesB b d::(b.Hz++b.G.flatMap StG.heap))) :=
  m.sub (fun g=>by simp only [BandG.heap,cnt_append,cnt_cons];omega) (fun c hc=>by simp only [BandG.heap,List.mem_append,List.mem_cons] at hc ⊢;grind)
 refine (enc_tree b.ft wb b.Pf bs k bd p0 w b.Hf HW ok.tf hw m1.sat.left ok.kf.1 ok.kf.2.1 h0 (by rw [hw1,hh];exact hkw) hb hbs).mono ?_
 rintro e w2 ⟨rfl,H',HW',hT,hW,hM⟩
 have sh:=encP_shape b.Pf (k % p0.2.w) (k / p0.2.w) bd
 have em:=encAt_map b.Pf k bd p0 h0
 refine ⟨rfl,{ b with Pf:=(encP b.Pf (k % p0.2.w) (k / p0.2.w) bd).t,Hf:=H' },HW',⟨hT,ok.tz,ok.kf.congr sh.1,ok.kz,ok.st,ok.len,ok.n,ok.pl,ok.hw,ok.hh⟩,?_,rfl,?_,?_⟩
 ·simp only [BandG.model,em]
 ·rw [show b.model.first=b.Pf.map (·.2) from rfl,em];exact hW
 ·exact (Mv.call m1 hM).sub (fun g=>by simp only [BandG.heap,cnt_append,cnt_cons,bandB,statesB];omega) (fun c hc=>by simp only [BandG.heap,List.mem_append,List.mem_cons,bandB,statesB] at hc ⊢;grind)
theorem band_encZ {d:BandA} {b:BandG} {w0 w:World} {H0 X HW:List HB} {wb:Nat} {bs:List Bool} (ok:b.ok d) (hw:WrB wb bs HW) (m:Mv w0 H0 w (HW++(X++b.heap d))) (k:Nat) (hk:k<d.n) (bd:Int) (hb:bd≤1000) (hbs:bs.length≤60000000) :
  Calls Tryz.prog 73 #[.pointer (some ⟨b.zt,0,none⟩),.pointer (some ⟨wb,0,none⟩),.int .i64 (k:Int),.int .i64 bd] w fun e w2=>e=.returned (.tuple #[]) ∧
   ∃ (b':BandG) (HW':List HB),b'.ok d∧b'.model={ b.model with zeros:=(encAt b.model.zeros k bd).1 }∧b'.G=b.G∧WrB wb (bs++(encAt b.model.zeros k bd).2) HW'∧Mv w0 H0 w2 (HW'++(X++b'.heap d)):=by
 have hkw:k<b.w * b.h:=by rw [← ok.n];exact hk
 obtain ⟨p0,h0,hw1,hh⟩:=ok.kz.2.2 (by omega)
 have m1:Mv w0 H0 w ((HW++b.Hz)++(X++bandB b d::statesB b d::(b.Hf++b.G.flatMap StG.heap))) :=
  m.sub (fun g=>by simp only [BandG.heap,cnt_append,cnt_cons];omega) (fun c hc=>by simp only [BandG.heap,List.mem_append,List.mem_cons] at hc ⊢;grind)
 refine (enc_tree b.zt wb b.Pz bs k bd p0 w b.Hz HW ok.tz hw m1.sat.left ok.kz.1 ok.kz.2.1 h0 (by rw [hw1,hh];exact hkw) hb hbs).mono ?_
 rintro e w2 ⟨rfl,H',HW',hT,hW,hM⟩
 have sh:=encP_shape b.Pz (k % p0.2.w) (k / p0.2.w) bd
 have em:=encAt_map b.Pz k bd p0 h0
 refine ⟨rfl,{ b with Pz:=(encP b.Pz (k % p0.2.w) (k / p0.2.w) bd).t,Hz:=H' },HW',⟨ok.tf,hT,ok.kf,ok.kz.congr sh.1,ok.st,ok.len,ok.n,ok.pl,ok.hw,ok.hh⟩,?_,rfl,?_,?_⟩
 ·simp only [BandG.model,em]
 ·rw [show b.model.zeros=b.Pz.map (·.2) from rfl,em];exact hW
 ·exact (Mv.call m1 hM).sub (fun g=>by simp only [BandG.heap,cnt_append,cnt_cons,bandB,statesB];omega) (fun c hc=>by simp only [BandG.heap,List.mem_append,List.mem_cons,bandB,statesB] at hc ⊢;grind)
theorem hd_cells {d:BandA} {b:BandG} {w0 w:World} {H0 X HW:List HB} {g k:Nat} {st:StG} (m:Mv w0 H0 w (HW++(X++b.heap d))) (hx:⟨g,66,SpotX.cells ⟨d,k⟩⟩∈X) (hst:b.G[k]?=some st) :
  (w.cell? ⟨g,0,none⟩=some (.pointer (some ⟨d.lb,k * 5,none⟩))∧w.cell? ⟨g,1,none⟩=some (.pointer (some ⟨d.bb,0,none⟩))∧w.cell? ⟨g,2,none⟩=some (.int .i64 (k:Int))) ∧
  (w.cell? ⟨d.bb,1,none⟩=some (.int .i64 b.planes)∧w.cell? ⟨d.bb,2,none⟩=some (.pointer (some ⟨b.ft,0,none⟩))∧w.cell? ⟨d.bb,3,none⟩=some (.pointer (some ⟨b.zt,0,none⟩))) ∧
  (w.cell? ⟨d.lb,k * 5,none⟩=some (.int .i64 st.m.pl)∧w.cell? ⟨d.lb,k * 5+1,none⟩=some st.vp∧w.cell? ⟨d.lb,k * 5+2,none⟩=some st.vb∧w.cell? ⟨d.lb,k * 5+3,none⟩=some (.int .i64 st.m.said)∧w.cell? ⟨d.lb,k * 5+4,none⟩=some (.int .i64 st.m.lb)∧∀ i,w.frozen? ⟨d.lb,i,none⟩=false):=by
 have a1:=Mv.blkm m (List.mem_append_right _ (List.mem_append_left _ hx))
 have a2:=Mv.blkm m (List.mem_append_right _ (List.mem_append_right _ (b.mem_band d)))
 have a3:=Mv.blkm m (List.mem_append_right _ (List.mem_append_right _ (b.mem_states d)))
 exact ⟨⟨a1.cell 0,a1.cell 1,a1.cell 2⟩,⟨a2.cell 1,a2.cell 2,a2.cell 3⟩,state_cells a3 hst⟩
theorem hd_p0 (K:Act→World→Prop) (d:BandA) (b:BandG) (k g wb nz:Nat) (st:StG) (bs:List Bool) (HW X H0:List HB) (w0 w:World) (s0 s2 s3 s4 s6 s7 s8 s9 s11 s12 s13 s14 s15 s16 s17 s18 s19 s20 s21 s22 s23 s24 s25 s26 s27 s28 s29 s30 s31 s32 s33 s34 s35 s36 s37 s38 s39 s40 s41 s42 s43 s44 s45 s46 s47 s48 s49 s50 s51 s52 s53 s54 s55 s56 s57 s58 s59 s60 s61 s62 s63 s64 s65 s66 s67 s68 s69 s70 s71 s72 s73 s74 s75 s76 s77 s78 s79 s80 s81 s82 s83 s84 s85 s86 s87 s88 s89 s90 s91 s92 s93 s94 s95 s96 s97 s98 s99 s100 s101 s102 s103 s104 s105 s106 s107 s108 s109 s110 s111 s112 s113 s114 s115 s116 s117 s118 s119 s120 s121 s122 s123 s124 s125 s126 s127 s128 s129 s130 s131 s132 s133 s134 s135 s136 s137 s138 s139 s140 s141 s142 s143 s144 s145 s146 s147 s148 s149 s150 s151 s152 s153 s154 s155 s156 s157 s158 s159 s160 s161 s162 s163 s164 s165 s166 s167 s168 s169 s170 s171 s172 s173 s174:Value)
  (ok:b.ok d) (hkn:k<d.n) (hst:b.G[k]?=some st) (hx:⟨g,66,SpotX.cells ⟨d,k⟩⟩∈X) (hw:WrB wb bs HW) (M:Mv w0 H0 w (HW++(X++b.heap d))) (hnz:(nz:Int)=max (b.planes - st.m.pl) 0+1) (hn64:nz≤64) (hpl:0≤b.planes∧b.planes≤100) (hsp:0≤st.m.pl∧st.m.pl≤100) (hbs:bs.length≤50000000)
  (hk:∀ (t10 t58 t59 t60 t61 t62 t63 t64 t65 t66 t67 t68 t69 t70 t71 t72 t73 t74 t75 t76 t77 t78 t79 t80 t81 t82 t83 t84 t85:Value) (wx:World) (b':BandG) (HW':List HB),b'.ok d→b'.model={ b.model with zeros:=(zerosE b.model.zeros k nz).1 }→b'.G=b.G→WrB wb (bs++(zerosE b.model.zeros k nz).2) HW'→Mv w0 H0 wx (HW'++(X++b'.heap d)) →
   K ⟨List.toArray (s0::(ptr0 wb)::s2::s3::s4::(ptr0 g)::s6::s7::s8::s9::t10::s11::s12::s13::s14::s15::s16::s17::s18::s19::s20::s21::s22::s23::s24::s25::s26::s27::s28::s29::s30::s31::s32::s33::s34::s35::s36::s37::s38::s39::s40::s41::s42::s43::s44::s45::s46::s47::s48::s49::s50::s51::s52::s53::s54::s55::s56::s57::t58::t59::t60::t61::t62::t63::t64::t65::t66::t67::t68::t69::t70::t71::t72::t73::t74::t75::t76::t77::t78::t79::t80::t81::t82::t83::t84::t85::s86::s87::s88::s89::s90::s91::s92::s93::s94::s95::s96::s97::s98::s99::s100::s101::s102::s103::s104::s105::s106::s107::s108::s109::s110::s111::s112::s113::s114::s115::s116::s117::s118::s119::s120::s121::s122::s123::s124::s125::s126::s127::s128::s129::s130::s131::s132::s133::s134::s135::s136::s137::s138::s139::s140::s141::s142::s143::s144::s145::s146::s147::s148::s149::s150::s151::s152::s153::s154::s155::s156::s157::s158::s159::s160::s161::s162::s163::s164::s165::s166::s167::s168::s169::s170::s171::s172::s173::s174::[]),[]⟩ wx) :
  (blockOf 0 Tryz.f29).wp Tryz.prog (Exit.then K noQ) ⟨List.toArray (s0::(ptr0 wb)::s2::s3::s4::(ptr0 g)::s6::s7::s8::s9::(.int .i64 1)::s11::s12::s13::s14::s15::s16::s17::s18::s19::s20::s21::s22::s23::s24::s25::s26::s27::s28::s29::s30::s31::s32::s33::s34::s35::s36::s37::s38::s39::s40::s41::s42::s43::s44::s45::s46::s47::s48::s49::s50::s51::s52::s53::s54::s55::s56::s57::s58::s59::s60::s61::s62::s63::s64::s65::s66::s67::s68::s69::s70::s71::s72::s73::s74::s75::s76::s77::s78::s79::s80::s81::s82::s83::s84::s85::s86::s87::s88::s89::s90::s91::s92::s93::s94::s95::s96::s97::s98::s99::s100::s101::s102::s103::s104::s105::s106::s107::s108::s109::s110::s111::s112::s113::s114::s115::s116::s117::s118::s119::s120::s121::s122::s123::s124::s125::s126::s127::s128::s129::s130::s131::s132::s133::s134::s135::s136::s137::s138::s139::s140::s141::s142::s143::s144::s145::s146::s147::s148::s149::s150::s151::s152::s153::s154::s155::s156::s157::s158::s159::s160::s161::s162::s163::s164::s165::s166::s167::s168::s169::s170::s171::s172::s173::s174::[]),[]⟩ w:=by
 conv in (blockOf _ _)=>whnf
 unfold noQ
 have HK:=Lib.hid hk
 clear hk
 unfold ptr0
 have hzl:b.model.zeros.length≤20:=by have:=ok.kz.1;simpa [BandG.model] using this
 obtain ⟨T,hT⟩:∃ T,b.model.zeros=T:=⟨_,rfl⟩
 rw [hT] at HK hzl
 have BD:=Lib.hid (fun j hj=>(zerosE_length T k hzl j hj).2)
 obtain ⟨pls,hpls⟩:∃ pls,b.planes=pls:=⟨_,rfl⟩
 obtain ⟨spl,hspl⟩:∃ spl,st.m.pl=spl:=⟨_,rfl⟩
 rw [hpls] at hpl hnz
 rw [hspl] at hsp hnz
 have emx:(if pls - spl<0 then 0 else pls - spl)+1=(nz:Int):=by rw [hnz];split <;> omega
 have emx2:(if 0<pls - spl then pls - spl else 0)+1=(nz:Int):=by rw [hnz];split <;> omega
 obtain ⟨mz,hmz⟩:∃ mz:Nat,nz=mz+1:=⟨nz - 1,by omega⟩
 subst hmz
 have emy:(if pls - spl<0 then 0 else pls - spl)=(mz:Int):=by push_cast at emx;omega
 have emy2:(if 0<pls - spl then pls - spl else 0)=(mz:Int):=by push_cast at emx2;omega
 have hkk:k<4096:=Nat.lt_of_lt_of_le hkn ok.small
 have ST0:=Lib.hid (And.intro ok (And.intro hw M))
 have FX:=Lib.hid (And.intro hst (And.intro hx (And.intro hpls (And.intro hT hspl))))
 clear ok hw M hst hx hpls hspl emx emx2 hnz hT
 go_wp2_with fail
 go_loopg [10] (mz+1) (fun mm s10 wx=>∃ (j:Nat) (b':BandG) (HW':List HB),j≤mz+1∧mm=mz+1 - j∧s10=.int .i64 ((j+1:Nat):Int)∧b'.ok d∧b'.model={ b.model with zeros:=(zerosE T k j).1 }∧b'.G=b.G∧WrB wb (bs++(zerosE T k j).2) HW'∧Mv w0 H0 wx (HW'++(X++b'.heap d)))
 case atStart=>exact ⟨0,b,HW,Nat.zero_le _,rfl,rfl,ST0.out.1,by rw [← FX.out.2.2.2.1];rfl,rfl,by simpa [zerosE] using ST0.out.2.1,ST0.out.2.2⟩
 case round =>
  obtain ⟨j,b1,HW1,hj,rfl,rfl,ok1,hm1,hG1,hw1,M1⟩:=hrel
  have hp1:b1.planes=pls:=(congrArg BandM.planes hm1).trans FX.out.2.2.1
  obtain ⟨⟨x0,x1,x2⟩,⟨y1,y2,y3⟩,z0,z1,z2,z3,z4,z5⟩:=hd_cells M1 FX.out.2.1 (by rw [hG1];exact FX.out.1)
  rw [hp1] at y1
  rw [FX.out.2.2.2.2] at z0
  clear z1 z2 z3 z4 z5 y2 y3 x2
  have KS:=Lib.hid (And.intro ok1 (And.intro hm1 (And.intro hG1 (And.intro hw1 M1))))
  clear ok1 hm1 hG1 hw1 M1 hp1
  by_cases hlt:j<mz+1
  ·have d1:decide (((j+1:Nat):Int)≤(mz:Int)+1)=true:=by simp;omega
   go_upto_region 7 with fail
   go_quiet (fail)
   have K2:Hid (b1.ok d∧WrB wb (bs++(zerosE T k j).2) HW1∧Mv w0 H0 ((wr.drewN nq).drew) (HW1++(X++b1.heap d))):=Lib.hid ⟨KS.out.1,KS.out.2.2.2.1,(KS.out.2.2.2.2.drewN nq).drew⟩
   obtain ⟨w2,hw2⟩:∃ w2,w2=wr.drewN nq:=⟨_,rfl⟩
   rw [← hw2] at K2
   have HW2:=Lib.hid hw2
   clear hw2 x0 x1 y1 z0 d1
   obtain ⟨⟨x0,x1,x2⟩,⟨y1,y2,y3⟩,-⟩:=hd_cells K2.out.2.2 FX.out.2.1 (by rw [KS.out.2.2.1];exact FX.out.1)
   clear x0 y1 y2
   have hbl:(bs++(zerosE T k j).2).length≤60000000:=by rw [List.length_append];have:=BD.out j (by omega);omega
   have CZ:=Lib.hid (band_encZ K2.out.1 K2.out.2.1 K2.out.2.2 k hkn ((j:Int)+1) (by omega) hbl)
   have ez:b1.model.zeros=(zerosE T k j).1:=by rw [KS.out.2.1]
   rw [ez] at CZ
   have em:=KS.out.2.1
   have NXT:Hid (∀ (b2:BandG) (HW2':List HB) (W2:World),b2.ok d→b2.model={ b1.model with zeros:=(encAt (zerosE T k j).1 k ((j:Int)+1)).1 }→b2.G=b1.G→WrB wb ((bs++(zerosE T k j).2)++(encAt (zerosE T k j).1 k ((j:Int)+1)).2) HW2'→Mv w0 H0 W2 (HW2'++(X++b2.heap d)) →
     b2.ok d∧b2.model={ b.model with zeros:=(zerosE T k (j+1)).1 }∧b2.G=b.G∧WrB wb (bs++(zerosE T k (j+1)).2) HW2'∧Mv w0 H0 W2 (HW2'++(X++b2.heap d))):=Lib.hid (by
    intro b2 HW2' W2 q1 q2 q3 q4 q5
    refine ⟨q1,?_,q3.trans KS.out.2.2.1,?_,q5⟩
    ·rw [q2,em];rfl
    ·rw [List.append_assoc] at q4;exact q4)
   clear em ez hbl
   go_upto_region 9 with fail
   rw [← HW2.out]
   go_still_tail 9,(by kernel_rfl)
   change wpList _ _ _ _ _ w2.drew
   go_wp2_with (go_at_call 73;(with_reducible refine CZ.out.mono ?_);rintro e w3 ⟨rfl,b2,HW2',q1,q2,q3,q4,q5⟩;have K3:=Lib.hid (NXT.out b2 HW2' w3 q1 q2 q3 q4 q5);clear q1 q2 q3 q4 q5)
   go_roundg (mz+1 - (j+1))
   case measure=>omega
   case rel=>exact ⟨j+1,b2,HW2',by omega,rfl,by push_cast;rfl,K3.out⟩
  ·have d1:decide (((j+1:Nat):Int)≤(mz:Int)+1)=false:=by simp;omega
   obtain rfl:j=mz+1:=by omega
   go_upto_region 7 with fail
   go_quiet (fail)
   go_wp2_with fail
   exact HK.out _ _ _ _ _ _ _ _ _ _ _ _ _ _ _ _ _ _ _ _ _ _ _ _ _ _ _ _ _ _ b1 HW1 KS.out.1 KS.out.2.1 KS.out.2.2.1 KS.out.2.2.2.1 (KS.out.2.2.2.2.drewN nq)
end
section
open Go.RowKit
def needK (L1 L2:List Int) (lb:Int):Nat→Int
 | 0=>lb
 | k+1=>if 0<L2.getD k 0 then max (needK L1 L2 lb k) (((L2.getD k 0).toNat.log2:Int)+1 - ((L1.getD k 0).toNat.log2:Int)) else needK L1 L2 lb k
def bitsK (L1 L2:List Int) (lb:Int):Nat→List Bool
 | 0=>[]
 | k+1=>bitsK L1 L2 lb k++bitsG (L2.getD k 0) (lb+((L1.getD k 0).toNat.log2:Int))
theorem needK_succ (L1 L2:List Int) (lb:Int) (k:Nat):needK L1 L2 lb (k+1)=if 0<L2.getD k 0 then max (needK L1 L2 lb k) (((L2.getD k 0).toNat.log2:Int)+1 - ((L1.getD k 0).toNat.log2:Int)) else needK L1 L2 lb k:=rfl
theorem bitsK_length (L1 L2:List Int) (lb:Int):∀ n,(bitsK L1 L2 lb n).length≤32 * n
 | 0=>Nat.zero_le _
 | n+1=>by
  have h1:=bitsK_length L1 L2 lb n
  have h2:=bitsG_length (L2.getD n 0) (lb+((L1.getD n 0).toNat.log2:Int))
  rw [bitsK,List.length_append]
  omega
theorem needK_bd (L1 L2:List Int) (lb:Int) (h:∀ i,L2.getD i 0≤1000000000):∀ n,lb≤needK L1 L2 lb n∧needK L1 L2 lb n≤max lb 41
 | 0=>⟨Int.le_refl _,by unfold needK;omega⟩
 | n+1=>by
  obtain ⟨h1,h2⟩:=needK_bd L1 L2 lb h n
  have h3:=log_le (n:=(L2.getD n 0).toNat) (by have:=h n;omega)
  rw [needK]
  split
  ·omega
  ·exact ⟨h1,h2⟩
theorem max_if (a b:Int):(if a<b then b else a)=max a b:=by split <;> omega
theorem hd_p2 (K:Act→World→Prop) (n c1 c2 g1 g2:Nat) (lb:Int) (L1 L2:List Int) (X:List HB) (H0:List HB) (w0 w:World) (s0 s1 s2 s3 s4 s5 s6 s7 s8 s9 s10 s14 s15 s16 s17 s18 s19 s20 s21 s22 s23 s24 s25 s26 s27 s28 s29 s30 s31 s32 s33 s34 s35 s36 s37 s38 s39 s40 s41 s42 s43 s44 s45 s46 s47 s48 s49 s50 s51 s52 s53 s54 s55 s56 s57 s58 s59 s60 s61 s62 s63 s64 s65 s66 s67 s68 s69 s70 s71 s72 s73 s74 s75 s76 s77 s78 s79 s80 s81 s82 s83 s84 s85 s86 s87 s88 s89 s90 s91 s92 s93 s94 s95 s96 s97 s98 s99 s100 s101 s102 s103 s104 s105 s106 s107 s108 s109 s110 s111 s112 s116 s117 s118 s119 s120 s121 s122 s123 s124 s125 s126 s127 s128 s129 s130 s131 s132 s133 s134 s135 s136 s137 s138 s139 s140 s141 s142 s143 s144 s145 s146 s147 s148 s149 s150 s151 s152 s153 s154 s155 s156 s157 s158 s159 s160 s161 s162 s163 s164 s165 s166 s167 s168 s169 s170 s171 s172 s173 s174:Value)
  (hn:n≤1000) (_hlb:0≤lb∧lb≤1000) (h1:∀ i,0≤L1.getD i 0∧L1.getD i 0≤1000) (h2:∀ i,-1000000000≤L2.getD i 0∧L2.getD i 0≤1000000000) (hr:∀ W,Sat W X→∀ i,i<n→W.cell? ⟨g1,i,none⟩=some (.int .i64 (L1.getD i 0))∧W.cell? ⟨g2,i,none⟩=some (.int .i64 (L2.getD i 0))) (M:Mv w0 H0 w X)
  (hk:∀ (t14 t15 t115 t116 t117 t118 t119 t120 t121 t122 t123 t124 t125 t126 t127 t128 t129 t130 t131 t132 t133:Value) (wx:World),Mv w0 H0 wx X →
   K ⟨List.toArray (s0::s1::s2::s3::s4::s5::s6::s7::s8::s9::s10::(.slice (some ⟨g1,0,none⟩) n c1)::(.slice (some ⟨g2,0,none⟩) n c2)::(.int .i64 (needK L1 L2 lb n))::t14::t15::s16::s17::s18::s19::s20::s21::s22::s23::s24::s25::s26::s27::s28::s29::s30::s31::s32::s33::s34::s35::s36::s37::s38::s39::s40::s41::s42::s43::s44::s45::s46::s47::s48::s49::s50::s51::s52::s53::s54::s55::s56::s57::s58::s59::s60::s61::s62::s63::s64::s65::s66::s67::s68::s69::s70::s71::s72::s73::s74::s75::s76::s77::s78::s79::s80::s81::s82::s83::s84::s85::s86::s87::s88::s89::s90::s91::s92::s93::s94::s95::s96::s97::s98::s99::s100::s101::s102::s103::s104::s105::s106::s107::s108::s109::s110::s111::s112::(.slice (some ⟨g2,0,none⟩) n c2)::(.int .i64 (n:Int))::t115::t116::t117::t118::t119::t120::t121::t122::t123::t124::t125::t126::t127::t128::t129::t130::t131::t132::t133::s134::s135::s136::s137::s138::s139::s140::s141::s142::s143::s144::s145::s146::s147::s148::s149::s150::s151::s152::s153::s154::s155::s156::s157::s158::s159::s160::s161::s162::s163::s164::s165::s166::s167::s168::s169::s170::s171::s172::s173::s174::[]),[]⟩ wx) :
  (blockOf 2 Tryz.f29).wp Tryz.prog (Exit.then K noQ) ⟨List.toArray (s0::s1::s2::s3::s4::s5::s6::s7::s8::s9::s10::(.slice (some ⟨g1,0,none⟩) n c1)::(.slice (some ⟨g2,0,none⟩) n c2)::(.int .i64 lb)::s14::s15::s16::s17::s18::s19::s20::s21::s22::s23::s24::s25::s26::s27::s28::s29::s30::s31::s32::s33::s34::s35::s36::s37::s38::s39::s40::s41::s42::s43::s44::s45::s46::s47::s48::s49::s50::s51::s52::s53::s54::s55::s56::s57::s58::s59::s60::s61::s62::s63::s64::s65::s66::s67::s68::s69::s70::s71::s72::s73::s74::s75::s76::s77::s78::s79::s80::s81::s82::s83::s84::s85::s86::s87::s88::s89::s90::s91::s92::s93::s94::s95::s96::s97::s98::s99::s100::s101::s102::s103::s104::s105::s106::s107::s108::s109::s110::s111::s112::(.slice (some ⟨g2,0,none⟩) n c2)::(.int .i64 (n:Int))::(.int .i64 0)::s116::s117::s118::s119::s120::s121::s122::s123::s124::s125::s126::s127::s128::s129::s130::s131::s132::s133::s134::s135::s136::s137::s138::s139::s140::s141::s142::s143::s144::s145::s146::s147::s148::s149::s150::s151::s152::s153::s154::s155::s156::s157::s158::s159::s160::s161::s162::s163::s164::s165::s166::s167::s168::s169::s170::s171::s172::s173::s174::[]),[]⟩ w:=by
 conv in (blockOf _ _)=>whnf
 unfold noQ
 have HK:=Lib.hid hk
 clear hk
 have ND:=Lib.hid (needK_bd L1 L2 lb (fun i=>(h2 i).2))
 have HR:=Lib.hid hr
 have KM:=Lib.hid M
 have B1:=Lib.hid h1
 have B2:=Lib.hid h2
 clear hr M h1 h2
 go_wp2_with fail
 go_loopg [13,115] n (fun mm s13 s115 wx=>∃ k:Nat,k≤n∧mm=n - k∧s13=.int .i64 (needK L1 L2 lb k)∧s115=.int .i64 (k:Int)∧Mv w0 H0 wx X)
 case atStart=>exact ⟨0,Nat.zero_le _,rfl,rfl,rfl,KM.out⟩
 case round =>
  obtain ⟨k,hk,rfl,rfl,rfl,m⟩:=hrel
  by_cases hlt:k<n
  ·have d1:decide ((k:Int)<(n:Int))=true:=by simp;omega
   have hkn:(k:Int)<(n:Int):=by omega
   obtain ⟨z1,z2⟩:=HR.out wr m.sat k hlt
   obtain ⟨e1,he1⟩:∃ e,L1.getD k 0=e:=⟨_,rfl⟩
   obtain ⟨e2,he2⟩:∃ e,L2.getD k 0=e:=⟨_,rfl⟩
   obtain ⟨nd,hnd⟩:∃ e,needK L1 L2 lb k=e:=⟨_,rfl⟩
   have b1:=B1.out k
   have b2:=B2.out k
   have b3:=ND.out k
   have NX:=Lib.hid (needK_succ L1 L2 lb k)
   rw [he1,he2,hnd] at NX
   rw [he1] at b1 z1
   rw [he2] at b2 z2
   rw [hnd] at b3 ⊢
   have KM2:=Lib.hid m
   have KE:=Lib.hid (And.intro he1 (And.intro he2 hnd))
   clear m he1 he2 hnd
   by_cases hp:0<e2
   ·have d2:decide (0<e2)=true:=decide_eq_true hp
    obtain ⟨u,rfl⟩:=Int.eq_ofNat_of_zero_le (Int.le_of_lt hp)
    obtain ⟨v,rfl⟩:=Int.eq_ofNat_of_zero_le b1.1
    have hu0:0<u:=by omega
    have l1:=log_le (n:=v) (by omega)
    have l2:=log_le (n:=u) (by omega)
    have LU:=Lib.hid (fun W=>log_any u W (by omega))
    have LV:=Lib.hid (fun W=>log_any v W (by omega))
    have NX2:=Lib.hid (NX.out.trans (if_pos hp))
    rw [Int.toNat_natCast,Int.toNat_natCast] at NX2
    generalize u.log2=lu at *
    generalize v.log2=lv at *
    have mx1:=max_if nd ((lu:Int)+1 - (lv:Int))
    clear NX hp
    go_upto_region 17 with fail
    have hmx:Tryz.prog.follows .mixedOrders=true:=by kernel_rfl
    obtain ⟨C,hC⟩:∃ C:World→Prop,C=fun w'=>Hid (Mv w0 H0 w' X):=⟨_,rfl⟩
    have CF:Hid (∀ w',C w'→w'.cell? ⟨g1,k,none⟩=some (.int .i64 (v:Int))∧w'.cell? ⟨g2,k,none⟩=some (.int .i64 (u:Int))):=Lib.hid (by
     intro w' h
     rw [hC] at h
     have:=HR.out w' h.out.sat k hlt
     rw [KE.out.1,KE.out.2.1] at this
     exact this)
    have CU:Hid (∀ w',C w'→Calls Tryz.prog 77 #[.int .i64 (u:Int)] w' fun e w4=>e=.returned (.int .i64 (lu:Int))∧C w4):=Lib.hid (by
     intro w' h
     refine (LU.out w').mono ?_
     rintro e w4 ⟨rfl,rfl⟩
     exact ⟨rfl,h⟩)
    have CV:Hid (∀ w',C w'→Calls Tryz.prog 77 #[.int .i64 (v:Int)] w' fun e w4=>e=.returned (.int .i64 (lv:Int))∧C w4):=Lib.hid (by
     intro w' h
     refine (LV.out w').mono ?_
     rintro e w4 ⟨rfl,rfl⟩
     exact ⟨rfl,h⟩)
    have CD:C wr.drew:=by rw [hC];exact Lib.hid KM2.out.drew
    have HC:=Lib.hid hC
    clear hC z1 z2
    refine plain_quiet_tail 11 C hmx CD (by kernel_rfl) ?_
    simp only [List.take_succ_cons,List.take_zero,List.drop_succ_cons,List.drop_zero]
    (first | (with_reducible refine qc_pass ?hw1 ?nx1;(case hw1=>(go_simp;done));(try simp only [Act.put,List.setIfInBounds_toArray,List.set_cons_zero,List.set_cons_succ])) | (with_reducible refine qc_one ?v1 ?hw1 (fun w' hw'=>?hr1) ?nx1;(case hw1=>(go_simp;done));(case hr1=>(first | (refine qc_val ?_;(obtain ⟨z1,z2⟩:=CF.out w' hw');clear hw';go_simp;done) | (refine qc_val ?_;(obtain ⟨z1,z2⟩:=CF.out w' hw');clear hw';go_simp;rfl) | (refine qc_call (f:=?f1) (args:=?args1) ?h11 ?h21;(case h11=>((obtain ⟨z1,z2⟩:=CF.out w' hw');go_simp;constructor <;> rfl));(case h21=>(first | with_reducible exact CU.out w' hw' | with_reducible exact CV.out w' hw'))) | (refine qc_skip ?_;(obtain ⟨z1,z2⟩:=CF.out w' hw');clear hw';go_simp;done)));(try simp only [Act.put,List.setIfInBounds_toArray,List.set_cons_zero,List.set_cons_succ])))
    (first | (with_reducible refine qc_pass ?hw2 ?nx2;(case hw2=>(go_simp;done));(try simp only [Act.put,List.setIfInBounds_toArray,List.set_cons_zero,List.set_cons_succ])) | (with_reducible refine qc_one ?v2 ?hw2 (fun w' hw'=>?hr2) ?nx2;(case hw2=>(go_simp;done));(case hr2=>(first | (refine qc_val ?_;(obtain ⟨z1,z2⟩:=CF.out w' hw');clear hw';go_simp;done) | (refine qc_val ?_;(obtain ⟨z1,z2⟩:=CF.out w' hw');clear hw';go_simp;rfl) | (refine qc_call (f:=?f2) (args:=?args2) ?h12 ?h22;(case h12=>((obtain ⟨z1,z2⟩:=CF.out w' hw');go_simp;constructor <;> rfl));(case h22=>(first | with_reducible exact CU.out w' hw' | with_reducible exact CV.out w' hw'))) | (refine qc_skip ?_;(obtain ⟨z1,z2⟩:=CF.out w' hw');clear hw';go_simp;done)));(try simp only [Act.put,List.setIfInBounds_toArray,List.set_cons_zero,List.set_cons_succ])))
    (first | (with_reducible refine qc_pass ?hw3 ?nx3;(case hw3=>(go_simp;done));(try simp only [Act.put,List.setIfInBounds_toArray,List.set_cons_zero,List.set_cons_succ])) | (with_reducible refine qc_one ?v3 ?hw3 (fun w' hw'=>?hr3) ?nx3;(case hw3=>(go_simp;done));(case hr3=>(first | (refine qc_val ?_;(obtain ⟨z1,z2⟩:=CF.out w' hw');clear hw';go_simp;done) | (refine qc_val ?_;(obtain ⟨z1,z2⟩:=CF.out w' hw');clear hw';go_simp;rfl) | (refine qc_call (f:=?f3) (args:=?args3) ?h13 ?h23;(case h13=>((obtain ⟨z1,z2⟩:=CF.out w' hw');go_simp;constructor <;> rfl));(case h23=>(first | with_reducible exact CU.out w' hw' | with_reducible exact CV.out w' hw'))) | (refine qc_skip ?_;(obtain ⟨z1,z2⟩:=CF.out w' hw');clear hw';go_simp;done)));(try simp only [Act.put,List.setIfInBounds_toArray,List.set_cons_zero,List.set_cons_succ])))
    (first | (with_reducible refine qc_pass ?hw4 ?nx4;(case hw4=>(go_simp;done));(try simp only [Act.put,List.setIfInBounds_toArray,List.set_cons_zero,List.set_cons_succ])) | (with_reducible refine qc_one ?v4 ?hw4 (fun w' hw'=>?hr4) ?nx4;(case hw4=>(go_simp;done));(case hr4=>(first | (refine qc_val ?_;(obtain ⟨z1,z2⟩:=CF.out w' hw');clear hw';go_simp;done) | (refine qc_val ?_;(obtain ⟨z1,z2⟩:=CF.out w' hw');clear hw';go_simp;rfl) | (refine qc_call (f:=?f4) (args:=?args4) ?h14 ?h24;(case h14=>((obtain ⟨z1,z2⟩:=CF.out w' hw');go_simp;constructor <;> rfl));(case h24=>(first | with_reducible exact CU.out w' hw' | with_reducible exact CV.out w' hw'))) | (refine qc_skip ?_;(obtain ⟨z1,z2⟩:=CF.out w' hw');clear hw';go_simp;done)));(try simp only [Act.put,List.setIfInBounds_toArray,List.set_cons_zero,List.set_cons_succ])))
    (first | (with_reducible refine qc_pass ?hw5 ?nx5;(case hw5=>(go_simp;done));(try simp only [Act.put,List.setIfInBounds_toArray,List.set_cons_zero,List.set_cons_succ])) | (with_reducible refine qc_one ?v5 ?hw5 (fun w' hw'=>?hr5) ?nx5;(case hw5=>(go_simp;done));(case hr5=>(first | (refine qc_val ?_;(obtain ⟨z1,z2⟩:=CF.out w' hw');clear hw';go_simp;done) | (refine qc_val ?_;(obtain ⟨z1,z2⟩:=CF.out w' hw');clear hw';go_simp;rfl) | (refine qc_call (f:=?f5) (args:=?args5) ?h15 ?h25;(case h15=>((obtain ⟨z1,z2⟩:=CF.out w' hw');go_simp;constructor <;> rfl));(case h25=>(first | with_reducible exact CU.out w' hw' | with_reducible exact CV.out w' hw'))) | (refine qc_skip ?_;(obtain ⟨z1,z2⟩:=CF.out w' hw');clear hw';go_simp;done)));(try simp only [Act.put,List.setIfInBounds_toArray,List.set_cons_zero,List.set_cons_succ])))
    (first | (with_reducible refine qc_pass ?hw6 ?nx6;(case hw6=>(go_simp;done));(try simp only [Act.put,List.setIfInBounds_toArray,List.set_cons_zero,List.set_cons_succ])) | (with_reducible refine qc_one ?v6 ?hw6 (fun w' hw'=>?hr6) ?nx6;(case hw6=>(go_simp;done));(case hr6=>(first | (refine qc_val ?_;(obtain ⟨z1,z2⟩:=CF.out w' hw');clear hw';go_simp;done) | (refine qc_val ?_;(obtain ⟨z1,z2⟩:=CF.out w' hw');clear hw';go_simp;rfl) | (refine qc_call (f:=?f6) (args:=?args6) ?h16 ?h26;(case h16=>((obtain ⟨z1,z2⟩:=CF.out w' hw');go_simp;constructor <;> rfl));(case h26=>(first | with_reducible exact CU.out w' hw' | with_reducible exact CV.out w' hw'))) | (refine qc_skip ?_;(obtain ⟨z1,z2⟩:=CF.out w' hw');clear hw';go_simp;done)));(try simp only [Act.put,List.setIfInBounds_toArray,List.set_cons_zero,List.set_cons_succ])))
    (first | (with_reducible refine qc_pass ?hw7 ?nx7;(case hw7=>(go_simp;done));(try simp only [Act.put,List.setIfInBounds_toArray,List.set_cons_zero,List.set_cons_succ])) | (with_reducible refine qc_one ?v7 ?hw7 (fun w' hw'=>?hr7) ?nx7;(case hw7=>(go_simp;done));(case hr7=>(first | (refine qc_val ?_;(obtain ⟨z1,z2⟩:=CF.out w' hw');clear hw';go_simp;done) | (refine qc_val ?_;(obtain ⟨z1,z2⟩:=CF.out w' hw');clear hw';go_simp;rfl) | (refine qc_call (f:=?f7) (args:=?args7) ?h17 ?h27;(case h17=>((obtain ⟨z1,z2⟩:=CF.out w' hw');go_simp;constructor <;> rfl));(case h27=>(first | with_reducible exact CU.out w' hw' | with_reducible exact CV.out w' hw'))) | (refine qc_skip ?_;(obtain ⟨z1,z2⟩:=CF.out w' hw');clear hw';go_simp;done)));(try simp only [Act.put,List.setIfInBounds_toArray,List.set_cons_zero,List.set_cons_succ])))
    (first | (with_reducible refine qc_pass ?hw8 ?nx8;(case hw8=>(go_simp;done));(try simp only [Act.put,List.setIfInBounds_toArray,List.set_cons_zero,List.set_cons_succ])) | (with_reducible refine qc_one ?v8 ?hw8 (fun w' hw'=>?hr8) ?nx8;(case hw8=>(go_simp;done));(case hr8=>(first | (refine qc_val ?_;(obtain ⟨z1,z2⟩:=CF.out w' hw');clear hw';go_simp;done) | (refine qc_val ?_;(obtain ⟨z1,z2⟩:=CF.out w' hw');clear hw';go_simp;rfl) | (refine qc_call (f:=?f8) (args:=?args8) ?h18 ?h28;(case h18=>((obtain ⟨z1,z2⟩:=CF.out w' hw');go_simp;constructor <;> rfl));(case h28=>(first | with_reducible exact CU.out w' hw' | with_reducible exact CV.out w' hw'))) | (refine qc_skip ?_;(obtain ⟨z1,z2⟩:=CF.out w' hw');clear hw';go_simp;done)));(try simp only [Act.put,List.setIfInBounds_toArray,List.set_cons_zero,List.set_cons_succ])))
    (first | (with_reducible refine qc_pass ?hw9 ?nx9;(case hw9=>(go_simp;done));(try simp only [Act.put,List.setIfInBounds_toArray,List.set_cons_zero,List.set_cons_succ])) | (with_reducible refine qc_one ?v9 ?hw9 (fun w' hw'=>?hr9) ?nx9;(case hw9=>(go_simp;done));(case hr9=>(first | (refine qc_val ?_;(obtain ⟨z1,z2⟩:=CF.out w' hw');clear hw';go_simp;done) | (refine qc_val ?_;(obtain ⟨z1,z2⟩:=CF.out w' hw');clear hw';go_simp;rfl) | (refine qc_call (f:=?f9) (args:=?args9) ?h19 ?h29;(case h19=>((obtain ⟨z1,z2⟩:=CF.out w' hw');go_simp;constructor <;> rfl));(case h29=>(first | with_reducible exact CU.out w' hw' | with_reducible exact CV.out w' hw'))) | (refine qc_skip ?_;(obtain ⟨z1,z2⟩:=CF.out w' hw');clear hw';go_simp;done)));(try simp only [Act.put,List.setIfInBounds_toArray,List.set_cons_zero,List.set_cons_succ])))
    (first | (with_reducible refine qc_pass ?hw10 ?nx10;(case hw10=>(go_simp;done));(try simp only [Act.put,List.setIfInBounds_toArray,List.set_cons_zero,List.set_cons_succ])) | (with_reducible refine qc_one ?v10 ?hw10 (fun w' hw'=>?hr10) ?nx10;(case hw10=>(go_simp;done));(case hr10=>(first | (refine qc_val ?_;(obtain ⟨z1,z2⟩:=CF.out w' hw');clear hw';go_simp;done) | (refine qc_val ?_;(obtain ⟨z1,z2⟩:=CF.out w' hw');clear hw';go_simp;rfl) | (refine qc_call (f:=?f10) (args:=?args10) ?h110 ?h210;(case h110=>((obtain ⟨z1,z2⟩:=CF.out w' hw');go_simp;constructor <;> rfl));(case h210=>(first | with_reducible exact CU.out w' hw' | with_reducible exact CV.out w' hw'))) | (refine qc_skip ?_;(obtain ⟨z1,z2⟩:=CF.out w' hw');clear hw';go_simp;done)));(try simp only [Act.put,List.setIfInBounds_toArray,List.set_cons_zero,List.set_cons_succ])))
    (first | (with_reducible refine qc_pass ?hw11 ?nx11;(case hw11=>(go_simp;done));(try simp only [Act.put,List.setIfInBounds_toArray,List.set_cons_zero,List.set_cons_succ])) | (with_reducible refine qc_one ?v11 ?hw11 (fun w' hw'=>?hr11) ?nx11;(case hw11=>(go_simp;done));(case hr11=>(first | (refine qc_val ?_;(obtain ⟨z1,z2⟩:=CF.out w' hw');clear hw';go_simp;done) | (refine qc_val ?_;(obtain ⟨z1,z2⟩:=CF.out w' hw');clear hw';go_simp;rfl) | (refine qc_call (f:=?f11) (args:=?args11) ?h111 ?h211;(case h111=>((obtain ⟨z1,z2⟩:=CF.out w' hw');go_simp;constructor <;> rfl));(case h211=>(first | with_reducible exact CU.out w' hw' | with_reducible exact CV.out w' hw'))) | (refine qc_skip ?_;(obtain ⟨z1,z2⟩:=CF.out w' hw');clear hw';go_simp;done)));(try simp only [Act.put,List.setIfInBounds_toArray,List.set_cons_zero,List.set_cons_succ])))
    refine wpQuiet_nil ?_
    intro w' hw'
    have m4:Hid (Mv w0 H0 w' X):=by rw [HC.out] at hw';exact hw'
    clear hw' CD CU CV CF HC C
    have ww:IntKind.i64.wrap (IntKind.i64.wrap ((lu:Int)+1) - (lv:Int))=(lu:Int)+1 - (lv:Int):=by rw [IntWalk.i64_in ((lu:Int)+1) (by omega),IntWalk.i64_in _ (by omega)]
    go_wp2_with fail
    all_goals
     go_roundg (n - (k+1))
     case measure=>omega
     case rel=>exact ⟨k+1,by omega,rfl,by rw [NX2.out],by push_cast;rfl,m4.out⟩
   ·have d2:decide (0<e2)=false:=decide_eq_false hp
    have NX2:=Lib.hid (NX.out.trans (if_neg hp))
    clear NX
    go_wp2_with fail
    go_roundg (n - (k+1))
    case measure=>omega
    case rel=>exact ⟨k+1,by omega,rfl,by rw [NX2.out],by push_cast;rfl,KM2.out⟩
  ·have d1:decide ((k:Int)<(n:Int))=false:=by simp;omega
   obtain rfl:k=n:=by omega
   have KM2:=Lib.hid m
   clear m
   go_wp2_with fail
   exact HK.out _ _ _ _ _ _ _ _ _ _ _ _ _ _ _ _ _ _ _ _ _ _ KM2.out
end
end Go.Proofs.YtjngfhgakokejaaGreat
