/- waveletlaw8.Of: a block of the reference becomes the program's. A law's numbers within bounds. PacketNone: a coded block's copies, as its law needs them. The document's trees and bands in memory (waveletref13, waveletref15), by the same models. Plain. waveletref13: New. waveletref15: NewBand, Add. waveletref15: set. waveletref15: say: its first half. waveletref15: say: whole. -/
import Derived.Test.YtjngfhgakokejaaGreatCp14
import Derived.Test.YtjngfhgakokejaaGreatCp13
import Derived.Test.YtjngfhgakokejaaGreatCp15
import Derived.Test.YtjngfhgakokejaaGreatCp18
import Derived.Test.YtjngfhgakokejaaGreatCp19
import Derived.Test.YtjngfhgakokejaaGreatCp07
import Derived.Test.YtjngfhgakokejaaGreatCp10
import Derived.Test.YtjngfhgakokejaaGreatCp16
import Derived.Test.YtjngfhgakokejaaGreatCp11
import Derived.Test.YtjngfhgakokejaaGreatCp12
import Derived.Test.YtjngfhgakokejaaGreatCp01
import Derived.Test.YtjngfhgakokejaaGreatCp17
set_option maxRecDepth 100000
set_option maxHeartbeats 8000000
set_option linter.all false
namespace Go.Proofs.YtjngfhgakokejaaGreat
section
open Go.RowKit
theorem step_appP {ops:Array Oper} {o:Oper} {a:Act} {w:World} {K:Act→World→Prop} {Q:Exit→Act→World→Prop} {E:Prop} (hgd:o.guard=none) (s x:Operand) (ho:o.op=.call { callee:=.builtin .append,args:=#[s,x],argTypes:=#[56,56] }) (v u:Value) (l r:List (Int × Bool)) (H:List HB)
  (hsv:a.eval s=v) (hxu:a.eval x=u) (h:RowP v l H) (hs:Sat w H) (hu:PV w u r) (hl:l.length+r.length≤100000000)
  (hK:∀ v' w' H',RowP v' (l++r) H'→Mv w H w' H'→K (a.put o.dst v') w'):if Region.wanted o (yielded ops a.tmps)=true then Oper.wp Tryz.prog o a w K Q else E:=by
 have hw:Region.wanted o (yielded ops a.tmps)=true:=by simp[Region.wanted,hgd]
 rw[if_pos hw]
 exact wp_appP s x ho v u l r H hsv hxu h hs hu hl hK
theorem pv_one (w:World) (p:Int × Bool) (g:Nat) (hg:g=w.heap.size):PV (w.alloc (.cells #[.int .i64 p.1,.bool p.2] 142)) (.slice (some ⟨g,0,none⟩) 1 1) [p]:=by
 subst hg
 have h:RowP (.slice (some ⟨w.heap.size,0,none⟩) 1 1) [p] [⟨w.heap.size,142,#[.int .i64 p.1,.bool p.2]⟩]:=RowH.new 142 w.heap.size 1 #[.int .i64 p.1,.bool p.2] rfl (by decide)
 exact h.pv (mv_alloc w 142 _).sat
theorem RowQ.at2 {w:World} {g n c:Nat} {l:List (Int × Bool)} {H:List HB} (h:RowQ (.slice (some ⟨g,0,none⟩) n c) l H) (hs:Sat w H) {k:Nat} {p:Int × Bool} (hk:l[k]?=some p):w.cell? ⟨g,k * 2+1,none⟩=some (.bool p.2):=by
 obtain⟨a',c',e⟩:=h.slice
 cases e
 have hi:=(List.getElem?_eq_some_iff.1 hk).1
 exact(RowH.cell h hs rfl (k * 2+1) (by omega)).1.trans (passesV_get hk).2
def blT (g:Nat) (pl:Int) (vp vb:Value):HB:=⟨g,58,#[.int .i64 pl,vp,vb]⟩
def blQ (g:Nat) (pl:Int) (vp vb:Value):HB:=⟨g,51,#[.int .i64 pl,vp,vb]⟩
theorem of_any (pl:Int) (vp:Value) (ba:Option Addr) (bn bc:Nat) (ps:List (Int × Bool)) (Hq:List HB) (w:World) (hq:RowQ vp ps Hq) (hs:Sat w Hq) (hn:ps.length≤1000) :
  Calls Tryz.prog 20 #[.agg #[.int .i64 pl,vp,.slice ba bn bc]] w fun e w'=>∃ vp' Hp,e=.returned (.agg #[.int .i64 pl,vp',.slice ba bn bc])∧RowP vp' ps Hp∧Mv w Hq w' (Hp++Hq):=by
 obtain⟨qa,qc,rfl⟩:=hq.slice
 obtain⟨n,hnn⟩:∃ n,ps.length=n:=⟨_,rfl⟩
 rw[hnn] at hq hn ⊢
 have M1:=((Mv.refl hs).alloc 51 #[.int .i64 pl,.slice qa n qc,.slice ba bn bc]).alloc 58 #[.int .i64 0,.slice none 0 0,.slice none 0 0]
 have M2:=M1.alloc 58 #[.int .i64 pl,.slice none 0 0,.slice ba bn bc]
 simp only[World.size_alloc] at M1 M2
 have K2:Hid (Mv w Hq _ ([]++(blT (w.heap.size+1+1) pl (.slice none 0 0) (.slice ba bn bc)::blT (w.heap.size+1) 0 (.slice none 0 0) (.slice none 0 0)::blQ w.heap.size pl (.slice qa n qc) (.slice ba bn bc)::Hq))):=Lib.hid M2
 have KQ:=Lib.hid (And.intro hq hnn)
 clear M1 M2 hq hs hnn
 go_enter Tryz.func20,Tryz.ntmps20
 go_upto_region 2 with fail
 generalize ((w.alloc (.cells #[.int .i64 pl,.slice qa n qc,.slice ba bn bc] 51)).alloc (.cells #[.int .i64 0,.slice none 0 0,.slice none 0 0] 58)).alloc (.cells #[.int .i64 pl,.slice none 0 0,.slice ba bn bc] 58)=w2 at *
 generalize w.heap.size=g at *
 have K3:Hid (Mv w Hq w2 ([]++(blT (g+2) pl (.slice none 0 0) (.slice ba bn bc)::blT (g+1) 0 (.slice none 0 0) (.slice none 0 0)::blQ g pl (.slice qa n qc) (.slice ba bn bc)::Hq))):=K2
 clear K2
 go_wp2_with fail
 go_loopg [4] n (fun mm s4 wx=>∃ (k:Nat) (l:List (Int × Bool)) (a:Option Addr) (c:Nat) (H:List HB),k≤n∧mm=n - k∧s4=.int .i64 (k:Int)∧ps.take k=l∧l.length=k∧RowP (.slice a k c) l H∧Mv w Hq wx (H++(blT (g+2) pl (.slice a k c) (.slice ba bn bc)::blT (g+1) 0 (.slice none 0 0) (.slice none 0 0)::blQ g pl (.slice qa n qc) (.slice ba bn bc)::Hq)))
 case atStart=>exact⟨0,[],none,0,[],Nat.zero_le _,rfl,rfl,rfl,rfl,RowH.nil _ _,K3.out⟩
 case round =>
  obtain⟨k,l,a,c,H,hk,rfl,rfl,hl,hll,hp,hm⟩:=hrel
  have c1:wr.cell? ⟨g,1,none⟩=some (.slice qa n qc):=(hm.drop.cell 2 (g:=g) rfl 1)
  by_cases hlt:k<n
  ·have d1:decide ((k:Int)<(n:Int))=true:=by simp;omega
   obtain⟨-,qg,rfl⟩:=KQ.out.1.form (by omega)
   obtain⟨p,hpk⟩:∃ p,ps[k]?=some p:=⟨_,List.getElem?_eq_getElem (by rw[KQ.out.2];exact hlt)⟩
   have SQ:Sat wr Hq:=Sat.right (A:=[_,_,_]) hm.drop.sat
   have p1:=(KQ.out.1.at_ SQ hpk).1
   have p2:=KQ.out.1.at2 SQ hpk
   have hkn:(k:Int)<(n:Int):=by omega
   have r0:wr.drew.cell? ⟨g,1,none⟩=some (.slice (some ⟨qg,0,none⟩) n qc):=c1
   have r1:wr.drew.cell? ⟨qg,k * 2,none⟩=some (.int .i64 p.1):=p1
   have r2:wr.drew.cell? ⟨qg,k * 2+1,none⟩=some (.bool p.2):=p2
   have r3:wr.drew.cell? ⟨g+2,1,none⟩=some (.slice a k c):=(hm.drop.cell 0 (g:=g+2) rfl 1)
   have M1:=hm.alloc 142 #[.int .i64 p.1,.bool p.2]
   have A1:Hid (PV (wr.alloc (.cells #[.int .i64 p.1,.bool p.2] 142)).drew (.slice (some ⟨wr.heap.size,0,none⟩) 1 1) [p]):=Lib.hid (pv_one wr p _ rfl)
   have r4:(wr.alloc (.cells #[.int .i64 p.1,.bool p.2] 142)).drew.cell? ⟨g+2,1,none⟩=some (.slice a k c):=(M1.drop1.drop.cell 0 (g:=g+2) rfl 1)
   have K1:=Lib.hid M1.drop1.drew
   have KP:=Lib.hid hp
   obtain⟨l6,hl6⟩:∃ l6,ps.take (k+1)=l6:=⟨_,rfl⟩
   have HL6:Hid (l++[p]=l6):=Lib.hid (by rw[← hl6,List.take_add_one,hl,hpk];rfl)
   have hl6l:l6.length=k+1:=by rw[← HL6.out,List.length_append,hll];rfl
   have HT:=Lib.hid hl6
   have hbd:l.length+[p].length≤100000000:=by rw[hll];simp only[List.length_cons,List.length_nil];omega
   clear M1 hp hm hl hl6 SQ p1 p2 hpk
   go_upto_region 5 with fail
   clear c1
   go_region_law (first
    | ((with_reducible refine step_appP (o:=⟨some 33,_,_,_,_,_⟩) (v:=.slice a k c) (u:=.slice (some ⟨wr.heap.size,0,none⟩) 1 1) (l:=l) (r:=[p]) (H:=H) rfl (.tmp 18) (.tmp 32) rfl ?_ ?_ KP.out K1.out.sat.left A1.out hbd ?_);simp[Act.eval];simp[Act.eval];intro v6 w6 H6 hr6 m6;rw[HL6.out] at hr6;obtain⟨a6,c6,rfl⟩:=hr6.slice;have M6:=Mv.call K1.out m6;(have y3:w6.cell? ⟨g+2,1,none⟩=some (.slice a k c):=(by first | exact(M6.drop.cell 0 (g:=g+2) rfl 1)));(have z3:w6.frozen? ⟨g+2,1,none⟩=false:=(by first | exact(M6.drop.frozen 0 (g:=g+2) rfl 1)));have K6:=Lib.hid (And.intro hr6 M6);clear hr6 m6 M6))
   all_goals
    have M7:=Lib.hid (Mv.setAt (A:=H6) (g:=g+2) (t:=58) (cs:=#[.int .i64 pl,.slice a k c,.slice ba bn bc]) K6.out.2 1 (.slice a6 (k+1) c6))
    go_wp2_with fail
    go_roundg (n - (k+1))
    case measure=>omega
    case rel=>exact⟨k+1,l6,a6,c6,H6,by omega,rfl,by push_cast;rfl,HT.out,hl6l,by (have:=K6.out.1;rw[hl6l] at this;exact this),M7.out⟩
  ·have d1:decide ((k:Int)<(n:Int))=false:=by simp;omega
   obtain rfl:k=n:=by omega
   have el:ps=l:=by rw[← hl,List.take_of_length_le (by rw[KQ.out.2];exact Nat.le_refl _)]
   rw[← el] at hp
   have HL:=Lib.hid hp
   have m1:Mv w Hq wr ([blT (g+1) 0 (.slice none 0 0) (.slice none 0 0)]++(blT (g+2) pl (.slice a k c) (.slice ba bn bc)::(H++Hq))):=hm.sub (fun g=>by simp only[cnt_append,cnt_cons,cnt_nil];omega) (fun b hb=>by
    simp only[List.mem_append,List.mem_cons,List.not_mem_nil,or_false] at hb ⊢
    rcases hb with h | h | h | h
    ·exact .inr (.inr (.inl h))
    ·exact .inr (.inl h)
    ·exact .inl h
    ·exact .inr (.inr (.inr (.inr h))))
   have K1:=Lib.hid m1
   clear el hl hll hp hm m1
   go_upto_region 6 with fail
   clear c1
   refine wp_region_lit ?_
   refine wpList_load_row rfl 58 (.tmp 3) rfl (g+2) rfl 58 #[.int .i64 pl,.slice a k c,.slice ba bn bc] (0,0) _ (K1.out.blk 1 (g:=g+2) (t:=58) (cs:=#[.int .i64 pl,.slice a k c,.slice ba bn bc]) rfl) Tryz.underlying58 rfl (by kernel_rfl) ?_
   refine wpList_store_row rfl 58 (.tmp 2) (.tmp 35) rfl (g+1) #[.int .i64 pl,.slice a k c,.slice ba bn bc] rfl rfl 58 _ (K1.out.blk 0 (g:=g+1) (t:=58) (cs:=#[.int .i64 0,.slice none 0 0,.slice none 0 0]) rfl) (by kernel_rfl) rfl (by simp[Value.oneCell']) ?_
   have M9:=Lib.hid (Mv.call K1.out (setRow_eq (cs:=#[.int .i64 pl,.slice a k c,.slice ba bn bc]) (K1.out.blk 0 (g:=g+1) (t:=58) (cs:=#[.int .i64 0,.slice none 0 0,.slice none 0 0]) rfl)))
   generalize wr.setRow (g+1) #[.int .i64 pl,.slice a k c,.slice ba bn bc]=w9 at *
   go_wp2_with fail
   refine bodyPost_ret (v:=.agg #[.int .i64 pl,.slice a k c,.slice ba bn bc]) (results_cell_row Tryz.results20 _ _ (g+1) 58 _ (0,0) _ rfl (M9.out.blk 0 rfl) Tryz.underlying58 rfl (by kernel_rfl)) rfl ?_
   exact⟨_,H,rfl,HL.out,M9.out.drop1.drop1⟩
end
section
open Go.RowKit
theorem within15 (x n:Int) (w:World) (h3:1≤n) (h4:n≤1000000) :
  Calls Tryz.prog 8 #[.int .i64 x,.int .i64 n] w fun e w'=>e=.returned (.int .i64 (x % n))∧w'=w:=by
 obtain⟨h5,h6⟩:=tmod_bd x n h3
 have E:=Lib.hid (tmod_adj x n h3)
 go_enter Tryz.func8,Tryz.ntmps8
 go_wp2
 all_goals go_ret
 ·exact⟨by rw[← E.out,if_pos (by assumption)];rfl,rfl⟩
 ·exact⟨by rw[← E.out,if_neg (by omega)];rfl,rfl⟩
end
section
open Go.RowKit
def noneX (xb:Nat) (P:Int) (pv bv:Value) (Hp Hb:List HB):List HB:=blQ xb P pv bv::(Hp++Hb)
theorem noneX_cells {w0 W:World} {H0 H Hp Hb:List HB} {xb:Nat} {P:Int} {pv bv:Value} (m:Mv w0 H0 W (H++noneX xb P pv bv Hp Hb)) :
  W.cell? ⟨xb,0,none⟩=some (.int .i64 P)∧W.cell? ⟨xb,1,none⟩=some pv∧W.cell? ⟨xb,2,none⟩=some bv :=
 ⟨m.drop.cell 0 rfl 0,m.drop.cell 0 rfl 1,m.drop.cell 0 rfl 2⟩
section
variable {w0 W:World} {xb:Nat} {P:Int} {pv:Value} {ba:Option Addr} {bn bc:Nat} {ps:List (Int × Bool)} {bs:List UInt8} {Hp Hb:List HB}
theorem none_of (hp:RowQ pv ps Hp) (hn:ps.length≤1000) {H:List HB} (m:Mv w0 [] W (H++noneX xb P pv (.slice ba bn bc) Hp Hb)) :
  Calls Tryz.prog 20 #[.agg #[.int .i64 P,pv,.slice ba bn bc]] W fun e w'=>∃ vp' H1,e=.returned (.agg #[.int .i64 P,vp',.slice ba bn bc])∧RowP vp' ps H1∧Mv w0 [] w' (H1++(H++noneX xb P pv (.slice ba bn bc) Hp Hb)):=by
 have m1:Mv w0 [] W (Hp++(H++(blQ xb P pv (.slice ba bn bc)::Hb))):=m.sub (fun g=>by simp only[noneX,cnt_append,cnt_cons];omega) (fun c hc=>by simp only[noneX,List.mem_append,List.mem_cons] at hc ⊢;grind)
 refine(of_any P pv ba bn bc ps Hp W hp m1.sat.left hn).mono ?_
 rintro e w' ⟨vp',H1,rfl,r1,m2⟩
 exact⟨vp',H1,rfl,r1,(Mv.call m1 m2).sub (fun g=>by simp only[noneX,cnt_append,cnt_cons];omega) (fun c hc=>by simp only[noneX,List.mem_append,List.mem_cons] at hc ⊢;grind)⟩
end
end
section
open Go.RowKit
theorem stOf_in {m:BandM} {j:Nat} {s:StM} (h:m.ss[j]?=some s):stOf m (j:Int)=s:=by
 have hj:=(List.getElem?_eq_some_iff.1 h).1
 unfold stOf
 rw[if_neg (by omega),Int.toNat_natCast,List.getD_eq_getElem?_getD,h]
 rfl
theorem addM_ss {m:BandM} {j:Nat} {s:StM} (h:m.ss[j]?=some s) (pl:Int) (ps:List (Int × Bool)) (bs:List UInt8):(addM m (j:Int) pl ps bs).ss=m.ss.set j ⟨pl,ps,bs,s.said,s.lb⟩:=by
 have hj:=(List.getElem?_eq_some_iff.1 h).1
 unfold addM
 rw[if_neg (by omega),Int.toNat_natCast,stOf_in h]
theorem newBandM_ss (p q:Nat) (planes:Int) {j:Nat} (hj:j<p * q):(newBandM p q planes).ss[j]?=some stNew.m:=by
 simp only[newBandM,List.getElem?_replicate]
 rw[if_pos hj]
end
section
open Go.RowKit
def QSt (s:StG):Prop:=RowQ s.vp s.m.ps s.Hp∧RowB s.vb s.m.bs s.Hb∧s.m.Fits
def rbandB (bb ti tu:Nat) (vl:Value) (m:BandM):HB:=⟨bb,83,#[.int .i64 m.planes,vl,.pointer (some ⟨ti,0,none⟩),.pointer (some ⟨tu,0,none⟩),.bool m.set]⟩
structure RBandG where
 ti:Nat
 tu:Nat
 vl:Value
 Hl:List HB
 Hi:List HB
 Hu:List HB
 G:List StG
structure RBandG.ok (b:RBandG) (m:BandM) (ff fz:Bool):Prop where
 ss:b.G.map (·.m)=m.ss
 st:∀ s∈b.G,QSt s
 row:RowH 85 5 b.vl b.G.length (b.G.flatMap StG.v) b.Hl
 ti:RTreeH b.ti m.first ff b.Hi
 tu:RTreeH b.tu m.zeros fz b.Hu
 pl : -1000≤m.planes∧m.planes≤1000
def RBandG.heap (b:RBandG) (bb:Nat) (m:BandM):List HB:=rbandB bb b.ti b.tu b.vl m::(b.Hl++(b.Hi++(b.Hu++b.G.flatMap StG.heap)))
def RBandR (bb:Nat) (m:BandM) (ff fz:Bool) (H:List HB):Prop:=∃ b:RBandG,b.ok m ff fz∧H=b.heap bb m
theorem infoPart:(Tryz.prog.info? 85).map (fun i=>(i.zero,i.size,i.bytes))=some (some (.agg #[.int .i64 0,.slice none 0 0,.slice none 0 0,.int .i64 0,.int .i64 0]),5,72):=by kernel_rfl
def wIn (x:Int) (n:Nat):Nat:=(x % (n:Int)).toNat
theorem wIn_lt (x:Int) {n:Nat} (h:1≤n):wIn x n<n:=by
 have h1:=Int.emod_nonneg x (show (n:Int)≠0 by omega)
 have h2:=Int.emod_lt_of_pos x (show 0<(n:Int) by omega)
 unfold wIn
 omega
theorem wIn_cast (x:Int) {n:Nat} (h:1≤n):((wIn x n:Nat):Int)=x % (n:Int):=by
 have h1:=Int.emod_nonneg x (show (n:Int)≠0 by omega)
 unfold wIn
 omega
def valM (planes:Nat) (ns:List Int) (i:Nat):Int :=
 if ns.length=0 then 0 else
 let n:=ns.getD (i % ns.length) 0
 let m:=wIn (wrap64 (wrap64 (Int.tdiv n 64)+i)) (2 ^ wIn (wrap64 (Int.tdiv n 7)) (planes+1))
 let c:=wIn (wrap64 (n+(i / ns.length:Nat))) 5
 if c<2 then (m:Int) else if c<4 then -(m:Int) else 0
def valsM (planes:Nat) (ns:List Int):List Int:=(List.range 15).map (valM planes ns)
theorem valM_lt (planes:Nat) (ns:List Int) (i:Nat):(valM planes ns i).natAbs<2 ^ planes:=by
 have h0:0<2 ^ planes:=Nat.pow_pos (by decide)
 unfold valM
 split
 ·exact h0
 ·rename_i hn
  simp only
  generalize ns.getD (i % ns.length) 0=n
  have h1:=wIn_lt (wrap64 (Int.tdiv n 7)) (n:=planes+1) (by omega)
  have h2:=wIn_lt (wrap64 (wrap64 (Int.tdiv n 64)+i)) (n:=2 ^ wIn (wrap64 (Int.tdiv n 7)) (planes+1)) (Nat.pow_pos (by decide))
  have h3:2 ^ wIn (wrap64 (Int.tdiv n 7)) (planes+1)≤2 ^ planes:=Nat.pow_le_pow_right (by decide) (by omega)
  split
  ·omega
  ·split
   ·omega
   ·exact h0
def geoV (band style:Nat) (v:List Int):GeoM:=⟨3,5,band,style,v.map Int.natAbs,v.map fun n=>oneN (decide (n<0))⟩
theorem geoV_ok (band style planes:Nat) (ns:List Int) (h1:band≤3) (h2:style≤63) (h3:planes≤12):(geoV band style (valsM planes ns)).Ok :=
 ⟨by show 1≤3;decide,by show 3≤64;decide,by show 1≤5;decide,by show 5≤64;decide,h1,h2,by simp[geoV,valsM],by simp[geoV,valsM],by
  intro m hm
  simp only[geoV,valsM,List.map_map,List.mem_map] at hm
  obtain⟨i,-,rfl⟩:=hm
  have h:=valM_lt planes ns i
  have h4:2 ^ planes≤2 ^ 12:=Nat.pow_le_pow_right (by decide) h3
  have h5:(2:Nat) ^ 12=4096:=rfl
  show (valM planes ns i).natAbs<1073741824
  omega,by
  intro m hm
  simp only[geoV,List.mem_map] at hm
  obtain⟨i,-,rfl⟩:=hm
  exact oneN_le _⟩
theorem geoV_bounds (band style planes:Nat) (ns:List Int) (h3:planes≤12):(encodeM (geoV band style (valsM planes ns))).planes≤12∧(encodeM (geoV band style (valsM planes ns))).passes.length≤34∧(encodeM (geoV band style (valsM planes ns))).bytes.length≤200000 ∧
  (∀ p∈(encodeM (geoV band style (valsM planes ns))).passes,0≤p.1∧p.1≤200000):=by
 obtain⟨G,hG⟩:∃ G,geoV band style (valsM planes ns)=G:=⟨_,rfl⟩
 have hp:planesOf G.mag≤12:=planesOf_le G.mag 12 (by
  intro m hm
  rw[← hG] at hm
  simp only[geoV,valsM,List.map_map,List.mem_map] at hm
  obtain⟨i,-,rfl⟩:=hm
  have h:=valM_lt planes ns i
  have h4:2 ^ planes≤2 ^ 12:=Nat.pow_le_pow_right (by decide) h3
  exact Nat.lt_of_lt_of_le h h4)
 have hw:G.w * G.h=15:=by rw[← hG];rfl
 have hh:1≤G.h:=by rw[← hG];show 1≤5;decide
 rw[hG]
 obtain⟨ok,hb⟩:=encodeM_ok G hh
 have he:(encodeM G).planes=planesOf G.mag:=rfl
 rw[← he] at hp
 have h2:countM (encodeM G).planes≤34:=by unfold countM;omega
 have hn:(encodeM G).passes.length≤34:=by rw[ok.len];exact h2
 have h3:(encodeM G).bytes.length≤34 * 2948:=by
  refine Nat.le_trans hb ?_
  rw[hw]
  exact Nat.mul_le_mul_right _ h2
 exact⟨hp,hn,by omega,fun p hpm=>by have:=ok.pos p hpm;omega⟩
structure ShapeM where
 w:Int
 h:Int
 spare:Int
 planes:List Int
 ns:List Int
def ShapeM.W (s:ShapeM):Nat:=wIn s.w 4
def ShapeM.H (s:ShapeM):Nat:=wIn s.h 4
def ShapeM.most (s:ShapeM):Nat:=12+wIn s.spare 4
def ShapeM.n (s:ShapeM) (k:Nat):Nat:=if s.planes.length=0 then 0 else wIn (s.planes.getD (k % s.planes.length) 0) 13
theorem ShapeM.n_le (s:ShapeM) (k:Nat):s.n k≤12:=by
 unfold ShapeM.n
 split
 ·omega
 ·have:=wIn_lt (s.planes.getD (k % s.planes.length) 0) (n:=13) (by omega)
  omega
def ShapeM.blk (s:ShapeM) (i style k:Nat):BlkM:=encodeM (geoV (i % 4) style (valsM (s.n k) s.ns))
def ShapeM.new (s:ShapeM):BandM:=newBandM s.W s.H (s.most:Int)
def ShapeM.band (s:ShapeM) (i style:Nat):Nat→BandM
 | 0=>s.new
 | k+1=>addM (s.band i style k) (k:Int) ((s.blk i style k).planes:Int) (s.blk i style k).passes (s.blk i style k).bytes
theorem ShapeM.lt (s:ShapeM):s.W<4∧s.H<4∧12≤s.most∧s.most<16:=by
 have h1:=wIn_lt s.w (n:=4) (by omega)
 have h2:=wIn_lt s.h (n:=4) (by omega)
 have h3:=wIn_lt s.spare (n:=4) (by omega)
 unfold ShapeM.W ShapeM.H ShapeM.most
 omega
theorem ShapeM.band_ss (s:ShapeM) (i style:Nat):∀ k≤s.W * s.H,(s.band i style k).ss.length=s.W * s.H∧(∀ j,k≤j→j<s.W * s.H→(s.band i style k).ss[j]?=some stNew.m) ∧
  (s.band i style k).planes=(s.most:Int)∧(s.band i style k).w=s.W∧(s.band i style k).h=s.H∧(s.band i style k).set=false∧(s.band i style k).first=treeOf s.W s.H∧(s.band i style k).zeros=treeOf s.W s.H ∧
  ∀ x∈(s.band i style k).ss,x=stNew.m∨∃ j<k,x=⟨((s.blk i style j).planes:Int),(s.blk i style j).passes,(s.blk i style j).bytes,0,3⟩
 | 0,_=>⟨by simp[ShapeM.band,ShapeM.new,newBandM],fun j _ hj=>newBandM_ss _ _ _ hj,rfl,rfl,rfl,rfl,rfl,rfl,fun x hx=>.inl (List.eq_of_mem_replicate hx)⟩
 | k+1,hk=>by
  obtain⟨h1,h2,h3,h4,h5,h6,h7,h8,h9⟩:=ShapeM.band_ss s i style k (by omega)
  have h0:=h2 k (Nat.le_refl _) (by omega)
  have e:=addM_ss h0 ((s.blk i style k).planes:Int) (s.blk i style k).passes (s.blk i style k).bytes
  have e2:(s.band i style (k+1)).ss=(s.band i style k).ss.set k ⟨((s.blk i style k).planes:Int),(s.blk i style k).passes,(s.blk i style k).bytes,0,3⟩:=e
  have e3:∀ {α:Type} (f:BandM→α),(∀ (m:BandM) (ss:List StM),f { m with ss:=ss }=f m)→f (s.band i style (k+1))=f (s.band i style k):=by
   intro α f hf
   show f (addM _ _ _ _ _)=_
   unfold addM
   split
   ·rfl
   ·exact hf _ _
  refine⟨by rw[e2,List.length_set];exact h1,fun j hj1 hj2=>?_,(e3 BandM.planes fun _ _=>rfl).trans h3,(e3 BandM.w fun _ _=>rfl).trans h4,(e3 BandM.h fun _ _=>rfl).trans h5,(e3 BandM.set fun _ _=>rfl).trans h6,(e3 BandM.first fun _ _=>rfl).trans h7,(e3 BandM.zeros fun _ _=>rfl).trans h8,fun x hx=>?_⟩
  ·rw[e2,List.getElem?_set_ne (by omega)]
   exact h2 j (by omega) hj2
  ·rw[e2] at hx
   rcases List.mem_or_eq_of_mem_set hx with h | h
   ·rcases h9 x h with h | ⟨j,hj,h⟩
    ·exact .inl h
    ·exact .inr ⟨j,by omega,h⟩
   ·exact .inr ⟨k,by omega,h⟩
end
section
open Go.RowKit
theorem rlev_new (a w h:Nat) {j:Nat} (hj:j<w * h):(rlev a (levNew w h))[j]?=some (rUp a w h j,⟨0,0,false⟩):=by
 refine rlev_get ?_
 simp only[levNew,List.getElem?_replicate]
 rw[if_pos hj]
theorem rlev_new_length (a w h:Nat):(rlev a (levNew w h)).length=w * h:=by simp[rlev,levNew]
theorem rup_eq (n a b j:Nat) (h1:1<a * b) (ha:1≤a) (ha2:a≤64) (hab:a * b≤4096) (hj:j<a * b) (hn:n≤24576) :
  wrap64 (wrap64 ((n:Int)+(a:Int) * (b:Int)+wrap64 (wrap64 (Int.tdiv (wrap64 ((j:Int) / (a:Int))) 2) * (((a:Int)+1) / 2)))+wrap64 (Int.tdiv ((j:Int) % (a:Int)) 2))=rUp n a b j:=by
 unfold rUp
 rw[if_pos h1]
 have e1:(j:Int) / (a:Int)=((j / a:Nat):Int):=by push_cast;rfl
 have e2:(j:Int) % (a:Int)=((j % a:Nat):Int):=by push_cast;rfl
 have e3:(a:Int) * (b:Int)=((a * b:Nat):Int):=by push_cast;rfl
 rw[e1,e2,e3]
 clear e1 e2 e3
 have h2:j / a≤j:=Nat.div_le_self j a
 have h3:j % a<a:=Nat.mod_lt _ (by omega)
 generalize j / a=p at *
 generalize j % a=q at *
 generalize a * b=r at *
 have h6:p / 2≤4096:=by omega
 have h7:(a+1) / 2≤64:=by omega
 have h8:p / 2 * ((a+1) / 2)≤262144:=by
  have h9:p / 2 * ((a+1) / 2)≤4096 * ((a+1) / 2):=Nat.mul_le_mul_right _ h6
  omega
 have hu:q / 2≤64:=by omega
 have e7:((p / 2:Nat):Int) * (((a+1) / 2:Nat):Int)=((p / 2 * ((a+1) / 2):Nat):Int):=(Int.natCast_mul _ _).symm
 have W:Hid (∀ x:Int,0≤x→x≤1000000→wrap64 x=x):=Lib.hid fun x h1 h2=>IntWalk.wrap64_in x ⟨by omega,by omega⟩
 have D:Hid (∀ x:Nat,Int.tdiv (x:Int) 2=((x / 2:Nat):Int)):=Lib.hid fun x=>by rw[Int.tdiv_eq_ediv_of_nonneg (by omega)];omega
 have b1:(0:Int)≤(p:Int)∧(p:Int)≤1000000:=by omega
 have b2:(0:Int)≤((p / 2:Nat):Int)∧((p / 2:Nat):Int)≤1000000:=by omega
 have b3:(0:Int)≤((q / 2:Nat):Int)∧((q / 2:Nat):Int)≤1000000:=by omega
 rw[show ((a:Int)+1) / 2=(((a+1) / 2:Nat):Int) by omega,W.out _ b1.1 b1.2,D.out,D.out,W.out _ b2.1 b2.2,W.out _ b3.1 b3.2,e7]
 clear e7 b1 b2 b3
 generalize p / 2 * ((a+1) / 2)=t at *
 generalize q / 2=u at *
 have b1:(0:Int)≤(t:Int)∧(t:Int)≤1000000:=by omega
 have b2:(0:Int)≤(n:Int)+(r:Int)+(t:Int)∧(n:Int)+(r:Int)+(t:Int)≤1000000:=by omega
 have b3:(0:Int)≤(n:Int)+(r:Int)+(t:Int)+(u:Int)∧(n:Int)+(r:Int)+(t:Int)+(u:Int)≤1000000:=by omega
 push_cast
 rw[W.out _ b1.1 b1.2,W.out _ b2.1 b2.2,W.out _ b3.1 b3.2]
theorem rtree_new (x y:Nat) (W:World) (hx:x≤64) (hy:y≤64) :
  Calls Tryz.prog 51 #[.int .i64 (x:Int),.int .i64 (y:Int)] W fun e W'=>∃ tb H,e=.returned (.pointer (some ⟨tb,0,none⟩))∧RTreeH tb (treeOf x y) false H∧Mv W [] W' H:=by
 by_cases h0:x=0∨y=0
 ·have e0:treeOf x y=[]:=by unfold treeOf;rw[if_pos (by omega)]
  rw[e0]
  have M:=mv_alloc W 159 #[.slice none 0 0,.int .i64 0,.bool false]
  have T0:RTreeH W.heap.size [] false [⟨W.heap.size,159,#[.slice none 0 0,.int .i64 0,.bool false]⟩]:=⟨_,[],rfl,RowH.nil _ _⟩
  have K:=Lib.hid (And.intro M T0)
  have mx:(if (0:Int)<(x:Int) then (x:Int) else 0)=(x:Int):=by split <;> omega
  have my:(if (0:Int)<(y:Int) then (y:Int) else 0)=(y:Int):=by split <;> omega
  clear M T0 e0
  rcases h0 with rfl | rfl
  ·go_enter Tryz.func51,Tryz.ntmps51
   go_wp2_with fail
   go_ret
   exact⟨_,_,rfl,K.out.2,K.out.1⟩
  ·go_enter Tryz.func51,Tryz.ntmps51
   go_wp2_with fail
   go_ret
   exact⟨_,_,rfl,K.out.2,K.out.1⟩
 ·have hx1:1≤x:=by omega
  have hy1:1≤y:=by omega
  have e0:treeOf x y=treeNew 7 x y:=by unfold treeOf;rw[if_neg (by omega),Int.toNat_natCast,Int.toNat_natCast]
  rw[e0]
  have mx:(if (0:Int)<(x:Int) then (x:Int) else 0)=(x:Int):=by split <;> omega
  have my:(if (0:Int)<(y:Int) then (y:Int) else 0)=(y:Int):=by split <;> omega
  have hxy:x * y≤64 * 64:=Nat.mul_le_mul hx hy
  have hxy1:1 * 1≤x * y:=Nat.mul_le_mul hx1 hy1
  have b1:(x:Int) * (y:Int)≤4096:=by exact_mod_cast hxy
  have b2:1≤(x:Int) * (y:Int):=by exact_mod_cast hxy1
  have b3:((x:Int) * (y:Int) == 0)=false:=by simp only[beq_eq_false_iff_ne,ne_eq];omega
  have M:=mv_alloc W 159 #[.slice none 0 0,.int .i64 ((x:Int) * (y:Int)),.bool false]
  have hp6:(64:Nat)=2 ^ 6:=rfl
  have K:=Lib.hid (And.intro M (And.intro (show x≤2 ^ 6 by omega) (show y≤2 ^ 6 by omega)))
  have HL:Hid (leavesM (treeNew 7 x y)=x * y):=Lib.hid (by
   unfold treeNew
   split <;> simp[leavesM,levNew])
  have y0:=M.cell 0 rfl 1
  obtain⟨tb,htb⟩:∃ g,W.heap.size=g:=⟨_,rfl⟩
  rw[htb] at K
  have HTB:=Lib.hid htb
  clear M h0 e0 hp6 hxy hxy1
  go_enter Tryz.func51,Tryz.ntmps51
  go_upto_region 4 with fail
  (try simp only[htb])
  clear htb y0
  go_wp2_with fail
  go_loopg [6,7,8] 7 (fun m s6 s7 s8 wx=>∃ (f a b n:Nat) (l:List (Int × NodeM)) (v:Value) (Hl:List HB),m=f+1∧f≤6∧s6=.int .i64 (a:Int)∧s7=.int .i64 (b:Int)∧s8=.int .i64 (n:Int)∧l.length=n∧1≤a∧a≤2 ^ f∧1≤b∧b≤2 ^ f ∧
   n+f * 4096≤6 * 4096∧l++rnodes n (treeNew (f+1) a b)=rnodes 0 (treeNew 7 x y)∧RowH 162 4 v n (rnodesV l) Hl∧Mv W [] wx (⟨tb,159,#[v,.int .i64 ((x:Int) * (y:Int)),.bool false]⟩::Hl))
  case atStart=>exact⟨6,x,y,0,[],_,[],rfl,Nat.le_refl _,rfl,rfl,rfl,rfl,hx1,K.out.2.1,hy1,K.out.2.2,Nat.le_refl _,rfl,RowH.nil _ _,K.out.1⟩
  case round =>
   obtain⟨f,a,b,n,l,v,Hl,rfl,hf,rfl,rfl,rfl,hln,ha1,ha2,hb1,hb2,hn,hT,hr,m⟩:=hrel
   have h64:2 ^ f≤64:=Nat.pow_le_pow_right (n:=2) (by decide) hf
   have ha64:a≤64:=by omega
   have hb64:b≤64:=by omega
   have hab:a * b≤64 * 64:=Nat.mul_le_mul ha64 hb64
   have hab1:1 * 1≤a * b:=Nat.mul_le_mul ha1 hb1
   have c1:(a:Int) * (b:Int)≤4096:=by exact_mod_cast hab
   have c2:1≤(a:Int) * (b:Int):=by exact_mod_cast hab1
   have hn2:n≤24576:=by omega
   have KR:=Lib.hid (And.intro hln (And.intro ha2 (And.intro hb2 (And.intro hn hT))))
   have KM:=Lib.hid (And.intro hr m)
   obtain⟨q,hq⟩:∃ q,a * b=q:=⟨_,rfl⟩
   have HQ:=Lib.hid hq
   have hq1:1≤q∧q≤4096:=by omega
   obtain⟨hq1,hq2⟩:=hq1
   clear hln ha2 hb2 hn hT hr m h64 hab hab1 K hq
   go_wp2_with fail
   go_loopg [10] q (fun mm s10 wx=>∃ (j:Nat) (v:Value) (Hl:List HB),j≤q∧mm=q - j∧s10=.int .i64 (j:Int)∧RowH 162 4 v (n+j) (rnodesV (l++(rlev n (levNew a b)).take j)) Hl∧Mv W [] wx (⟨tb,159,#[v,.int .i64 ((x:Int) * (y:Int)),.bool false]⟩::Hl))
   case atStart=>exact⟨0,v,Hl,Nat.zero_le _,rfl,rfl,by simpa using KM.out.1,KM.out.2⟩
   case round =>
    clear KM
    obtain⟨j,v,Hl,hj,rfl,rfl,hr,m⟩:=hrel
    have z0:wr.cell? ⟨tb,0,none⟩=some v:=m.cell 0 rfl 0
    have z1:=m.frozen 0 rfl 0
    obtain⟨va,vc,rfl⟩:=hr.slice
    by_cases hlt:j<q
    ·have d1:decide ((j:Int)<(a:Int) * (b:Int))=true:=decide_eq_true (by have:=HQ.out;exact_mod_cast (by omega:j<a * b))
     have KA:=Lib.hid (And.intro hr m)
     have KH:=Lib.hid hr
     clear hr m
     by_cases h1:1<a * b
     ·have d2:decide (1<(a:Int) * (b:Int))=true:=decide_eq_true (by exact_mod_cast h1)
      have hrp:=Lib.hid (rup_eq n a b j h1 ha1 ha64 (by rw[HQ.out];exact hq2) (by rw[HQ.out];exact hlt) hn2)
      go_upto_region 11 with fail
      go_quiet (fail)
      simp only[hrp.out]
      clear hrp z0 z1 d2
      obtain⟨up,hup⟩:∃ up,rUp n a b j=up:=⟨_,rfl⟩
      simp only[hup]
      replace hup:=Lib.hid hup
      obtain⟨wq,hwq⟩:∃ wq,wr.drewN nq=wq:=⟨_,rfl⟩
      have mq:Mv W [] wq (⟨tb,159,#[.slice va (n+j) vc,.int .i64 ((x:Int) * (y:Int)),.bool false]⟩::Hl):=by rw[← hwq];exact KA.out.2.drewN nq
      rw[hwq]
      clear hwq KA
      have z0:wq.cell? ⟨tb,0,none⟩=some (.slice va (n+j) vc):=mq.cell 0 rfl 0
      have M4:=mq.alloc 162 #[.int .i64 0,.int .i64 0,.bool false,.int .i64 up]
      have M5:Mv W [] _ (Hl++(⟨wq.heap.size,162,#[.int .i64 0,.int .i64 0,.bool false,.int .i64 up]⟩::⟨tb,159,#[.slice va (n+j) vc,.int .i64 ((x:Int) * (y:Int)),.bool false]⟩::[])):=M4.sub (fun g=>by simp only[cnt_append,cnt_cons,cnt_nil];omega) (fun c hc=>by simp only[List.mem_append,List.mem_cons,List.not_mem_nil,or_false] at hc ⊢;grind)
      have K5:=Lib.hid (And.intro KH.out M5)
      clear M4 M5 mq KH
      go_upto_region 8 with (at_builtin;refine wpList_appR Tryz.underlying157 infoRn rfl (by decide) (by decide) rfl (.tmp 62) (.tmp 65) rfl (.slice va (n+j) vc) rfl rfl K5.out.1 K5.out.2.sat.left (reads_new rfl rfl) ?one ?len ?nxt;(case one=>(intro u hu;exact rnodesV_one [(up,⟨0,0,false⟩)] u hu));(case len=>omega);intro v6 w6 H6 h6 m6;obtain⟨a6,c6,rfl⟩:=h6.slice;have M6:=Mv.call K5.out.2 m6;have M7:Mv W [] w6 (⟨tb,159,#[.slice va (n+j) vc,.int .i64 ((x:Int) * (y:Int)),.bool false]⟩::H6):=M6.sub (fun g=>by simp only[cnt_append,cnt_cons,cnt_nil];omega) (fun c hc=>by simp only[List.mem_append,List.mem_cons,List.not_mem_nil,or_false] at hc ⊢;grind);have z2:w6.cell? ⟨tb,0,none⟩=some (.slice va (n+j) vc):=(by first | exact M7.cell 0 rfl 0);have z3:w6.frozen? ⟨tb,0,none⟩=false:=(by first | exact M7.frozen 0 rfl 0);have K6:=Lib.hid (And.intro h6 (M7.set 0 (.slice a6 (n+j+1) c6)));clear h6 m6 M6 M7)
      go_wp2_with fail
      go_roundg (q - (j+1))
      case measure=>omega
      case rel=>exact⟨j+1,_,H6,hlt,rfl,by push_cast;rfl,by rw[List.take_add_one,rlev_new n a b (by rw[HQ.out];exact hlt),Option.toList_some,← List.append_assoc,rnodesV_append,hup.out];exact K6.out.1,K6.out.2⟩
     ·have d2:decide (1<(a:Int) * (b:Int))=false:=decide_eq_false (by intro h;exact h1 (by exact_mod_cast h))
      clear z0 z1
      have hup:Hid (rUp n a b j = -1):=Lib.hid (by unfold rUp;rw[if_neg h1])
      obtain⟨wq,rfl⟩:∃ wq:World,wq=wr:=⟨_,rfl⟩
      have mq:Mv W [] wq (⟨tb,159,#[.slice va (n+j) vc,.int .i64 ((x:Int) * (y:Int)),.bool false]⟩::Hl):=KA.out.2
      clear KA
      have z0:wq.cell? ⟨tb,0,none⟩=some (.slice va (n+j) vc):=mq.cell 0 rfl 0
      have M4:=mq.alloc 162 #[.int .i64 0,.int .i64 0,.bool false,.int .i64 (-1)]
      have M5:Mv W [] _ (Hl++(⟨wq.heap.size,162,#[.int .i64 0,.int .i64 0,.bool false,.int .i64 (-1)]⟩::⟨tb,159,#[.slice va (n+j) vc,.int .i64 ((x:Int) * (y:Int)),.bool false]⟩::[])):=M4.sub (fun g=>by simp only[cnt_append,cnt_cons,cnt_nil];omega) (fun c hc=>by simp only[List.mem_append,List.mem_cons,List.not_mem_nil,or_false] at hc ⊢;grind)
      have K5:=Lib.hid (And.intro KH.out M5)
      clear M4 M5 mq KH
      go_upto_region 8 with (at_builtin;refine wpList_appR Tryz.underlying157 infoRn rfl (by decide) (by decide) rfl (.tmp 62) (.tmp 65) rfl (.slice va (n+j) vc) rfl rfl K5.out.1 K5.out.2.sat.left (reads_new rfl rfl) ?one2 ?len2 ?nxt2;(case one2=>(intro u hu;exact rnodesV_one [(-1,⟨0,0,false⟩)] u hu));(case len2=>omega);intro v6 w6 H6 h6 m6;obtain⟨a6,c6,rfl⟩:=h6.slice;have M6:=Mv.call K5.out.2 m6;have M7:Mv W [] w6 (⟨tb,159,#[.slice va (n+j) vc,.int .i64 ((x:Int) * (y:Int)),.bool false]⟩::H6):=M6.sub (fun g=>by simp only[cnt_append,cnt_cons,cnt_nil];omega) (fun c hc=>by simp only[List.mem_append,List.mem_cons,List.not_mem_nil,or_false] at hc ⊢;grind);have z2:w6.cell? ⟨tb,0,none⟩=some (.slice va (n+j) vc):=(by first | exact M7.cell 0 rfl 0);have z3:w6.frozen? ⟨tb,0,none⟩=false:=(by first | exact M7.frozen 0 rfl 0);have K6:=Lib.hid (And.intro h6 (M7.set 0 (.slice a6 (n+j+1) c6)));clear h6 m6 M6 M7)
      go_wp2_with fail
      go_roundg (q - (j+1))
      case measure=>omega
      case rel=>exact⟨j+1,_,H6,hlt,rfl,by push_cast;rfl,by rw[List.take_add_one,rlev_new n a b (by rw[HQ.out];exact hlt),Option.toList_some,← List.append_assoc,rnodesV_append,hup.out];exact K6.out.1,K6.out.2⟩
    ·have d1:decide ((j:Int)<(a:Int) * (b:Int))=false:=decide_eq_false (by intro h;have h2:=HQ.out;have h3:j<a * b:=(by exact_mod_cast h);omega)
     obtain rfl:j=q:=by omega
     have hj2:(rlev n (levNew a b)).take j=rlev n (levNew a b):=List.take_of_length_le (by rw[rlev_new_length,HQ.out];exact Nat.le_refl _)
     rw[hj2] at hr
     have KA:=Lib.hid (And.intro hr m)
     clear hr m z0 z1 hj2
     by_cases h1:j=1
     ·subst h1
      have h2:=HQ.out
      obtain⟨rfl,rfl⟩:a=1∧b=1:=⟨Nat.eq_one_of_mul_eq_one_right h2,Nat.eq_one_of_mul_eq_one_left h2⟩
      clear h2
      go_wp2_with fail
      go_ret
      obtain⟨k1,k2,k3,k4,k5⟩:=KR.out
      have e:l++rlev n (levNew 1 1)=rnodes 0 (treeNew 7 x y):=by
       rw[← k5]
       simp[treeNew,rnodes]
      have hlen:(rnodes 0 (treeNew 7 x y)).length=n+1:=by rw[← e,List.length_append,rlev_new_length,k1]
      (first | refine⟨tb,_,rfl,⟨.slice va (n+1) vc,Hl,?_,?_⟩,KA.out.2⟩ | refine⟨tb,rfl,_,⟨.slice va (n+1) vc,Hl,?_,?_⟩,KA.out.2⟩)
      ·rw[HL.out]
       push_cast
       rfl
      ·rw[hlen,← e]
       exact KA.out.1
     ·have d3:((a:Int) * (b:Int) == 1)=false:=by
       simp only[beq_eq_false_iff_ne,ne_eq]
       intro h
       have h2:=HQ.out
       have h3:a * b=1:=by exact_mod_cast h
       omega
      go_wp2_with fail
      obtain⟨k1,k2,k3,k4,k5⟩:=KR.out
      cases f with
      | zero =>
       have h2:=HQ.out
       obtain rfl:a=1:=by simp at k2;omega
       obtain rfl:b=1:=by simp at k3;omega
       omega
      | succ f =>
       rw[Nat.pow_succ] at k2 k3
       go_roundg (f+1)
       case measure=>omega
       case rel =>
        have hne:¬ (a=1∧b=1):=fun h=>by have h2:=HQ.out;rw[h.1,h.2] at h2;omega
        have e:treeNew (f+1+1) a b=levNew a b::treeNew (f+1) ((a+1) / 2) ((b+1) / 2):=by
         conv=>lhs;unfold treeNew
         rw[if_neg hne]
        refine⟨f,(a+1) / 2,(b+1) / 2,n+j,l++rlev n (levNew a b),_,Hl,rfl,by omega,by go_num,by go_num,?_,by rw[List.length_append,rlev_new_length,k1,HQ.out],by omega,by omega,by omega,by omega,by omega,?_,KA.out.1,KA.out.2⟩
        ·have h2:=HQ.out
         rw[← h2]
         push_cast
         rfl
        ·rw[← k5,e]
         simp only[rnodes,List.append_assoc,levNew,List.length_replicate,HQ.out]
end
section
open Go.RowKit
theorem stNew_q:QSt stNew:=⟨RowH.nil _ _,RowH.nil _ _,⟨by simp[stNew],by simp[stNew],by simp[stNew],by simp[stNew],by simp[stNew],by simp[stNew]⟩⟩
theorem stNew_heap (n:Nat):(List.replicate n stNew).flatMap StG.heap=[]:=by
 induction n with
 | zero=>rfl
 | succ n ih=>simp[StG.heap,stNew]
theorem partsV_one (G:List StG) (h:∀ s∈G,QSt s):∀ u∈G.flatMap StG.v,u.oneCell'=true:=by
 intro u hu
 obtain⟨s,hs,hu⟩:=List.mem_flatMap.1 hu
 obtain⟨h1,h2,-⟩:=h s hs
 obtain⟨a1,c1,e1⟩:=h1.slice
 obtain⟨a2,c2,e2⟩:=RowB.slice h2
 simp only[StG.v,List.mem_cons,List.not_mem_nil,or_false,e1,e2] at hu
 rcases hu with rfl | rfl | rfl | rfl | rfl <;> rfl
theorem rband_new (x y:Nat) (planes:Int) (W:World) (hx:x≤64) (hy:y≤64) (hp : -1000≤planes∧planes≤1000) :
  Calls Tryz.prog 16 #[.int .i64 (x:Int),.int .i64 (y:Int),.int .i64 planes] W fun e W'=>∃ bb H,e=.returned (.pointer (some ⟨bb,0,none⟩))∧RBandR bb (newBandM x y planes) false false H∧Mv W [] W' H:=by
 have T1:=Lib.hid fun V=>rtree_new x y V hx hy
 have mx:(if (0:Int)<(x:Int) then (x:Int) else 0)=(x:Int):=by split <;> omega
 have my:(if (0:Int)<(y:Int) then (y:Int) else 0)=(y:Int):=by split <;> omega
 have hxy:x * y≤64 * 64:=Nat.mul_le_mul hx hy
 have b1:(x:Int) * (y:Int)≤4096:=by exact_mod_cast hxy
 have b2:0≤(x:Int) * (y:Int):=by exact_mod_cast Nat.zero_le (x * y)
 obtain⟨n,hn⟩:∃ n,x * y=n:=⟨_,rfl⟩
 have hn4:n≤4096:=by omega
 have HN:=Lib.hid hn
 clear hn hxy
 go_enter Tryz.func16,Tryz.ntmps16
 have T2:=T1
 go_upto_region 2 with (first
  | (go_at_call 51;(with_reducible refine(T1.out _).mono ?_);rintro e w1 ⟨t1,H1,rfl,q2,q3⟩;have K1:=Lib.hid (And.intro q2 q3);clear q2 q3 T1)
  | (go_at_call 51;(with_reducible refine(T2.out _).mono ?_);rintro e w2 ⟨t2,H2,rfl,q2,q3⟩;have K2:=Lib.hid (And.intro q2 (Mv.call (H:=[]) (R:=H1) K1.out.2 q3));clear q2 q3 T2))
 obtain⟨bb,hbb⟩:∃ bb,w2.heap.size=bb:=⟨_,rfl⟩
 have M3:=K2.out.2.alloc 83 #[.int .i64 planes,.slice none 0 0,.pointer (some ⟨t1,0,none⟩),.pointer (some ⟨t2,0,none⟩),.bool false]
 rw[hbb] at M3
 have K3:=Lib.hid M3
 clear M3
 simp only[hbb]
 go_wp2_with fail
 go_loopg [8] n (fun mm s8 wx=>∃ (j:Nat) (v:Value) (Hl:List HB),j≤n∧mm=n - j∧s8=.int .i64 (j:Int)∧RowH 85 5 v j ((List.replicate j stNew).flatMap StG.v) Hl∧Mv W [] wx (⟨bb,83,#[.int .i64 planes,v,.pointer (some ⟨t1,0,none⟩),.pointer (some ⟨t2,0,none⟩),.bool false]⟩::(Hl++(H2++H1))))
 case atStart=>exact⟨0,_,[],Nat.zero_le _,rfl,rfl,RowH.nil _ _,K3.out⟩
 case round =>
  clear K3
  obtain⟨j,v,Hl,hj,rfl,rfl,hr,m⟩:=hrel
  have z0:wr.cell? ⟨bb,1,none⟩=some v:=m.cell 0 rfl 1
  have z1:=m.frozen 0 rfl 1
  obtain⟨va,vc,rfl⟩:=hr.slice
  by_cases hlt:j<n
  ·have d1:decide ((j:Int)<(x:Int) * (y:Int))=true:=decide_eq_true (by have:=HN.out;exact_mod_cast (by omega:j<x * y))
   have M4:=m.alloc 85 #[.int .i64 0,.slice none 0 0,.slice none 0 0,.int .i64 0,.int .i64 3]
   have M5:Mv W [] _ (Hl++(⟨wr.heap.size,85,#[.int .i64 0,.slice none 0 0,.slice none 0 0,.int .i64 0,.int .i64 3]⟩::⟨bb,83,#[.int .i64 planes,.slice va j vc,.pointer (some ⟨t1,0,none⟩),.pointer (some ⟨t2,0,none⟩),.bool false]⟩::(H2++H1))):=M4.sub (fun g=>by simp only[cnt_append,cnt_cons];omega) (fun c hc=>by simp only[List.mem_append,List.mem_cons] at hc ⊢;grind)
   have KA:=Lib.hid (And.intro hr M5)
   clear hr m M4 M5
   go_upto_region 4 with (at_builtin;refine wpList_appR Tryz.underlying80 infoPart rfl (by decide) (by decide) rfl (.tmp 31) (.tmp 33) rfl (.slice va j vc) rfl rfl KA.out.1 KA.out.2.sat.left (reads_new rfl rfl) ?one ?len ?nxt;(case one=>(intro u hu;exact partsV_one [⟨⟨0,[],[],0,3⟩,.slice none 0 0,.slice none 0 0,[],[]⟩] (fun s hs=>by rw[List.mem_singleton.1 hs];exact stNew_q) u hu));(case len=>omega);intro v6 w6 H6 h6 m6;obtain⟨a6,c6,rfl⟩:=h6.slice;have M6:=Mv.call KA.out.2 m6;have M7:Mv W [] w6 (⟨bb,83,#[.int .i64 planes,.slice va j vc,.pointer (some ⟨t1,0,none⟩),.pointer (some ⟨t2,0,none⟩),.bool false]⟩::(H6++(H2++H1))):=M6.sub (fun g=>by simp only[cnt_append,cnt_cons];omega) (fun c hc=>by simp only[List.mem_append,List.mem_cons] at hc ⊢;grind);have z2:w6.cell? ⟨bb,1,none⟩=some (.slice va j vc):=(by first | exact M7.cell 0 rfl 1);have z3:w6.frozen? ⟨bb,1,none⟩=false:=(by first | exact M7.frozen 0 rfl 1);have K6:=Lib.hid (And.intro h6 (M7.set 1 (.slice a6 (j+1) c6)));clear h6 m6 M6 M7)
   go_wp2_with fail
   go_roundg (n - (j+1))
   case measure=>omega
   case rel =>
    refine⟨j+1,_,H6,hlt,rfl,by push_cast;rfl,?_,K6.out.2⟩
    have e:(List.replicate (j+1) stNew).flatMap StG.v=(List.replicate j stNew).flatMap StG.v++[.int .i64 0,.slice none 0 0,.slice none 0 0,.int .i64 0,.int .i64 3]:=by
     rw[List.replicate_succ',List.flatMap_append]
     rfl
    rw[e]
    exact K6.out.1
  ·have d1:decide ((j:Int)<(x:Int) * (y:Int))=false:=decide_eq_false (by intro h;have h2:=HN.out;have h3:j<x * y:=(by exact_mod_cast h);omega)
   obtain rfl:j=n:=by omega
   have KA:=Lib.hid (And.intro hr m)
   clear hr m z0 z1
   go_wp2_with fail
   go_ret
   have RB:RBandR bb (newBandM x y planes) false false (⟨bb,83,#[.int .i64 planes,.slice va j vc,.pointer (some ⟨t1,0,none⟩),.pointer (some ⟨t2,0,none⟩),.bool false]⟩::(Hl++(H1++(H2++[])))):=by
    refine⟨⟨t1,t2,.slice va j vc,Hl,H1,H2,List.replicate j stNew⟩,⟨?_,?_,?_,K1.out.1,K2.out.1,hp⟩,?_⟩
    ·simp only[newBandM,List.map_replicate,HN.out]
    ·intro s hs
     rw[List.eq_of_mem_replicate hs]
     exact stNew_q
    ·simpa using KA.out.1
    ·simp only[RBandG.heap,rbandB,stNew_heap]
     rfl
   have M9:Mv W [] wr (⟨bb,83,#[.int .i64 planes,.slice va j vc,.pointer (some ⟨t1,0,none⟩),.pointer (some ⟨t2,0,none⟩),.bool false]⟩::(Hl++(H1++(H2++[])))):=KA.out.2.sub (fun g=>by simp only[cnt_append,cnt_cons,cnt_nil];omega) (fun c hc=>by simp only[List.mem_append,List.mem_cons,List.not_mem_nil,or_false] at hc ⊢;grind)
   first
    | exact⟨bb,_,rfl,RB,M9⟩
    | exact⟨bb,rfl,_,RB,M9⟩
theorem part_cells {w:World} {vl:Value} {G:List StG} {Hl:List HB} (h:RowH 85 5 vl G.length (G.flatMap StG.v) Hl) (hs:Sat w Hl) {k:Nat} {s:StG} (hk:G[k]?=some s) :
  ∃ g c,vl=.slice (some ⟨g,0,none⟩) G.length c∧w.cell? ⟨g,k * 5,none⟩=some (.int .i64 s.m.pl)∧w.cell? ⟨g,k * 5+1,none⟩=some s.vp∧w.cell? ⟨g,k * 5+2,none⟩=some s.vb∧w.cell? ⟨g,k * 5+3,none⟩=some (.int .i64 s.m.said)∧w.cell? ⟨g,k * 5+4,none⟩=some (.int .i64 s.m.lb)∧∀ i,i<G.length * 5→w.frozen? ⟨g,i,none⟩=false:=by
 have hkl:=(List.getElem?_eq_some_iff.1 hk).1
 obtain⟨g,cap,cur,rfl,h1,h2,h3,h4,rfl⟩:=h.form (by omega)
 have hc:=fun j (hj:j<5)=>h.cell hs rfl (k * 5+j) (by omega)
 have hg:=fun j (hj:j<5)=>flat_get StG.v 5 StG.v_length G k s hk j hj
 exact⟨g,cap,rfl,(hc 0 (by omega)).1.trans (hg 0 (by omega)),(hc 1 (by omega)).1.trans (hg 1 (by omega)),(hc 2 (by omega)).1.trans (hg 2 (by omega)),(hc 3 (by omega)).1.trans (hg 3 (by omega)),(hc 4 (by omega)).1.trans (hg 4 (by omega)),fun i hi=>(h.cell hs rfl i hi).2⟩
theorem parts_set {G:List StG} {k:Nat} {s:StG} (h:G[k]?=some s) (pl:Int) (ps:List (Int × Bool)) (bs:List UInt8) (vp vb:Value) (Hp Hb:List HB) :
  ((((G.flatMap StG.v).set (k * 5) (.int .i64 pl)).set (k * 5+1) vp).set (k * 5+2) vb)=(G.set k (s.withB pl ps bs vp vb Hp Hb)).flatMap StG.v:=by
 have hk:=(List.getElem?_eq_some_iff.1 h).1
 have e1:=flat_set StG.v 5 StG.v_length G k s ⟨{ s.m with pl:=pl },s.vp,s.vb,s.Hp,s.Hb⟩ h 0 (by omega) (.int .i64 pl) rfl
 have e2:=flat_set StG.v 5 StG.v_length (G.set k ⟨{ s.m with pl:=pl },s.vp,s.vb,s.Hp,s.Hb⟩) k _ ⟨{ s.m with pl:=pl },vp,s.vb,s.Hp,s.Hb⟩ (List.getElem?_set_self hk) 1 (by omega) vp rfl
 rw[List.set_set] at e2
 have e3:=flat_set StG.v 5 StG.v_length (G.set k ⟨{ s.m with pl:=pl },vp,s.vb,s.Hp,s.Hb⟩) k _ (s.withB pl ps bs vp vb Hp Hb) (List.getElem?_set_self hk) 2 (by omega) vb rfl
 rw[List.set_set] at e3
 rw[Nat.add_zero] at e1
 rw[e1,e2,e3]
theorem radd_any (bb:Nat) (m:BandM) (ff fz:Bool) (H Hp Hb:List HB) (W:World) (hB:RBandR bb m ff fz H) (hs:Sat W (H++(Hp++Hb))) (k:Nat) (hk:k<m.ss.length) (hn5:m.ss.length≤10000) (pl:Int) (vp:Value) (ba:Option Addr) (bn bc:Nat) (ps:List (Int × Bool)) (bs:List UInt8) (hp:RowQ vp ps Hp) (hb:RowB (.slice ba bn bc) bs Hb)
  (hpl : -1000≤pl∧pl≤1000) (hn:ps.length≤1000) (hm:bs.length≤10000000) (he:∀ p∈ps,0≤p.1∧p.1≤100000000) (hsd:(stOf m k).said≤ps.length) :
  Calls Tryz.prog 21 #[.pointer (some ⟨bb,0,none⟩),.int .i64 (k:Int),.agg #[.int .i64 pl,vp,.slice ba bn bc]] W fun e W'=>e=.returned (.tuple #[])∧∃ H',RBandR bb (addM m k pl ps bs) ff fz H'∧Mv W (H++(Hp++Hb)) W' H':=by
 obtain⟨b,hb0,rfl⟩:=hB
 have hlen:b.G.length=m.ss.length:=by rw[← hb0.ss,List.length_map]
 obtain⟨s,hg⟩:∃ s,b.G[k]?=some s:=⟨_,List.getElem?_eq_getElem (by omega)⟩
 have hms:m.ss[k]?=some s.m:=by rw[← hb0.ss,List.getElem?_map,hg];rfl
 have hso:=hb0.st s (List.mem_of_getElem? hg)
 have e0:stOf m (k:Int)=s.m:=stOf_in hms
 rw[e0] at hsd
 obtain⟨pa,pc,rfl⟩:=hp.slice
 obtain⟨w1,hw1⟩:∃ w1,w1=W.alloc (.cells #[.int .i64 pl,.slice pa ps.length pc,.slice ba bn bc] 51):=⟨_,rfl⟩
 have M1:=(Mv.refl hs).alloc 51 #[.int .i64 pl,.slice pa ps.length pc,.slice ba bn bc]
 rw[← hw1] at M1
 obtain⟨R,hR⟩:∃ R,b.Hi++(b.Hu++b.G.flatMap StG.heap)=R:=⟨_,rfl⟩
 have M2:Mv W (b.heap bb m++(Hp++Hb)) w1 (b.Hl++(⟨W.heap.size,51,#[.int .i64 pl,.slice pa ps.length pc,.slice ba bn bc]⟩::rbandB bb b.ti b.tu b.vl m::(R++(Hp++Hb)))):=M1.sub (fun g=>by simp only[RBandG.heap,hR,cnt_append,cnt_cons];omega) (fun c hc=>by simp only[RBandG.heap,hR,List.mem_append,List.mem_cons] at hc ⊢;grind)
 obtain⟨lg,lc,hvl,c0,c1,c2,-,-,fz0⟩:=part_cells hb0.row M2.sat.left hg
 have y0:w1.cell? ⟨W.heap.size,0,none⟩=some (.int .i64 pl):=M1.cell 0 rfl 0
 have y1:w1.cell? ⟨W.heap.size,1,none⟩=some (.slice pa ps.length pc):=M1.cell 0 rfl 1
 have y2:w1.cell? ⟨W.heap.size,2,none⟩=some (.slice ba bn bc):=M1.cell 0 rfl 2
 have z0:w1.cell? ⟨bb,1,none⟩=some (.slice (some ⟨lg,0,none⟩) b.G.length lc):=by
  rw[← hvl]
  exact M1.cell 1 rfl 1
 have f0:=fz0 (k * 5) (by omega)
 have f1:=fz0 (k * 5+1) (by omega)
 have f2:=fz0 (k * 5+2) (by omega)
 have FIN:Hid (∀ w2,Mv W (b.heap bb m++(Hp++Hb)) w2 (b.Hl++(⟨W.heap.size,51,#[.int .i64 pl,.slice pa ps.length pc,.slice ba bn bc]⟩::rbandB bb b.ti b.tu b.vl m::(R++(Hp++Hb)))) →
   ∃ H',RBandR bb (addM m k pl ps bs) ff fz H'∧Mv W (b.heap bb m++(Hp++Hb)) (((w2.setCell ⟨lg,k * 5,none⟩ (.int .i64 pl)).setCell ⟨lg,k * 5+1,none⟩ (.slice pa ps.length pc)).setCell ⟨lg,k * 5+2,none⟩ (.slice ba bn bc)) H'):=Lib.hid (by
  intro w2 m2
  obtain⟨H1,r1,q1⟩:=hb0.row.set m2.sat.left hvl (k * 5) (.int .i64 pl) (by omega)
  obtain⟨H2,r2,q2⟩:=r1.set q1.sat hvl (k * 5+1) (.slice pa ps.length pc) (by omega)
  obtain⟨H3,r3,q3⟩:=r2.set q2.sat hvl (k * 5+2) (.slice ba bn bc) (by omega)
  have m3:=Mv.call m2 (Mv.call (R:=[]) (by simpa using Mv.call (R:=[]) (by simpa using q1) q2) q3)
  rw[parts_set hg pl ps bs (.slice pa ps.length pc) (.slice ba bn bc) Hp Hb] at r3
  refine⟨_,⟨{ b with Hl:=H3,G:=b.G.set k (s.withB pl ps bs (.slice pa ps.length pc) (.slice ba bn bc) Hp Hb) },⟨?_,?_,?_,?_,?_,?_⟩,rfl⟩,m3.sub (fun g=>?_) (fun c hc=>?_)⟩
  ·rw[addM_ss hms,← hb0.ss,List.map_set]
   rfl
  ·intro x hx
   rcases List.mem_or_eq_of_mem_set hx with h | rfl
   ·exact hb0.st x h
   ·exact⟨hp,hb,⟨hn,hm,hpl,⟨hso.2.2.said.1,hsd⟩,hso.2.2.lb,he⟩⟩
  ·simp only[List.length_set]
   exact r3
  ·have:=hb0.ti
   unfold addM
   split
   ·exact this
   ·exact this
  ·have:=hb0.tu
   unfold addM
   split
   ·exact this
   ·exact this
  ·have:=hb0.pl
   unfold addM
   split
   ·exact this
   ·exact this
  ·have:=cnt_flatMap_set StG.heap (s.withB pl ps bs (.slice pa ps.length pc) (.slice ba bn bc) Hp Hb) g b.G k s hg
   have e:cnt g (StG.heap (s.withB pl ps bs (.slice pa ps.length pc) (.slice ba bn bc) Hp Hb))=cnt g (Hp++Hb):=rfl
   rw[← hR]
   simp only[RBandG.heap,rbandB,cnt_append,cnt_cons,cnt_nil] at this e ⊢
   omega
  ·rw[← hR]
   simp only[RBandG.heap,List.mem_append,List.mem_cons,List.not_mem_nil,or_false] at hc ⊢
   rcases hc with h | h | h | h | h
   ·refine .inr (.inr (.inl ?_))
    rw[h]
    unfold rbandB addM
    split <;> rfl
   ·exact .inl h
   ·exact .inr (.inr (.inr (.inl (.inl h))))
   ·exact .inr (.inr (.inr (.inl (.inr (.inl h)))))
   ·rcases mem_flatMap_set StG.heap h with h1 | h1
    ·exact .inr (.inr (.inr (.inl (.inr (.inr h1)))))
    ·exact .inr (.inr (.inr (.inr (List.mem_append.1 h1)))))
 have K2:=Lib.hid M2
 have hkg:(k:Int)<(b.G.length:Int):=by omega
 have hk5:k * 5<100000:=by omega
 have hgl:b.G.length≤10000:=by omega
 obtain⟨gl,hgl2⟩:∃ gl,b.G.length=gl:=⟨_,rfl⟩
 rw[hgl2] at z0 hkg hgl
 obtain⟨np,hnp⟩:∃ np,ps.length=np:=⟨_,rfl⟩
 rw[hnp] at FIN K2 y1 hw1 ⊢
 clear hgl2 hs hb0 hlen hg hms hso e0 hsd M1 M2 hR hp hb hn hm he fz0 hvl hn5 hk hnp
 go_enter Tryz.func21,Tryz.ntmps21
 go_upto_region 1 with fail
 rw[← hw1]
 clear hw1
 go_upto_region 2 with fail
 go_still_tail 8,(by kernel_rfl)
 go_wp2_with fail
 obtain⟨H',h1,h2⟩:=FIN.out _ K2.out
 exact bodyPost_end (results_none rfl _ _ _) rfl ⟨rfl,H',h1,h2.drew⟩
end
section
open Go.RowKit
def setLeaf (T:List LevM) (k:Nat) (n:Int):List LevM :=
 match T with
 | []=>[]
 | L::R=>(match L.l[k]? with | some x=>{ L with l:=L.l.set k { x with n:=n } } | none=>L)::R
def rplantStep (count:Nat) (m:BandM) (k:Nat):BandM :=
 match m.ss[k]? with
 | none=>m
 | some s=>{ m with first:=setLeaf m.first k (frN count s.ps.length),zeros:=setLeaf m.zeros k (m.planes - s.pl) }
def rplantTo (count:Nat) (m:BandM) (k:Nat):BandM:=(List.range k).foldl (rplantStep count) { m with set:=true }
theorem rplantTo_succ (count:Nat) (m:BandM) (k:Nat):rplantTo count m (k+1)=rplantStep count (rplantTo count m k) k:=by
 unfold rplantTo
 rw[List.range_succ,List.foldl_append]
 rfl
def LeafOk (T:List LevM) (n:Nat):Prop:=(∃ L R,T=L::R∧L.l.length=n)∧offT T T.length≤100000
theorem setLeaf_ok {T:List LevM} {n:Nat} (h:LeafOk T n) (k:Nat) (v:Int):LeafOk (setLeaf T k v) n:=by
 obtain⟨⟨L,R,rfl,hl⟩,ho⟩:=h
 have e:(match L.l[k]? with | some x=>{ L with l:=L.l.set k { x with n:=v } } | none=>L).l.length=L.l.length:=by
  split
  ·simp
  ·rfl
 refine⟨⟨_,R,rfl,e.trans hl⟩,?_⟩
 unfold setLeaf
 simp only[List.length_cons,offT] at ho ⊢
 rw[e]
 exact ho
end
section
open Go.RowKit
def zerosIf (T1:List LevM) (k z from_:Nat):List Bool:=if from_=0 then (zerosE T1 k (z+1)).2 else []
def zerosTo (T T1:List LevM) (k z from_:Nat):List LevM:=if from_=0 then (zerosE T1 k (z+1)).1 else T
end
section
open Go.RowKit
theorem sizes_up (style to_:Nat) (ends:List Int) (hm:∀ i j,i≤j→j<to_→ends.getD i 0≤ends.getD j 0) (h8:∀ i,0≤ends.getD i 0∧ends.getD i 0≤100000000) :
  ∀ (f k b:Nat) (was:Int),f=to_ - k→0≤was→(k<to_→was≤ends.getD k 0)→∀ e∈sizesM ends was (pcs style to_ f k b),0≤e∧e≤100000000
 | 0,_,_,_,_,_,_,e,he=>by cases he
 | f+1,k,b,was,hf,hw,hwk,e,he=>by
  have h1:=hwk (by omega)
  have h2:=h8 k
  have hn:k+1<to_→ends.getD k 0≤ends.getD (k+1) 0:=fun h=>hm k (k+1) (by omega) h
  rw[pcs] at he
  split at he
  ·rw[sizesM,Nat.add_sub_cancel] at he
   rcases List.mem_cons.1 he with rfl | he
   ·omega
   ·exact sizes_up style to_ ends hm h8 f (k+1) (k+1) _ (by omega) h2.1 hn e he
  ·exact sizes_up style to_ ends hm h8 f (k+1) b was (by omega) hw (fun h=>Int.le_trans h1 (hn h)) e he
theorem segL2_up (s:StM) (style from_ to_:Nat) (hto:to_≤s.ps.length) (he:∀ p∈s.ps,0≤p.1∧p.1≤100000000) (hup:∀ i j,i≤j→j<s.ps.length→(s.ps.map (·.1)).getD i 0≤(s.ps.map (·.1)).getD j 0) (i:Nat) (hi:i<(piecesM style from_ to_).length) :
  0≤(segL2 s style from_ to_).getD i 0∧(segL2 s style from_ to_).getD i 0≤100000000:=by
 have h8:=getD_bd (s.ps.map (·.1)) (by intro e h;obtain⟨p,hp,rfl⟩:=List.mem_map.1 h;exact he p hp)
 have hl:i<(segL2 s style from_ to_).length:=by unfold segL2;rw[sizesM_length];exact hi
 rw[List.getD_eq_getElem?_getD,List.getElem?_eq_getElem hl,Option.getD_some]
 refine sizes_up style to_ (s.ps.map fun p:Int × Bool=>p.1) (fun i j h1 h2=>hup i j h1 (by omega)) h8 (to_ - from_) from_ from_ (was0 (s.ps.map fun p:Int × Bool=>p.1) from_) rfl ?_ ?_ _ (List.getElem_mem (l:=segL2 s style from_ to_) hl)
 ·unfold was0
  split
  ·exact Int.le_refl _
  ·exact(h8 _).1
 ·intro h
  unfold was0
  split
  ·exact(h8 _).1
  ·exact hup _ _ (by omega) (by omega)
end
end Go.Proofs.YtjngfhgakokejaaGreat
