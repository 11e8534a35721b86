/- Rows of passes: append, a copy. A copy of passes. A block of one's own: a copy. A band's k-th block: a copy of what is known of it. A band of which nothing is new: written; the law's example. waveletref8: rows of passes: append; one is changed. waveletref8: a block on its way: what is in memory. waveletref8.Encode: a value is laid into the coder. waveletref4: an encoder's bytes are shut. -/
import Derived.Test.YtjngfhgakokejaaGreatCp12
import Derived.WalkLawsBesides
import Derived.Deep.RegionHeld3
import Derived.Test.YtjngfhgakokejaaGreatCp07
import Derived.Test.YtjngfhgakokejaaGreatCp11
import Derived.Test.YtjngfhgakokejaaGreatCp06
import Derived.Test.YtjngfhgakokejaaGreatCp10
set_option maxRecDepth 100000
set_option maxHeartbeats 8000000
set_option linter.all false
namespace Go.Proofs.YtjngfhgakokejaaGreat
section
open Go.RowKit
theorem infoPs:(Tryz.prog.info? 142).map (fun i=>(i.zero,i.size,i.bytes))=some (some (.agg #[.int .i64 0,.bool false]),2,16):=by kernel_rfl
def RowP (v:Value) (l:List (Int × Bool)) (H:List HB):Prop:=RowH 142 2 v l.length (passesV l) H
def PV (w:World) (v:Value) (l:List (Int × Bool)):Prop:=∃ A c,v=.slice A l.length c∧l.length≤c∧c≤maxLen∧Reads w w.heap.size 2 A l.length (passesV l)
theorem passesV_append (a b:List (Int × Bool)):passesV (a++b)=passesV a++passesV b:=by simp[passesV]
theorem passesV_one (l:List (Int × Bool)):∀ u:Value,u∈passesV l→u.oneCell'=true:=by
 intro u hu
 simp only[passesV,passV,List.mem_flatMap,List.mem_cons,List.not_mem_nil,or_false] at hu
 obtain⟨p,-,rfl | rfl⟩:=hu <;> rfl
theorem RowP.slice {v:Value} {l:List (Int × Bool)} {H:List HB} (h:RowP v l H):∃ a c,v=.slice a l.length c:=RowH.slice h
theorem PV.keep {w w':World} {v:Value} {l:List (Int × Bool)} (h:PV w v l) (hb:Below w.heap.size w w'):PV w' v l:=by
 obtain⟨A,c,h1,h2,h3,h4⟩:=h
 exact⟨A,c,h1,h2,h3,(h4.below hb).more hb.size⟩
theorem RowP.pv {w:World} {v:Value} {l:List (Int × Bool)} {H:List HB} (h:RowP v l H) (hs:Sat w H):PV w v l:=by
 have ho:=RowH.owns h hs (B:=0) (fun _ _=>Nat.zero_le _)
 rcases h.2 with ⟨rfl,h2,h3⟩ | ⟨g,cap,cur,rfl,h1,h2,-⟩
 ·exact⟨none,0,by rw[h2],by omega,by unfold maxLen;omega,Reads.of_own (by rw[h2] at ho ⊢;exact ho)⟩
 ·exact⟨_,cap,rfl,h1,h2,Reads.of_own ho⟩
theorem run_appP {w:World} {v u:Value} {l r:List (Int × Bool)} {H:List HB} (h:RowP v l H) (hs:Sat w H) (hu:PV w u r) (hl:l.length+r.length≤100000000) (ty:TypeId) :
  ∃ v' w' H',(Builtin.append_ #[56,56] ty #[v,u]).run Tryz.prog w=.ok v' w'∧RowP v' (l++r) H'∧Mv w H w' H':=by
 obtain⟨A,c,rfl,h1,h2,h3⟩:=hu
 obtain⟨i0,hti,hz0,hz1,hz2⟩:=info_parts infoPs
 obtain⟨v',w',hrun,k1,k2,k3⟩:=run_append_any (P:=Tryz.prog) w 0 56 ty 142 i0 _ 2 16 Tryz.underlying56 hti hz0 hz1 hz2 rfl (by decide) v l.length (passesV l) (RowH.owns h hs (fun _ _=>Nat.zero_le _)) w.heap.size A r.length c (passesV r) h3 (passesV_one r) (by unfold maxLen;omega) (by omega) (Nat.zero_le _)
 obtain⟨H',k4,k5⟩:=mv_owns_grown h k1 k2 k3
 refine⟨v',w',H',hrun,?_,k5⟩
 unfold RowP
 rw[List.length_append,passesV_append]
 exact k4
section
variable {ops:Array Oper} {rest:List Oper} {o:Oper} {a:Act} {w:World} {K:Act→World→Prop} {Q:Exit→Act→World→Prop} {E:Prop}
theorem wp_appP (s x:Operand) (ho:o.op=.call { callee:=.builtin .append,args:=#[s,x],argTypes:=#[56,56] }) (v u:Value) (l r:List (Int × Bool)) (H:List HB)
  (hsv:a.eval s=v) (hxu:a.eval x=u) (h:RowP v l H) (hs:Sat w H) (hu:PV w u r) (hl:l.length+r.length≤100000000)
  (hK:∀ v' w' H',RowP v' (l++r) H'→Mv w H w' H'→K (a.put o.dst v') w'):o.wp Tryz.prog a w K Q:=by
 obtain⟨v',w',H',hrun,h1,h2⟩:=run_appP h hs hu hl o.type
 unfold Oper.wp execOp
 simp only[ho,resolve,invoke,builtin,Sem.run_bind,Sem.run_pure,Result.andThen_ok,List.map_toArray,List.map_cons,List.map_nil,hsv,hxu,hrun]
 exact hK v' w' H' h1 h2
theorem wpList_appP (hgd:o.guard=none) (s x:Operand) (ho:o.op=.call { callee:=.builtin .append,args:=#[s,x],argTypes:=#[56,56] }) (v u:Value) (l r:List (Int × Bool)) (H:List HB)
  (hsv:a.eval s=v) (hxu:a.eval x=u) (h:RowP v l H) (hs:Sat w H) (hu:PV w u r) (hl:l.length+r.length≤100000000)
  (hK:∀ v' w' H',RowP v' (l++r) H'→Mv w H w' H'→wpList Tryz.prog ops Q rest (a.put o.dst v') w'):wpList Tryz.prog ops Q (o::rest) a w :=
 wpList_plain hgd fun _ hk=>wp_appP s x ho v u l r H hsv hxu h hs hu hl fun v' w' H' h1 h2=>hk _ _ (hK v' w' H' h1 h2)
end
end
section
open Go.RowKit
theorem cloneP_any (v:Value) (l:List (Int × Bool)) (w:World) (hv:PV w v l) (hn:l.length≤1000000) :
  Calls Tryz.prog 105 #[v] w fun e w'=>∃ v' H',e=.returned v'∧RowP v' l H'∧Mv w [] w' H':=by
 obtain⟨A,c,rfl,h1,h2,hr⟩:=hv
 have HV:=Lib.hid hr
 have hq:∀ W,(binOp .eql 56 (.slice A l.length c) (.slice none 0 0)).run Tryz.prog W=.ok (.bool A.isNone) W:=fun W=>Lib.run_eql_slice_nil W 56 142 A l.length c 0 0 Tryz.underlying56
 rcases A with _ | ad
 ·have h0:l.length=0:=by
   rcases Nat.eq_zero_or_pos l.length with h | h
   ·exact h
   ·obtain⟨_,h,_⟩:=hr.2 (by omega);cases h
  have hl:l=[]:=List.eq_nil_of_length_eq_zero h0
  subst hl
  clear hr HV hn h1 h0
  simp only[List.length_nil] at hq ⊢
  go_enter Tryz.func105,Tryz.ntmps105
  go_wp2
  go_ret
  exact⟨_,[],rfl,RowH.nil _ _,Mv.refl (Sat.nil w)⟩
 ·have M0:=mv_alloc w 142 #[]
  have B0:PV (w.alloc (.cells #[] 142)) (.slice (some ad) l.length c) l:=⟨some ad,c,rfl,h1,h2,(hr.alloc (Nat.le_refl _) _).more (by simp)⟩
  have R0:RowP (.slice (some ⟨w.heap.size,0,none⟩) 0 0) [] [⟨w.heap.size,142,#[]⟩]:=RowH.new 142 w.heap.size 0 #[] (by simp) (by decide)
  have K:=Lib.hid (And.intro M0 (And.intro B0 R0))
  obtain⟨n,hnn⟩:∃ n,l.length=n:=⟨_,rfl⟩
  have HN:=Lib.hid hnn
  rw[hnn] at hq hn h1 K
  rw[hnn]
  clear hr HV M0 B0 R0 hnn
  go_enter Tryz.func105,Tryz.ntmps105
  go_wp2_with (at_builtin;go_must (refine wpList_appP rfl (.tmp 5) (.tmp 6) rfl _ _ [] l _ rfl rfl K.out.2.2 K.out.1.sat K.out.2.1 (by rw[HN.out];simp;omega) ?_;intro v' w1 H1 hr1 m1;obtain⟨a1,c1,rfl⟩:=hr1.slice;have K1:=Lib.hid (And.intro hr1 m1);clear hr1 m1))
  go_ret
  exact⟨_,H1,rfl,by simpa using K1.out.1,K.out.1.trans K1.out.2⟩
end
section
open Go.RowKit
theorem own_any (pl:Int) (vp vb:Value) (ps:List (Int × Bool)) (bs:List UInt8) (w:World) (hp:PV w vp ps) (hb:BV w vb bs) (hn:ps.length≤1000000) (hm:bs.length≤100000000) :
  Calls Tryz.prog 67 #[.agg #[.int .i64 pl,vp,vb]] w fun e w'=>∃ vp' vb' Hp Hb,e=.returned (.agg #[.int .i64 pl,vp',vb'])∧RowP vp' ps Hp∧RowB vb' bs Hb∧Mv w [] w' (Hp++Hb):=by
 have M1:=((Mv.refl (Sat.nil w)).alloc 58 #[.int .i64 pl,vp,vb]).alloc 58 #[.int .i64 0,.slice none 0 0,.slice none 0 0]
 obtain⟨w1,hw1⟩:∃ w1,w1=(w.alloc (.cells #[.int .i64 pl,vp,vb] 58)).alloc (.cells #[.int .i64 0,.slice none 0 0,.slice none 0 0] 58):=⟨_,rfl⟩
 rw[← hw1] at M1
 have hsz:(w.alloc (.cells #[.int .i64 pl,vp,vb] 58)).heap.size=w.heap.size+1:=by simp
 rw[hsz] at M1
 have BX:Blk w1 w.heap.size 58 #[.int .i64 pl,vp,vb]:=Mv.blkm M1 (x:=⟨w.heap.size,58,#[.int .i64 pl,vp,vb]⟩) (List.mem_cons_of_mem _ List.mem_cons_self)
 have F:Hid (∀ w' H,Mv w1.drew [] w' H→(w'.cell? ⟨w.heap.size,0,none⟩=some (.int .i64 pl)∧w'.cell? ⟨w.heap.size,1,none⟩=some vp∧w'.cell? ⟨w.heap.size,2,none⟩=some vb)∧PV w' vp ps∧BV w' vb bs):=Lib.hid (by
  intro w' H m
  have hB:Below w1.heap.size w1 w':=⟨m.only.os,m.only.tape,m.only.output,m.only.size,m.below0.block⟩
  have hB0:Below w.heap.size w w':=(Mv.below0 M1).trans (hB.mono M1.only.size)
  have b1:=BX.below hB BX.lt
  exact⟨⟨b1.cell 0,b1.cell 1,b1.cell 2⟩,hp.keep hB0,hb.keep hB0⟩)
 have BY:Blk w1 (w.heap.size+1) 58 #[.int .i64 0,.slice none 0 0,.slice none 0 0]:=Mv.blkm M1 (x:=⟨w.heap.size+1,58,#[.int .i64 0,.slice none 0 0,.slice none 0 0]⟩) List.mem_cons_self
 have FY:Hid (∀ w' H,Mv w1.drew [] w' H→Blk w' (w.heap.size+1) 58 #[.int .i64 0,.slice none 0 0,.slice none 0 0]):=Lib.hid (by
  intro w' H m
  have hB:Below w1.heap.size w1 w':=⟨m.only.os,m.only.tape,m.only.output,m.only.size,m.below0.block⟩
  exact BY.below hB BY.lt)
 clear BX BY
 obtain⟨A,c,rfl,-⟩:=hp
 obtain⟨B,d,rfl,-⟩:=hb
 obtain⟨np,hnp⟩:∃ np,ps.length=np:=⟨_,rfl⟩
 obtain⟨nb,hnb⟩:∃ nb,bs.length=nb:=⟨_,rfl⟩
 rw[hnp] at F hn M1 hw1 ⊢
 rw[hnb] at F hm M1 hw1 ⊢
 have HN:=Lib.hid (And.intro hnp hnb)
 have KM:=Lib.hid M1
 clear hnp hnb M1
 go_enter Tryz.func67,Tryz.ntmps67
 go_upto_region 1 with fail
 rw[← hw1]
 have CP:=Lib.hid fun W (h:PV W (.slice A np c) ps)=>cloneP_any _ ps W h (by rw[HN.out.1];exact hn)
 have CB:=Lib.hid fun W (h:BV W (.slice B nb d) bs)=>clone_any _ bs W h (by rw[HN.out.2];exact hm)
 clear hw1
 have F0:=(F.out w1.drew [] (Mv.refl (Sat.nil _))).1
 go_region_held3 (fun w'=>w'.cell? ⟨w.heap.size,0,none⟩=some (.int .i64 pl)∧w'.cell? ⟨w.heap.size,1,none⟩=some (.slice A np c)∧w'.cell? ⟨w.heap.size,2,none⟩=some (.slice B nb d))
  (first | (with_reducible exact F0) | (with_reducible exact F1) | (with_reducible exact F2) | (exact⟨(World.cell?_setCell_other _ _ _ _ (by simp)).trans ((World.cell?_setCell_other _ _ _ _ (by simp)).trans ((World.cell?_setCell_other _ _ _ _ (by simp)).trans F2.1)),(World.cell?_setCell_other _ _ _ _ (by simp)).trans ((World.cell?_setCell_other _ _ _ _ (by simp)).trans ((World.cell?_setCell_other _ _ _ _ (by simp)).trans F2.2.1)),(World.cell?_setCell_other _ _ _ _ (by simp)).trans ((World.cell?_setCell_other _ _ _ _ (by simp)).trans ((World.cell?_setCell_other _ _ _ _ (by simp)).trans F2.2.2))⟩))
  (first | (go_at_call 105;refine(CP.out _ (F.out _ _ (Mv.refl (Sat.nil _))).2.1).mono ?_;rintro e w2 ⟨vp',Hp,rfl,r1,m1⟩;obtain⟨a1,c1,rfl⟩:=r1.slice;have F1:=(F.out w2 _ m1).1;have K1:=Lib.hid (And.intro r1 m1);clear r1 m1) | (go_at_call 31;refine(CB.out _ (F.out _ _ K1.out.2).2.2).mono ?_;rintro e w3 ⟨vb',Hb,rfl,r2,m2⟩;obtain⟨a2,c2,rfl⟩:=RowH.slice r2;have K2:=Lib.hid (And.intro r2 m2);have F2:=(F.out w3 _ (Mv.call (H:=[]) K1.out.2 m2)).1;have Y3:=FY.out w3 _ (Mv.call (H:=[]) K1.out.2 m2);have y0:=Y3.cell 0;have y1:=Y3.cell 1;have y2:=Y3.cell 2;have z0:=Y3.frozen 0;have z1:=Y3.frozen 1;have z2:=Y3.frozen 2;have KY:=Lib.hid Y3;clear r2 m2 Y3))
 go_wp2_with fail
 rw[HN.out.1,HN.out.2]
 have M3a:Mv w [] w2 (Hp++[_,_]):=Mv.call (H:=[]) (R:=[_,_]) KM.out.drew K1.out.2
 have M3b:Mv w [] w3 (Hb++(Hp++[_,_])):=Mv.call (H:=[]) (R:=Hp++[_,_]) M3a K2.out.2
 have M3:Mv w [] w3 (⟨w.heap.size+1,58,#[.int .i64 0,.slice none 0 0,.slice none 0 0]⟩::(Hp++Hb)):=M3b.sub (fun g=>by simp only[cnt_append,cnt_cons];omega) (fun c hc=>by simp only[List.mem_append,List.mem_cons] at hc ⊢;grind)
 have M4:=((M3.set 0 (.int .i64 pl)).set 1 (.slice a1 ps.length c1)).set 2 (.slice a2 bs.length c2)
 rw[HN.out.1,HN.out.2] at M4
 refine bodyPost_ret (v:=.agg #[.int .i64 pl,.slice a1 np c1,.slice a2 nb c2]) (results_cell_row Tryz.results67 _ _ (w.heap.size+1) 58 _ (0,0) _ rfl (Mv.blkm M4 List.mem_cons_self) Tryz.underlying58 rfl (by kernel_rfl)) rfl ?_
 have k1:=K1.out.1
 have k2:=K2.out.1
 rw[HN.out.1] at k1
 rw[HN.out.2] at k2
 exact⟨_,_,Hp,Hb,rfl,k1,k2,M4.drop1⟩
end
section
open Go.RowKit
theorem cnt_flatMap_le {α:Type} (f:α→List HB) {l:List α} {x:α} (h:x∈l) (g:Nat):cnt g (f x)≤cnt g (l.flatMap f):=by
 induction l with
 | nil=>cases h
 | cons y l ih =>
  rw[List.flatMap_cons,cnt_append]
  rcases List.mem_cons.1 h with rfl | h
  ·omega
  ·have:=ih h
   omega
def stNone:StM:=⟨0,[],[],0,3⟩
def stOf (m:BandM) (k:Int):StM:=if k<0∨(m.ss.length:Int)≤k then stNone else m.ss.getD k.toNat stNone
theorem StG.sat {b:BandG} {d:BandA} {w:World} (hs:Sat w (b.heap d)) {s:StG} (h:s∈b.G):Sat w s.Hp∧Sat w s.Hb:=by
 have h1:Sat w (s.heap):=by
  refine hs.sub (fun g=>?_) (fun c hc=>?_)
  ·have:=cnt_flatMap_le StG.heap h g
   simp only[BandG.heap,cnt_cons,cnt_append]
   omega
  ·have:c∈b.G.flatMap StG.heap:=List.mem_flatMap.2 ⟨s,h,hc⟩
   simp only[BandG.heap,List.mem_cons,List.mem_append]
   exact .inr (.inr (.inr (.inr this)))
 exact⟨h1.left,h1.right⟩
end
section
open Go.RowKit
def listB (g bb:Nat):HB:=⟨g,43,#[.pointer (some ⟨bb,0,none⟩)]⟩
theorem enc_one (d:BandA) (m:BandM) (H0:List HB) (g:Nat) (W:World) (style layer:Int) (count:Nat) (hB:BandR d m H0) (hs:Sat W (listB g d.bb::H0)) (hct:count≤100000) (hly:0≤layer∧layer≤10000) (hno:∀ s∈m.ss,passN s.ps.length count (layer+1)≤s.said) :
  Calls Tryz.prog 10 #[.slice (some ⟨g,0,none⟩) 1 1,.int .i64 style,.int .i64 (count:Int),.int .i64 layer] W fun e W' =>
   ∃ a c H1 m' H',e=.returned (.tuple #[.slice (some ⟨a,0,none⟩) 1 c,.slice none 0 0])∧RowB (.slice (some ⟨a,0,none⟩) 1 c) [0] H1∧W'.cell? ⟨a,0,none⟩=some (.int .u8 0)∧1≤c∧BandR d m' H'∧m'.ss=m.ss∧Mv W (listB g d.bb::H0) W' (H1++(listB g d.bb::H')):=by
 have hL:ListH (.slice (some ⟨g,0,none⟩) 1 1) [d] [listB g d.bb]:=RowH.new (size:=1) _ g 1 #[.pointer (some ⟨d.bb,0,none⟩)] rfl (by decide)
 refine(enc_none (some ⟨g,0,none⟩) 1 [d] (fun _=>m) style layer count [listB g d.bb] H0 W (by simp) hL ⟨H0,[],by simp,hB,rfl⟩ hs hct hly (fun d' hd s h=>?_)).mono ?_
 ·exact hno s h
 ·rintro e W' ⟨v,H1,HB',rfl,h1,⟨H2,H3,rfl,h2,rfl⟩,h3⟩
  obtain⟨a,c,cur,rfl,hc,-⟩:=RowH.form h1 (by decide)
  have hcell:=(RowH.cell h1 h3.sat.left rfl 0 (by decide)).1
  refine⟨a,c,H1,_,H2,rfl,h1,by simpa [cellsB] using hcell,hc,h2,encM_ss count _ _ _,?_⟩
  simpa using h3
theorem new_none (w h:Nat) (planes:Int) (count:Nat) (layer:Int):∀ s∈(newBandM w h planes).ss,passN s.ps.length count (layer+1)≤s.said:=by
 intro s hs
 rw[List.eq_of_mem_replicate hs]
 exact Int.le_of_eq (passN_zero _ _)
theorem known_any (w:World):Calls Tryz.prog 6 #[] w fun e w'=>e=.returned (.bool true)∧Mv w [] w' []:=by
 have NB:=Lib.hid (band_new 1 1 5 w (by decide) (by decide) (by decide))
 have NN:=Lib.hid (new_none 1 1 5 1 0)
 go_enter Tryz.func6,Tryz.ntmps6
 go_wp2_with (first | (go_at_call 15;refine NB.out.mono ?_;rintro e w1 ⟨d,H,rfl,-,hB,m1⟩;have K1:=Lib.hid (And.intro hB m1);clear hB m1) | (go_at_call 10;refine(enc_one d _ H _ _ 0 0 1 K1.out.1 (K1.out.2.alloc _ _).sat (by decide) (by decide) NN.out).mono ?_;rintro e w2 ⟨a,c,H1,m',H',rfl,-,c0,hc,-,-,m2⟩;have M2:=(K1.out.2.alloc _ _).trans m2;have K2:=Lib.hid M2;clear m2 M2))
 go_ret
 exact⟨rfl,Mv.drop (A:=H1++(_::H')) (H:=[]) (by simpa using K2.out)⟩
end
section
open Go.RowKit
theorem infoQs:(Tryz.prog.info? 90).map (fun i=>(i.zero,i.size,i.bytes))=some (some (.agg #[.int .i64 0,.bool false]),2,16):=by kernel_rfl
def RowQ (v:Value) (l:List (Int × Bool)) (H:List HB):Prop:=RowH 90 2 v l.length (passesV l) H
def QV (w:World) (v:Value) (l:List (Int × Bool)):Prop:=∃ A c,v=.slice A l.length c∧l.length≤c∧c≤maxLen∧Reads w w.heap.size 2 A l.length (passesV l)
theorem RowQ.slice {v:Value} {l:List (Int × Bool)} {H:List HB} (h:RowQ v l H):∃ a c,v=.slice a l.length c:=RowH.slice h
theorem RowQ.qv {w:World} {v:Value} {l:List (Int × Bool)} {H:List HB} (h:RowQ v l H) (hs:Sat w H):QV w v l:=by
 have ho:=RowH.owns h hs (B:=0) (fun _ _=>Nat.zero_le _)
 rcases h.2 with ⟨rfl,h2,h3⟩ | ⟨g,cap,cur,rfl,h1,h2,-⟩
 ·exact⟨none,0,by rw[h2],by omega,by unfold maxLen;omega,Reads.of_own (by rw[h2] at ho ⊢;exact ho)⟩
 ·exact⟨_,cap,rfl,h1,h2,Reads.of_own ho⟩
theorem run_appQ {w:World} {v u:Value} {l r:List (Int × Bool)} {H:List HB} (h:RowQ v l H) (hs:Sat w H) (hu:QV w u r) (hl:l.length+r.length≤100000000) (ty:TypeId) :
  ∃ v' w' H',(Builtin.append_ #[49,49] ty #[v,u]).run Tryz.prog w=.ok v' w'∧RowQ v' (l++r) H'∧Mv w H w' H':=by
 obtain⟨A,c,rfl,h1,h2,h3⟩:=hu
 obtain⟨i0,hti,hz0,hz1,hz2⟩:=info_parts infoQs
 obtain⟨v',w',hrun,k1,k2,k3⟩:=run_append_any (P:=Tryz.prog) w 0 49 ty 90 i0 _ 2 16 Tryz.underlying49 hti hz0 hz1 hz2 rfl (by decide) v l.length (passesV l) (RowH.owns h hs (fun _ _=>Nat.zero_le _)) w.heap.size A r.length c (passesV r) h3 (passesV_one r) (by unfold maxLen;omega) (by omega) (Nat.zero_le _)
 obtain⟨H',k4,k5⟩:=mv_owns_grown h k1 k2 k3
 refine⟨v',w',H',hrun,?_,k5⟩
 unfold RowQ
 rw[List.length_append,passesV_append]
 exact k4
section
variable {ops:Array Oper} {rest:List Oper} {o:Oper} {a:Act} {w:World} {K:Act→World→Prop} {Q:Exit→Act→World→Prop} {E:Prop}
theorem wp_appQ (s x:Operand) (ho:o.op=.call { callee:=.builtin .append,args:=#[s,x],argTypes:=#[49,49] }) (v u:Value) (l r:List (Int × Bool)) (H:List HB)
  (hsv:a.eval s=v) (hxu:a.eval x=u) (h:RowQ v l H) (hs:Sat w H) (hu:QV w u r) (hl:l.length+r.length≤100000000)
  (hK:∀ v' w' H',RowQ v' (l++r) H'→Mv w H w' H'→K (a.put o.dst v') w'):o.wp Tryz.prog a w K Q:=by
 obtain⟨v',w',H',hrun,h1,h2⟩:=run_appQ h hs hu hl o.type
 unfold Oper.wp execOp
 simp only[ho,resolve,invoke,builtin,Sem.run_bind,Sem.run_pure,Result.andThen_ok,List.map_toArray,List.map_cons,List.map_nil,hsv,hxu,hrun]
 exact hK v' w' H' h1 h2
theorem wpList_appQ (hgd:o.guard=none) (s x:Operand) (ho:o.op=.call { callee:=.builtin .append,args:=#[s,x],argTypes:=#[49,49] }) (v u:Value) (l r:List (Int × Bool)) (H:List HB)
  (hsv:a.eval s=v) (hxu:a.eval x=u) (h:RowQ v l H) (hs:Sat w H) (hu:QV w u r) (hl:l.length+r.length≤100000000)
  (hK:∀ v' w' H',RowQ v' (l++r) H'→Mv w H w' H'→wpList Tryz.prog ops Q rest (a.put o.dst v') w'):wpList Tryz.prog ops Q (o::rest) a w :=
 wpList_plain hgd fun _ hk=>wp_appQ s x ho v u l r H hsv hxu h hs hu hl fun v' w' H' h1 h2=>hk _ _ (hK v' w' H' h1 h2)
end
theorem passesV_get {l:List (Int × Bool)} {k:Nat} {p:Int × Bool} (h:l[k]?=some p):(passesV l)[k * 2]?=some (.int .i64 p.1)∧(passesV l)[k * 2+1]?=some (.bool p.2):=by
 have g:=fun j (hj:j<2)=>flat_get passV 2 passV_length l k p h j hj
 exact⟨g 0 (by omega),g 1 (by omega)⟩
theorem passesV_set {l:List (Int × Bool)} {k:Nat} {p:Int × Bool} (h:l[k]?=some p) (e:Int):(passesV l).set (k * 2) (.int .i64 e)=passesV (l.set k (e,p.2)) :=
 flat_set passV 2 passV_length l k p (e,p.2) h 0 (by omega) (.int .i64 e) rfl
theorem RowQ.form {a:Option Addr} {n c:Nat} {l:List (Int × Bool)} {H:List HB} (h:RowQ (.slice a n c) l H) (hn:0<n):n=l.length∧∃ g,a=some ⟨g,0,none⟩:=by
 obtain⟨a',c',e⟩:=h.slice
 cases e
 obtain⟨g,cp,cur,hv,-⟩:=RowH.form h hn
 injection hv with ha
 exact⟨rfl,g,ha⟩
theorem RowQ.at_ {w:World} {g n c:Nat} {l:List (Int × Bool)} {H:List HB} (h:RowQ (.slice (some ⟨g,0,none⟩) n c) l H) (hs:Sat w H) {k:Nat} {p:Int × Bool} (hk:l[k]?=some p):w.cell? ⟨g,k * 2,none⟩=some (.int .i64 p.1)∧w.frozen? ⟨g,k * 2,none⟩=false:=by
 obtain⟨a',c',e⟩:=h.slice
 cases e
 have hi:=(List.getElem?_eq_some_iff.1 hk).1
 obtain⟨h1,h2⟩:=RowH.cell h hs rfl (k * 2) (by omega)
 exact⟨h1.trans (passesV_get hk).1,h2⟩
theorem RowQ.set_ {w:World} {g n c:Nat} {l:List (Int × Bool)} {H:List HB} (h:RowQ (.slice (some ⟨g,0,none⟩) n c) l H) (hs:Sat w H) {k:Nat} {p:Int × Bool} (hk:l[k]?=some p) (e:Int) :
  ∃ H',RowQ (.slice (some ⟨g,0,none⟩) n c) (l.set k (e,p.2)) H'∧Mv w H (w.setCell ⟨g,k * 2,none⟩ (.int .i64 e)) H':=by
 obtain⟨a',c',e'⟩:=h.slice
 cases e'
 have hi:=(List.getElem?_eq_some_iff.1 hk).1
 obtain⟨H',h1,h2⟩:=RowH.set h hs rfl (k * 2) (.int .i64 e) (by omega)
 refine⟨H',?_,h2⟩
 rw[passesV_set hk] at h1
 unfold RowQ
 rw[List.length_set]
 exact h1
theorem qv_one (w:World) (p:Int × Bool) (g:Nat) (hg:g=w.heap.size):QV (w.alloc (.cells #[.int .i64 p.1,.bool p.2] 90)) (.slice (some ⟨g,0,none⟩) 1 1) [p]:=by
 subst hg
 have h:RowQ (.slice (some ⟨w.heap.size,0,none⟩) 1 1) [p] [⟨w.heap.size,90,#[.int .i64 p.1,.bool p.2]⟩]:=RowH.new 90 w.heap.size 1 #[.int .i64 p.1,.bool p.2] rfl (by decide)
 exact h.qv (mv_alloc w 90 _).sat
end
section
open Go.RowKit
theorem Mv.old {w0 w:World} {H:List HB} (h:Mv w0 [] w H) {a:Addr} {u:Value} (hc:w0.cell? a=some u) (hl:a.block<w0.heap.size):w.cell? a=some u:=(h.below0.cell (p:=a) hl).trans hc
def codT (A:CodA) (G:GeoM) (cx:List CxM) (t:List Value):List Value :=
 [.int .i64 (G.w:Int),.int .i64 (G.h:Int),.int .i64 (G.band:Int),.int .i64 (G.style:Int),slV A.gm (G.w * G.h),slV A.gn (G.w * G.h),slV A.gs (G.w * G.h),slV A.ge (G.w * G.h),slV A.ga (G.w * G.h)]++(cxV cx++t)
def tailP (wr raw:Bool) (pe pr:Value):List Value:=[.bool wr,.bool raw,pe,pr,.pointer none,.pointer none]
def ptr0 (g:Nat):Value:=.pointer (some ⟨g,0,none⟩)
def codH (A:CodA) (G:GeoM) (cx:List CxM) (t:List Value):HB:=⟨A.cb,133,(codT A G cx t).toArray⟩
theorem codI_eq (A:CodA) (G:GeoM):codI G A.gm A.gn A.gs A.ge A.ga=codT A G cxFresh (tailP false false (.pointer none) (.pointer none)):=rfl
theorem codT_set {A:CodA} {G:GeoM} {cx:List CxM} (hl:cx.length=19) (t:List Value) (i:Nat) (v:Value):(codT A G cx t).toArray.setIfInBounds (47+i) v=(codT A G cx (t.set i v)).toArray:=by
 have hc:=cxV_length cx
 unfold codT
 rw[List.setIfInBounds_toArray,List.set_append_right _ _ (by simp only[List.length_cons,List.length_nil];omega),List.set_append_right _ _ (by simp only[List.length_cons,List.length_nil];omega)]
 congr 4
 simp only[List.length_cons,List.length_nil]
 omega
theorem codT_get {A:CodA} {G:GeoM} {cx:List CxM} (hl:cx.length=19) (t:List Value) (i:Nat):(codT A G cx t).toArray[47+i]?=t[i]?:=by
 have hc:=cxV_length cx
 unfold codT
 rw[List.getElem?_toArray,List.getElem?_append_right (by simp only[List.length_cons,List.length_nil];omega),List.getElem?_append_right (by simp only[List.length_cons,List.length_nil];omega)]
 congr 1
 simp only[List.length_cons,List.length_nil]
 omega
theorem zN_eq (g n:Nat):zN g n=rowN g (List.replicate n 0):=by simp[zN,rowN]
theorem zL_eq (g n:Nat):zL g n=rowL g (List.replicate n false):=by simp[zL,rowL]
theorem rowN_set (g:Nat) (l:List Nat) (i m:Nat):(rowN g l).cs.setIfInBounds i (.int .i64 (m:Int))=(rowN g (l.set i m)).cs:=by
 simp[rowN]
def bB (bb:Nat) (pl:Nat) (pv bv:Value):HB:=⟨bb,51,#[.int .i64 (pl:Int),pv,bv]⟩
def nil0:Value:=.slice none 0 0
def IniH (A:CodA) (bb:Nat) (G:GeoM) (i:Nat) (pl:Nat) (R:List HB):List HB :=
 codH A G cxFresh (tailP true false (.pointer none) (.pointer none))::rowN A.gm (midN G.mag i)::rowN A.gn (midN G.neg i)::bB bb pl nil0 nil0::R
theorem ini_mag {A:CodA} {w0 w:World} {b0:HB} {rest:List HB} {l:List Nat} {i m:Nat} (M:Mv w0 [] w (b0::rowN A.gm (midN l i)::rest)) (h:l[i]?=some m):Mv w0 [] (w.setCell ⟨A.gm,i,none⟩ (.int .i64 (m:Int))) (b0::rowN A.gm (midN l (i+1))::rest):=by
 have:=Mv.setAt (A:=[b0]) (g:=A.gm) (t:=3) (cs:=(rowN A.gm (midN l i)).cs) M i (.int .i64 (m:Int))
 rw[rowN_set,midN_set l i h] at this
 exact this
theorem ini_neg {A:CodA} {w0 w:World} {b0 b1:HB} {rest:List HB} {l:List Nat} {i m:Nat} (M:Mv w0 [] w (b0::b1::rowN A.gn (midN l i)::rest)) (h:l[i]?=some m):Mv w0 [] (w.setCell ⟨A.gn,i,none⟩ (.int .i64 (m:Int))) (b0::b1::rowN A.gn (midN l (i+1))::rest):=by
 have:=Mv.setAt (A:=[b0,b1]) (g:=A.gn) (t:=3) (cs:=(rowN A.gn (midN l i)).cs) M i (.int .i64 (m:Int))
 rw[rowN_set,midN_set l i h] at this
 exact this
theorem ini_pl {w0 w:World} {b0 b1 b2:HB} {rest:List HB} {bb pl:Nat} {pv bv:Value} (M:Mv w0 [] w (b0::b1::b2::bB bb pl pv bv::rest)) (q:Nat):Mv w0 [] (w.setCell ⟨bb,0,none⟩ (.int .i64 (q:Int))) (b0::b1::b2::bB bb q pv bv::rest) :=
 Mv.setAt (A:=[b0,b1,b2]) (g:=bb) (t:=51) (cs:=#[.int .i64 (pl:Int),pv,bv]) M 0 (.int .i64 (q:Int))
theorem codT_front {w:World} {A:CodA} {G:GeoM} {cx:List CxM} {t:List Value} (b:Blk w A.cb 133 (codT A G cx t).toArray) :
  w.cell? ⟨A.cb,4,none⟩=some (slV A.gm (G.w * G.h))∧w.cell? ⟨A.cb,5,none⟩=some (slV A.gn (G.w * G.h)):=by
 have c:=fun i=>b.cell i
 simp only[codT,List.cons_append,List.nil_append] at c
 exact⟨c 4,c 5⟩
theorem shr_pos {m q:Nat} (h:0<m / 2 ^ q):decide ((0:Int)<(m:Int) / 2 ^ q)=true:=by
 have e:(m:Int) / 2 ^ q=((m / 2 ^ q:Nat):Int):=by push_cast;rfl
 rw[e]
 exact decide_eq_true (Int.natCast_pos.2 h)
theorem shr_not {m q:Nat} (h:¬ 0<m / 2 ^ q):decide ((0:Int)<(m:Int) / 2 ^ q)=false:=by
 have e:(m:Int) / 2 ^ q=((m / 2 ^ q:Nat):Int):=by push_cast;rfl
 rw[e]
 exact decide_eq_false (fun hh=>h (Int.natCast_pos.1 hh))
theorem stepP_le {p m B:Nat} (h:m<2 ^ B) (hp:p≤B):stepP p m≤B:=by
 unfold stepP
 split
 ·exact hp
 ·next h0 =>
  have:=(Nat.log2_lt h0 (k:=B)).2 h
  omega
theorem stepP_ge (p m:Nat):p≤stepP p m:=by
 unfold stepP
 split <;> omega
theorem getD_of {l:List Nat} {i m:Nat} (h:l[i]?=some m):l.getD i 0=m:=by
 rw[List.getD_eq_getElem?_getD,h]
 rfl
end
section
open Go.RowKit
theorem enc_p1 (K:Act→World→Prop) (A:CodA) (bb vg vc N i pl ma ng:Nat) (G:GeoM) (m:Int) (R:List HB) (w0 w:World) (s0 s1 s2 s3 s5 s6 s7 s8 s9 s10 s11 s15 s16 s17 s18 s19 s20 s21 s22 s23 s24 s25 s26 s27 s28 s29 s30 s31 s32 s33 s34 s35 s36 s37 s38 s39 s40 s41 s42 s43 s44 s45 s46 s47 s48 s49 s50 s51 s52 s53 s54 s55 s56 s57 s58 s59 s60 s61 s62 s63 s64 s65 s66 s67 s68 s69 s70 s71 s72 s73 s74 s75 s76 s77 s78 s79 s80 s81 s82 s83 s84 s85 s86 s87 s88 s89 s90 s91 s92 s93 s94 s95 s96 s97 s98 s99 s100 s101 s102 s103 s104 s105 s106 s107 s108 s109 s110 s111 s112 s113 s114 s115 s116 s117 s118 s119 s120 s121 s122 s123 s124 s125 s126 s127 s128 s129 s130 s131 s132 s133 s134 s135 s136 s137 s138 s139 s140 s141 s142 s143 s144 s145 s146 s147 s148 s149 s150 s151 s152 s153 s154 s155 s156 s157 s158 s159 s160 s161 s162 s163 s164 s165 s166 s167 s168 s169 s170 s171 s172 s173 s174 s175 s176 s177 s178 s179 s180 s181 s182 s183 s184 s185 s186 s187 s188 s189 s190 s191 s192 s193 s194 s195 s196 s197 s198 s199 s200 s201 s202 s203 s204 s205 s206 s207 s208 s209 s210 s211 s212 s213 s214 s215 s216 s217 s218 s219 s220 s221 s222 s223 s224 s225 s226 s227 s228 s229 s230 s231 s232 s233 s234 s235 s236 s237 s238 s239 s240 s241:Value)
  (hN:G.w * G.h=N) (_hNl:N≤4096) (hi:i<N) (h1:G.mag[i]?=some ma) (h2:G.neg[i]?=some ng) (hma:ma=m.natAbs) (hng:ng=oneN (decide (m<0))) (hml:ma≤1073741823)
  (hl1:G.mag.length=N) (hl2:G.neg.length=N) (hv:w0.cell? ⟨vg,i,none⟩=some (.int .i64 m)) (hvg:vg<w0.heap.size) (hpl:pl≤30) (M:Mv w0 [] w (IniH A bb G i pl R))
  (hk:∀ (t53 t54 t55 t56 t57 t58 t59 t60 t61 t62 t63 t64 t66 t67 t68 t69 t70 t71 t72 t73 t74 t75 t76 t77 t78 t79 t80 t81 t82 t83 t84 t85 t86 t87 t88 t89 t90 t91 t92 t93 t94 t95 t96 t97 t98 t99 t100 t101 t102 t103 t104 t105 t106 t107 t108 t109:Value) (wx:World),Mv w0 [] wx (IniH A bb G (i+1) (stepP pl ma) R) →
   K ⟨List.toArray (s0::s1::s2::s3::(.slice (some ⟨vg,0,none⟩) N vc)::s5::s6::s7::s8::s9::s10::s11::(ptr0 A.cb)::(ptr0 bb)::(.int .i64 (i:Int))::s15::s16::s17::s18::s19::s20::s21::s22::s23::s24::s25::s26::s27::s28::s29::s30::s31::s32::s33::s34::s35::s36::s37::s38::s39::s40::s41::s42::s43::s44::s45::s46::s47::s48::s49::s50::s51::s52::t53::t54::t55::t56::t57::t58::t59::t60::t61::t62::t63::t64::s65::t66::t67::t68::t69::t70::t71::t72::t73::t74::t75::t76::t77::t78::t79::t80::t81::t82::t83::t84::t85::t86::t87::t88::t89::t90::t91::t92::t93::t94::t95::t96::t97::t98::t99::t100::t101::t102::t103::t104::t105::t106::t107::t108::t109::s110::s111::s112::s113::s114::s115::s116::s117::s118::s119::s120::s121::s122::s123::s124::s125::s126::s127::s128::s129::s130::s131::s132::s133::s134::s135::s136::s137::s138::s139::s140::s141::s142::s143::s144::s145::s146::s147::s148::s149::s150::s151::s152::s153::s154::s155::s156::s157::s158::s159::s160::s161::s162::s163::s164::s165::s166::s167::s168::s169::s170::s171::s172::s173::s174::s175::s176::s177::s178::s179::s180::s181::s182::s183::s184::s185::s186::s187::s188::s189::s190::s191::s192::s193::s194::s195::s196::s197::s198::s199::s200::s201::s202::s203::s204::s205::s206::s207::s208::s209::s210::s211::s212::s213::s214::s215::s216::s217::s218::s219::s220::s221::s222::s223::s224::s225::s226::s227::s228::s229::s230::s231::s232::s233::s234::s235::s236::s237::s238::s239::s240::s241::[]),[]⟩ wx) :
  (blockOf 1 Tryz.f17).wp Tryz.prog (Exit.then K noQ) ⟨List.toArray (s0::s1::s2::s3::(.slice (some ⟨vg,0,none⟩) N vc)::s5::s6::s7::s8::s9::s10::s11::(ptr0 A.cb)::(ptr0 bb)::(.int .i64 (i:Int))::s15::s16::s17::s18::s19::s20::s21::s22::s23::s24::s25::s26::s27::s28::s29::s30::s31::s32::s33::s34::s35::s36::s37::s38::s39::s40::s41::s42::s43::s44::s45::s46::s47::s48::s49::s50::s51::s52::s53::s54::s55::s56::s57::s58::s59::s60::s61::s62::s63::s64::s65::s66::s67::s68::s69::s70::s71::s72::s73::s74::s75::s76::s77::s78::s79::s80::s81::s82::s83::s84::s85::s86::s87::s88::s89::s90::s91::s92::s93::s94::s95::s96::s97::s98::s99::s100::s101::s102::s103::s104::s105::s106::s107::s108::s109::s110::s111::s112::s113::s114::s115::s116::s117::s118::s119::s120::s121::s122::s123::s124::s125::s126::s127::s128::s129::s130::s131::s132::s133::s134::s135::s136::s137::s138::s139::s140::s141::s142::s143::s144::s145::s146::s147::s148::s149::s150::s151::s152::s153::s154::s155::s156::s157::s158::s159::s160::s161::s162::s163::s164::s165::s166::s167::s168::s169::s170::s171::s172::s173::s174::s175::s176::s177::s178::s179::s180::s181::s182::s183::s184::s185::s186::s187::s188::s189::s190::s191::s192::s193::s194::s195::s196::s197::s198::s199::s200::s201::s202::s203::s204::s205::s206::s207::s208::s209::s210::s211::s212::s213::s214::s215::s216::s217::s218::s219::s220::s221::s222::s223::s224::s225::s226::s227::s228::s229::s230::s231::s232::s233::s234::s235::s236::s237::s238::s239::s240::s241::[]),[]⟩ w:=by
 conv in (blockOf _ _)=>whnf
 unfold noQ
 have HK:=Lib.hid hk
 clear hk
 unfold ptr0
 have c0:=M.old hv hvg
 have hin:(i:Int)<(N:Int):=by omega
 have d1:decide ((1073741823:Int)<m)=false:=by simp;omega
 have d2:decide (m < -1073741823)=false:=by simp;omega
 have HM:=Lib.hid (And.intro h1 (And.intro h2 (And.intro hma hng)))
 have M1:=M.drew
 have V1:=codT_front (M1.blk 0 rfl)
 rw[hN] at V1
 unfold slV at V1
 obtain⟨c4,c5⟩:=V1
 have KM:=Lib.hid M
 clear M h1 h2 hma hng M1
 go_upto_region 13 with fail
 have c0:=KM.out.drew.old hv hvg
 have fm:=(KM.out.drew.frozen 1 (t:=3) (cs:=(rowN A.gm (midN G.mag i)).cs) rfl i)
 have lm:=(midN_len G.mag i (by omega)).trans hl1
 have ln:=(midN_len G.neg i (by omega)).trans hl2
 have cm:w.drew.cell? ⟨A.gm,i,none⟩=some (.int .i64 (((midN G.mag i).getD i 0:Nat):Int)):=rowN_get (KM.out.drew.blk 1 rfl) lm i hi
 go_still_tail 15,(by kernel_rfl)
 change wpList _ _ _ _ _ w.drew
 have EM:(if m<IntKind.i64.wrap (-m) then IntKind.i64.wrap (-m) else m)=(ma:Int):=by
  have hq:=HM.out.2.2.1
  rw[IntWalk.i64_in _ (by omega)]
  split <;> omega
 rw[EM]
 have M5:=(ini_mag KM.out HM.out.1).drew
 obtain⟨w3,hw3⟩:∃ w3,w3=(w.setCell ⟨A.gm,i,none⟩ (.int .i64 (ma:Int))).drew:=⟨_,rfl⟩
 rw[← hw3] at M5
 have HW:=Lib.hid hw3
 have K5:=Lib.hid M5
 clear hw3 M5 EM c4 c5
 go_upto_region 14 with fail
 rw[← HW.out]
 clear HW c0 fm d1 d2 cm lm
 have hmx:Tryz.prog.follows .mixedOrders=true:=by kernel_rfl
 obtain⟨C,hC⟩:∃ C:World→Prop,C=fun w'=>w'=w3.drew:=⟨_,rfl⟩
 have CF:Hid (∀ w',C w'→w'.cell? ⟨A.cb,5,none⟩=some (.slice (some ⟨A.gn,0,none⟩) N N)∧w'.cell? ⟨vg,i,none⟩=some (.int .i64 m)∧w'.frozen? ⟨A.gn,i,none⟩=false∧w'.cell? ⟨A.gn,i,none⟩=some (.int .i64 (((midN G.neg i).getD i 0:Nat):Int))):=Lib.hid (by
  intro w' h
  rw[hC] at h
  rw[h]
  have V1:=(codT_front (K5.out.drew.blk 0 rfl)).2
  rw[hN] at V1
  exact⟨V1,K5.out.drew.old hv hvg,K5.out.drew.frozen 2 (t:=3) (cs:=(rowN A.gn (midN G.neg i)).cs) rfl i,rowN_get (K5.out.drew.blk 2 rfl) ln i hi⟩)
 have CK:Hid (∀ w',C w'→Calls Tryz.prog 54 #[.bool (decide (m<0))] w' fun e w4=>e=.returned (.int .i64 (ng:Int))∧C w4):=Lib.hid (by
  intro w' h
  refine(one_any (decide (m<0)) w').mono ?_
  rintro e w4 ⟨rfl,rfl⟩
  exact⟨by rw[HM.out.2.2.2],h⟩)
 have CD:C w3.drew:=by rw[hC]
 have HC:=Lib.hid hC
 clear hC
 refine plain_quiet_tail 11 C hmx CD (by kernel_rfl) ?_
 simp only[List.take_succ_cons,List.take_zero,List.drop_succ_cons,List.drop_zero]
 iterate 11 (first | ((with_reducible refine qc_pass ?_ ?_);(next=>(go_simp;done));(try simp only[Act.put,List.setIfInBounds_toArray,List.set_cons_zero,List.set_cons_succ])) | ((with_reducible refine qc_one ?_ ?_ (fun w' hw'=>?_) ?_);rotate_left;(next=>(go_simp;done));(next=>(first | (refine qc_val ?_;(obtain⟨a0,a1,a2,a3⟩:=CF.out w' hw');clear hw';go_simp;done) | (refine qc_val ?_;(obtain⟨a0,a1,a2,a3⟩:=CF.out w' hw');clear hw';go_simp;rfl) | (refine qc_call (f:=?_) (args:=?_) ?_ ?_;rotate_left 2;(next=>((obtain⟨a0,a1,a2,a3⟩:=CF.out w' hw');go_simp;constructor <;> rfl));(next=>(exact CK.out w' hw'))) | (refine qc_skip ?_;(obtain⟨a0,a1,a2,a3⟩:=CF.out w' hw');clear hw';go_simp;done)));(try simp only[Act.put,List.setIfInBounds_toArray,List.set_cons_zero,List.set_cons_succ])))
 refine wpQuiet_nil ?_
 intro w' hw'
 obtain rfl:w'=w3.drew:=by rw[HC.out] at hw';exact hw'
 obtain⟨-,-,a2,a3⟩:=CF.out _ hw'
 have M6:=(ini_neg K5.out HM.out.2.1).drew
 clear hw' CD CK CF HC C ln
 obtain⟨w5,hw5⟩:∃ w5,w5=(w3.setCell ⟨A.gn,i,none⟩ (.int .i64 (ng:Int))).drew:=⟨_,rfl⟩
 rw[← hw5] at M6
 have HW:=Lib.hid hw5
 have K6:=Lib.hid M6
 clear hw5 M6
 go_wp2_with fail
 rw[← HW.out]
 clear HW a2 a3
 go_loopg [] (31 - pl) (fun mm wx=>∃ q:Nat,pl≤q∧q≤stepP pl ma∧mm=31 - q∧Mv w0 [] wx (codH A G cxFresh (tailP true false (.pointer none) (.pointer none))::rowN A.gm (midN G.mag (i+1))::rowN A.gn (midN G.neg (i+1))::bB bb q nil0 nil0::R))
 case atStart=>exact⟨pl,Nat.le_refl _,stepP_ge _ _,rfl,K6.out⟩
 case round =>
  obtain⟨q,q1,q2,rfl,mq⟩:=hrel
  have q3:stepP pl ma≤30:=stepP_le (by have:(2:Nat) ^ 30=1073741824:=rfl;omega) hpl
  have q4:q≤40:=by omega
  have V:=(codT_front (mq.drew.blk 0 rfl)).1
  rw[hN] at V
  unfold slV at V
  have cg:wr.drew.cell? ⟨A.gm,i,none⟩=some (.int .i64 (ma:Int)):=by
   have:=rowN_get (mq.drew.blk 1 rfl) ((midN_len G.mag (i+1) (by omega)).trans hl1) i hi
   rw[getD_of (midN_get _ _ HM.out.1)] at this
   exact this
  have cb:wr.drew.cell? ⟨bb,0,none⟩=some (.int .i64 (q:Int)):=mq.drew.cell 3 rfl 0
  have fb:wr.drew.frozen? ⟨bb,0,none⟩=false:=mq.drew.frozen 3 rfl 0
  have KQ:=Lib.hid mq.drew
  clear mq
  by_cases h:0<ma / 2 ^ q
  ·have dq:=shr_pos h
   have q5:=stepP_more h (p:=pl)
   have KS:=Lib.hid (ini_pl KQ.out (q+1))
   clear h
   go_upto_region 15 with fail
   go_region
   all_goals
    go_wp2_with fail
    go_roundg (31 - (q+1))
    case measure=>omega
    case rel=>exact⟨q+1,by omega,q5,rfl,KS.out⟩
  ·have dq:=shr_not h
   have q5:=Lib.hid (stepP_done h q1 q2)
   clear h
   go_upto_region 15 with fail
   go_region
   all_goals
    go_wp2_with fail
    exact HK.out _ _ _ _ _ _ _ _ _ _ _ _ _ _ _ _ _ _ _ _ _ _ _ _ _ _ _ _ _ _ _ _ _ _ _ _ _ _ _ _ _ _ _ _ _ _ _ _ _ _ _ _ _ _ _ _ _ (by rw[← q5.out];exact KQ.out)
end
section
open Go.RowKit
theorem or_low16 (c:Nat):c ||| 65535=c / 65536 * 65536+65535:=by
 have h1:c / 65536 * 65536+65535=2 ^ 16 * (c / 2 ^ 16) ||| 65535:=by
  rw[← Nat.two_pow_add_eq_or_of_lt (by decide)]
  omega
 rw[h1]
 apply Nat.eq_of_testBit_eq
 intro i
 rw[Nat.testBit_or,Nat.testBit_or,show (65535:Nat)=2 ^ 16 - 1 from rfl,Nat.testBit_two_pow_sub_one,Nat.testBit_two_pow_mul]
 by_cases h:i<16
 ·simp[h]
 ·rw[decide_eq_false h,decide_eq_true (show 16≤i by omega),Bool.true_and,Nat.testBit_div_two_pow,show i - 16+16=i by omega]
theorem or_ffff (c:Nat) (h:c≤200000000):bits .or .i64 (c:Int) 65535=((c / 65536 * 65536+65535:Nat):Int):=by
 have h1:=i64_or_nat c 65535 (by omega) (by omega)
 rw[or_low16] at h1
 exact h1
theorem flushC_le (e:EncM) (h:e.c≤150994944):flushC e≤200000000:=by unfold flushC;split <;> omega
def flushN:Nat→EncM→EncM
 | 0,e=>e
 | n+1,e=>flushN n (flush1 e)
theorem BV.mid {w:World} {g o n c:Nat} {l:List UInt8} (h:BV w (.slice (some ⟨g,o,none⟩) n c) l) (a b:Nat) (hab:a≤b) (hb:b≤n):BV w (.slice (some ⟨g,o+a,none⟩) (b - a) (c - a)) ((l.drop a).take (b - a)):=by
 obtain⟨A,c',he,h1,h2,h3⟩:=h
 cases he
 have e:((l.drop a).take (b - a)).length=b - a:=by rw[List.length_take,List.length_drop];omega
 refine⟨some ⟨g,o+a,none⟩,c - a,by rw[e],by omega,by omega,?_⟩
 rw[e]
 refine⟨by rw[cellsB_length,e,Nat.mul_one],fun hn=>?_⟩
 obtain⟨ad,e1,hb1,hc⟩:=h3.2 (by omega)
 cases e1
 refine⟨_,rfl,hb1,fun j u hu=>?_⟩
 have hj:j<b - a:=by
  have:=(List.getElem?_eq_some_iff.1 hu).1
  rwa [cellsB_length,e] at this
 have hu2:(cellsB l)[a+j]?=some u:=by
  rw[← hu]
  simp only[cellsB,List.map_take,List.map_drop]
  rw[List.getElem?_take,if_pos hj,List.getElem?_drop]
 have:=hc (a+j) u hu2
 rw[Addr.add_mid] at this ⊢
 rw[Nat.add_assoc]
 exact this
theorem BV.mid2 {w:World} {g c n:Nat} {l:List UInt8} (h:BV w (.slice (some ⟨g,0,none⟩) n c) l) (a:Nat) (ha:a≤n):BV w (.slice (some ⟨g,a,none⟩) (n - a) (c - a)) (l.drop a):=by
 have hl:n=l.length:=by obtain⟨A,c',he,-⟩:=h;cases he;rfl
 have:=BV.mid h a n ha (Nat.le_refl _)
 rw[List.take_of_length_le (by rw[List.length_drop];omega),Nat.zero_add] at this
 exact this
theorem enc_flush (eg:Nat) (e:EncM) (w:World) (H:List HB) (h:MqR eg e H) (hs:Sat w H) (he:e.Ok) (hl:e.b.length≤80000000) :
  Calls Tryz.prog 63 #[.pointer (some ⟨eg,0,none⟩)] w fun e0 w'=>∃ v Hn H',e0=.returned v∧RowB v (flushB e) Hn∧MqR eg (flushE e) H'∧Mv w H w' (Hn++H'):=by
 have hcb:e.c≤150994944:=by
  have:e.c+e.a≤(e.c+e.a) * 2 ^ e.ct:=Nat.le_mul_of_pos_right _ (Nat.two_pow_pos _)
  have:=he.1.2.2.2.2.1
  omega
 have hab:=he.1.2.1
 have hct:e.ct≤12:=he.1.2.2.2.1
 have hfc:=flushC_le e hcb
 have HE:=Lib.hid (And.intro he hl)
 have OF:=or_ffff e.c (by omega)
 obtain⟨a,c,ct,b⟩:=e
 simp only at hcb hab hct hl OF
 obtain⟨vb,Hb,rfl,hr⟩:=h
 simp only at hr
 have c0:w.cell? ⟨eg,0,none⟩=some (.int .i64 (a:Int)):=(Mv.refl hs).cell 0 rfl 0
 have c1:w.cell? ⟨eg,1,none⟩=some (.int .i64 (c:Int)):=(Mv.refl hs).cell 0 rfl 1
 have f1:w.frozen? ⟨eg,1,none⟩=false:=(Mv.refl hs).frozen 0 rfl 1
 have K0:=Lib.hid (And.intro hr (Mv.refl hs))
 clear hr hs he
 obtain⟨o,ho⟩:∃ o,c / 65536 * 65536+65535=o:=⟨_,rfl⟩
 rw[ho] at OF
 have HO:=Lib.hid ho
 have hob:o≤200000000:=by omega
 obtain⟨t,ht⟩:∃ t,c+a=t:=⟨_,rfl⟩
 have hti:(c:Int)+(a:Int)=(t:Int):=by omega
 have htb:t≤200000000:=by omega
 have HT:=Lib.hid ht
 clear ht ho
 go_enter Tryz.func63,Tryz.ntmps63
 go_upto_region 1 with fail
 go_region
 all_goals
  have M1:=K0.out.2.drew
  have g1:=M1.cell 0 rfl 1
  have h1:=M1.frozen 0 rfl 1
  clear c0 c1 f1
  generalize w.drew=w1 at *
  have K1:=Lib.hid (And.intro K0.out.1 M1)
  clear M1
  have M2:=K1.out.2
  obtain⟨w3,hw3⟩:∃ w3,w3=w1.setCell ⟨eg,1,none⟩ (.int .i64 (o:Int)):=⟨_,rfl⟩
  have M3:=M2.set 1 (.int .i64 (o:Int))
  rw[← hw3] at M3
  replace M3:Mv w (encB eg a c ct vb::Hb) w3 (encB eg a o ct vb::Hb):=M3
  have K3:=Lib.hid (And.intro K1.out.1 M3)
  have HW:=Lib.hid hw3
  clear hw3 M2 M3
  go_upto_region 3 with fail
  rw[← HW.out]
  have g3:=K3.out.2.cell 0 rfl 1
  have h3:=K3.out.2.frozen 0 rfl 1
  clear g1 h1 HW OF hti
  obtain⟨fc,hfcE⟩:∃ fc,flushC ⟨a,c,ct,b⟩=fc:=⟨_,rfl⟩
  rw[hfcE] at hfc
  have HF:=Lib.hid hfcE
  clear hfcE
  go_upto_if 28 with fail
  go_cut [28] from 29 (fun _ wx=>Mv w (encB eg a c ct vb::Hb) wx (encB eg a fc ct vb::Hb))
  case first =>
   have FE:Hid (fc=if t≤o then o - 32768 else o):=Lib.hid (by rw[← HF.out,← HT.out,← HO.out];rfl)
   by_cases hto:t≤o
   ·have d1:decide ((t:Int)≤(o:Int))=true:=by simp;omega
    have FG:=Lib.hid (FE.out.trans (if_pos hto))
    have d2:(o:Int) - 32768=((o - 32768:Nat):Int):=by have:=HO.out;omega
    have M4:=K3.out.2.set 1 (.int .i64 ((o - 32768:Nat):Int))
    go_wp2_with fail
    go_meet
    rw[FG.out]
    exact M4
   ·have d1:decide ((t:Int)≤(o:Int))=false:=by simp;omega
    have FG:=Lib.hid (FE.out.trans (if_neg hto))
    go_wp2_with fail
    go_meet
    rw[FG.out]
    exact K3.out.2
  case rest =>
   clear g3 h3
   have KC:=Lib.hid hcut
   have FL:Hid (flushE ⟨a,c,ct,b⟩=flushN 2 ⟨a,fc,ct,b⟩):=Lib.hid (by rw[← HF.out];rfl)
   clear hcut
   obtain⟨R,hR⟩:∃ R,flushN 2 ⟨a,fc,ct,b⟩=R:=⟨_,rfl⟩
   rw[hR] at FL
   have HR:=Lib.hid hR
   clear hR
   go_wp2_with fail
   go_loopg [4] 2 (fun m s4 wx=>∃ (k:Nat) (e1:EncM) (H1:List HB),k≤2∧m=2 - k∧s4=.int .i64 (k:Int)∧MqR eg e1 H1∧Mv w (encB eg a c ct vb::Hb) wx H1∧e1.c≤200000000∧e1.ct≤12∧e1.b≠[]∧1≤e1.a∧e1.a<65536∧e1.b.length≤80000000+k∧flushN (2 - k) e1=R)
   case atStart=>exact⟨0,⟨a,fc,ct,b⟩,_,by omega,rfl,rfl,⟨vb,Hb,rfl,K3.out.1⟩,KC.out,hfc,hct,HE.out.1.1.2.2.2.2.2,HE.out.1.1.1,hab,hl,HR.out⟩
   case round =>
    obtain⟨k,e1,H1,hk,rfl,rfl,q1,m1,b1,b2,b3,b4,b5,b6,hres⟩:=hrel
    by_cases hlt:k<2
    ·have d1:decide ((k:Int)<2)=true:=by simp;omega
     obtain⟨a1,cc1,ct1,bs1⟩:=e1
     simp only at b1 b2 b3 b4 b5 b6
     have FO:=Lib.hid (flush1_ok (e:=⟨a1,cc1,ct1,bs1⟩) b4 b5)
     have LO:=Lib.hid (outE_len ⟨a1,cc1 * 2 ^ ct1,ct1,bs1⟩ b3)
     have SC:Hid (wrap64 ((cc1:Int) * 2 ^ min ct1 64)=((cc1 * 2 ^ ct1:Nat):Int)):=Lib.hid (by
      have h1:2 ^ ct1≤2 ^ 12:=Nat.pow_le_pow_right (by omega) b2
      have h2:cc1 * 2 ^ ct1≤200000000 * 2 ^ 12:=Nat.mul_le_mul b1 h1
      have e:(cc1:Int) * 2 ^ ct1=((cc1 * 2 ^ ct1:Nat):Int):=by push_cast;rfl
      rw[show min ct1 64=ct1 by omega,e,IntWalk.wrap64_in _ (by omega)])
     obtain⟨v1,Hb1,rfl,hr1⟩:=q1
     simp only at hr1 m1
     have KR:=Lib.hid (And.intro hr1 (And.intro m1 (And.intro hres b6)))
     have x1:=m1.cell 0 rfl 1
     have x2:=m1.cell 0 rfl 2
     have x3:=m1.frozen 0 rfl 1
     clear hr1 m1 hres
     go_upto_region 8 with fail
     clear x1 x2 x3
     have x1:=KR.out.2.1.drew.cell 0 rfl 1
     have x2:=KR.out.2.1.drew.cell 0 rfl 2
     have x3:=KR.out.2.1.drew.frozen 0 rfl 1
     go_still_tail 11,(by kernel_rfl)
     change wpList _ _ _ _ _ wr.drew
     have M5:=KR.out.2.1.drew.set 1 (.int .i64 ((cc1 * 2 ^ ct1:Nat):Int))
     generalize wr.drew=w5 at *
     obtain⟨w6,hw6⟩:∃ w6,w6=w5.setCell ⟨eg,1,none⟩ (.int .i64 ((cc1 * 2 ^ ct1:Nat):Int)):=⟨_,rfl⟩
     rw[← hw6] at M5
     replace M5:Mv w (encB eg a c ct vb::Hb) w6 (encB eg a1 (cc1 * 2 ^ ct1) ct1 v1::Hb1):=M5
     have HW6:=Lib.hid hw6
     have K6:=Lib.hid M5
     clear hw6 M5
     go_upto_region 9 with fail
     rw[SC.out,← HW6.out]
     clear x1 x2 x3
     have OA:=Lib.hid (out_any eg ⟨a1,cc1 * 2 ^ ct1,ct1,bs1⟩ w6 _ ⟨v1,Hb1,rfl,KR.out.1⟩ K6.out.sat b3 (by simp only;omega) (by simp only;have:=Nat.mul_le_mul b1 (Nat.pow_le_pow_right (n:=2) (by omega) b2);omega))
     go_wp2_with (go_at_call 104;refine OA.out.mono ?_;rintro e w7 ⟨rfl,H7,h7,m7⟩;have K7:=Lib.hid (And.intro h7 (Mv.call (R:=[]) (by simpa using K6.out) m7));clear h7 m7)
     go_roundg (2 - (k+1))
     case measure=>omega
     case rel =>
      have hF:outE ⟨a1,cc1 * 2 ^ ct1,ct1,bs1⟩=flush1 ⟨a1,cc1,ct1,bs1⟩:=rfl
      have hcl:(flush1 ⟨a1,cc1,ct1,bs1⟩).c≤200000000:=by
       have h1:=FO.out.2.2.2.1
       have h2:(flush1 ⟨a1,cc1,ct1,bs1⟩).c+(flush1 ⟨a1,cc1,ct1,bs1⟩).a≤((flush1 ⟨a1,cc1,ct1,bs1⟩).c+(flush1 ⟨a1,cc1,ct1,bs1⟩).a) * 2 ^ (flush1 ⟨a1,cc1,ct1,bs1⟩).ct:=Nat.le_mul_of_pos_right _ (Nat.two_pow_pos _)
       omega
      have hll:(flush1 ⟨a1,cc1,ct1,bs1⟩).b.length≤80000000+(k+1):=by
       have h1:(flush1 ⟨a1,cc1,ct1,bs1⟩).b.length=bs1.length+1:=LO.out
       omega
      have hfl:flushN (2 - (k+1)) (flush1 ⟨a1,cc1,ct1,bs1⟩)=R:=by
       have h1:=KR.out.2.2.1
       rw[show 2 - k=(2 - (k+1))+1 by omega] at h1
       exact h1
      exact⟨k+1,flush1 ⟨a1,cc1,ct1,bs1⟩,H7,by omega,rfl,by push_cast;rfl,K7.out.1,by simpa using K7.out.2,hcl,FO.out.2.2.1,FO.out.2.2.2.2,by rw[FO.out.1];exact b4,by rw[FO.out.1];exact b5,hll,hfl⟩
    ·have d1:decide ((k:Int)<2)=false:=by simp;omega
     have ek:k=2:=by omega
     subst ek
     have ER:Hid (flushE ⟨a,c,ct,b⟩=e1):=Lib.hid (FL.out.trans hres.symm)
     clear hres
     have LE:Hid ((flushE ⟨a,c,ct,b⟩).b.length=b.length+2):=Lib.hid (flushE_len HE.out.1)
     obtain⟨a1,cc1,ct1,bs1⟩:=e1
     simp only at b3 b6
     have LB:Hid (bs1.length=b.length+2):=Lib.hid (by have:=LE.out;rw[ER.out] at this;exact this)
     have FB:Hid (flushB ⟨a,c,ct,b⟩=noLast255 (bs1.drop 1)):=Lib.hid (by unfold flushB;rw[ER.out])
     obtain⟨vb1,Hb1,rfl,hr1⟩:=q1
     simp only at hr1 m1
     have hl1:=LB.out
     obtain⟨g1,cp1,cur1,rfl,k1,k2,-,-,-⟩:=RowH.form hr1 (by omega)
     have x1:=m1.cell 0 rfl 3
     have BD:=Lib.hid (BV.mid2 (hr1.bv (m1.sat.right (A:=[_]))) 1 (by omega))
     have M1:=m1.alloc 5 #[]
     have c0:=M1.cell 1 rfl 3
     have B1:=Lib.hid (BV.mid2 (hr1.bv (M1.sat.right (A:=[_,_]))) 1 (by omega))
     have R1:=Lib.hid (RowB.lit wr.heap.size [] 0 rfl (by decide))
     have K1:=Lib.hid M1
     obtain⟨n1,hn1⟩:∃ n1,bs1.length=n1:=⟨_,rfl⟩
     have KB:=Lib.hid hr1
     rw[hn1] at hl1 k1 c0 x1
     have hn1g:(1:Int)≤(n1:Int):=by omega
     have hcp:(n1:Int)≤(cp1:Int):=by omega
     clear M1 hr1 m1
     rw[hn1] at B1
     have HLD:=Lib.hid (show (bs1.drop 1).length=n1 - 1 by rw[List.length_drop,hn1])
     have n1lo:2≤n1:=by omega
     have n1hi:n1≤80000002:=by omega
     have hlb:(bs1.drop 1).length≤80000002:=by rw[List.length_drop];omega
     clear hn1 hl1 LE LB b1 b2 b4 b5 BD
     obtain⟨l4,hl4⟩:∃ l4,bs1.drop 1=l4:=⟨_,rfl⟩
     rw[hl4] at B1 HLD FB hlb
     clear hl4
     go_upto_region 11 with (at_builtin;go_must (refine wpList_appB rfl (.tmp 56) (.tmp 61) rfl _ _ [] l4 [_] rfl rfl R1.out K1.out.sat.left B1.out (by simp only[List.length_nil];omega) ?_;intro v3 w3 H3 hr3 m3;obtain⟨a3,c3,rfl⟩:=hr3.slice;have K5:=Lib.hid (And.intro hr3 (Mv.call (H:=[_]) K1.out m3));clear hr3 m3))
     rw[List.nil_append] at K5
     have RF4:=FB
     obtain⟨n4,hn4e⟩:∃ n4,n1 - 1=n4:=⟨_,rfl⟩
     rw[hn4e] at HLD
     rw[HLD.out] at K5 ⊢
     have hnl:n4≤90000000:=by omega
     have hn0:0<n4:=by omega
     have K4:Hid (RowB (.slice a3 n4 c3) l4 H3∧Mv w (encB eg a c ct vb::Hb) w3 (H3++(encB eg a1 cc1 ct1 (.slice (some ⟨g1,0,none⟩) bs1.length cp1)::Hb1))):=K5
     clear K5 hn4e n1lo n1hi hlb
     have T4:=K4.out.2.sat.left
     have QE:Hid (MqR eg (flushE ⟨a,c,ct,b⟩) (encB eg a1 cc1 ct1 (.slice (some ⟨g1,0,none⟩) bs1.length cp1)::Hb1)):=Lib.hid (by rw[ER.out];exact⟨_,_,rfl,KB.out⟩)
     obtain⟨g,ha⟩:∃ g,a3=some ⟨g,0,none⟩:=by
      obtain⟨g,cp,cur4,hv,-⟩:=RowH.form K4.out.1 (by rw[HLD.out];exact hn0)
      injection hv with ha
      exact⟨g,ha⟩
     subst ha
     obtain⟨s1,s2,s3⟩:=RowB.short K4.out.1 hn0
     obtain⟨k1',-⟩:=RowB.at_last K4.out.1 T4 HLD.out hn0
     obtain⟨q,hq⟩:∃ q,l4.getLastD 0=q:=⟨_,rfl⟩
     rw[hq] at k1'
     have HQ:=Lib.hid hq
     have S3:=Lib.hid s3
     have y1:(n4:Int) - 1=((n4 - 1:Nat):Int):=by omega
     have y2:((n4 - 1:Nat):Int)<(n4:Int):=by omega
     have y3:((n4 - 1:Nat):Int)≤(c3:Int):=by omega
     clear hq s3 T4
     by_cases h255:q=255
     ·have d0:((q.toNat:Int) == 255)=true:=by rw[h255];rfl
      have RG:=Lib.hid (RF4.out.trans (noLast255_yes (HQ.out.trans h255)))
      clear h255
      go_wp2_with fail
      go_ret
      exact⟨_,H3,_,rfl,by rw[RG.out];exact S3.out,QE.out,K4.out.2⟩
     ·have d0:((q.toNat:Int) == 255)=false:=by
       have:q.toNat≠255:=fun e=>h255 (UInt8.toNat_inj.1 (by rw[e];rfl))
       exact beq_eq_false_iff_ne.2 (by omega)
      have RG:=Lib.hid (RF4.out.trans (noLast255_no (fun e=>h255 (HQ.out.symm.trans e))))
      clear h255
      go_wp2_with fail
      go_ret
      exact⟨_,H3,_,rfl,by rw[RG.out];exact K4.out.1,QE.out,K4.out.2⟩
end
end Go.Proofs.YtjngfhgakokejaaGreat
