/- A new band. A new band: the walk. Rows of passes: append, a copy. A copy of passes. A block of one's own: a copy. A band's k-th block: a copy of what is known of it. A band of which nothing is new: written; the law's example. waveletref8: rows of passes: append; one is changed. waveletref15: ends, news. waveletref8: a new coder. -/
import Derived.Test.YtjngfhgakokejaaGreatZp11
import Derived.Test.YtjngfhgakokejaaGreatZp02
import Derived.WalkLawsBesides
import Derived.Deep.RegionHeld3
import Derived.Test.YtjngfhgakokejaaGreatZp07
import Derived.Test.YtjngfhgakokejaaGreatZp10
import Derived.Test.YtjngfhgakokejaaGreatZp04
import Derived.Test.YtjngfhgakokejaaGreatZp03
import Derived.Laws.OwnMore
set_option maxRecDepth 100000
set_option maxHeartbeats 8000000
namespace Go.Proofs.YtjngfhgakokejaaGreat
section
open Go.RowKit
def stNew:StG:=⟨⟨0,[],[],0,3⟩,.slice none 0 0,.slice none 0 0,[],[]⟩
theorem stNew_ok:stNew.ok:=⟨RowH.nil _ _,RowH.nil _ _,⟨by simp [stNew],by simp [stNew],by simp [stNew],by simp [stNew],by simp [stNew],by simp [stNew]⟩⟩
theorem infoSt:(Tryz.prog.info? 69).map (fun i=>(i.zero,i.size,i.bytes))=some (some (.agg #[.int .i64 0,.slice none 0 0,.slice none 0 0,.int .i64 0,.int .i64 0]),5,72):=by kernel_rfl
def st0:StG:=⟨⟨0,[],[],0,0⟩,.slice none 0 0,.slice none 0 0,[],[]⟩
def newBandM (w h:Nat) (planes:Int):BandM:=⟨w,h,planes,treeOf w h,treeOf w h,false,List.replicate (w * h) stNew.m⟩
def stMid (n j:Nat):List StG:=List.replicate j stNew++List.replicate (n - j) st0
theorem stMid_get (n j:Nat) (h:j<n):(stMid n j)[j]?=some st0:=by
 unfold stMid
 rw [List.getElem?_append_right (by simp),List.length_replicate,Nat.sub_self,List.getElem?_replicate,if_pos (by omega)]
theorem stMid_set (n j:Nat) (h:j<n):(stMid n j).set j stNew=stMid n (j+1):=by
 unfold stMid
 apply List.ext_getElem?
 intro i
 simp only [List.getElem?_set,List.length_append,List.length_replicate,List.getElem?_append,List.getElem?_replicate]
 grind
theorem stMid_step (n j:Nat) (h:j<n):((stMid n j).flatMap StG.v).set (j * 5+4) (.int .i64 3)=(stMid n (j+1)).flatMap StG.v:=by
 rw [← stMid_set n j h]
 exact flat_set StG.v 5 StG.v_length _ _ st0 stNew (stMid_get n j h) 4 (by omega) _ rfl
theorem stMid_made (n:Nat):(List.replicate n (Value.agg #[.int .i64 0,.slice none 0 0,.slice none 0 0,.int .i64 0,.int .i64 0]).cells.toList).flatten=(stMid n 0).flatMap StG.v:=by
 unfold stMid
 simp only [List.replicate_zero,List.nil_append,Nat.sub_zero]
 induction n with
 | zero=>rfl
 | succ n ih=>rw [List.replicate_succ,List.replicate_succ,List.flatten_cons,List.flatMap_cons,ih];rfl
end
section
open Go.RowKit
theorem band_new (x y:Nat) (planes:Int) (W:World) (hx:x≤64) (hy:y≤64) (hp : -1000≤planes∧planes≤1000) :
  Calls Tryz.prog 15 #[.int .i64 (x:Int),.int .i64 (y:Int),.int .i64 planes] W fun e W'=>∃ d H,e=.returned (.pointer (some ⟨d.bb,0,none⟩))∧d.n=x * y∧BandR d (newBandM x y planes) H∧Mv W [] W' H:=by
 have T1:=Lib.hid (tree_new x y)
 obtain ⟨n,hn⟩:∃ n,x * y=n:=⟨_,rfl⟩
 have hn4:n≤4096:=by rw [← hn];exact Nat.mul_le_mul hx hy
 have hmul:(x:Int) * (y:Int)=(n:Int):=by rw [← hn];push_cast;rfl
 obtain ⟨i0,hi,hz0,hz1,hz2⟩:=info_parts infoSt
 have MK:∀ V:World,(Instr.makeSlice 114 (.int .i64 ((x:Int) * (y:Int))) (.int .i64 ((x:Int) * (y:Int)))).run Tryz.prog V=.ok (.slice (some ⟨V.heap.size,0,none⟩) n n) (V.alloc (.cells ((stMid n 0).flatMap StG.v).toArray 69)):=by
  intro V
  rw [hmul,← stMid_made]
  exact run_made _ _ i0 _ 5 72 n Tryz.underlying114 hi hz0 hz1 hz2 rfl (by omega) (by omega) (by omega) V
 have ub:(x:Int) * (y:Int)≤4096:=by rw [hmul];omega
 have lb:0≤(x:Int) * (y:Int):=by rw [hmul];omega
 have HN:=Lib.hid (And.intro hn hmul)
 clear hn hmul hi hz0 hz1 hz2
 have b1:decide ((x:Int)<0)=false:=by simp
 have b2:decide ((y:Int)<0)=false:=by simp
 have b3:decide (64<(x:Int))=false:=by simp;omega
 have b4:decide (64<(y:Int))=false:=by simp;omega
 go_enter Tryz.func15,Tryz.ntmps15
 go_upto_region 4 with (go_at_call 50;refine (T1.out _).mono ?_;rintro e w2 ⟨tb,P,H,rfl,q1,q2,q3⟩;have KT:=Lib.hid (And.intro q1 (And.intro q2 q3));clear q1 q2 q3)
 rename_i w1 t1 P1 H1 KT1 kk1 kk2
 have M2:Mv W [] w2 (H++H1):=Mv.call (H:=[]) (R:=H1) KT1.out.2.2 KT.out.2.2
 obtain ⟨w3,hw3⟩:∃ w3,w3=w2.alloc (.cells #[.slice none 0 0,.int .i64 planes,.pointer (some ⟨t1,0,none⟩),.pointer (some ⟨tb,0,none⟩),.bool false] 118):=⟨_,rfl⟩
 have M3:Mv W [] w3 (⟨w2.heap.size,118,#[.slice none 0 0,.int .i64 planes,.pointer (some ⟨t1,0,none⟩),.pointer (some ⟨tb,0,none⟩),.bool false]⟩::(H++H1)):=by rw [hw3];exact M2.alloc _ _
 have M4:=M3.alloc 69 ((stMid n 0).flatMap StG.v).toArray
 have c0:=(Mv.blkm M4 (List.mem_cons_of_mem _ List.mem_cons_self)).cell 0
 have f0:=(Mv.blkm M4 (List.mem_cons_of_mem _ List.mem_cons_self)).frozen 0
 have M5:=Mv.setAt (A:=[_]) M4 0 (.slice (some ⟨w3.heap.size,0,none⟩) n n)
 simp only [← hw3]
 have K5:=Lib.hid M5
 clear hw3 M2 M3 M4 M5
 go_wp2_with fail
 obtain ⟨lb,hlb⟩:∃ lb,w3.heap.size=lb:=⟨_,rfl⟩
 obtain ⟨bb,hbb⟩:∃ bb,w2.heap.size=bb:=⟨_,rfl⟩
 rw [hlb,hbb] at K5
 simp only [hlb,hbb]
 obtain ⟨BB,hBB⟩:∃ BB:HB,BB=⟨bb,118,#[.slice (some ⟨lb,0,none⟩) n n,.int .i64 planes,.pointer (some ⟨t1,0,none⟩),.pointer (some ⟨tb,0,none⟩),.bool false]⟩:=⟨_,rfl⟩
 have K6:Hid (Mv W [] _ (⟨lb,69,((stMid n 0).flatMap StG.v).toArray⟩::BB::(H++H1))):=Lib.hid (by rw [hBB];exact K5.out)
 have FX:Hid (∀ wx j,j<n→Mv W [] wx (⟨lb,69,((stMid n j).flatMap StG.v).toArray⟩::BB::(H++H1))→wx.cell? ⟨bb,0,none⟩=some (.slice (some ⟨lb,0,none⟩) n n)∧wx.cell? ⟨lb,j * 5+4,none⟩=some (.int .i64 0)∧wx.frozen? ⟨lb,j * 5+4,none⟩=false ∧
   Hid (Mv W [] (wx.setCell ⟨lb,j * 5+4,none⟩ (.int .i64 3)) (⟨lb,69,((stMid n (j+1)).flatMap StG.v).toArray⟩::BB::(H++H1)))):=Lib.hid (by
  intro wx j hj m
  have a1:=Mv.blkm m (x:=BB) (List.mem_cons_of_mem _ List.mem_cons_self)
  rw [hBB] at a1
  have a2:=state_cells (Mv.blkm m List.mem_cons_self) (stMid_get n j hj)
  have m2:=m.set (j * 5+4) (.int .i64 3)
  rw [← stMid_step n j hj]
  refine ⟨a1.cell 0,a2.2.2.2.2.1,a2.2.2.2.2.2 _,Lib.hid ?_⟩
  simpa using m2)
 clear K5 c0 f0
 go_loopg [46] n (fun m s46 wx=>∃ j:Nat,j≤n∧m=n - j∧s46=.int .i64 (j:Int)∧Mv W [] wx (⟨lb,69,((stMid n j).flatMap StG.v).toArray⟩::BB::(H++H1)))
 case atStart=>exact ⟨0,by omega,rfl,rfl,K6.out⟩
 case round =>
  obtain ⟨j,hj,rfl,rfl,m⟩:=hrel
  have KM:=Lib.hid m
  clear m
  by_cases hlt:j<n
  ·have d1:decide ((j:Int)<(n:Int))=true:=by simp;omega
   obtain ⟨e1,e2,e3,e4⟩:=FX.out wr j hlt KM.out
   go_wp2_with fail
   all_goals
    go_roundg (n - (j+1))
    case measure=>omega
    case rel=>exact ⟨j+1,by omega,rfl,by push_cast;rfl,e4.out⟩
  ·have d1:decide ((j:Int)<(n:Int))=false:=by simp;omega
   go_wp2_with fail
   obtain rfl:j=n:=by omega
   have e1:stMid j j=List.replicate j stNew:=by simp [stMid]
   have m:=KM.out
   rw [e1,hBB] at m
   go_ret
   refine ⟨⟨bb,lb,j⟩,_,rfl,HN.out.1.symm,⟨⟨t1,tb,P1,P,H1,H,List.replicate j stNew,planes,false,x,y⟩,?_,?_,rfl⟩,?_⟩
   ·simp only [BandG.model,newBandM,KT.out.1,KT1.out.1,List.map_replicate,HN.out.1]
   ·exact ⟨KT1.out.2.1,KT.out.2.1,treeOk_new _ _ _ hx hy KT1.out.1,treeOk_new _ _ _ hx hy KT.out.1,fun s hs=>by rw [List.eq_of_mem_replicate hs];exact stNew_ok,by simp,HN.out.1.symm,hp,hx,hy⟩
   ·have e2:(List.replicate j stNew).flatMap StG.heap=[]:=by
     induction j with
     | zero=>rfl
     | succ j ih=>simp [StG.heap,stNew]
    refine m.sub (fun g=>?_) (fun c hc=>?_)
    ·simp only [BandG.heap,bandB,statesB,e2,cnt_append,cnt_cons,cnt_nil]
     omega
    ·simp only [BandG.heap,bandB,statesB,e2,List.mem_append,List.mem_cons,List.not_mem_nil,or_false] at hc ⊢
     grind
end
section
open Go.RowKit
theorem infoPs:(Tryz.prog.info? 142).map (fun i=>(i.zero,i.size,i.bytes))=some (some (.agg #[.int .i64 0,.bool false]),2,16):=by kernel_rfl
def RowP (v:Value) (l:List (Int × Bool)) (H:List HB):Prop:=RowH 142 2 v l.length (passesV l) H
def PV (w:World) (v:Value) (l:List (Int × Bool)):Prop:=∃ A c,v=.slice A l.length c∧l.length≤c∧c≤maxLen∧Reads w w.heap.size 2 A l.length (passesV l)
theorem passesV_append (a b:List (Int × Bool)):passesV (a++b)=passesV a++passesV b:=by simp [passesV]
theorem passesV_one (l:List (Int × Bool)):∀ u:Value,u∈passesV l→u.oneCell'=true:=by
 intro u hu
 simp only [passesV,passV,List.mem_flatMap,List.mem_cons,List.not_mem_nil,or_false] at hu
 obtain ⟨p,-,rfl | rfl⟩:=hu <;> rfl
theorem RowP.slice {v:Value} {l:List (Int × Bool)} {H:List HB} (h:RowP v l H):∃ a c,v=.slice a l.length c:=RowH.slice h
theorem PV.keep {w w':World} {v:Value} {l:List (Int × Bool)} (h:PV w v l) (hb:Below w.heap.size w w'):PV w' v l:=by
 obtain ⟨A,c,h1,h2,h3,h4⟩:=h
 exact ⟨A,c,h1,h2,h3,(h4.below hb).more hb.size⟩
theorem RowP.pv {w:World} {v:Value} {l:List (Int × Bool)} {H:List HB} (h:RowP v l H) (hs:Sat w H):PV w v l:=by
 have ho:=RowH.owns h hs (B:=0) (fun _ _=>Nat.zero_le _)
 rcases h.2 with ⟨rfl,h2,h3⟩ | ⟨g,cap,cur,rfl,h1,h2,-⟩
 ·exact ⟨none,0,by rw [h2],by omega,by unfold maxLen;omega,Reads.of_own (by rw [h2] at ho ⊢;exact ho)⟩
 ·exact ⟨_,cap,rfl,h1,h2,Reads.of_own ho⟩
theorem run_appP {w:World} {v u:Value} {l r:List (Int × Bool)} {H:List HB} (h:RowP v l H) (hs:Sat w H) (hu:PV w u r) (hl:l.length+r.length≤100000000) (ty:TypeId) :
  ∃ v' w' H',(Builtin.append_ #[56,56] ty #[v,u]).run Tryz.prog w=.ok v' w'∧RowP v' (l++r) H'∧Mv w H w' H':=by
 obtain ⟨A,c,rfl,h1,h2,h3⟩:=hu
 obtain ⟨i0,hti,hz0,hz1,hz2⟩:=info_parts infoPs
 obtain ⟨v',w',hrun,k1,k2,k3⟩:=run_append_any (P:=Tryz.prog) w 0 56 ty 142 i0 _ 2 16 Tryz.underlying56 hti hz0 hz1 hz2 rfl (by decide) v l.length (passesV l) (RowH.owns h hs (fun _ _=>Nat.zero_le _)) w.heap.size A r.length c (passesV r) h3 (passesV_one r) (by unfold maxLen;omega) (by omega) (Nat.zero_le _)
 obtain ⟨H',k4,k5⟩:=mv_owns_grown h k1 k2 k3
 refine ⟨v',w',H',hrun,?_,k5⟩
 unfold RowP
 rw [List.length_append,passesV_append]
 exact k4
section
variable {ops:Array Oper} {rest:List Oper} {o:Oper} {a:Act} {w:World} {K:Act→World→Prop} {Q:Exit→Act→World→Prop} {E:Prop}
theorem wp_appP (s x:Operand) (ho:o.op=.call { callee:=.builtin .append,args:=#[s,x],argTypes:=#[56,56] }) (v u:Value) (l r:List (Int × Bool)) (H:List HB)
  (hsv:a.eval s=v) (hxu:a.eval x=u) (h:RowP v l H) (hs:Sat w H) (hu:PV w u r) (hl:l.length+r.length≤100000000)
  (hK:∀ v' w' H',RowP v' (l++r) H'→Mv w H w' H'→K (a.put o.dst v') w'):o.wp Tryz.prog a w K Q:=by
 obtain ⟨v',w',H',hrun,h1,h2⟩:=run_appP h hs hu hl o.type
 unfold Oper.wp execOp
 simp only [ho,resolve,invoke,builtin,Sem.run_bind,Sem.run_pure,Result.andThen_ok,List.map_toArray,List.map_cons,List.map_nil,hsv,hxu,hrun]
 exact hK v' w' H' h1 h2
theorem wpList_appP (hgd:o.guard=none) (s x:Operand) (ho:o.op=.call { callee:=.builtin .append,args:=#[s,x],argTypes:=#[56,56] }) (v u:Value) (l r:List (Int × Bool)) (H:List HB)
  (hsv:a.eval s=v) (hxu:a.eval x=u) (h:RowP v l H) (hs:Sat w H) (hu:PV w u r) (hl:l.length+r.length≤100000000)
  (hK:∀ v' w' H',RowP v' (l++r) H'→Mv w H w' H'→wpList Tryz.prog ops Q rest (a.put o.dst v') w'):wpList Tryz.prog ops Q (o::rest) a w :=
 wpList_plain hgd fun _ hk=>wp_appP s x ho v u l r H hsv hxu h hs hu hl fun v' w' H' h1 h2=>hk _ _ (hK v' w' H' h1 h2)
end
end
section
open Go.RowKit
theorem cloneP_any (v:Value) (l:List (Int × Bool)) (w:World) (hv:PV w v l) (hn:l.length≤1000000) :
  Calls Tryz.prog 105 #[v] w fun e w'=>∃ v' H',e=.returned v'∧RowP v' l H'∧Mv w [] w' H':=by
 obtain ⟨A,c,rfl,h1,h2,hr⟩:=hv
 have HV:=Lib.hid hr
 have hq:∀ W,(binOp .eql 56 (.slice A l.length c) (.slice none 0 0)).run Tryz.prog W=.ok (.bool A.isNone) W:=fun W=>Lib.run_eql_slice_nil W 56 142 A l.length c 0 0 Tryz.underlying56
 rcases A with _ | ad
 ·have h0:l.length=0:=by
   rcases Nat.eq_zero_or_pos l.length with h | h
   ·exact h
   ·obtain ⟨_,h,_⟩:=hr.2 (by omega);cases h
  have hl:l=[]:=List.eq_nil_of_length_eq_zero h0
  subst hl
  clear hr HV hn h1 h0
  simp only [List.length_nil] at hq ⊢
  go_enter Tryz.func105,Tryz.ntmps105
  go_wp2
  go_ret
  exact ⟨_,[],rfl,RowH.nil _ _,Mv.refl (Sat.nil w)⟩
 ·have M0:=mv_alloc w 142 #[]
  have B0:PV (w.alloc (.cells #[] 142)) (.slice (some ad) l.length c) l:=⟨some ad,c,rfl,h1,h2,(hr.alloc (Nat.le_refl _) _).more (by simp)⟩
  have R0:RowP (.slice (some ⟨w.heap.size,0,none⟩) 0 0) [] [⟨w.heap.size,142,#[]⟩]:=RowH.new 142 w.heap.size 0 #[] (by simp) (by decide)
  have K:=Lib.hid (And.intro M0 (And.intro B0 R0))
  obtain ⟨n,hnn⟩:∃ n,l.length=n:=⟨_,rfl⟩
  have HN:=Lib.hid hnn
  rw [hnn] at hq hn h1 K
  rw [hnn]
  clear hr HV M0 B0 R0 hnn
  go_enter Tryz.func105,Tryz.ntmps105
  go_wp2_with (at_builtin;go_must (refine wpList_appP rfl (.tmp 5) (.tmp 6) rfl _ _ [] l _ rfl rfl K.out.2.2 K.out.1.sat K.out.2.1 (by rw [HN.out];simp;omega) ?_;intro v' w1 H1 hr1 m1;obtain ⟨a1,c1,rfl⟩:=hr1.slice;have K1:=Lib.hid (And.intro hr1 m1);clear hr1 m1))
  go_ret
  exact ⟨_,H1,rfl,by simpa using K1.out.1,K.out.1.trans K1.out.2⟩
end
section
open Go.RowKit
theorem own_any (pl:Int) (vp vb:Value) (ps:List (Int × Bool)) (bs:List UInt8) (w:World) (hp:PV w vp ps) (hb:BV w vb bs) (hn:ps.length≤1000000) (hm:bs.length≤100000000) :
  Calls Tryz.prog 67 #[.agg #[.int .i64 pl,vp,vb]] w fun e w'=>∃ vp' vb' Hp Hb,e=.returned (.agg #[.int .i64 pl,vp',vb'])∧RowP vp' ps Hp∧RowB vb' bs Hb∧Mv w [] w' (Hp++Hb):=by
 have M1:=((Mv.refl (Sat.nil w)).alloc 58 #[.int .i64 pl,vp,vb]).alloc 58 #[.int .i64 0,.slice none 0 0,.slice none 0 0]
 obtain ⟨w1,hw1⟩:∃ w1,w1=(w.alloc (.cells #[.int .i64 pl,vp,vb] 58)).alloc (.cells #[.int .i64 0,.slice none 0 0,.slice none 0 0] 58):=⟨_,rfl⟩
 rw [← hw1] at M1
 have hsz:(w.alloc (.cells #[.int .i64 pl,vp,vb] 58)).heap.size=w.heap.size+1:=by simp
 rw [hsz] at M1
 have BX:Blk w1 w.heap.size 58 #[.int .i64 pl,vp,vb]:=Mv.blkm M1 (x:=⟨w.heap.size,58,#[.int .i64 pl,vp,vb]⟩) (List.mem_cons_of_mem _ List.mem_cons_self)
 have F:Hid (∀ w' H,Mv w1.drew [] w' H→(w'.cell? ⟨w.heap.size,0,none⟩=some (.int .i64 pl)∧w'.cell? ⟨w.heap.size,1,none⟩=some vp∧w'.cell? ⟨w.heap.size,2,none⟩=some vb)∧PV w' vp ps∧BV w' vb bs):=Lib.hid (by
  intro w' H m
  have hB:Below w1.heap.size w1 w':=⟨m.only.os,m.only.tape,m.only.output,m.only.size,m.below0.block⟩
  have hB0:Below w.heap.size w w':=(Mv.below0 M1).trans (hB.mono M1.only.size)
  have b1:=BX.below hB BX.lt
  exact ⟨⟨b1.cell 0,b1.cell 1,b1.cell 2⟩,hp.keep hB0,hb.keep hB0⟩)
 have BY:Blk w1 (w.heap.size+1) 58 #[.int .i64 0,.slice none 0 0,.slice none 0 0]:=Mv.blkm M1 (x:=⟨w.heap.size+1,58,#[.int .i64 0,.slice none 0 0,.slice none 0 0]⟩) List.mem_cons_self
 have FY:Hid (∀ w' H,Mv w1.drew [] w' H→Blk w' (w.heap.size+1) 58 #[.int .i64 0,.slice none 0 0,.slice none 0 0]):=Lib.hid (by
  intro w' H m
  have hB:Below w1.heap.size w1 w':=⟨m.only.os,m.only.tape,m.only.output,m.only.size,m.below0.block⟩
  exact BY.below hB BY.lt)
 clear BX BY
 obtain ⟨A,c,rfl,-⟩:=hp
 obtain ⟨B,d,rfl,-⟩:=hb
 obtain ⟨np,hnp⟩:∃ np,ps.length=np:=⟨_,rfl⟩
 obtain ⟨nb,hnb⟩:∃ nb,bs.length=nb:=⟨_,rfl⟩
 rw [hnp] at F hn M1 hw1 ⊢
 rw [hnb] at F hm M1 hw1 ⊢
 have HN:=Lib.hid (And.intro hnp hnb)
 have KM:=Lib.hid M1
 clear hnp hnb M1
 go_enter Tryz.func67,Tryz.ntmps67
 go_upto_region 1 with fail
 rw [← hw1]
 have CP:=Lib.hid fun W (h:PV W (.slice A np c) ps)=>cloneP_any _ ps W h (by rw [HN.out.1];exact hn)
 have CB:=Lib.hid fun W (h:BV W (.slice B nb d) bs)=>clone_any _ bs W h (by rw [HN.out.2];exact hm)
 clear hw1
 have F0:=(F.out w1.drew [] (Mv.refl (Sat.nil _))).1
 go_region_held3 (fun w'=>w'.cell? ⟨w.heap.size,0,none⟩=some (.int .i64 pl)∧w'.cell? ⟨w.heap.size,1,none⟩=some (.slice A np c)∧w'.cell? ⟨w.heap.size,2,none⟩=some (.slice B nb d))
  (first | (with_reducible exact F0) | (with_reducible exact F1) | (with_reducible exact F2) | (exact ⟨(World.cell?_setCell_other _ _ _ _ (by simp)).trans ((World.cell?_setCell_other _ _ _ _ (by simp)).trans ((World.cell?_setCell_other _ _ _ _ (by simp)).trans F2.1)),(World.cell?_setCell_other _ _ _ _ (by simp)).trans ((World.cell?_setCell_other _ _ _ _ (by simp)).trans ((World.cell?_setCell_other _ _ _ _ (by simp)).trans F2.2.1)),(World.cell?_setCell_other _ _ _ _ (by simp)).trans ((World.cell?_setCell_other _ _ _ _ (by simp)).trans ((World.cell?_setCell_other _ _ _ _ (by simp)).trans F2.2.2))⟩))
  (first | (go_at_call 105;refine (CP.out _ (F.out _ _ (Mv.refl (Sat.nil _))).2.1).mono ?_;rintro e w2 ⟨vp',Hp,rfl,r1,m1⟩;obtain ⟨a1,c1,rfl⟩:=r1.slice;have F1:=(F.out w2 _ m1).1;have K1:=Lib.hid (And.intro r1 m1);clear r1 m1) | (go_at_call 31;refine (CB.out _ (F.out _ _ K1.out.2).2.2).mono ?_;rintro e w3 ⟨vb',Hb,rfl,r2,m2⟩;obtain ⟨a2,c2,rfl⟩:=RowH.slice r2;have K2:=Lib.hid (And.intro r2 m2);have F2:=(F.out w3 _ (Mv.call (H:=[]) K1.out.2 m2)).1;have Y3:=FY.out w3 _ (Mv.call (H:=[]) K1.out.2 m2);have y0:=Y3.cell 0;have y1:=Y3.cell 1;have y2:=Y3.cell 2;have z0:=Y3.frozen 0;have z1:=Y3.frozen 1;have z2:=Y3.frozen 2;have KY:=Lib.hid Y3;clear r2 m2 Y3))
 go_wp2_with fail
 rw [HN.out.1,HN.out.2]
 have M3a:Mv w [] w2 (Hp++[_,_]):=Mv.call (H:=[]) (R:=[_,_]) KM.out.drew K1.out.2
 have M3b:Mv w [] w3 (Hb++(Hp++[_,_])):=Mv.call (H:=[]) (R:=Hp++[_,_]) M3a K2.out.2
 have M3:Mv w [] w3 (⟨w.heap.size+1,58,#[.int .i64 0,.slice none 0 0,.slice none 0 0]⟩::(Hp++Hb)):=M3b.sub (fun g=>by simp only [cnt_append,cnt_cons];omega) (fun c hc=>by simp only [List.mem_append,List.mem_cons] at hc ⊢;grind)
 have M4:=((M3.set 0 (.int .i64 pl)).set 1 (.slice a1 ps.length c1)).set 2 (.slice a2 bs.length c2)
 rw [HN.out.1,HN.out.2] at M4
 refine bodyPost_ret (v:=.agg #[.int .i64 pl,.slice a1 np c1,.slice a2 nb c2]) (results_cell_row Tryz.results67 _ _ (w.heap.size+1) 58 _ (0,0) _ rfl (Mv.blkm M4 List.mem_cons_self) Tryz.underlying58 rfl (by kernel_rfl)) rfl ?_
 have k1:=K1.out.1
 have k2:=K2.out.1
 rw [HN.out.1] at k1
 rw [HN.out.2] at k2
 exact ⟨_,_,Hp,Hb,rfl,k1,k2,M4.drop1⟩
end
section
open Go.RowKit
theorem cnt_flatMap_le {α:Type} (f:α→List HB) {l:List α} {x:α} (h:x∈l) (g:Nat):cnt g (f x)≤cnt g (l.flatMap f):=by
 induction l with
 | nil=>cases h
 | cons y l ih =>
  rw [List.flatMap_cons,cnt_append]
  rcases List.mem_cons.1 h with rfl | h
  ·omega
  ·have:=ih h
   omega
def stNone:StM:=⟨0,[],[],0,3⟩
def stOf (m:BandM) (k:Int):StM:=if k<0∨(m.ss.length:Int)≤k then stNone else m.ss.getD k.toNat stNone
theorem StG.sat {b:BandG} {d:BandA} {w:World} (hs:Sat w (b.heap d)) {s:StG} (h:s∈b.G):Sat w s.Hp∧Sat w s.Hb:=by
 have h1:Sat w (s.heap):=by
  refine hs.sub (fun g=>?_) (fun c hc=>?_)
  ·have:=cnt_flatMap_le StG.heap h g
   simp only [BandG.heap,cnt_cons,cnt_append]
   omega
  ·have:c∈b.G.flatMap StG.heap:=List.mem_flatMap.2 ⟨s,h,hc⟩
   simp only [BandG.heap,List.mem_cons,List.mem_append]
   exact .inr (.inr (.inr (.inr this)))
 exact ⟨h1.left,h1.right⟩
end
section
open Go.RowKit
def listB (g bb:Nat):HB:=⟨g,43,#[.pointer (some ⟨bb,0,none⟩)]⟩
theorem enc_one (d:BandA) (m:BandM) (H0:List HB) (g:Nat) (W:World) (style layer:Int) (count:Nat) (hB:BandR d m H0) (hs:Sat W (listB g d.bb::H0)) (hct:count≤100000) (hly:0≤layer∧layer≤10000) (hno:∀ s∈m.ss,passN s.ps.length count (layer+1)≤s.said) :
  Calls Tryz.prog 10 #[.slice (some ⟨g,0,none⟩) 1 1,.int .i64 style,.int .i64 (count:Int),.int .i64 layer] W fun e W' =>
   ∃ a c H1 m' H',e=.returned (.tuple #[.slice (some ⟨a,0,none⟩) 1 c,.slice none 0 0])∧RowB (.slice (some ⟨a,0,none⟩) 1 c) [0] H1∧W'.cell? ⟨a,0,none⟩=some (.int .u8 0)∧1≤c∧BandR d m' H'∧m'.ss=m.ss∧Mv W (listB g d.bb::H0) W' (H1++(listB g d.bb::H')):=by
 have hL:ListH (.slice (some ⟨g,0,none⟩) 1 1) [d] [listB g d.bb]:=RowH.new (size:=1) _ g 1 #[.pointer (some ⟨d.bb,0,none⟩)] rfl (by decide)
 refine (enc_none (some ⟨g,0,none⟩) 1 [d] (fun _=>m) style layer count [listB g d.bb] H0 W (by simp) hL ⟨H0,[],by simp,hB,rfl⟩ hs hct hly (fun d' hd s h=>?_)).mono ?_
 ·exact hno s h
 ·rintro e W' ⟨v,H1,HB',rfl,h1,⟨H2,H3,rfl,h2,rfl⟩,h3⟩
  obtain ⟨a,c,cur,rfl,hc,-⟩:=RowH.form h1 (by decide)
  have hcell:=(RowH.cell h1 h3.sat.left rfl 0 (by decide)).1
  refine ⟨a,c,H1,_,H2,rfl,h1,by simpa [cellsB] using hcell,hc,h2,encM_ss count _ _ _,?_⟩
  simpa using h3
theorem new_none (w h:Nat) (planes:Int) (count:Nat) (layer:Int):∀ s∈(newBandM w h planes).ss,passN s.ps.length count (layer+1)≤s.said:=by
 intro s hs
 rw [List.eq_of_mem_replicate hs]
 exact Int.le_of_eq (passN_zero _ _)
theorem known_any (w:World):Calls Tryz.prog 6 #[] w fun e w'=>e=.returned (.bool true)∧Mv w [] w' []:=by
 have NB:=Lib.hid (band_new 1 1 5 w (by decide) (by decide) (by decide))
 have NN:=Lib.hid (new_none 1 1 5 1 0)
 go_enter Tryz.func6,Tryz.ntmps6
 go_wp2_with (first | (go_at_call 15;refine NB.out.mono ?_;rintro e w1 ⟨d,H,rfl,-,hB,m1⟩;have K1:=Lib.hid (And.intro hB m1);clear hB m1) | (go_at_call 10;refine (enc_one d _ H _ _ 0 0 1 K1.out.1 (K1.out.2.alloc _ _).sat (by decide) (by decide) NN.out).mono ?_;rintro e w2 ⟨a,c,H1,m',H',rfl,-,c0,hc,-,-,m2⟩;have M2:=(K1.out.2.alloc _ _).trans m2;have K2:=Lib.hid M2;clear m2 M2))
 go_ret
 exact ⟨rfl,Mv.drop (A:=H1++(_::H')) (H:=[]) (by simpa using K2.out)⟩
end
section
open Go.RowKit
theorem infoQs:(Tryz.prog.info? 90).map (fun i=>(i.zero,i.size,i.bytes))=some (some (.agg #[.int .i64 0,.bool false]),2,16):=by kernel_rfl
def RowQ (v:Value) (l:List (Int × Bool)) (H:List HB):Prop:=RowH 90 2 v l.length (passesV l) H
def QV (w:World) (v:Value) (l:List (Int × Bool)):Prop:=∃ A c,v=.slice A l.length c∧l.length≤c∧c≤maxLen∧Reads w w.heap.size 2 A l.length (passesV l)
theorem RowQ.slice {v:Value} {l:List (Int × Bool)} {H:List HB} (h:RowQ v l H):∃ a c,v=.slice a l.length c:=RowH.slice h
theorem RowQ.qv {w:World} {v:Value} {l:List (Int × Bool)} {H:List HB} (h:RowQ v l H) (hs:Sat w H):QV w v l:=by
 have ho:=RowH.owns h hs (B:=0) (fun _ _=>Nat.zero_le _)
 rcases h.2 with ⟨rfl,h2,h3⟩ | ⟨g,cap,cur,rfl,h1,h2,-⟩
 ·exact ⟨none,0,by rw [h2],by omega,by unfold maxLen;omega,Reads.of_own (by rw [h2] at ho ⊢;exact ho)⟩
 ·exact ⟨_,cap,rfl,h1,h2,Reads.of_own ho⟩
theorem run_appQ {w:World} {v u:Value} {l r:List (Int × Bool)} {H:List HB} (h:RowQ v l H) (hs:Sat w H) (hu:QV w u r) (hl:l.length+r.length≤100000000) (ty:TypeId) :
  ∃ v' w' H',(Builtin.append_ #[49,49] ty #[v,u]).run Tryz.prog w=.ok v' w'∧RowQ v' (l++r) H'∧Mv w H w' H':=by
 obtain ⟨A,c,rfl,h1,h2,h3⟩:=hu
 obtain ⟨i0,hti,hz0,hz1,hz2⟩:=info_parts infoQs
 obtain ⟨v',w',hrun,k1,k2,k3⟩:=run_append_any (P:=Tryz.prog) w 0 49 ty 90 i0 _ 2 16 Tryz.underlying49 hti hz0 hz1 hz2 rfl (by decide) v l.length (passesV l) (RowH.owns h hs (fun _ _=>Nat.zero_le _)) w.heap.size A r.length c (passesV r) h3 (passesV_one r) (by unfold maxLen;omega) (by omega) (Nat.zero_le _)
 obtain ⟨H',k4,k5⟩:=mv_owns_grown h k1 k2 k3
 refine ⟨v',w',H',hrun,?_,k5⟩
 unfold RowQ
 rw [List.length_append,passesV_append]
 exact k4
section
variable {ops:Array Oper} {rest:List Oper} {o:Oper} {a:Act} {w:World} {K:Act→World→Prop} {Q:Exit→Act→World→Prop} {E:Prop}
theorem wp_appQ (s x:Operand) (ho:o.op=.call { callee:=.builtin .append,args:=#[s,x],argTypes:=#[49,49] }) (v u:Value) (l r:List (Int × Bool)) (H:List HB)
  (hsv:a.eval s=v) (hxu:a.eval x=u) (h:RowQ v l H) (hs:Sat w H) (hu:QV w u r) (hl:l.length+r.length≤100000000)
  (hK:∀ v' w' H',RowQ v' (l++r) H'→Mv w H w' H'→K (a.put o.dst v') w'):o.wp Tryz.prog a w K Q:=by
 obtain ⟨v',w',H',hrun,h1,h2⟩:=run_appQ h hs hu hl o.type
 unfold Oper.wp execOp
 simp only [ho,resolve,invoke,builtin,Sem.run_bind,Sem.run_pure,Result.andThen_ok,List.map_toArray,List.map_cons,List.map_nil,hsv,hxu,hrun]
 exact hK v' w' H' h1 h2
theorem wpList_appQ (hgd:o.guard=none) (s x:Operand) (ho:o.op=.call { callee:=.builtin .append,args:=#[s,x],argTypes:=#[49,49] }) (v u:Value) (l r:List (Int × Bool)) (H:List HB)
  (hsv:a.eval s=v) (hxu:a.eval x=u) (h:RowQ v l H) (hs:Sat w H) (hu:QV w u r) (hl:l.length+r.length≤100000000)
  (hK:∀ v' w' H',RowQ v' (l++r) H'→Mv w H w' H'→wpList Tryz.prog ops Q rest (a.put o.dst v') w'):wpList Tryz.prog ops Q (o::rest) a w :=
 wpList_plain hgd fun _ hk=>wp_appQ s x ho v u l r H hsv hxu h hs hu hl fun v' w' H' h1 h2=>hk _ _ (hK v' w' H' h1 h2)
end
theorem passesV_get {l:List (Int × Bool)} {k:Nat} {p:Int × Bool} (h:l[k]?=some p):(passesV l)[k * 2]?=some (.int .i64 p.1)∧(passesV l)[k * 2+1]?=some (.bool p.2):=by
 have g:=fun j (hj:j<2)=>flat_get passV 2 passV_length l k p h j hj
 exact ⟨g 0 (by omega),g 1 (by omega)⟩
theorem passesV_set {l:List (Int × Bool)} {k:Nat} {p:Int × Bool} (h:l[k]?=some p) (e:Int):(passesV l).set (k * 2) (.int .i64 e)=passesV (l.set k (e,p.2)) :=
 flat_set passV 2 passV_length l k p (e,p.2) h 0 (by omega) (.int .i64 e) rfl
theorem RowQ.form {a:Option Addr} {n c:Nat} {l:List (Int × Bool)} {H:List HB} (h:RowQ (.slice a n c) l H) (hn:0<n):n=l.length∧∃ g,a=some ⟨g,0,none⟩:=by
 obtain ⟨a',c',e⟩:=h.slice
 cases e
 obtain ⟨g,cp,cur,hv,-⟩:=RowH.form h hn
 injection hv with ha
 exact ⟨rfl,g,ha⟩
theorem RowQ.at_ {w:World} {g n c:Nat} {l:List (Int × Bool)} {H:List HB} (h:RowQ (.slice (some ⟨g,0,none⟩) n c) l H) (hs:Sat w H) {k:Nat} {p:Int × Bool} (hk:l[k]?=some p):w.cell? ⟨g,k * 2,none⟩=some (.int .i64 p.1)∧w.frozen? ⟨g,k * 2,none⟩=false:=by
 obtain ⟨a',c',e⟩:=h.slice
 cases e
 have hi:=(List.getElem?_eq_some_iff.1 hk).1
 obtain ⟨h1,h2⟩:=RowH.cell h hs rfl (k * 2) (by omega)
 exact ⟨h1.trans (passesV_get hk).1,h2⟩
theorem RowQ.set_ {w:World} {g n c:Nat} {l:List (Int × Bool)} {H:List HB} (h:RowQ (.slice (some ⟨g,0,none⟩) n c) l H) (hs:Sat w H) {k:Nat} {p:Int × Bool} (hk:l[k]?=some p) (e:Int) :
  ∃ H',RowQ (.slice (some ⟨g,0,none⟩) n c) (l.set k (e,p.2)) H'∧Mv w H (w.setCell ⟨g,k * 2,none⟩ (.int .i64 e)) H':=by
 obtain ⟨a',c',e'⟩:=h.slice
 cases e'
 have hi:=(List.getElem?_eq_some_iff.1 hk).1
 obtain ⟨H',h1,h2⟩:=RowH.set h hs rfl (k * 2) (.int .i64 e) (by omega)
 refine ⟨H',?_,h2⟩
 rw [passesV_set hk] at h1
 unfold RowQ
 rw [List.length_set]
 exact h1
theorem qv_one (w:World) (p:Int × Bool) (g:Nat) (hg:g=w.heap.size):QV (w.alloc (.cells #[.int .i64 p.1,.bool p.2] 90)) (.slice (some ⟨g,0,none⟩) 1 1) [p]:=by
 subst hg
 have h:RowQ (.slice (some ⟨w.heap.size,0,none⟩) 1 1) [p] [⟨w.heap.size,90,#[.int .i64 p.1,.bool p.2]⟩]:=RowH.new 90 w.heap.size 1 #[.int .i64 p.1,.bool p.2] rfl (by decide)
 exact h.qv (mv_alloc w 90 _).sat
end
section
open Go.RowKit
theorem mkq_push {W w:World} {H0 H1 X:List HB} (m:Mv W H0 w (H1++X)) (T:TypeId) (cs:Array Value):Mv W H0 (w.alloc (.cells cs T)) (H1++(⟨w.heap.size,T,cs⟩::X)) :=
 (m.alloc T cs).sub (fun g=>by simp only [cnt_append,cnt_cons];omega) (fun c hc=>by simp only [List.mem_append,List.mem_cons] at hc ⊢;grind)
theorem mkq_pop {W w:World} {H0 H1 X:List HB} {g:Nat} {T:TypeId} {cs:Array Value} (m:Mv W H0 w (H1++(⟨g,T,cs⟩::X))):Mv W H0 w (H1++X) :=
 m.sub (fun g=>by simp only [cnt_append,cnt_cons];omega) (fun c hc=>by simp only [List.mem_append,List.mem_cons] at hc ⊢;grind)
theorem rends_any (pl:Int) (vp vb:Value) (ps:List (Int × Bool)) (Hp:List HB) (W:World) (hp:RowQ vp ps Hp) (hs:Sat W Hp) (hn:ps.length≤1000) (hvb:∃ a n c,vb=.slice a n c) :
  Calls Tryz.prog 84 #[.agg #[.int .i64 pl,vp,vb]] W fun e w'=>∃ v Hn,e=.returned v∧RowI v (ps.map (·.1)) Hn∧Mv W Hp w' (Hn++Hp):=by
 obtain ⟨ba,bn,bc,rfl⟩:=hvb
 obtain ⟨pa,pc,rfl⟩:=hp.slice
 obtain ⟨n,hnn⟩:∃ n,ps.length=n:=⟨_,rfl⟩
 rw [hnn] at hp hn ⊢
 have M0:=(Mv.refl hs).alloc 51 #[.int .i64 pl,.slice pa n pc,.slice ba bn bc]
 obtain ⟨w1,hw1⟩:∃ w1,w1=W.alloc (.cells #[.int .i64 pl,.slice pa n pc,.slice ba bn bc] 51):=⟨_,rfl⟩
 rw [← hw1] at M0
 obtain ⟨xb,hxb⟩:∃ xb,W.heap.size=xb:=⟨_,rfl⟩
 rw [hxb] at M0
 obtain ⟨X,hX⟩:∃ X:HB,X=⟨xb,51,#[.int .i64 pl,.slice pa n pc,.slice ba bn bc]⟩:=⟨_,rfl⟩
 rw [← hX] at M0
 have HX:=Lib.hid (And.intro hX (And.intro hnn hp))
 have K0:=Lib.hid M0
 clear hp hs M0 hX hnn
 go_enter Tryz.func84,Tryz.ntmps84
 go_upto_region 1 with fail
 rw [← hw1]
 (try simp only [hxb])
 clear hw1 hxb
 go_wp2_with fail
 go_loopg [3,4] n (fun mm s3 s4 wx=>∃ (i:Nat) (Hn:List YtjngfhgakokejaaGreat.HB),i≤n∧mm=n - i∧s4=.int .i64 (i:Int)∧RowI s3 ((ps.map (·.1)).take i) Hn∧Mv W Hp wx (Hn++(X::Hp)))
 case atStart=>exact ⟨0,[],Nat.zero_le _,rfl,rfl,RowH.nil _ _,K0.out⟩
 case round =>
  clear K0
  obtain ⟨i,Hn,hi,rfl,rfl,hr,m⟩:=hrel
  have c1:wr.cell? ⟨xb,1,none⟩=some (.slice pa n pc):=by
   have hb:=m.sat.right.at_ 0 (g:=xb) (t:=X.t) (cs:=X.cs) (by rw [HX.out.1];rfl)
   rw [HX.out.1] at hb
   exact hb.cell 1
  by_cases hlt:i<n
  ·have d1:decide ((i:Int)<(n:Int))=true:=by simp;omega
   obtain ⟨q,hq⟩:∃ q,ps[i]?=some q:=⟨_,List.getElem?_eq_getElem (by rw [HX.out.2.1];exact hlt)⟩
   obtain ⟨-,g,hpa⟩:=HX.out.2.2.form (by omega)
   have hrq:=HX.out.2.2
   rw [hpa] at hrq
   have z0:=(hrq.at_ (Sat.right (A:=[_]) m.sat.right) hq).1
   have hiN:(i:Int)<(n:Int):=by omega
   have hi2:i * 2<100000:=by omega
   have M4:=mkq_push m 3 #[.int .i64 q.1]
   have hmap:(ps.map (·.1)).take (i+1)=(ps.map (·.1)).take i++[q.1]:=by rw [List.take_add_one,List.getElem?_map,hq];rfl
   have hli:((ps.map (·.1)).take i).length=i:=by rw [List.length_take,List.length_map,HX.out.2.1];omega
   obtain ⟨va,vc,e3⟩:=hr.slice
   rw [hli] at e3
   subst e3
   have HL:Hid (((ps.map (·.1)).take i).length+[q.1].length≤100000000):=Lib.hid (by rw [List.length_take,List.length_singleton];omega)
   have KA:=Lib.hid (And.intro hr (And.intro M4 hmap))
   subst hpa
   have BO:=Lib.hid (iv_one wr q.1 _ rfl)
   clear hr m M4 hmap hq hrq hli
   go_upto_region 4 with (at_builtin;refine wpList_appI rfl (.tmp 12) (.tmp 19) rfl _ _ (List.take i (List.map (fun x:Int × Bool=>x.1) ps)) [q.1] _ rfl rfl KA.out.1 KA.out.2.1.sat.left BO.out HL.out ?_;intro v6 w6 H6 hr6 m6;have K6:=Lib.hid (And.intro hr6 (Mv.call KA.out.2.1 m6));clear hr6 m6)
   go_wp2_with fail
   go_roundg (n - (i+1))
   case measure=>omega
   case rel=>exact ⟨i+1,H6,hlt,rfl,by push_cast;rfl,by rw [KA.out.2.2];exact K6.out.1,mkq_pop K6.out.2⟩
  ·obtain rfl:i=n:=by omega
   have d1:decide ((i:Int)<(i:Int))=false:=by simp
   have e:(ps.map (·.1)).take i=ps.map (·.1):=List.take_of_length_le (by rw [List.length_map,HX.out.2.1];exact Nat.le_refl _)
   rw [e] at hr
   have K:=Lib.hid (And.intro hr m)
   clear hr m hlt e
   go_wp2_with fail
   go_ret
   have M9:Mv W Hp wr (Hn++Hp):=K.out.2.sub (fun g=>by simp only [cnt_append,cnt_cons];omega) (fun c hc=>by simp only [List.mem_append,List.mem_cons] at hc ⊢;grind)
   first
    | exact ⟨_,Hn,rfl,K.out.1,M9⟩
    | exact ⟨_,rfl,Hn,K.out.1,M9⟩
theorem rnews_any (pl said lb:Int) (pa:Option Addr) (n pc:Nat) (vb:Value) (c l:Nat) (W:World) (hn:n≤100) (hc:1≤c∧c≤100) (hl:l≤100) (hvb:∃ a m k,vb=.slice a m k) :
  Calls Tryz.prog 34 #[.agg #[.int .i64 pl,.slice pa n pc,vb,.int .i64 said,.int .i64 lb],.int .i64 (c:Int),.int .i64 (l:Int)] W fun e w'=>e=.returned (.tuple #[.int .i64 (passN (n:Int) (c:Int) (l:Int)),.int .i64 (passN (n:Int) (c:Int) ((l:Int)+1))])∧Mv W [] w' []:=by
 obtain ⟨ba,bn,bc,rfl⟩:=hvb
 have M0:=mv_alloc W 85 #[.int .i64 pl,.slice pa n pc,.slice ba bn bc,.int .i64 said,.int .i64 lb]
 obtain ⟨w1,hw1⟩:∃ w1,w1=W.alloc (.cells #[.int .i64 pl,.slice pa n pc,.slice ba bn bc,.int .i64 said,.int .i64 lb] 85):=⟨_,rfl⟩
 rw [← hw1] at M0
 have c1:w1.cell? ⟨W.heap.size,1,none⟩=some (.slice pa n pc):=M0.cell 0 rfl 1
 have P1:=Lib.hid fun V=>rpasses_any n c l V hn hc (by omega)
 have P2:=Lib.hid fun V=>rpasses_any n c (l+1) V hn hc (by omega)
 simp only [Int.natCast_add,Int.cast_ofNat_Int] at P2
 have K0:=Lib.hid M0.drop1
 clear M0
 go_enter Tryz.func34,Tryz.ntmps34
 go_upto_region 1 with fail
 rw [← hw1]
 clear hw1
 go_wp2_with (first
  | (go_at_call 78;(with_reducible refine (P1.out _).mono ?_);rintro e w' ⟨rfl,rfl⟩)
  | (go_at_call 78;(with_reducible refine (P2.out _).mono ?_);rintro e w' ⟨rfl,rfl⟩))
 go_ret2
 exact ⟨rfl,K0.out⟩
end
section
open Go.RowKit
/- a region that draws its order: what each operation keeps,the region keeps -/
section
variable {P:Program} {ops:Array Oper} {Q:Exit→Act→World→Prop} {md:Region.Mode}
theorem mem_ready {listed:Array Bool} {i:Nat} (h:i∈Region.ready md ops listed) :
  i<ops.size∧listed.getD i true=false∧∀ o,ops[i]?=some o→∀ e∈o.after.toList,Region.binds md e=true→listed.getD e.on false=true:=by
 unfold Region.ready at h
 obtain ⟨h1,h2⟩:=List.mem_filter.1 h
 have hl:=List.mem_range.1 h1
 simp only [Bool.and_eq_true,Bool.not_eq_true'] at h2
 refine ⟨hl,h2.1,fun o ho e he hb=>?_⟩
 have h3:=h2.2
 rw [ho] at h3
 simp only [Option.map_some,Option.getD_some,Array.all_eq_true_iff_forall_mem] at h3
 have h4:=h3 e (Array.mem_toList_iff.1 he)
 simpa [hb] using h4
theorem count_set:∀ (l:List Bool) (i:Nat),l[i]?=some false→(l.set i true).countP (fun b=>!b)+1=l.countP (fun b=>!b)
 | [],i,h=>by simp at h
 | b::l,0,h=>by
  simp at h
  subst h
  simp
 | b::l,i+1,h=>by
  have ih:=count_set l i (by simpa using h)
  rw [List.set_cons_succ,List.countP_cons,List.countP_cons]
  omega
theorem wpAny_inv (I:Array Bool→Act→World→Prop) (hd:∀ listed a w,I listed a w→Region.ready md ops listed=[]→Q .normal a w)
  (hs:∀ listed a w i,I listed a w→i∈Region.ready md ops listed→wpOp P ops Q i (I (listed.setIfInBounds i true)) a w) :
  ∀ (fuel:Nat) (listed:Array Bool) (a:Act) (w:World),listed.toList.countP (fun b=>!b)≤fuel→listed.size=ops.size→I listed a w→wpAny P md ops Q fuel listed a w:=by
 intro fuel
 induction fuel with
 | zero =>
  intro listed a w hc hz hI
  have hr:Region.ready md ops listed=[]:=by
   refine List.eq_nil_iff_forall_not_mem.2 fun i hi=>?_
   obtain ⟨h1,h2,-⟩:=mem_ready hi
   have hl:i<listed.size:=by omega
   have h3:listed.toList[i]?=some false:=by
    rw [Array.getElem?_toList,Array.getElem?_eq_getElem hl]
    rw [Array.getD_eq_getD_getElem?,Array.getElem?_eq_getElem hl] at h2
    simpa using h2
   have:=count_set _ _ h3
   omega
  exact ⟨hr,hd _ _ _ hI hr⟩
 | succ n ih =>
  intro listed a w hc hz hI
  refine ⟨hd _ _ _ hI,fun i hi=>wpOp_mono (fun a w hI=>ih _ _ _ ?_ (by simpa using hz) hI) (hs _ _ _ i hI hi)⟩
  obtain ⟨h1,h2,-⟩:=mem_ready hi
  have hl:i<listed.size:=by omega
  have h3:listed.toList[i]?=some false:=by
   rw [Array.getElem?_toList,Array.getElem?_eq_getElem hl]
   rw [Array.getD_eq_getD_getElem?,Array.getElem?_eq_getElem hl] at h2
   simpa using h2
  have:=count_set _ _ h3
  rw [Array.toList_setIfInBounds]
  omega
theorem wp_region_inv {id:Nat} {a:Act} {w:World} (hm:P.follows .mixedOrders=true) (I:Array Bool→Act→World→Prop) (h0:I (Array.replicate ops.size false) a w.drew)
  (hd:∀ listed a w,I listed a w→Region.ready .any ops listed=[]→Q .normal a w)
  (hs:∀ listed a w i,I listed a w→i∈Region.ready .any ops listed→wpOp P ops Q i (I (listed.setIfInBounds i true)) a w):(Code.region id ops true).wp P Q a w :=
 wp_region_any hm (wpAny_inv I hd hs _ _ _ _ (by have:=List.countP_le_length (p:=fun b:Bool=>!b) (l:=(Array.replicate ops.size false).toList);simpa using this) (by simp) h0)
end
theorem not_ready2 {ops:Array Oper} {md:Region.Mode} {listed:Array Bool} (h:Region.ready md ops listed=[]) (i:Nat) (o:Oper) (ho:ops[i]?=some o) (hi:listed.getD i true=false)
  (ha:∀ e∈o.after.toList,Region.binds md e=true→listed.getD e.on false=true):False:=by
 have hl:i<ops.size:=(Array.getElem?_eq_some_iff.1 ho).1
 have:i∈Region.ready md ops listed:=by
  unfold Region.ready
  refine List.mem_filter.2 ⟨List.mem_range.2 hl,?_⟩
  rw [hi,ho]
  simp only [Bool.not_false,Bool.true_and,Option.map_some,Option.getD_some,Array.all_eq_true_iff_forall_mem]
  intro e he
  have hb:=ha e (Array.mem_toList_iff.2 he)
  cases hbe:Region.binds md e
  ·simp
  ·rw [hb hbe]
   simp
 rw [h] at this
 cases this
section
variable {P:Program} {w:World} {ops:Array Oper} {o:Oper} {a:Act} {K:Act→World→Prop} {Q:Exit→Act→World→Prop} {E:Prop}
theorem step_make_to (hg:o.guard=none) (l c:Operand) (t:TypeId) (hop:o.op=Op.makeSlice t l c) (e:TypeId) (z:Value) (n by_:Nat) (h1:P.underlying t=some (.slice e)) (hi:(P.info? e).map (fun i=>(i.zero,i.size,i.bytes))=some (some z,1,by_)) (hby:by_≤16) (hn:n≤4096)
  (hl:a.eval l=.int .i64 (n:Int)) (hc:a.eval c=.int .i64 (n:Int)) (hz:z.cells=#[z])
  (hK:K (a.put o.dst (.slice (some ⟨w.heap.size,0,none⟩) n n)) (w.alloc (.cells (List.replicate n z).toArray e))) :
  if Region.wanted o (yielded ops a.tmps)=true then Oper.wp P o a w K Q else E:=by
 have hw:Region.wanted o (yielded ops a.tmps)=true:=by simp [Region.wanted,hg]
 rw [if_pos hw]
 cases hie:P.info? e with
 | none=>rw [hie] at hi;cases hi
 | some i =>
  rw [hie] at hi
  simp only [Option.map_some,Option.some.injEq,Prod.mk.injEq] at hi
  obtain ⟨h3,h4,h5⟩:=hi
  subst h5
  have hb:(i.bytes:Int) * (n:Int)≤281474976710656:=by
   have h:i.bytes * n≤16 * 4096:=Nat.mul_le_mul hby hn
   have h':((i.bytes * n:Nat):Int)≤281474976710656:=by omega
   rwa [Int.natCast_mul] at h'
  have hrun:=run_make (P:=P) w t e i z h1 hie h3 .i64 .i64 (n:Int) (n:Int) (by omega) (Int.le_refl _) hb (by omega)
  simp only [Int.toNat_natCast] at hrun
  have hm:madeCells z.cells (n * i.size)=(List.replicate n z).toArray:=by
   rw [h4,hz,Nat.mul_one]
   unfold madeCells
   apply Array.ext'
   apply List.ext_getElem?
   intro k
   by_cases hk:k<n
   ·simp [hk,Nat.mod_one]
   ·simp [hk]
  rw [hm] at hrun
  unfold Oper.wp
  simp [execOp,hop,hl,hc,hrun,Result.andThen]
  exact hK
theorem step_build_to (hg:o.guard=none) (t:TypeId) (parts:Array (Nat × Operand)) (ho:o.op=.build t parts) (cells:Array Value)
  (hf:P.built t (parts.map fun (i,x)=>(i,a.eval x)).toList=some cells) (hK:K (a.put o.dst (.agg cells)) w) :
  if Region.wanted o (yielded ops a.tmps)=true then Oper.wp P o a w K Q else E:=by
 have hw:Region.wanted o (yielded ops a.tmps)=true:=by simp [Region.wanted,hg]
 rw [if_pos hw]
 exact wp_build t parts ho (by rw [hf];rfl) (by rw [hf];exact hK)
end
def oh (b:Bool) (x:HB):List HB:=if b then [x] else []
theorem oh_true (x:HB):oh true x=[x]:=rfl
theorem oh_false (x:HB):oh false x=[]:=rfl
def zN (g n:Nat):HB:=⟨g,3,(List.replicate n (Value.int .i64 0)).toArray⟩
def zL (g n:Nat):HB:=⟨g,4,(List.replicate n (Value.bool false)).toArray⟩
def codI (G:GeoM) (gm gn gs ge ga:Nat):List Value :=
 [.int .i64 (G.w:Int),.int .i64 (G.h:Int),.int .i64 (G.band:Int),.int .i64 (G.style:Int),slV gm (G.w * G.h),slV gn (G.w * G.h),slV gs (G.w * G.h),slV ge (G.w * G.h),slV ga (G.w * G.h)] ++
  (cxV cxFresh++[.bool false,.bool false,.pointer none,.pointer none,.pointer none,.pointer none])
inductive begin_r2_S (G:GeoM) (w:World) (s4 s5 s6 s7 s8 s10 s11 s12 s13 s14 s15 s16 s17 s18 s19 s20 s21 s22 s23 s24 s25 s26 s27 s28 s29:Value) (listed:Array Bool) (a:Act) (W:World):Prop
 | mk (b0 b1 b2 b3 b4 b5 b6 b7 b8 b9 b10 b11 b12 b13 b14 b15 b16 b17:Bool) (u13 u14 u15 u16 u17 u18 u19 u20 u21 u22 u23 u24 u25 u26 u27 u28 u29 u8:Value) (g5:Nat) (g7:Nat) (g9:Nat) (g11:Nat) (g13:Nat) (g16:Nat) (A16:Array Value) (hl:listed=#[b0,b1,b2,b3,b4,b5,b6,b7,b8,b9,b10,b11,b12,b13,b14,b15,b16,b17]) (ha:a=⟨#[(.int .i64 (G.w:Int)),(.int .i64 (G.h:Int)),(.int .i64 (G.band:Int)),(.int .i64 (G.style:Int)),s4,s5,s6,s7,u8,(.int .i64 ((G.w:Int) * (G.h:Int))),s10,s11,s12,u13,u14,u15,u16,u17,u18,u19,u20,u21,u22,u23,u24,u25,u26,u27,u28,u29],[]⟩) (HW:Mv w [] W (oh b5 (zN g5 (G.w * G.h))++(oh b7 (zN g7 (G.w * G.h))++(oh b9 (zL g9 (G.w * G.h))++(oh b11 (zL g11 (G.w * G.h))++(oh b13 (zL g13 (G.w * G.h))++oh b16 ⟨g16,133,A16⟩)))))) (h0:Hid (b0=true→u13=.int .i64 (G.w:Int))) (h1:Hid (b1=true→u14=.int .i64 (G.h:Int))) (h2:Hid (b2=true→u15=.int .i64 (G.band:Int))) (h3:Hid (b3=true→u16=.int .i64 (G.style:Int))) (h4:Hid (b4=true→u17=.int .i64 ((G.w:Int) * (G.h:Int)))) (h5:Hid (b5=true→u18=slV g5 (G.w * G.h))) (h6:Hid (b6=true→u19=.int .i64 ((G.w:Int) * (G.h:Int)))) (h7:Hid (b7=true→u20=slV g7 (G.w * G.h))) (h8:Hid (b8=true→u21=.int .i64 ((G.w:Int) * (G.h:Int)))) (h9:Hid (b9=true→u22=slV g9 (G.w * G.h))) (h10:Hid (b10=true→u23=.int .i64 ((G.w:Int) * (G.h:Int)))) (h11:Hid (b11=true→u24=slV g11 (G.w * G.h))) (h12:Hid (b12=true→u25=.int .i64 ((G.w:Int) * (G.h:Int)))) (h13:Hid (b13=true→u26=slV g13 (G.w * G.h))) (h14:Hid (b14=true→u27=.agg (cxV cxFresh).toArray)) (h15:Hid (b15=true→u28=.agg (codI G g5 g7 g9 g11 g13).toArray∧(b5=true∧b7=true∧b9=true∧b11=true∧b13=true))) (h16:Hid (b16=true→u29=.pointer (some ⟨g16,0,none⟩)∧A16=(codI G g5 g7 g9 g11 g13).toArray∧b15=true)) (h17:Hid (b17=true→u8=.pointer (some ⟨g16,0,none⟩)∧b16=true)):begin_r2_S G w s4 s5 s6 s7 s8 s10 s11 s12 s13 s14 s15 s16 s17 s18 s19 s20 s21 s22 s23 s24 s25 s26 s27 s28 s29 listed a W
theorem begin_r2 (K:Act→World→Prop) (G:GeoM) (w:World) (s4 s5 s6 s7 s8 s10 s11 s12 s13 s14 s15 s16 s17 s18 s19 s20 s21 s22 s23 s24 s25 s26 s27 s28 s29:Value) (hn:G.w * G.h≤4096)
  (hk:∀ (u13 u14 u15 u16 u17 u18 u19 u20 u21 u22 u23 u24 u25 u26 u27 u28 u29 u8:Value) (g5:Nat) (g7:Nat) (g9:Nat) (g11:Nat) (g13:Nat) (g16:Nat) (A16:Array Value) (W:World),Mv w [] W (oh true (zN g5 (G.w * G.h))++(oh true (zN g7 (G.w * G.h))++(oh true (zL g9 (G.w * G.h))++(oh true (zL g11 (G.w * G.h))++(oh true (zL g13 (G.w * G.h))++oh true ⟨g16,133,A16⟩)))))→(u29=.pointer (some ⟨g16,0,none⟩)∧A16=(codI G g5 g7 g9 g11 g13).toArray∧true=true)→(u8=.pointer (some ⟨g16,0,none⟩)∧true=true) →  K ⟨#[(.int .i64 (G.w:Int)),(.int .i64 (G.h:Int)),(.int .i64 (G.band:Int)),(.int .i64 (G.style:Int)),s4,s5,s6,s7,u8,(.int .i64 ((G.w:Int) * (G.h:Int))),s10,s11,s12,u13,u14,u15,u16,u17,u18,u19,u20,u21,u22,u23,u24,u25,u26,u27,u28,u29],[]⟩ W) :
  (regionOf 2 Tryz.f53).wp Tryz.prog (Exit.then K noQ) ⟨#[(.int .i64 (G.w:Int)),(.int .i64 (G.h:Int)),(.int .i64 (G.band:Int)),(.int .i64 (G.style:Int)),s4,s5,s6,s7,s8,(.int .i64 ((G.w:Int) * (G.h:Int))),s10,s11,s12,s13,s14,s15,s16,s17,s18,s19,s20,s21,s22,s23,s24,s25,s26,s27,s28,s29],[]⟩ w:=by
 conv in (regionOf _ _)=>whnf
 unfold noQ
 have HK:=Lib.hid hk
 clear hk
 refine wp_region_inv (by kernel_rfl) (begin_r2_S G w s4 s5 s6 s7 s8 s10 s11 s12 s13 s14 s15 s16 s17 s18 s19 s20 s21 s22 s23 s24 s25 s26 s27 s28 s29) ?_ ?_ ?_
 ·exact ⟨false,false,false,false,false,false,false,false,false,false,false,false,false,false,false,false,false,false,s13,s14,s15,s16,s17,s18,s19,s20,s21,s22,s23,s24,s25,s26,s27,s28,s29,s8,0,0,0,0,0,0,#[],rfl,rfl,(by simpa [oh_false] using (Mv.refl (Sat.nil w)).drew),Lib.hid nofun,Lib.hid nofun,Lib.hid nofun,Lib.hid nofun,Lib.hid nofun,Lib.hid nofun,Lib.hid nofun,Lib.hid nofun,Lib.hid nofun,Lib.hid nofun,Lib.hid nofun,Lib.hid nofun,Lib.hid nofun,Lib.hid nofun,Lib.hid nofun,Lib.hid nofun,Lib.hid nofun,Lib.hid nofun⟩
 ·rintro listed a W ⟨b0,b1,b2,b3,b4,b5,b6,b7,b8,b9,b10,b11,b12,b13,b14,b15,b16,b17,u13,u14,u15,u16,u17,u18,u19,u20,u21,u22,u23,u24,u25,u26,u27,u28,u29,u8,g5,g7,g9,g11,g13,g16,A16,rfl,rfl,HW,h0,h1,h2,h3,h4,h5,h6,h7,h8,h9,h10,h11,h12,h13,h14,h15,h16,h17⟩ hr
  obtain rfl:b0=true:=by cases b0;exact (not_ready2 hr 0 _ rfl rfl (by simp [Region.binds])).elim;rfl
  obtain rfl:b1=true:=by cases b1;exact (not_ready2 hr 1 _ rfl rfl (by simp [Region.binds])).elim;rfl
  obtain rfl:b2=true:=by cases b2;exact (not_ready2 hr 2 _ rfl rfl (by simp [Region.binds])).elim;rfl
  obtain rfl:b3=true:=by cases b3;exact (not_ready2 hr 3 _ rfl rfl (by simp [Region.binds])).elim;rfl
  obtain rfl:b4=true:=by cases b4;exact (not_ready2 hr 4 _ rfl rfl (by simp [Region.binds])).elim;rfl
  obtain rfl:b5=true:=by cases b5;exact (not_ready2 hr 5 _ rfl rfl (by simp [Region.binds])).elim;rfl
  obtain rfl:b6=true:=by cases b6;exact (not_ready2 hr 6 _ rfl rfl (by simp [Region.binds])).elim;rfl
  obtain rfl:b7=true:=by cases b7;exact (not_ready2 hr 7 _ rfl rfl (by simp [Region.binds])).elim;rfl
  obtain rfl:b8=true:=by cases b8;exact (not_ready2 hr 8 _ rfl rfl (by simp [Region.binds])).elim;rfl
  obtain rfl:b9=true:=by cases b9;exact (not_ready2 hr 9 _ rfl rfl (by simp [Region.binds])).elim;rfl
  obtain rfl:b10=true:=by cases b10;exact (not_ready2 hr 10 _ rfl rfl (by simp [Region.binds])).elim;rfl
  obtain rfl:b11=true:=by cases b11;exact (not_ready2 hr 11 _ rfl rfl (by simp [Region.binds])).elim;rfl
  obtain rfl:b12=true:=by cases b12;exact (not_ready2 hr 12 _ rfl rfl (by simp [Region.binds])).elim;rfl
  obtain rfl:b13=true:=by cases b13;exact (not_ready2 hr 13 _ rfl rfl (by simp [Region.binds])).elim;rfl
  obtain rfl:b14=true:=by cases b14;exact (not_ready2 hr 14 _ rfl rfl (by simp [Region.binds])).elim;rfl
  obtain rfl:b15=true:=by cases b15;exact (not_ready2 hr 15 _ rfl rfl (by simp [Region.binds])).elim;rfl
  obtain rfl:b16=true:=by cases b16;exact (not_ready2 hr 16 _ rfl rfl (by simp [Region.binds])).elim;rfl
  obtain rfl:b17=true:=by cases b17;exact (not_ready2 hr 17 _ rfl rfl (by simp [Region.binds])).elim;rfl
  exact HK.out u13 u14 u15 u16 u17 u18 u19 u20 u21 u22 u23 u24 u25 u26 u27 u28 u29 u8 g5 g7 g9 g11 g13 g16 A16 W HW (h16.out rfl) (h17.out rfl)
 ·rintro listed a W i ⟨b0,b1,b2,b3,b4,b5,b6,b7,b8,b9,b10,b11,b12,b13,b14,b15,b16,b17,u13,u14,u15,u16,u17,u18,u19,u20,u21,u22,u23,u24,u25,u26,u27,u28,u29,u8,g5,g7,g9,g11,g13,g16,A16,rfl,rfl,HW,h0,h1,h2,h3,h4,h5,h6,h7,h8,h9,h10,h11,h12,h13,h14,h15,h16,h17⟩ hi
  obtain ⟨hi1,hi2,hi3⟩:=mem_ready hi
  clear hi
  have hi4:i=0∨i=1∨i=2∨i=3∨i=4∨i=5∨i=6∨i=7∨i=8∨i=9∨i=10∨i=11∨i=12∨i=13∨i=14∨i=15∨i=16∨i=17:=by
   have:i<18:=hi1
   omega
  clear hi1
  rcases hi4 with rfl | rfl | rfl | rfl | rfl | rfl | rfl | rfl | rfl | rfl | rfl | rfl | rfl | rfl | rfl | rfl | rfl | rfl
  ·obtain rfl:b0=false:=hi2
   clear hi3
   refine wpOp_step rfl (fun K hK=>?_)
   go_simp
   refine hK _ _ ⟨true,_,_,_,_,_,_,_,_,_,_,_,_,_,_,_,_,_,(.int .i64 (G.w:Int)),_,_,_,_,_,_,_,_,_,_,_,_,_,_,_,_,_,_,_,_,_,_,_,_,rfl,rfl,HW,Lib.hid (fun _=>rfl),h1,h2,h3,h4,h5,h6,h7,h8,h9,h10,h11,h12,h13,h14,h15,h16,h17⟩
  ·obtain rfl:b1=false:=hi2
   clear hi3
   refine wpOp_step rfl (fun K hK=>?_)
   go_simp
   refine hK _ _ ⟨_,true,_,_,_,_,_,_,_,_,_,_,_,_,_,_,_,_,_,(.int .i64 (G.h:Int)),_,_,_,_,_,_,_,_,_,_,_,_,_,_,_,_,_,_,_,_,_,_,_,rfl,rfl,HW,h0,Lib.hid (fun _=>rfl),h2,h3,h4,h5,h6,h7,h8,h9,h10,h11,h12,h13,h14,h15,h16,h17⟩
  ·obtain rfl:b2=false:=hi2
   clear hi3
   refine wpOp_step rfl (fun K hK=>?_)
   go_simp
   refine hK _ _ ⟨_,_,true,_,_,_,_,_,_,_,_,_,_,_,_,_,_,_,_,_,(.int .i64 (G.band:Int)),_,_,_,_,_,_,_,_,_,_,_,_,_,_,_,_,_,_,_,_,_,_,rfl,rfl,HW,h0,h1,Lib.hid (fun _=>rfl),h3,h4,h5,h6,h7,h8,h9,h10,h11,h12,h13,h14,h15,h16,h17⟩
  ·obtain rfl:b3=false:=hi2
   clear hi3
   refine wpOp_step rfl (fun K hK=>?_)
   go_simp
   refine hK _ _ ⟨_,_,_,true,_,_,_,_,_,_,_,_,_,_,_,_,_,_,_,_,_,(.int .i64 (G.style:Int)),_,_,_,_,_,_,_,_,_,_,_,_,_,_,_,_,_,_,_,_,_,rfl,rfl,HW,h0,h1,h2,Lib.hid (fun _=>rfl),h4,h5,h6,h7,h8,h9,h10,h11,h12,h13,h14,h15,h16,h17⟩
  ·obtain rfl:b4=false:=hi2
   clear hi3
   refine wpOp_step rfl (fun K hK=>?_)
   go_simp
   refine hK _ _ ⟨_,_,_,_,true,_,_,_,_,_,_,_,_,_,_,_,_,_,_,_,_,_,(.int .i64 ((G.w:Int) * (G.h:Int))),_,_,_,_,_,_,_,_,_,_,_,_,_,_,_,_,_,_,_,_,rfl,rfl,HW,h0,h1,h2,h3,Lib.hid (fun _=>rfl),h5,h6,h7,h8,h9,h10,h11,h12,h13,h14,h15,h16,h17⟩
  ·obtain rfl:b5=false:=hi2
   obtain rfl:b4=true:=hi3 _ rfl ⟨4,.data⟩ (by simp) rfl
   obtain rfl:=h4.out rfl
   clear hi3
   have M9:=HW.alloc 3 (zN W.heap.size (G.w * G.h)).cs
   refine wpOp_step rfl (fun K hK=>?_)
   refine step_make_to rfl (.tmp 17) (.tmp 17) 38 rfl 3 (.int .i64 0) (G.w * G.h) 8 Tryz.underlying38 (by kernel_rfl) (by decide) hn (by simp [Act.eval]) (by simp [Act.eval]) rfl ?_
   refine hK _ _ ⟨_,_,_,_,_,true,_,_,_,_,_,_,_,_,_,_,_,_,_,_,_,_,_,(slV W.heap.size (G.w * G.h)),_,_,_,_,_,_,_,_,_,_,_,_,W.heap.size,g7,g9,g11,g13,g16,A16,rfl,rfl,M9.sub (fun g=>by simp only [zN,zL,oh_true,oh_false,cnt_append,cnt_cons,cnt_nil];omega) (fun c hc=>by simp only [zN,zL,oh_true,oh_false,List.mem_append,List.mem_cons] at hc ⊢;grind),h0,h1,h2,h3,h4,Lib.hid (fun _=>rfl),h6,h7,h8,h9,h10,h11,h12,h13,h14,Lib.hid (fun e=>nomatch (h15.out e).2.1),Lib.hid (fun e=>nomatch (h15.out (h16.out e).2.2).2.1),Lib.hid (fun e=>nomatch (h15.out (h16.out (h17.out e).2).2.2).2.1)⟩
  ·obtain rfl:b6=false:=hi2
   clear hi3
   refine wpOp_step rfl (fun K hK=>?_)
   go_simp
   refine hK _ _ ⟨_,_,_,_,_,_,true,_,_,_,_,_,_,_,_,_,_,_,_,_,_,_,_,_,(.int .i64 ((G.w:Int) * (G.h:Int))),_,_,_,_,_,_,_,_,_,_,_,_,_,_,_,_,_,_,rfl,rfl,HW,h0,h1,h2,h3,h4,h5,Lib.hid (fun _=>rfl),h7,h8,h9,h10,h11,h12,h13,h14,h15,h16,h17⟩
  ·obtain rfl:b7=false:=hi2
   obtain rfl:b6=true:=hi3 _ rfl ⟨6,.data⟩ (by simp) rfl
   obtain rfl:=h6.out rfl
   clear hi3
   have M9:=HW.alloc 3 (zN W.heap.size (G.w * G.h)).cs
   refine wpOp_step rfl (fun K hK=>?_)
   refine step_make_to rfl (.tmp 19) (.tmp 19) 38 rfl 3 (.int .i64 0) (G.w * G.h) 8 Tryz.underlying38 (by kernel_rfl) (by decide) hn (by simp [Act.eval]) (by simp [Act.eval]) rfl ?_
   refine hK _ _ ⟨_,_,_,_,_,_,_,true,_,_,_,_,_,_,_,_,_,_,_,_,_,_,_,_,_,(slV W.heap.size (G.w * G.h)),_,_,_,_,_,_,_,_,_,_,g5,W.heap.size,g9,g11,g13,g16,A16,rfl,rfl,M9.sub (fun g=>by simp only [zN,zL,oh_true,oh_false,cnt_append,cnt_cons,cnt_nil];omega) (fun c hc=>by simp only [zN,zL,oh_true,oh_false,List.mem_append,List.mem_cons] at hc ⊢;grind),h0,h1,h2,h3,h4,h5,h6,Lib.hid (fun _=>rfl),h8,h9,h10,h11,h12,h13,h14,Lib.hid (fun e=>nomatch (h15.out e).2.2.1),Lib.hid (fun e=>nomatch (h15.out (h16.out e).2.2).2.2.1),Lib.hid (fun e=>nomatch (h15.out (h16.out (h17.out e).2).2.2).2.2.1)⟩
  ·obtain rfl:b8=false:=hi2
   clear hi3
   refine wpOp_step rfl (fun K hK=>?_)
   go_simp
   refine hK _ _ ⟨_,_,_,_,_,_,_,_,true,_,_,_,_,_,_,_,_,_,_,_,_,_,_,_,_,_,(.int .i64 ((G.w:Int) * (G.h:Int))),_,_,_,_,_,_,_,_,_,_,_,_,_,_,_,_,rfl,rfl,HW,h0,h1,h2,h3,h4,h5,h6,h7,Lib.hid (fun _=>rfl),h9,h10,h11,h12,h13,h14,h15,h16,h17⟩
  ·obtain rfl:b9=false:=hi2
   obtain rfl:b8=true:=hi3 _ rfl ⟨8,.data⟩ (by simp) rfl
   obtain rfl:=h8.out rfl
   clear hi3
   have M9:=HW.alloc 4 (zL W.heap.size (G.w * G.h)).cs
   refine wpOp_step rfl (fun K hK=>?_)
   refine step_make_to rfl (.tmp 21) (.tmp 21) 123 rfl 4 (.bool false) (G.w * G.h) 1 Tryz.underlying123 (by kernel_rfl) (by decide) hn (by simp [Act.eval]) (by simp [Act.eval]) rfl ?_
   refine hK _ _ ⟨_,_,_,_,_,_,_,_,_,true,_,_,_,_,_,_,_,_,_,_,_,_,_,_,_,_,_,(slV W.heap.size (G.w * G.h)),_,_,_,_,_,_,_,_,g5,g7,W.heap.size,g11,g13,g16,A16,rfl,rfl,M9.sub (fun g=>by simp only [zN,zL,oh_true,oh_false,cnt_append,cnt_cons,cnt_nil];omega) (fun c hc=>by simp only [zN,zL,oh_true,oh_false,List.mem_append,List.mem_cons] at hc ⊢;grind),h0,h1,h2,h3,h4,h5,h6,h7,h8,Lib.hid (fun _=>rfl),h10,h11,h12,h13,h14,Lib.hid (fun e=>nomatch (h15.out e).2.2.2.1),Lib.hid (fun e=>nomatch (h15.out (h16.out e).2.2).2.2.2.1),Lib.hid (fun e=>nomatch (h15.out (h16.out (h17.out e).2).2.2).2.2.2.1)⟩
  ·obtain rfl:b10=false:=hi2
   clear hi3
   refine wpOp_step rfl (fun K hK=>?_)
   go_simp
   refine hK _ _ ⟨_,_,_,_,_,_,_,_,_,_,true,_,_,_,_,_,_,_,_,_,_,_,_,_,_,_,_,_,(.int .i64 ((G.w:Int) * (G.h:Int))),_,_,_,_,_,_,_,_,_,_,_,_,_,_,rfl,rfl,HW,h0,h1,h2,h3,h4,h5,h6,h7,h8,h9,Lib.hid (fun _=>rfl),h11,h12,h13,h14,h15,h16,h17⟩
  ·obtain rfl:b11=false:=hi2
   obtain rfl:b10=true:=hi3 _ rfl ⟨10,.data⟩ (by simp) rfl
   obtain rfl:=h10.out rfl
   clear hi3
   have M9:=HW.alloc 4 (zL W.heap.size (G.w * G.h)).cs
   refine wpOp_step rfl (fun K hK=>?_)
   refine step_make_to rfl (.tmp 23) (.tmp 23) 123 rfl 4 (.bool false) (G.w * G.h) 1 Tryz.underlying123 (by kernel_rfl) (by decide) hn (by simp [Act.eval]) (by simp [Act.eval]) rfl ?_
   refine hK _ _ ⟨_,_,_,_,_,_,_,_,_,_,_,true,_,_,_,_,_,_,_,_,_,_,_,_,_,_,_,_,_,(slV W.heap.size (G.w * G.h)),_,_,_,_,_,_,g5,g7,g9,W.heap.size,g13,g16,A16,rfl,rfl,M9.sub (fun g=>by simp only [zN,zL,oh_true,oh_false,cnt_append,cnt_cons,cnt_nil];omega) (fun c hc=>by simp only [zN,zL,oh_true,oh_false,List.mem_append,List.mem_cons] at hc ⊢;grind),h0,h1,h2,h3,h4,h5,h6,h7,h8,h9,h10,Lib.hid (fun _=>rfl),h12,h13,h14,Lib.hid (fun e=>nomatch (h15.out e).2.2.2.2.1),Lib.hid (fun e=>nomatch (h15.out (h16.out e).2.2).2.2.2.2.1),Lib.hid (fun e=>nomatch (h15.out (h16.out (h17.out e).2).2.2).2.2.2.2.1)⟩
  ·obtain rfl:b12=false:=hi2
   clear hi3
   refine wpOp_step rfl (fun K hK=>?_)
   go_simp
   refine hK _ _ ⟨_,_,_,_,_,_,_,_,_,_,_,_,true,_,_,_,_,_,_,_,_,_,_,_,_,_,_,_,_,_,(.int .i64 ((G.w:Int) * (G.h:Int))),_,_,_,_,_,_,_,_,_,_,_,_,rfl,rfl,HW,h0,h1,h2,h3,h4,h5,h6,h7,h8,h9,h10,h11,Lib.hid (fun _=>rfl),h13,h14,h15,h16,h17⟩
  ·obtain rfl:b13=false:=hi2
   obtain rfl:b12=true:=hi3 _ rfl ⟨12,.data⟩ (by simp) rfl
   obtain rfl:=h12.out rfl
   clear hi3
   have M9:=HW.alloc 4 (zL W.heap.size (G.w * G.h)).cs
   refine wpOp_step rfl (fun K hK=>?_)
   refine step_make_to rfl (.tmp 25) (.tmp 25) 123 rfl 4 (.bool false) (G.w * G.h) 1 Tryz.underlying123 (by kernel_rfl) (by decide) hn (by simp [Act.eval]) (by simp [Act.eval]) rfl ?_
   refine hK _ _ ⟨_,_,_,_,_,_,_,_,_,_,_,_,_,true,_,_,_,_,_,_,_,_,_,_,_,_,_,_,_,_,_,(slV W.heap.size (G.w * G.h)),_,_,_,_,g5,g7,g9,g11,W.heap.size,g16,A16,rfl,rfl,M9.sub (fun g=>by simp only [zN,zL,oh_true,oh_false,cnt_append,cnt_cons,cnt_nil];omega) (fun c hc=>by simp only [zN,zL,oh_true,oh_false,List.mem_append,List.mem_cons] at hc ⊢;grind),h0,h1,h2,h3,h4,h5,h6,h7,h8,h9,h10,h11,h12,Lib.hid (fun _=>rfl),h14,Lib.hid (fun e=>nomatch (h15.out e).2.2.2.2.2),Lib.hid (fun e=>nomatch (h15.out (h16.out e).2.2).2.2.2.2.2),Lib.hid (fun e=>nomatch (h15.out (h16.out (h17.out e).2).2.2).2.2.2.2.2)⟩
  ·obtain rfl:b14=false:=hi2
   clear hi3
   refine wpOp_step rfl (fun K hK=>?_)
   go_simp
   go_at_call 99
   refine (fresh4_any W).mono ?_
   rintro e W2 ⟨rfl,m9⟩
   have M9:=Mv.call (H:=[]) HW m9
   try simp only []
   refine hK _ _ ⟨_,_,_,_,_,_,_,_,_,_,_,_,_,_,true,_,_,_,_,_,_,_,_,_,_,_,_,_,_,_,_,_,(.agg (cxV cxFresh).toArray),_,_,_,_,_,_,_,_,_,_,rfl,rfl,M9,h0,h1,h2,h3,h4,h5,h6,h7,h8,h9,h10,h11,h12,h13,Lib.hid (fun _=>rfl),h15,h16,h17⟩
  ·obtain rfl:b15=false:=hi2
   obtain rfl:b0=true:=hi3 _ rfl ⟨0,.data⟩ (by simp) rfl
   obtain rfl:b1=true:=hi3 _ rfl ⟨1,.data⟩ (by simp) rfl
   obtain rfl:b2=true:=hi3 _ rfl ⟨2,.data⟩ (by simp) rfl
   obtain rfl:b3=true:=hi3 _ rfl ⟨3,.data⟩ (by simp) rfl
   obtain rfl:b5=true:=hi3 _ rfl ⟨5,.data⟩ (by simp) rfl
   obtain rfl:b7=true:=hi3 _ rfl ⟨7,.data⟩ (by simp) rfl
   obtain rfl:b9=true:=hi3 _ rfl ⟨9,.data⟩ (by simp) rfl
   obtain rfl:b11=true:=hi3 _ rfl ⟨11,.data⟩ (by simp) rfl
   obtain rfl:b13=true:=hi3 _ rfl ⟨13,.data⟩ (by simp) rfl
   obtain rfl:b14=true:=hi3 _ rfl ⟨14,.data⟩ (by simp) rfl
   obtain rfl:=h0.out rfl
   obtain rfl:=h1.out rfl
   obtain rfl:=h2.out rfl
   obtain rfl:=h3.out rfl
   obtain rfl:=h5.out rfl
   obtain rfl:=h7.out rfl
   obtain rfl:=h9.out rfl
   obtain rfl:=h11.out rfl
   obtain rfl:=h13.out rfl
   obtain rfl:=h14.out rfl
   clear hi3
   refine wpOp_step rfl (fun K hK=>?_)
   refine step_build_to rfl 133 _ rfl (codI G g5 g7 g9 g11 g13).toArray (by kernel_rfl) ?_
   refine hK _ _ ⟨_,_,_,_,_,_,_,_,_,_,_,_,_,_,_,true,_,_,_,_,_,_,_,_,_,_,_,_,_,_,_,_,_,(.agg (codI G g5 g7 g9 g11 g13).toArray),_,_,_,_,_,_,_,_,_,rfl,rfl,HW,h0,h1,h2,h3,h4,h5,h6,h7,h8,h9,h10,h11,h12,h13,h14,Lib.hid (fun _=>⟨rfl,rfl,rfl,rfl,rfl,rfl⟩),Lib.hid (fun e=>nomatch (h16.out e).2.2),Lib.hid (fun e=>nomatch (h16.out (h17.out e).2).2.2)⟩
  ·obtain rfl:b16=false:=hi2
   obtain rfl:b15=true:=hi3 _ rfl ⟨15,.data⟩ (by simp) rfl
   clear hi3
   obtain ⟨rfl,k5,k7,k9,k11,k13⟩:=h15.out rfl
   have M9:=HW.alloc 133 (codI G g5 g7 g9 g11 g13).toArray
   refine wpOp_step rfl (fun K hK=>?_)
   go_simp
   refine hK _ _ ⟨_,_,_,_,_,_,_,_,_,_,_,_,_,_,_,_,true,_,_,_,_,_,_,_,_,_,_,_,_,_,_,_,_,_,(.pointer (some ⟨W.heap.size,0,none⟩)),_,g5,g7,g9,g11,g13,W.heap.size,(codI G g5 g7 g9 g11 g13).toArray,rfl,rfl,M9.sub (fun g=>by simp only [zN,zL,oh_true,oh_false,cnt_append,cnt_cons,cnt_nil];omega) (fun c hc=>by simp only [zN,zL,oh_true,oh_false,List.mem_append,List.mem_cons] at hc ⊢;grind),h0,h1,h2,h3,h4,h5,h6,h7,h8,h9,h10,h11,h12,h13,h14,Lib.hid (fun _=>⟨rfl,k5,k7,k9,k11,k13⟩),Lib.hid (fun _=>⟨rfl,rfl,rfl⟩),Lib.hid (fun e=>nomatch (h17.out e).2)⟩
  ·obtain rfl:b17=false:=hi2
   obtain rfl:b16=true:=hi3 _ rfl ⟨16,.data⟩ (by simp) rfl
   obtain rfl:b14=true:=hi3 _ rfl ⟨14,.chain⟩ (by simp) rfl
   obtain rfl:b0=true:=hi3 _ rfl ⟨0,.phase⟩ (by simp) rfl
   obtain rfl:b1=true:=hi3 _ rfl ⟨1,.phase⟩ (by simp) rfl
   obtain rfl:b2=true:=hi3 _ rfl ⟨2,.phase⟩ (by simp) rfl
   obtain rfl:b3=true:=hi3 _ rfl ⟨3,.phase⟩ (by simp) rfl
   obtain rfl:b4=true:=hi3 _ rfl ⟨4,.phase⟩ (by simp) rfl
   obtain rfl:b5=true:=hi3 _ rfl ⟨5,.phase⟩ (by simp) rfl
   obtain rfl:b6=true:=hi3 _ rfl ⟨6,.phase⟩ (by simp) rfl
   obtain rfl:b7=true:=hi3 _ rfl ⟨7,.phase⟩ (by simp) rfl
   obtain rfl:b8=true:=hi3 _ rfl ⟨8,.phase⟩ (by simp) rfl
   obtain rfl:b9=true:=hi3 _ rfl ⟨9,.phase⟩ (by simp) rfl
   obtain rfl:b10=true:=hi3 _ rfl ⟨10,.phase⟩ (by simp) rfl
   obtain rfl:b11=true:=hi3 _ rfl ⟨11,.phase⟩ (by simp) rfl
   obtain rfl:b12=true:=hi3 _ rfl ⟨12,.phase⟩ (by simp) rfl
   obtain rfl:b13=true:=hi3 _ rfl ⟨13,.phase⟩ (by simp) rfl
   obtain rfl:b15=true:=hi3 _ rfl ⟨15,.phase⟩ (by simp) rfl
   obtain rfl:=h0.out rfl
   obtain rfl:=h1.out rfl
   obtain rfl:=h2.out rfl
   obtain rfl:=h3.out rfl
   obtain rfl:=h4.out rfl
   obtain rfl:=h5.out rfl
   obtain rfl:=h6.out rfl
   obtain rfl:=h7.out rfl
   obtain rfl:=h8.out rfl
   obtain rfl:=h9.out rfl
   obtain rfl:=h10.out rfl
   obtain rfl:=h11.out rfl
   obtain rfl:=h12.out rfl
   obtain rfl:=h13.out rfl
   obtain rfl:=h14.out rfl
   clear hi3
   obtain ⟨rfl,k16,k15⟩:=h16.out rfl
   refine wpOp_step rfl (fun K hK=>?_)
   go_simp
   refine hK _ _ ⟨_,_,_,_,_,_,_,_,_,_,_,_,_,_,_,_,_,true,_,_,_,_,_,_,_,_,_,_,_,_,_,_,_,_,_,_,_,_,_,_,_,_,_,rfl,rfl,HW,h0,h1,h2,h3,h4,h5,h6,h7,h8,h9,h10,h11,h12,h13,h14,h15,Lib.hid (fun _=>⟨rfl,k16,k15⟩),Lib.hid (fun _=>⟨rfl,rfl⟩)⟩
theorem begin_any (G:GeoM) (_hw1:1≤G.w) (hw2:G.w≤64) (_hh1:1≤G.h) (hh2:G.h≤64) (w:World) :
  Calls Tryz.prog 53 #[.int .i64 (G.w:Int),.int .i64 (G.h:Int),.int .i64 (G.band:Int),.int .i64 (G.style:Int)] w fun e w'=>∃ A:CodA,e=.returned (.pointer (some ⟨A.cb,0,none⟩)) ∧
   Mv w [] w' (⟨A.cb,133,(codI G A.gm A.gn A.gs A.ge A.ga).toArray⟩::zN A.gm (G.w * G.h)::zN A.gn (G.w * G.h)::zL A.gs (G.w * G.h)::zL A.ge (G.w * G.h)::zL A.ga (G.w * G.h)::[]):=by
 have hn:G.w * G.h≤4096:=Nat.mul_le_mul hw2 hh2
 go_enter Tryz.func53,Tryz.ntmps53
 go_upto_region 2 with fail
 refine wp_piece (begin_r2 _ G w _ _ _ _ _ _ _ _ _ _ _ _ _ _ _ _ _ _ _ _ _ _ _ _ _ hn ?_)
 rintro _ _ _ _ _ _ _ _ _ _ _ _ _ _ _ _ _ _ g5 g7 g9 g11 g13 g16 A16 W HW ⟨-,fA,-⟩ ⟨f17,-⟩
 subst f17 fA
 have K:=Lib.hid HW
 clear HW
 go_wp2_with fail
 go_ret
 refine ⟨⟨g16,g5,g7,g9,g11,g13⟩,rfl,K.out.sub ?_ ?_⟩
 ·intro g
  simp only [oh_true,cnt_append,cnt_cons,cnt_nil]
  omega
 ·intro c hc
  simp only [oh_true,List.mem_append,List.mem_cons,List.not_mem_nil,or_false] at hc ⊢
  grind
end
end Go.Proofs.YtjngfhgakokejaaGreat
