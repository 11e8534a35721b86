/- tier.Same, of two blocks that are the same. packet.Add: a block is given to a band. Rows of integers; append. packet: where a block's passes end, as a row. A region in a round that is in the text's order: the plain laws hold there too. No program in sight. layers.Segments: its drawn region, in a round. layers: does a pass end its segment? layers: where passes are cut: the program's iterator. -/
import Derived.Test.YtjngfhgakokejaaGreatCp14
import Derived.Laws.StructEq
import Derived.Test.YtjngfhgakokejaaGreatCp13
import Derived.Test.YtjngfhgakokejaaGreatCp02
import Derived.Test.YtjngfhgakokejaaGreatCp11
import Derived.Test.YtjngfhgakokejaaGreatCp07
import Derived.Test.YtjngfhgakokejaaGreatCp10
set_option maxRecDepth 100000
set_option maxHeartbeats 8000000
set_option linter.all false
namespace Go.Proofs.YtjngfhgakokejaaGreat
section
open Go.RowKit
theorem RowP.form {a:Option Addr} {n c:Nat} {l:List (Int × Bool)} {H:List HB} (h:RowP (.slice a n c) l H) (hn:0<n):∃ g,a=some ⟨g,0,none⟩:=by
 obtain⟨a',c',e⟩:=h.slice
 cases e
 obtain⟨g,cp,cur,hv,-⟩:=RowH.form h hn
 injection hv with ha
 exact⟨g,ha⟩
theorem RowP.at_ {w:World} {g n c:Nat} {l:List (Int × Bool)} {H:List HB} (h:RowP (.slice (some ⟨g,0,none⟩) n c) l H) (hs:Sat w H) {k:Nat} {p:Int × Bool} (hk:l[k]?=some p):w.cell? ⟨g,k * 2,none⟩=some (.int .i64 p.1)∧w.cell? ⟨g,k * 2+1,none⟩=some (.bool p.2):=by
 obtain⟨a',c',e⟩:=h.slice
 cases e
 have hi:=(List.getElem?_eq_some_iff.1 hk).1
 exact⟨(RowH.cell h hs rfl (k * 2) (by omega)).1.trans (passesV_get hk).1,(RowH.cell h hs rfl (k * 2+1) (by omega)).1.trans (passesV_get hk).2⟩
end
section
open Go.RowKit
def addM (m:BandM) (k:Int) (pl:Int) (ps:List (Int × Bool)) (bs:List UInt8):BandM :=
 if k<0∨(m.ss.length:Int)≤k then m else { m with ss:=m.ss.set k.toNat ⟨pl,ps,bs,(stOf m k).said,(stOf m k).lb⟩ }
theorem cnt_flatMap_set {α:Type} (f:α→List HB) (x':α) (g:Nat):∀ (l:List α) (k:Nat) (x:α),l[k]?=some x→cnt g ((l.set k x').flatMap f)+cnt g (f x)=cnt g (l.flatMap f)+cnt g (f x')
 | [],k,x,h=>by simp at h
 | y::l,0,x,h=>by
  simp at h
  subst h
  rw[List.set_cons_zero,List.flatMap_cons,List.flatMap_cons,cnt_append,cnt_append]
  omega
 | y::l,k+1,x,h=>by
  have ih:=cnt_flatMap_set f x' g l k x (by simpa using h)
  rw[List.set_cons_succ,List.flatMap_cons,List.flatMap_cons,cnt_append,cnt_append]
  omega
theorem mem_flatMap_set {α:Type} (f:α→List HB) {x':α} {l:List α} {k:Nat} {c:HB} (h:c∈(l.set k x').flatMap f):c∈l.flatMap f∨c∈f x':=by
 obtain⟨y,hy,hc⟩:=List.mem_flatMap.1 h
 rcases List.mem_or_eq_of_mem_set hy with h1 | rfl
 ·exact .inl (List.mem_flatMap.2 ⟨y,h1,hc⟩)
 ·exact .inr hc
def StG.withB (s:StG) (pl:Int) (ps:List (Int × Bool)) (bs:List UInt8) (vp vb:Value) (Hp Hb:List HB):StG:=⟨⟨pl,ps,bs,s.m.said,s.m.lb⟩,vp,vb,Hp,Hb⟩
theorem states_set {G:List StG} {j:Nat} {s:StG} (h:G[j]?=some s) (pl:Int) (ps:List (Int × Bool)) (bs:List UInt8) (vp vb:Value) (Hp Hb:List HB) :
  putA (G.flatMap StG.v).toArray (j * 5) [.int .i64 pl,vp,vb]=((G.set j (s.withB pl ps bs vp vb Hp Hb)).flatMap StG.v).toArray:=by
 have hj:=(List.getElem?_eq_some_iff.1 h).1
 have e1:=flat_set StG.v 5 StG.v_length G j s ⟨⟨pl,s.m.ps,s.m.bs,s.m.said,s.m.lb⟩,s.vp,s.vb,s.Hp,s.Hb⟩ h 0 (by omega) (.int .i64 pl) rfl
 have e2:=flat_set StG.v 5 StG.v_length (G.set j ⟨⟨pl,s.m.ps,s.m.bs,s.m.said,s.m.lb⟩,s.vp,s.vb,s.Hp,s.Hb⟩) j _ ⟨⟨pl,s.m.ps,s.m.bs,s.m.said,s.m.lb⟩,vp,s.vb,s.Hp,s.Hb⟩ (List.getElem?_set_self hj) 1 (by omega) vp rfl
 have e3:=flat_set StG.v 5 StG.v_length ((G.set j ⟨⟨pl,s.m.ps,s.m.bs,s.m.said,s.m.lb⟩,s.vp,s.vb,s.Hp,s.Hb⟩).set j ⟨⟨pl,s.m.ps,s.m.bs,s.m.said,s.m.lb⟩,vp,s.vb,s.Hp,s.Hb⟩) j _ (s.withB pl ps bs vp vb Hp Hb) (List.getElem?_set_self (by simpa using hj)) 2 (by omega) vb rfl
 rw[← e2,← e1] at e3
 simp only[List.set_set] at e3
 show (((G.flatMap StG.v).toArray.setIfInBounds (j * 5) (.int .i64 pl)).setIfInBounds (j * 5+1) vp).setIfInBounds (j * 5+1+1) vb=_
 simp only[List.setIfInBounds_toArray]
 rw[show j * 5+1+1=j * 5+2 from rfl,show j * 5=j * 5+0 from rfl]
 exact congrArg List.toArray e3
theorem store_at {w:World} {b o:Nat} {V:Array Value} (ht:w.there b o V.size) (h1:∀ v∈V.toList,v.oneCell'=true):(storeCells ⟨b,o,none⟩ V.toList).run Tryz.prog w=.ok () (w.setCells b o V.toList):=by
 have:=run_storeCells_cells (P:=Tryz.prog) b o V.toList 0 w (fun j hj=>by have:=(ht j (by simpa using hj)).1;rw[Nat.add_zero];exact this) (fun j hj=>by rw[Nat.add_zero];exact(ht j (by simpa using hj)).2) h1
 rw[Nat.add_zero] at this
 exact this
theorem band_set {b:BandG} {d:BandA} (hk:b.ok d) {j:Nat} {s:StG} (hg:b.G[j]?=some s) {pl:Int} {ps:List (Int × Bool)} {bs:List UInt8} {vp vb:Value} {Hp Hb:List HB} (h1:RowP vp ps Hp) (h2:RowB vb bs Hb) (hpl : -1000≤pl∧pl≤1000) (hn:ps.length≤1000) (hm:bs.length≤10000000) (he:∀ p∈ps,0≤p.1∧p.1≤100000000) (hsd:s.m.said≤ps.length) :
  BandR d (addM b.model (j:Int) pl ps bs) (({ b with G:=b.G.set j (s.withB pl ps bs vp vb Hp Hb) }:BandG).heap d):=by
 have hj:=(List.getElem?_eq_some_iff.1 hg).1
 have hln:b.model.ss.length=d.n:=by simp only[BandG.model,List.length_map];exact hk.len
 have hjn:j<d.n:=by rw[← hk.len];exact hj
 have e0:stOf b.model (j:Int)=s.m:=by
  unfold stOf
  rw[hln,if_neg (by omega),Int.toNat_natCast]
  simp only[BandG.model,List.getD_eq_getElem?_getD,List.getElem?_map,hg,Option.map_some,Option.getD_some]
 have hso:=hk.st s (List.mem_of_getElem? hg)
 refine⟨({ b with G:=b.G.set j (s.withB pl ps bs vp vb Hp Hb) }:BandG),?_,⟨hk.tf,hk.tz,hk.kf,hk.kz,?_,?_,hk.n,hk.pl,hk.hw,hk.hh⟩,rfl⟩
 ·unfold addM
  rw[hln,if_neg (by omega),Int.toNat_natCast,e0]
  simp only[BandG.model,List.map_set]
  rfl
 ·intro x hx
  rcases List.mem_or_eq_of_mem_set hx with h | rfl
  ·exact hk.st x h
  ·exact⟨h1,h2,⟨hn,hm,hpl,⟨hso.2.2.said.1,hsd⟩,hso.2.2.lb,he⟩⟩
 ·simp only[List.length_set]
  exact hk.len
theorem add_any (d:BandA) (m:BandM) (H:List HB) (W:World) (hB:BandR d m H) (hs:Sat W H) (k:Int) (pl:Int) (vp vb:Value) (ps:List (Int × Bool)) (bs:List UInt8) (hp:PV W vp ps) (hb:BV W vb bs)
  (hpl : -1000≤pl∧pl≤1000) (hn:ps.length≤1000) (hm:bs.length≤10000000) (he:∀ p∈ps,0≤p.1∧p.1≤100000000) (hsd:(stOf m k).said≤ps.length) :
  Calls Tryz.prog 19 #[.pointer (some ⟨d.bb,0,none⟩),.int .i64 k,.agg #[.int .i64 pl,vp,vb]] W fun e W'=>e=.returned (.tuple #[])∧∃ H',BandR d (addM m k pl ps bs) H'∧Mv W H W' H':=by
 obtain⟨b,rfl,hk,rfl⟩:=hB
 have hsm:=hk.small
 obtain⟨w1,hw1⟩:∃ w1,w1=W.alloc (.cells #[.int .i64 pl,vp,vb] 58):=⟨_,rfl⟩
 have M1:=(Mv.refl hs).alloc 58 #[.int .i64 pl,vp,vb]
 have MY:=mv_alloc W 58 #[.int .i64 pl,vp,vb]
 rw[← hw1] at M1 MY
 have hbb:=Mv.blkm M1 (List.mem_cons_of_mem _ (b.mem_band d))
 have hst:=Mv.blkm M1 (List.mem_cons_of_mem _ (b.mem_states d))
 have c0:w1.cell? ⟨d.bb,0,none⟩=some (.slice (some ⟨d.lb,0,none⟩) d.n d.n):=hbb.cell 0
 have hln:b.model.ss.length=d.n:=by simp only[BandG.model,List.length_map];exact hk.len
 have GT:=Lib.hid (getT_any d.bb d.lb d.n d.n k w1 c0 (by omega))
 by_cases hr:k<0∨(d.n:Int)≤k
 ·rw[if_pos hr] at GT
  have e0:addM b.model k pl ps bs=b.model:=by unfold addM;rw[hln,if_pos hr]
  rw[e0]
  obtain⟨A,c1,rfl,-⟩:=hp
  obtain⟨B,c2,rfl,-⟩:=hb
  have KY:=Lib.hid M1
  have HB:=Lib.hid hk
  clear hr e0 MY M1 hbb hst
  go_enter Tryz.func19,Tryz.ntmps19
  go_upto_region 1 with fail
  rw[← hw1]
  clear hw1
  go_wp2_with (go_at_call 66;refine GT.out.mono ?_;rintro e w' ⟨rfl,rfl⟩)
  exact bodyPost_end (results_none rfl _ _ _) rfl ⟨rfl,_,⟨b,rfl,HB.out,rfl⟩,KY.out.drop1⟩
 ·rw[if_neg hr] at GT
  obtain⟨j,rfl⟩:∃ j:Nat,k=(j:Int):=⟨k.toNat,by omega⟩
  rw[Int.toNat_natCast] at GT
  obtain⟨s,hg⟩:∃ s,b.G[j]?=some s:=⟨_,List.getElem?_eq_getElem (by rw[hk.len];omega)⟩
  have e0:stOf b.model (j:Int)=s.m:=by
   unfold stOf
   rw[hln,if_neg hr,Int.toNat_natCast]
   simp only[BandG.model,List.getD_eq_getElem?_getD,List.getElem?_map,hg,Option.map_some,Option.getD_some]
  rw[e0] at hsd
  have hjn:j<d.n:=by omega
  have hpv:=hp.keep MY.below0
  have hbv:=hb.keep MY.below0
  have OW:Hid (Calls Tryz.prog 67 #[.agg #[.int .i64 pl,vp,vb]] w1 fun e w'=>∃ V vp' vb' Hp Hb,e=.returned (.agg V)∧V=#[.int .i64 pl,vp',vb']∧RowP vp' ps Hp∧RowB vb' bs Hb∧Mv w1 [] w' (Hp++Hb)):=Lib.hid ((own_any pl vp vb ps bs w1 hpv hbv (by omega) (by omega)).mono (fun e w' h=>by
   obtain⟨vp',vb',Hp,Hb,rfl,h1,h2,h3⟩:=h
   exact⟨_,vp',vb',Hp,Hb,rfl,rfl,h1,h2,h3⟩))
  have FIN:Hid (∀ (V:Array Value) (vp' vb':Value) (Hp Hb:List HB) (w3:World),V=#[.int .i64 pl,vp',vb']→RowP vp' ps Hp→RowB vb' bs Hb→Mv W (b.heap d) w3 ((Hp++Hb)++(⟨W.heap.size,58,#[.int .i64 pl,vp,vb]⟩::b.heap d)) →
    ((storeCells ⟨d.lb,j * 5,none⟩ V.toList).run Tryz.prog w3=.ok () (w3.setCells d.lb (j * 5) V.toList))∧∃ H',BandR d (addM b.model (j:Int) pl ps bs) H'∧Mv W (b.heap d) (w3.setCells d.lb (j * 5) V.toList) H'):=Lib.hid (by
   rintro V vp' vb' Hp Hb w3 rfl r1 r2 m3
   have M4:Mv W (b.heap d) w3 (⟨d.lb,69,(b.G.flatMap StG.v).toArray⟩::(bandB b d::(b.Hf++(b.Hz++b.G.flatMap StG.heap))++(Hp++Hb))):=m3.sub (fun g=>by simp only[BandG.heap,statesB,cnt_append,cnt_cons];omega) (fun c hc=>by simp only[BandG.heap,statesB,List.mem_append,List.mem_cons] at hc ⊢;grind)
   have bl:=M4.blk 0 rfl
   have hsz:(b.G.flatMap StG.v).toArray.size=d.n * 5:=by
    rw[List.size_toArray,flat_length StG.v 5 StG.v_length,hk.len]
   refine⟨store_at (fun i hi=>⟨?_,bl.frozen _⟩) ?_,_,band_set hk hg r1 r2 hpl hn hm he hsd,?_⟩
   ·rw[bl.cell,Array.getElem?_eq_getElem (by rw[hsz];have:i<3:=hi;omega)]
    rfl
   ·obtain⟨a1,k1,rfl⟩:=r1.slice
    obtain⟨a2,k2,rfl⟩:=RowB.slice r2
    intro v hv
    simp only[List.mem_cons,List.not_mem_nil,or_false] at hv
    rcases hv with rfl | rfl | rfl <;> rfl
   ·have M5:=Mv.setCells [.int .i64 pl,vp',vb'] _ _ (j * 5) M4
    rw[states_set hg pl ps bs vp' vb' Hp Hb] at M5
    refine M5.sub (fun g=>?_) (fun c hc=>?_)
    ·have:=cnt_flatMap_set StG.heap (s.withB pl ps bs vp' vb' Hp Hb) g b.G j s hg
     have e:cnt g (StG.heap (s.withB pl ps bs vp' vb' Hp Hb))=cnt g (Hp++Hb):=rfl
     simp only[BandG.heap,statesB,bandB,cnt_append,cnt_cons] at this e ⊢
     omega
    ·simp only[BandG.heap,List.mem_append,List.mem_cons] at hc ⊢
     rcases hc with h | h | h | h | h
     ·exact .inr (.inl (.inl h))
     ·exact .inl h
     ·exact .inr (.inl (.inr (.inl h)))
     ·exact .inr (.inl (.inr (.inr (.inl h))))
     ·rcases mem_flatMap_set StG.heap h with h1 | h1
      ·exact .inr (.inl (.inr (.inr (.inr h1))))
      ·exact .inr (.inr (List.mem_append.1 h1)))
  obtain⟨A,c1,rfl,-⟩:=hp
  obtain⟨B,c2,rfl,-⟩:=hb
  have y0:w1.cell? ⟨W.heap.size,0,none⟩=some (.int .i64 pl):=MY.cell 0 rfl 0
  have y1:w1.cell? ⟨W.heap.size,1,none⟩=some (.slice A ps.length c1):=MY.cell 0 rfl 1
  have y2:w1.cell? ⟨W.heap.size,2,none⟩=some (.slice B bs.length c2):=MY.cell 0 rfl 2
  have KY:=Lib.hid M1
  have hj:j * 5<100000:=by omega
  clear hr e0 MY M1 hbb hst hg hpv hbv hln hk hs hsd
  go_enter Tryz.func19,Tryz.ntmps19
  go_upto_region 1 with fail
  rw[← hw1]
  clear hw1
  go_wp2_with (first | (go_at_call 66;refine GT.out.mono ?_;rintro e w' ⟨rfl,rfl⟩) | (go_at_call 67;refine OW.out.mono ?_;rintro e w3 ⟨V,vp',vb',Hp,Hb,rfl,hV,r1,r2,m3⟩;have hVs:V.size=3:=(by rw[hV];rfl);have F3:=FIN.out V vp' vb' Hp Hb w3 hV r1 r2 (Mv.call (H:=[]) KY.out m3);have hst3:=F3.1;have K3:=Lib.hid F3.2;clear hV r1 r2 m3 F3))
  exact bodyPost_end (results_none rfl _ _ _) rfl ⟨rfl,K3.out⟩
end
section
open Go.RowKit
def RowI (v:Value) (l:List Int) (H:List HB):Prop:=RowH 3 1 v l.length (l.map (Value.int .i64)) H
theorem RowI.slice {v:Value} {l:List Int} {H:List HB} (h:RowI v l H):∃ a c,v=.slice a l.length c:=RowH.slice h
def midI (l:List Int) (k:Nat):List Int:=l.take k++List.replicate (l.length - k) 0
theorem midI_zero (l:List Int):midI l 0=List.replicate l.length 0:=by simp[midI]
theorem midI_all (l:List Int):midI l l.length=l:=by simp[midI]
theorem midI_len (l:List Int) (k:Nat) (h:k≤l.length):(midI l k).length=l.length:=by simp[midI];omega
theorem midI_set (l:List Int) (i:Nat) {m:Int} (h:l[i]?=some m):(midI l i).set i m=midI l (i+1):=by
 have hi:=(List.getElem?_eq_some_iff.1 h).1
 unfold midI
 rw[List.take_add_one,h,List.set_append_right _ _ (by rw[List.length_take];omega),List.length_take,show i - min i l.length=0 by omega,show l.length - i=(l.length - (i+1))+1 by omega,List.replicate_succ]
 simp
def rowI (g:Nat) (l:List Int):HB:=⟨g,3,(l.map (Value.int .i64)).toArray⟩
theorem rowI_row (g:Nat) (l:List Int) (n:Nat) (hn:l.length=n) (hl:n≤maxLen):RowI (.slice (some ⟨g,0,none⟩) n n) l [rowI g l]:=by
 subst hn
 have:=RowH.new (size:=1) 3 g l.length (l.map (Value.int .i64)).toArray (by simp) hl
 exact this
theorem rowI_set (g:Nat) (l:List Int) (i:Nat) (m:Int):(rowI g l).cs.setIfInBounds i (.int .i64 m)=(rowI g (l.set i m)).cs:=by simp[rowI]
theorem infoI:(Tryz.prog.info? 3).map (fun i=>(i.zero,i.size,i.bytes))=some (some (.int .i64 0),1,8):=by kernel_rfl
theorem flat_int (n:Nat):(List.replicate n (Value.int .i64 0).cells.toList).flatten=List.replicate n (Value.int .i64 0):=by
 induction n with
 | zero=>rfl
 | succ n ih=>rw[List.replicate_succ,List.replicate_succ,List.flatten_cons,ih];rfl
def IV (w:World) (v:Value) (l:List Int):Prop:=∃ A c,v=.slice A l.length c∧l.length≤c∧c≤maxLen∧Reads w w.heap.size 1 A l.length (l.map (Value.int .i64))
theorem intsV_one (l:List Int):∀ u:Value,u∈l.map (Value.int .i64)→u.oneCell'=true:=by
 intro u hu
 obtain⟨e,-,rfl⟩:=List.mem_map.1 hu
 rfl
theorem RowI.iv {w:World} {v:Value} {l:List Int} {H:List HB} (h:RowI v l H) (hs:Sat w H):IV w v l:=by
 have ho:=RowH.owns h hs (B:=0) (fun _ _=>Nat.zero_le _)
 rcases h.2 with ⟨rfl,h2,h3⟩ | ⟨g,cap,cur,rfl,h1,h2,-⟩
 ·exact⟨none,0,by rw[h2],by omega,by unfold maxLen;omega,Reads.of_own (by rw[h2] at ho ⊢;exact ho)⟩
 ·exact⟨_,cap,rfl,h1,h2,Reads.of_own ho⟩
theorem run_appI {w:World} {v u:Value} {l r:List Int} {H:List HB} (h:RowI v l H) (hs:Sat w H) (hu:IV w u r) (hl:l.length+r.length≤100000000) (ty:TypeId) :
  ∃ v' w' H',(Builtin.append_ #[38,38] ty #[v,u]).run Tryz.prog w=.ok v' w'∧RowI v' (l++r) H'∧Mv w H w' H':=by
 obtain⟨A,c,rfl,h1,h2,h3⟩:=hu
 obtain⟨i0,hti,hz0,hz1,hz2⟩:=info_parts infoI
 obtain⟨v',w',hrun,k1,k2,k3⟩:=run_append_any (P:=Tryz.prog) w 0 38 ty 3 i0 _ 1 8 Tryz.underlying38 hti hz0 hz1 hz2 rfl (by decide) v l.length (l.map (Value.int .i64)) (RowH.owns h hs (fun _ _=>Nat.zero_le _)) w.heap.size A r.length c (r.map (Value.int .i64)) h3 (intsV_one r) (by unfold maxLen;omega) (by omega) (Nat.zero_le _)
 obtain⟨H',k4,k5⟩:=mv_owns_grown h k1 k2 k3
 refine⟨v',w',H',hrun,?_,k5⟩
 unfold RowI
 rw[List.length_append,List.map_append]
 exact k4
section
variable {ops:Array Oper} {rest:List Oper} {o:Oper} {a:Act} {w:World} {K:Act→World→Prop} {Q:Exit→Act→World→Prop} {E:Prop}
theorem wp_appI (s x:Operand) (ho:o.op=.call { callee:=.builtin .append,args:=#[s,x],argTypes:=#[38,38] }) (v u:Value) (l r:List Int) (H:List HB)
  (hsv:a.eval s=v) (hxu:a.eval x=u) (h:RowI v l H) (hs:Sat w H) (hu:IV w u r) (hl:l.length+r.length≤100000000)
  (hK:∀ v' w' H',RowI v' (l++r) H'→Mv w H w' H'→K (a.put o.dst v') w'):o.wp Tryz.prog a w K Q:=by
 obtain⟨v',w',H',hrun,h1,h2⟩:=run_appI h hs hu hl o.type
 unfold Oper.wp execOp
 simp only[ho,resolve,invoke,builtin,Sem.run_bind,Sem.run_pure,Result.andThen_ok,List.map_toArray,List.map_cons,List.map_nil,hsv,hxu,hrun]
 exact hK v' w' H' h1 h2
theorem wpList_appI (hgd:o.guard=none) (s x:Operand) (ho:o.op=.call { callee:=.builtin .append,args:=#[s,x],argTypes:=#[38,38] }) (v u:Value) (l r:List Int) (H:List HB)
  (hsv:a.eval s=v) (hxu:a.eval x=u) (h:RowI v l H) (hs:Sat w H) (hu:IV w u r) (hl:l.length+r.length≤100000000)
  (hK:∀ v' w' H',RowI v' (l++r) H'→Mv w H w' H'→wpList Tryz.prog ops Q rest (a.put o.dst v') w'):wpList Tryz.prog ops Q (o::rest) a w :=
 wpList_plain hgd fun _ hk=>wp_appI s x ho v u l r H hsv hxu h hs hu hl fun v' w' H' h1 h2=>hk _ _ (hK v' w' H' h1 h2)
theorem step_appI (hgd:o.guard=none) (s x:Operand) (ho:o.op=.call { callee:=.builtin .append,args:=#[s,x],argTypes:=#[38,38] }) (v u:Value) (l r:List Int) (H:List HB)
  (hsv:a.eval s=v) (hxu:a.eval x=u) (h:RowI v l H) (hs:Sat w H) (hu:IV w u r) (hl:l.length+r.length≤100000000)
  (hK:∀ v' w' H',RowI v' (l++r) H'→Mv w H w' H'→K (a.put o.dst v') w'):if Region.wanted o (yielded ops a.tmps)=true then Oper.wp Tryz.prog o a w K Q else E:=by
 have hw:Region.wanted o (yielded ops a.tmps)=true:=by simp[Region.wanted,hgd]
 rw[if_pos hw]
 exact wp_appI s x ho v u l r H hsv hxu h hs hu hl hK
end
theorem iv_one (w:World) (e:Int) (g:Nat) (hg:g=w.heap.size):IV (w.alloc (.cells #[.int .i64 e] 3)) (.slice (some ⟨g,0,none⟩) 1 1) [e]:=by
 subst hg
 have h:RowI (.slice (some ⟨w.heap.size,0,none⟩) 1 1) [e] [⟨w.heap.size,3,#[.int .i64 e]⟩]:=RowH.new 3 w.heap.size 1 #[.int .i64 e] rfl (by decide)
 exact h.iv (mv_alloc w 3 _).sat
theorem RowI.at_ {w:World} {g n c:Nat} {l:List Int} {H:List HB} (h:RowI (.slice (some ⟨g,0,none⟩) n c) l H) (hs:Sat w H) {i:Nat} {e:Int} (hi:l[i]?=some e):w.cell? ⟨g,i,none⟩=some (.int .i64 e):=by
 obtain⟨a',c',e'⟩:=h.slice
 cases e'
 have h1:=(List.getElem?_eq_some_iff.1 hi).1
 rw[(RowH.cell h hs rfl i (by omega)).1,List.getElem?_map,hi]
 rfl
theorem RowI.form {a:Option Addr} {n c:Nat} {l:List Int} {H:List HB} (h:RowI (.slice a n c) l H) (hn:0<n):∃ g,a=some ⟨g,0,none⟩:=by
 obtain⟨a',c',e⟩:=h.slice
 cases e
 obtain⟨g,cp,cur,hv,-⟩:=RowH.form h hn
 injection hv with ha
 exact⟨g,ha⟩
end
section
open Go.RowKit
theorem spot_ends (x:SpotX) (vp:Value) (ps:List (Int × Bool)) (Hp:List HB) (w:World) (hc:w.cell? ⟨x.d.lb,x.k * 5+1,none⟩=some vp) (hp:RowP vp ps Hp) (hs:Sat w Hp) (hn:ps.length≤1000) (_hx:x.k≤100000) :
  Calls Tryz.prog 76 #[x.v] w fun e w'=>∃ v Hn,e=.returned v∧RowI v (ps.map (·.1)) Hn∧Mv w [] w' Hn:=by
 obtain⟨A,c,rfl⟩:=hp.slice
 obtain⟨n,hnn⟩:∃ n,ps.length=n:=⟨_,rfl⟩
 rw[hnn] at hc hp hn
 obtain⟨l,hl⟩:∃ l,ps.map (·.1)=l:=⟨_,rfl⟩
 have hll:l.length=n:=by rw[← hl,List.length_map,hnn]
 rw[hl]
 obtain⟨i0,hi,hz0,hz1,hz2⟩:=info_parts infoI
 have hm:=fun W=>run_made (P:=Tryz.prog) 38 3 i0 _ 1 8 n Tryz.underlying38 hi hz0 hz1 hz2 rfl (by decide) (by omega) (by omega) W
 rw[flat_int] at hm
 have hlt:=World.block_lt_of_cell? w _ hc
 have M0:=mv_alloc w 66 x.cells
 have c1:=M0.drop1.old hc hlt
 have b0:=(Blk.new w 66 x.cells).cell 0
 have ar:(List.replicate n (Value.int .i64 0)).toArray=Array.replicate n (.int .i64 0):=by simp
 have M1:=M0.alloc 3 (Array.replicate n (Value.int .i64 0))
 rw[World.size_alloc] at M1
 have c2:=M1.drop1.drop1.old hc hlt
 have b2:_=_:=M1.cell 1 rfl 0
 unfold SpotX.v
 unfold SpotX.cells at M0 M1 c1 b0 c2 b2
 have KP:=Lib.hid (And.intro hp (And.intro hnn hl))
 obtain⟨w2,hw2⟩:∃ w2,w2=(w.alloc (.cells #[.pointer (some ⟨x.d.lb,x.k * 5,none⟩),.pointer (some ⟨x.d.bb,0,none⟩),.int .i64 (x.k:Int)] 66)).alloc (.cells (Array.replicate n (Value.int .i64 0)) 3):=⟨_,rfl⟩
 rw[← hw2] at M1 c2 b2
 have HW:=Lib.hid hw2
 have K1:Hid (Mv w [] w2 [rowI (w.heap.size+1) (midI l 0)]):=Lib.hid (by
  rw[midI_zero,hll]
  unfold rowI
  rw[List.map_replicate,ar]
  exact M1.sub (fun g=>by simp only[cnt_cons,cnt_nil];omega) (fun b hb=>by simp only[List.mem_cons,List.not_mem_nil,or_false] at hb ⊢;exact .inl hb))
 have HB2:Hid (w2.cell? ⟨w.heap.size,0,none⟩=some (.pointer (some ⟨x.d.lb,x.k * 5,none⟩))):=Lib.hid b2
 have KS:=Lib.hid hs
 clear hw2 M0 M1 hp hnn hl hs ar
 go_enter Tryz.func76,Tryz.ntmps76
 go_upto_region 2 with fail
 rw[← HW.out]
 clear c1 b0 hm hi
 go_wp2_with fail
 go_loopg [21] n (fun mm s21 wx=>∃ k:Nat,k≤n∧mm=n - k∧s21=.int .i64 (k:Int)∧Mv w [] wx [rowI (w.heap.size+1) (midI l k)])
 case atStart=>exact⟨0,Nat.zero_le _,rfl,rfl,K1.out⟩
 case round =>
  obtain⟨k,hk,rfl,rfl,m⟩:=hrel
  by_cases hlt:k<n
  ·have d1:decide ((k:Int)<(n:Int))=true:=by simp;omega
   have hkn:(k:Int)<(n:Int):=by omega
   obtain⟨g,rfl⟩:=KP.out.1.form (by omega)
   obtain⟨p,hpk⟩:∃ p,ps[k]?=some p:=⟨_,List.getElem?_eq_getElem (by rw[KP.out.2.1];exact hlt)⟩
   obtain⟨y1,y2⟩:=KP.out.1.at_ KS.out hpk
   have z1:=m.old y1 (World.block_lt_of_cell? w _ y1)
   have z2:=m.old y2 (World.block_lt_of_cell? w _ y2)
   have hlk:l[k]?=some p.1:=by rw[← KP.out.2.2,List.getElem?_map,hpk];rfl
   have HL:=Lib.hid hlk
   have ml:=midI_len l k (by omega)
   have M3:=m.alloc 142 #[.int .i64 p.1,.bool p.2]
   have KM:=Lib.hid M3
   have r1:(wr.alloc (.cells #[.int .i64 p.1,.bool p.2] 142)).frozen? ⟨w.heap.size+1,k,none⟩=false:=M3.frozen 1 (g:=w.heap.size+1) (t:=3) (cs:=((midI l k).map (Value.int .i64)).toArray) rfl k
   obtain⟨o,ho⟩:∃ o,(wr.alloc (.cells #[.int .i64 p.1,.bool p.2] 142)).cell? ⟨w.heap.size+1,k,none⟩=some o:=by
    have h1:=M3.cell 1 (g:=w.heap.size+1) (t:=3) (cs:=((midI l k).map (Value.int .i64)).toArray) rfl k
    rw[h1]
    exact⟨_,Array.getElem?_eq_getElem (by simp only[List.size_toArray,List.length_map];omega)⟩
   clear m y1 y2 hpk hlk M3 c2 b2
   have M4:Hid (Mv w [] ((wr.alloc (.cells #[.int .i64 p.1,.bool p.2] 142)).setCell ⟨w.heap.size+1,k,none⟩ (.int .i64 p.1)) [rowI (w.heap.size+1) (midI l (k+1))]):=Lib.hid (by
    have h1:=Mv.setAt (A:=[_]) (g:=w.heap.size+1) (t:=3) (cs:=(rowI (w.heap.size+1) (midI l k)).cs) KM.out k (.int .i64 p.1)
    rw[rowI_set,midI_set l k HL.out] at h1
    exact h1.drop1)
   clear ml
   go_wp2_with fail
   go_roundg (n - (k+1))
   case measure=>omega
   case rel=>exact⟨k+1,by omega,rfl,by push_cast;rfl,M4.out⟩
  ·have d1:decide ((k:Int)<(n:Int))=false:=by simp;omega
   obtain rfl:k=n:=by omega
   rw[show midI l k=l by rw[← hll];exact midI_all l] at m
   have KM:=Lib.hid m
   clear m
   go_wp2_with fail
   go_ret
   exact⟨_,_,rfl,rowI_row _ l k hll (by unfold maxLen;omega),KM.out⟩
end
section
open Go.RowKit
theorem list_round {P:Program} {ops:Array Oper} {Q:Exit→Act→World→Prop} (l n:Nat) (hl:¬LetsOut Q):∀ (os:List Oper),(noDefer os.toArray=true)→∀ (a:Act) (w:World),wpList P ops Q os a w→wpListIn (Fence.wide.inRound l) n P ops Q os a w
 | [],_,_,_,h=>h
 | o::os,hd,a,w,h=>by
  have hd1:∀ c,o.op≠.defer c:=noDefer_at hd (i:=0) rfl
  have hd2:noDefer os.toArray=true:=by
   unfold noDefer at hd ⊢
   simp only[List.all_toArray,List.all_cons,Bool.and_eq_true] at hd ⊢
   exact hd.2
  unfold wpList at h
  unfold wpListIn
  split
  ·rename_i hw
   rw[if_pos hw] at h
   rcases h with h | h
   ·exact oper_round hd1 (fun a w k=>list_round l n hl os hd2 a w k) h
   ·exact absurd h.2 hl
  ·rename_i hw
   rw[if_neg hw] at h
   exact⟨fun f _=>trivial,list_round l n hl os hd2 _ _ h⟩
theorem round_lit {P:Program} {l k id:Nat} {os:List Oper} {Q:Exit→Act→World→Prop} {a:Act} {w:World} (hd:noDefer os.toArray=true) (hl:¬LetsOut Q) (h:wpList P os.toArray Q os a w):(Code.region id os.toArray false).wpIn (Fence.wide.inRound l) k P Q a w :=
 wpIn_region_lit (list_round l k hl os hd a w h)
theorem round_any {P:Program} {l k id:Nat} {ops:Array Oper} {Q:Exit→Act→World→Prop} {a:Act} {w:World} (hm:P.follows .mixedOrders=true) (hd:noDefer ops=true) (hl:¬LetsOut Q) (h:wpAny P .any ops Q ops.size (Array.replicate ops.size false) a { w with drawn:=w.drawn+1 }):(Code.region id ops true).wpIn (Fence.wide.inRound l) k P Q a w :=
 wpIn_region_any hm (any_round l k hd hl _ _ _ _ h)
end
section
open Go.RowKit
def getRegion2 (n:Nat):Code→Option Code
 | .region i os b=>if i == n then some (.region i os b) else none
 | .block _ b=>getRegion2 n b
 | .seq a b=>(getRegion2 n a).or (getRegion2 n b)
 | .cond _ a b=>(getRegion2 n a).or (getRegion2 n b)
 | .loop b=>getRegion2 n b
 | .scope b=>getRegion2 n b
 | .rangeFunc _ _ a b=>(getRegion2 n a).or (getRegion2 n b)
 | _=>none
def regionOf2 (n:Nat) (f:Func):Code:=((f.body.bind (getRegion2 n))).getD .skip
inductive seg_r9_S (g0 r2 g3 eg n ec b:Nat) (eb was:Int) (a2:Option Addr) (c2:Nat) (l2:List Int) (H2 R H0:List YtjngfhgakokejaaGreat.HB) (w0:World) (w:World) (s0 s1 s2 s3 s4 s5 s6 s8 s11 s13 s14 s15 s16 s17 s18 s19 s20 s21 s22 s23 s24 s25 s26 s27 s28 s29 s30 s31 s32 s33 s34 s35 s36 s37 s38 s39 s40 s41 s42 s43 s44 s45 s46 s47 s48 s49 s50 s51 s52 s53 s54 s55 s56 s57 s58 s59 s60 s61 s62:Value) (listed:Array Bool) (a:Act) (W:World):Prop
 | mk (b0 b1 b2 b3 b4 b5 b6 b7 b8 b9 b10:Bool) (u44 u45 u46 u47 u48 u49 u50 u51 u52 u53:Value) (g8:Nat) (HB:List YtjngfhgakokejaaGreat.HB) (vv:Value) (hl:listed=#[b0,b1,b2,b3,b4,b5,b6,b7,b8,b9,b10]) (ha:a=⟨List.toArray (s0::s1::s2::s3::s4::s5::s6::(.pointer (some ⟨g0,0,none⟩))::s8::(.pointer (some ⟨r2,0,none⟩))::(.pointer (some ⟨g3,0,none⟩))::s11::(.int .i64 ((b:Int)))::s13::s14::s15::s16::s17::s18::s19::s20::s21::s22::s23::s24::s25::s26::s27::s28::s29::s30::s31::s32::s33::s34::s35::s36::s37::s38::s39::s40::s41::s42::s43::u44::u45::u46::u47::u48::u49::u50::u51::u52::u53::s54::s55::s56::s57::s58::s59::s60::s61::s62::[]),[]⟩) (HW:(Mv w0 H0 W (oh b8 ⟨g8,3,#[.int .i64 (eb - was)]⟩++(HB++(⟨r2,38,#[vv]⟩::R)))∧(b9=false→HB=H2)∧(b10=false→vv=.slice a2 l2.length c2)∧(b9=true→b8=true))) (h0:Hid (b0=true→u44=.slice a2 l2.length c2)) (h1:Hid (b1=true→u45=.slice (some ⟨eg,0,none⟩) n ec)) (h2:Hid (b2=true→u46=.int .i64 ((b:Int)))) (h3:Hid (b3=true→u47=.int .i64 (((b - 1:Nat):Int)))) (h4:Hid (b4=true→u48=.pointer (some ⟨eg,b - 1,none⟩))) (h5:Hid (b5=true→u49=.int .i64 (eb))) (h6:Hid (b6=true→u50=.int .i64 (was))) (h7:Hid (b7=true→u51=.int .i64 (eb - was))) (h8:Hid (b8=true→u52=.slice (some ⟨g8,0,none⟩) 1 1)) (h9:Hid (b9=true→RowI u53 (l2++[eb - was]) HB)) (h10:Hid (b10=true→(b9=true∧b0=true)∧vv=u53)):seg_r9_S g0 r2 g3 eg n ec b eb was a2 c2 l2 H2 R H0 w0 w s0 s1 s2 s3 s4 s5 s6 s8 s11 s13 s14 s15 s16 s17 s18 s19 s20 s21 s22 s23 s24 s25 s26 s27 s28 s29 s30 s31 s32 s33 s34 s35 s36 s37 s38 s39 s40 s41 s42 s43 s44 s45 s46 s47 s48 s49 s50 s51 s52 s53 s54 s55 s56 s57 s58 s59 s60 s61 s62 listed a W
theorem seg_r9 (Q:Exit→Act→World→Prop) (O:Array Oper) (hO:regionOf2 9 Tryz.f75=.region 9 O true) (g0 r2 g3 eg n ec b:Nat) (eb was:Int) (a2:Option Addr) (c2:Nat) (l2:List Int) (H2 R H0:List YtjngfhgakokejaaGreat.HB) (w0:World) (w:World) (s0 s1 s2 s3 s4 s5 s6 s8 s11 s13 s14 s15 s16 s17 s18 s19 s20 s21 s22 s23 s24 s25 s26 s27 s28 s29 s30 s31 s32 s33 s34 s35 s36 s37 s38 s39 s40 s41 s42 s43 s44 s45 s46 s47 s48 s49 s50 s51 s52 s53 s54 s55 s56 s57 s58 s59 s60 s61 s62:Value) (hrow2:RowI (.slice a2 l2.length c2) l2 H2) (hl2:l2.length≤1000) (hb1:1≤b) (hbn:b≤n) (hn:n≤1000) (heb:0≤eb∧eb≤100000000) (hwas:0≤was∧was≤100000000) (hR0:⟨g0,38,#[.slice (some ⟨eg,0,none⟩) n ec]⟩∈R) (hR3:⟨g3,3,#[.int .i64 was]⟩∈R) (hRe:∀ W,Sat W R→W.cell? ⟨eg,b - 1,none⟩=some (.int .i64 eb)) (hM:Mv w0 H0 w (H2++(⟨r2,38,#[.slice a2 l2.length c2]⟩::R)))
  (hk:∀ (u44 u45 u46 u47 u48 u49 u50 u51 u52 u53:Value) (g8:Nat) (HB:List YtjngfhgakokejaaGreat.HB) (vv:Value) (W:World),(Mv w0 H0 W (oh true ⟨g8,3,#[.int .i64 (eb - was)]⟩++(HB++(⟨r2,38,#[vv]⟩::R)))∧(true=false→HB=H2)∧(true=false→vv=.slice a2 l2.length c2)∧(true=true→true=true))→(RowI u53 (l2++[eb - was]) HB)→((true=true∧true=true)∧vv=u53)→Q .normal ⟨List.toArray (s0::s1::s2::s3::s4::s5::s6::(.pointer (some ⟨g0,0,none⟩))::s8::(.pointer (some ⟨r2,0,none⟩))::(.pointer (some ⟨g3,0,none⟩))::s11::(.int .i64 ((b:Int)))::s13::s14::s15::s16::s17::s18::s19::s20::s21::s22::s23::s24::s25::s26::s27::s28::s29::s30::s31::s32::s33::s34::s35::s36::s37::s38::s39::s40::s41::s42::s43::u44::u45::u46::u47::u48::u49::u50::u51::u52::u53::s54::s55::s56::s57::s58::s59::s60::s61::s62::[]),[]⟩ W) :
  wpAny Tryz.prog .any O Q O.size (Array.replicate O.size false) ⟨List.toArray (s0::s1::s2::s3::s4::s5::s6::(.pointer (some ⟨g0,0,none⟩))::s8::(.pointer (some ⟨r2,0,none⟩))::(.pointer (some ⟨g3,0,none⟩))::s11::(.int .i64 ((b:Int)))::s13::s14::s15::s16::s17::s18::s19::s20::s21::s22::s23::s24::s25::s26::s27::s28::s29::s30::s31::s32::s33::s34::s35::s36::s37::s38::s39::s40::s41::s42::s43::s44::s45::s46::s47::s48::s49::s50::s51::s52::s53::s54::s55::s56::s57::s58::s59::s60::s61::s62::[]),[]⟩ w.drew:=by
 conv at hO=>lhs;whnf
 cases hO
 have HK:=Lib.hid hk
 clear hk
 refine wpAny_inv (seg_r9_S g0 r2 g3 eg n ec b eb was a2 c2 l2 H2 R H0 w0 w s0 s1 s2 s3 s4 s5 s6 s8 s11 s13 s14 s15 s16 s17 s18 s19 s20 s21 s22 s23 s24 s25 s26 s27 s28 s29 s30 s31 s32 s33 s34 s35 s36 s37 s38 s39 s40 s41 s42 s43 s44 s45 s46 s47 s48 s49 s50 s51 s52 s53 s54 s55 s56 s57 s58 s59 s60 s61 s62) ?_ ?_ _ _ _ _ (by decide) rfl ?_
 rotate_left 2
 ·exact⟨false,false,false,false,false,false,false,false,false,false,false,s44,s45,s46,s47,s48,s49,s50,s51,s52,s53,0,H2,(.slice a2 l2.length c2),rfl,rfl,⟨by simpa [oh_false] using hM.drew,fun _=>rfl,fun _=>rfl,fun e=>nomatch e⟩,Lib.hid nofun,Lib.hid nofun,Lib.hid nofun,Lib.hid nofun,Lib.hid nofun,Lib.hid nofun,Lib.hid nofun,Lib.hid nofun,Lib.hid nofun,Lib.hid nofun,Lib.hid nofun⟩
 ·rintro listed a W ⟨b0,b1,b2,b3,b4,b5,b6,b7,b8,b9,b10,u44,u45,u46,u47,u48,u49,u50,u51,u52,u53,g8,HB,vv,rfl,rfl,HW,h0,h1,h2,h3,h4,h5,h6,h7,h8,h9,h10⟩ hr
  obtain rfl:b0=true:=by cases b0;exact(not_ready2 hr 0 _ rfl rfl (by simp[Region.binds])).elim;rfl
  obtain rfl:b1=true:=by cases b1;exact(not_ready2 hr 1 _ rfl rfl (by simp[Region.binds])).elim;rfl
  obtain rfl:b2=true:=by cases b2;exact(not_ready2 hr 2 _ rfl rfl (by simp[Region.binds])).elim;rfl
  obtain rfl:b3=true:=by cases b3;exact(not_ready2 hr 3 _ rfl rfl (by simp[Region.binds])).elim;rfl
  obtain rfl:b4=true:=by cases b4;exact(not_ready2 hr 4 _ rfl rfl (by simp[Region.binds])).elim;rfl
  obtain rfl:b5=true:=by cases b5;exact(not_ready2 hr 5 _ rfl rfl (by simp[Region.binds])).elim;rfl
  obtain rfl:b6=true:=by cases b6;exact(not_ready2 hr 6 _ rfl rfl (by simp[Region.binds])).elim;rfl
  obtain rfl:b7=true:=by cases b7;exact(not_ready2 hr 7 _ rfl rfl (by simp[Region.binds])).elim;rfl
  obtain rfl:b8=true:=by cases b8;exact(not_ready2 hr 8 _ rfl rfl (by simp[Region.binds])).elim;rfl
  obtain rfl:b9=true:=by cases b9;exact(not_ready2 hr 9 _ rfl rfl (by simp[Region.binds])).elim;rfl
  obtain rfl:b10=true:=by cases b10;exact(not_ready2 hr 10 _ rfl rfl (by simp[Region.binds])).elim;rfl
  exact HK.out u44 u45 u46 u47 u48 u49 u50 u51 u52 u53 g8 HB vv W HW (h9.out rfl) (h10.out rfl)
 ·rintro listed a W i ⟨b0,b1,b2,b3,b4,b5,b6,b7,b8,b9,b10,u44,u45,u46,u47,u48,u49,u50,u51,u52,u53,g8,HB,vv,rfl,rfl,HW,h0,h1,h2,h3,h4,h5,h6,h7,h8,h9,h10⟩ hi
  obtain⟨hi1,hi2,hi3⟩:=mem_ready hi
  clear hi
  have hi4:i=0∨i=1∨i=2∨i=3∨i=4∨i=5∨i=6∨i=7∨i=8∨i=9∨i=10:=by
   have:i<11:=hi1
   omega
  clear hi1
  rcases hi4 with rfl | rfl | rfl | rfl | rfl | rfl | rfl | rfl | rfl | rfl | rfl
  ·obtain rfl:b0=false:=hi2
   clear hi3
   have hb10:b10=false:=by cases b10;rfl;exact absurd (h10.out rfl).1.2 (by simp)
   have hvv:vv=.slice a2 l2.length c2:=HW.2.2.1 hb10
   subst hvv
   have e:=(HW.1.blkm (x:=⟨r2,38,#[.slice a2 l2.length c2]⟩) (List.mem_append_right _ (List.mem_append_right _ List.mem_cons_self))).cell 0
   refine wpOp_step rfl (fun K hK=>?_)
   go_simp
   refine hK _ _ ⟨true,_,_,_,_,_,_,_,_,_,_,(.slice a2 l2.length c2),_,_,_,_,_,_,_,_,_,_,_,_,rfl,rfl,HW,Lib.hid (fun _=>rfl),h1,h2,h3,h4,h5,h6,h7,h8,h9,Lib.hid (fun e=>nomatch (h10.out e).1.2)⟩
  ·obtain rfl:b1=false:=hi2
   clear hi3
   have e:=(HW.1.blkm (x:=⟨g0,38,#[.slice (some ⟨eg,0,none⟩) n ec]⟩) (List.mem_append_right _ (List.mem_append_right _ (List.mem_cons_of_mem _ hR0)))).cell 0
   refine wpOp_step rfl (fun K hK=>?_)
   go_simp
   refine hK _ _ ⟨_,true,_,_,_,_,_,_,_,_,_,_,(.slice (some ⟨eg,0,none⟩) n ec),_,_,_,_,_,_,_,_,_,_,_,rfl,rfl,HW,h0,Lib.hid (fun _=>rfl),h2,h3,h4,h5,h6,h7,h8,h9,h10⟩
  ·obtain rfl:b2=false:=hi2
   clear hi3
   refine wpOp_step rfl (fun K hK=>?_)
   go_simp
   refine hK _ _ ⟨_,_,true,_,_,_,_,_,_,_,_,_,_,(.int .i64 ((b:Int))),_,_,_,_,_,_,_,_,_,_,rfl,rfl,HW,h0,h1,Lib.hid (fun _=>rfl),h3,h4,h5,h6,h7,h8,h9,h10⟩
  ·obtain rfl:b3=false:=hi2
   obtain rfl:b2=true:=hi3 _ rfl ⟨2,.data⟩ (by simp) rfl
   obtain rfl:=h2.out rfl
   clear hi3
   have e:(b:Int) - 1=((b - 1:Nat):Int):=by omega
   have e2:IntKind.i64.wrap ((b - 1:Nat):Int)=((b - 1:Nat):Int):=IntWalk.i64_in _ (by omega)
   refine wpOp_step rfl (fun K hK=>?_)
   go_simp
   refine hK _ _ ⟨_,_,_,true,_,_,_,_,_,_,_,_,_,_,(.int .i64 (((b - 1:Nat):Int))),_,_,_,_,_,_,_,_,_,rfl,rfl,HW,h0,h1,h2,Lib.hid (fun _=>rfl),h4,h5,h6,h7,h8,h9,h10⟩
  ·obtain rfl:b4=false:=hi2
   obtain rfl:b1=true:=hi3 _ rfl ⟨1,.data⟩ (by simp) rfl
   obtain rfl:b3=true:=hi3 _ rfl ⟨3,.data⟩ (by simp) rfl
   obtain rfl:=h1.out rfl
   obtain rfl:=h3.out rfl
   clear hi3
   have e:((b - 1:Nat):Int)<(n:Int):=by omega
   refine wpOp_step rfl (fun K hK=>?_)
   go_simp
   refine hK _ _ ⟨_,_,_,_,true,_,_,_,_,_,_,_,_,_,_,(.pointer (some ⟨eg,b - 1,none⟩)),_,_,_,_,_,_,_,_,rfl,rfl,HW,h0,h1,h2,h3,Lib.hid (fun _=>rfl),h5,h6,h7,h8,h9,h10⟩
  ·obtain rfl:b5=false:=hi2
   obtain rfl:b4=true:=hi3 _ rfl ⟨4,.data⟩ (by simp) rfl
   obtain rfl:=h4.out rfl
   clear hi3
   have e:=hRe W (HW.1.drop.drop.drop1).sat
   refine wpOp_step rfl (fun K hK=>?_)
   go_simp
   refine hK _ _ ⟨_,_,_,_,_,true,_,_,_,_,_,_,_,_,_,_,(.int .i64 (eb)),_,_,_,_,_,_,_,rfl,rfl,HW,h0,h1,h2,h3,h4,Lib.hid (fun _=>rfl),h6,h7,h8,h9,h10⟩
  ·obtain rfl:b6=false:=hi2
   clear hi3
   have e:=(HW.1.blkm (x:=⟨g3,3,#[.int .i64 was]⟩) (List.mem_append_right _ (List.mem_append_right _ (List.mem_cons_of_mem _ hR3)))).cell 0
   refine wpOp_step rfl (fun K hK=>?_)
   go_simp
   refine hK _ _ ⟨_,_,_,_,_,_,true,_,_,_,_,_,_,_,_,_,_,(.int .i64 (was)),_,_,_,_,_,_,rfl,rfl,HW,h0,h1,h2,h3,h4,h5,Lib.hid (fun _=>rfl),h7,h8,h9,h10⟩
  ·obtain rfl:b7=false:=hi2
   obtain rfl:b5=true:=hi3 _ rfl ⟨5,.data⟩ (by simp) rfl
   obtain rfl:b6=true:=hi3 _ rfl ⟨6,.data⟩ (by simp) rfl
   obtain rfl:=h5.out rfl
   obtain rfl:=h6.out rfl
   clear hi3
   have e:IntKind.i64.wrap (eb - was)=eb - was:=IntWalk.i64_in _ (by omega)
   refine wpOp_step rfl (fun K hK=>?_)
   go_simp
   refine hK _ _ ⟨_,_,_,_,_,_,_,true,_,_,_,_,_,_,_,_,_,_,(.int .i64 (eb - was)),_,_,_,_,_,rfl,rfl,HW,h0,h1,h2,h3,h4,h5,h6,Lib.hid (fun _=>rfl),h8,h9,h10⟩
  ·obtain rfl:b8=false:=hi2
   obtain rfl:b7=true:=hi3 _ rfl ⟨7,.data⟩ (by simp) rfl
   obtain rfl:=h7.out rfl
   clear hi3
   have hb9:b9=false:=by cases b9;rfl;exact absurd (HW.2.2.2 rfl) (by simp)
   have M9:=HW.1.alloc 3 #[.int .i64 (eb - was)]
   refine wpOp_step rfl (fun K hK=>?_)
   go_simp
   refine hK _ _ ⟨_,_,_,_,_,_,_,_,true,_,_,_,_,_,_,_,_,_,_,(.slice (some ⟨W.heap.size,0,none⟩) 1 1),_,W.heap.size,HB,vv,rfl,rfl,⟨M9.sub (fun g=>by simp only[oh_true,oh_false,cnt_append,cnt_cons,cnt_nil];omega) (fun c hc=>by simp only[oh_true,oh_false,List.mem_append,List.mem_cons] at hc ⊢;grind),HW.2.1,HW.2.2.1,fun e=>rfl⟩,h0,h1,h2,h3,h4,h5,h6,h7,Lib.hid (fun _=>rfl),Lib.hid (fun e=>by rw[hb9] at e;cases e),Lib.hid (fun e=>by have:=(h10.out e).1.1;rw[hb9] at this;cases this)⟩
  ·obtain rfl:b9=false:=hi2
   obtain rfl:b0=true:=hi3 _ rfl ⟨0,.data⟩ (by simp) rfl
   obtain rfl:b8=true:=hi3 _ rfl ⟨8,.data⟩ (by simp) rfl
   obtain rfl:=h0.out rfl
   obtain rfl:=h8.out rfl
   clear hi3
   obtain rfl:=HW.2.1 rfl
   have hb10:b10=false:=by cases b10;rfl;exact absurd (h10.out rfl).1.1 (by simp)
   have hrow:=hrow2
   have M9:Mv w0 H0 W (HB++(⟨g8,3,#[.int .i64 (eb - was)]⟩::(⟨r2,38,#[vv]⟩::R))):=HW.1.sub (fun g=>by simp only[oh_true,cnt_append,cnt_cons,cnt_nil];omega) (fun c hc=>by simp only[oh_true,List.mem_append,List.mem_cons] at hc ⊢;grind)
   have IV9:IV W (.slice (some ⟨g8,0,none⟩) 1 1) [eb - was]:=RowI.iv (H:=[⟨g8,3,#[.int .i64 (eb - was)]⟩]) (RowH.new 3 g8 1 #[.int .i64 (eb - was)] rfl (by decide)) (M9.sat.sub (fun g=>by simp only[cnt_append,cnt_cons,cnt_nil];omega) (fun c hc=>by simp only[List.mem_append,List.mem_cons,List.not_mem_nil,or_false] at hc ⊢;exact .inr (.inl hc)))
   refine wpOp_step rfl (fun K hK=>?_)
   refine step_appI rfl (.tmp 44) (.tmp 52) rfl (.slice a2 l2.length c2) (.slice (some ⟨g8,0,none⟩) 1 1) l2 [eb - was] HB (by simp[Act.eval]) (by simp[Act.eval]) hrow M9.sat.left IV9 (by simp only[List.length_cons,List.length_nil];omega) ?_
   intro v9 w9 H9 r9 m9
   have N9:=Mv.call M9 m9
   refine hK _ _ ⟨_,_,_,_,_,_,_,_,_,true,_,_,_,_,_,_,_,_,_,_,v9,g8,H9,vv,rfl,rfl,⟨N9.sub (fun g=>by simp only[oh_true,cnt_append,cnt_cons,cnt_nil];omega) (fun c hc=>by simp only[oh_true,List.mem_append,List.mem_cons] at hc ⊢;grind),(fun e=>nomatch e),HW.2.2.1,fun e=>rfl⟩,h0,h1,h2,h3,h4,h5,h6,h7,h8,Lib.hid (fun _=>r9),Lib.hid (fun e=>by rw[hb10] at e;cases e)⟩
  ·obtain rfl:b10=false:=hi2
   obtain rfl:b9=true:=hi3 _ rfl ⟨9,.data⟩ (by simp) rfl
   obtain rfl:b0=true:=hi3 _ rfl ⟨0,.phase⟩ (by simp) rfl
   obtain rfl:b1=true:=hi3 _ rfl ⟨1,.phase⟩ (by simp) rfl
   obtain rfl:b2=true:=hi3 _ rfl ⟨2,.phase⟩ (by simp) rfl
   obtain rfl:b3=true:=hi3 _ rfl ⟨3,.phase⟩ (by simp) rfl
   obtain rfl:b4=true:=hi3 _ rfl ⟨4,.phase⟩ (by simp) rfl
   obtain rfl:b5=true:=hi3 _ rfl ⟨5,.phase⟩ (by simp) rfl
   obtain rfl:b6=true:=hi3 _ rfl ⟨6,.phase⟩ (by simp) rfl
   obtain rfl:b7=true:=hi3 _ rfl ⟨7,.phase⟩ (by simp) rfl
   obtain rfl:b8=true:=hi3 _ rfl ⟨8,.phase⟩ (by simp) rfl
   obtain rfl:=h0.out rfl
   obtain rfl:=h1.out rfl
   obtain rfl:=h2.out rfl
   obtain rfl:=h3.out rfl
   obtain rfl:=h4.out rfl
   obtain rfl:=h5.out rfl
   obtain rfl:=h6.out rfl
   obtain rfl:=h7.out rfl
   obtain rfl:=h8.out rfl
   clear hi3
   obtain rfl:vv=.slice a2 l2.length c2:=HW.2.2.1 rfl
   have hr9:=h9.out rfl
   obtain⟨a9,c9,rfl⟩:=hr9.slice
   have hlen:(l2++[eb - was]).length=l2.length+1:=by simp
   rw[hlen] at hr9
   have M9:Mv w0 H0 W (⟨r2,38,#[.slice a2 l2.length c2]⟩::(⟨g8,3,#[.int .i64 (eb - was)]⟩::(HB++R))):=HW.1.sub (fun g=>by simp only[oh_true,cnt_append,cnt_cons,cnt_nil];omega) (fun c hc=>by simp only[oh_true,List.mem_append,List.mem_cons] at hc ⊢;grind)
   have e:=(M9.blk 0 rfl).cell 0
   have f:=(M9.blk 0 rfl).frozen 0
   have N9:=M9.set 0 (.slice a9 (l2.length+1) c9)
   refine wpOp_step rfl (fun K hK=>?_)
   go_simp
   refine hK _ _ ⟨_,_,_,_,_,_,_,_,_,_,true,_,_,_,_,_,_,_,_,_,_,g8,HB,_,rfl,rfl,⟨N9.sub (fun g=>by simp only[oh_true,cnt_append,cnt_cons,cnt_nil];omega) (fun c hc=>by simp only[oh_true,List.mem_append,List.mem_cons] at hc ⊢;grind),(fun e=>nomatch e),(fun e=>nomatch e),fun e=>rfl⟩,h0,h1,h2,h3,h4,h5,h6,h7,h8,Lib.hid (fun _=>hr9),Lib.hid (fun _=>⟨⟨rfl,rfl⟩,rfl⟩)⟩
end
section
open Go.RowKit
theorem has_any (s:Nat) (w:World) (hs:s≤63) :
  (Calls Tryz.prog 116 #[.int .i64 (s:Int),.int .i64 4] w fun e w'=>e=.returned (.bool (s.testBit 2))∧w'=w)∧(Calls Tryz.prog 116 #[.int .i64 (s:Int),.int .i64 1] w fun e w'=>e=.returned (.bool (s.testBit 0))∧w'=w):=by
 have V1:=style1 s hs
 have V4:=style4 s hs
 constructor
 ·rcases(Bool.eq_false_or_eq_true (s.testBit 2)).symm with h | h
  ·rw[h] at V4 ⊢
   simp only[Bool.false_eq_true,if_false] at V4
   go_enter Tryz.func116,Tryz.ntmps116
   go_wp2_with fail
   go_ret
   exact⟨rfl,rfl⟩
  ·rw[h] at V4 ⊢
   simp only[if_true] at V4
   go_enter Tryz.func116,Tryz.ntmps116
   go_wp2_with fail
   go_ret
   exact⟨rfl,rfl⟩
 ·rcases(Bool.eq_false_or_eq_true (s.testBit 0)).symm with h | h
  ·rw[h] at V1 ⊢
   simp only[Bool.false_eq_true,if_false] at V1
   go_enter Tryz.func116,Tryz.ntmps116
   go_wp2_with fail
   go_ret
   exact⟨rfl,rfl⟩
  ·rw[h] at V1 ⊢
   simp only[if_true] at V1
   go_enter Tryz.func116,Tryz.ntmps116
   go_wp2_with fail
   go_ret
   exact⟨rfl,rfl⟩
theorem kind_mod (k:Nat):(k % 3=0→kindM k=2)∧(k % 3=1→kindM k=0)∧(k % 3=2→kindM k=1):=by
 unfold kindM
 refine⟨fun h=>?_,fun h=>?_,fun h=>?_⟩ <;> split <;> omega
theorem lends_any (s k:Nat) (w:World) (hs:s≤63) (hk:k≤1000) :
  Calls Tryz.prog 92 #[.int .i64 (s:Int),.int .i64 (k:Int)] w fun e w'=>e=.returned (.bool (endsM s k))∧w'=w:=by
 have H4:=Lib.hid (fun W=>(has_any s W hs).1)
 have H1:=Lib.hid (fun W=>(has_any s W hs).2)
 obtain⟨m0,m1,m2⟩:=kind_mod k
 have d0:decide ((k:Int)<0)=false:=by simp
 obtain⟨E,hE⟩:∃ E,endsM s k=E:=⟨_,rfl⟩
 rw[hE]
 have HE:=Lib.hid hE
 unfold endsM at HE
 clear hE
 obtain⟨b2,hb2⟩:∃ b,s.testBit 2=b:=⟨_,rfl⟩
 obtain⟨b0,hb0⟩:∃ b,s.testBit 0=b:=⟨_,rfl⟩
 rw[hb2] at H4 HE
 rw[hb0] at H1 HE
 cases b2
 ·cases b0
  ·have r:E=false:=by rw[← HE.out];rfl
   rw[r]
   clear m0 m1 m2 r HE hb2 hb0
   go_enter Tryz.func92,Tryz.ntmps92
   go_wp2_with (first | (go_at_call 116;(with_reducible refine(H4.out _).mono ?_);rintro e w' ⟨rfl,rfl⟩) | (go_at_call 116;(with_reducible refine(H1.out _).mono ?_);rintro e w' ⟨rfl,rfl⟩))
   go_ret
   exact⟨rfl,rfl⟩
  ·have h3:k % 3<3:=Nat.mod_lt _ (by decide)
   rcases(show k % 3=0∨k % 3=1∨k % 3=2 by omega) with h | h | h
   ·have hm:(k:Int) % 3=0:=by omega
    by_cases h9:9≤k
    ·have r:E=true:=by rw[← HE.out,m0 h,decide_eq_true h9];rfl
     have d1:decide ((9:Int)≤(k:Int))=true:=by simp;omega
     rw[r]
     clear m0 m1 m2 r HE hb2 hb0 h h3 h9
     go_enter Tryz.func92,Tryz.ntmps92
     go_wp2_with (first | (go_at_call 116;(with_reducible refine(H4.out _).mono ?_);rintro e w' ⟨rfl,rfl⟩) | (go_at_call 116;(with_reducible refine(H1.out _).mono ?_);rintro e w' ⟨rfl,rfl⟩))
     go_ret
     exact⟨rfl,rfl⟩
    ·have r:E=false:=by rw[← HE.out,m0 h,decide_eq_false h9];rfl
     have d1:decide ((9:Int)≤(k:Int))=false:=by simp;omega
     rw[r]
     clear m0 m1 m2 r HE hb2 hb0 h h3 h9
     go_enter Tryz.func92,Tryz.ntmps92
     go_wp2_with (first | (go_at_call 116;(with_reducible refine(H4.out _).mono ?_);rintro e w' ⟨rfl,rfl⟩) | (go_at_call 116;(with_reducible refine(H1.out _).mono ?_);rintro e w' ⟨rfl,rfl⟩))
     go_ret
     exact⟨rfl,rfl⟩
   ·have hm:(k:Int) % 3=1:=by omega
    have r:E=false:=by rw[← HE.out,m1 h];rfl
    rw[r]
    clear m0 m1 m2 r HE hb2 hb0 h h3
    go_enter Tryz.func92,Tryz.ntmps92
    go_wp2_with (first | (go_at_call 116;(with_reducible refine(H4.out _).mono ?_);rintro e w' ⟨rfl,rfl⟩) | (go_at_call 116;(with_reducible refine(H1.out _).mono ?_);rintro e w' ⟨rfl,rfl⟩))
    go_ret
    exact⟨rfl,rfl⟩
   ·have hm:(k:Int) % 3=2:=by omega
    by_cases h9:10≤k
    ·have r:E=true:=by rw[← HE.out,m2 h,decide_eq_true h9];rfl
     have d1:decide ((10:Int)≤(k:Int))=true:=by simp;omega
     rw[r]
     clear m0 m1 m2 r HE hb2 hb0 h h3 h9
     go_enter Tryz.func92,Tryz.ntmps92
     go_wp2_with (first | (go_at_call 116;(with_reducible refine(H4.out _).mono ?_);rintro e w' ⟨rfl,rfl⟩) | (go_at_call 116;(with_reducible refine(H1.out _).mono ?_);rintro e w' ⟨rfl,rfl⟩))
     go_ret
     exact⟨rfl,rfl⟩
    ·have r:E=false:=by rw[← HE.out,m2 h,decide_eq_false h9];rfl
     have d1:decide ((10:Int)≤(k:Int))=false:=by simp;omega
     rw[r]
     clear m0 m1 m2 r HE hb2 hb0 h h3 h9
     go_enter Tryz.func92,Tryz.ntmps92
     go_wp2_with (first | (go_at_call 116;(with_reducible refine(H4.out _).mono ?_);rintro e w' ⟨rfl,rfl⟩) | (go_at_call 116;(with_reducible refine(H1.out _).mono ?_);rintro e w' ⟨rfl,rfl⟩))
     go_ret
     exact⟨rfl,rfl⟩
 ·have r:E=true:=by rw[← HE.out];rfl
  rw[r]
  clear m0 m1 m2 r HE hb2 hb0
  go_enter Tryz.func92,Tryz.ntmps92
  go_wp2_with (first | (go_at_call 116;(with_reducible refine(H4.out _).mono ?_);rintro e w' ⟨rfl,rfl⟩) | (go_at_call 116;(with_reducible refine(H1.out _).mono ?_);rintro e w' ⟨rfl,rfl⟩))
  go_ret
  exact⟨rfl,rfl⟩
end
section
open Go.RowKit Go.Shelf
attribute [local go_sem] Oper.semAt_some
def pcs (style to_:Nat):Nat→Nat→Nat→List (Nat × Nat)
 | 0,_,_=>[]
 | f+1,k,b=>if endsM style k || decide (k+1=to_) then (b,k+1)::pcs style to_ f (k+1) (k+1) else pcs style to_ f (k+1) b
def piecesM (style from_ to_:Nat):List (Nat × Nat):=pcs style to_ (to_ - from_) from_ from_
def PcR (W:World) (fb tb sb style from_ to_:Nat):Prop:=W.cell? ⟨fb,0,none⟩=some (.int .i64 (from_:Int))∧W.cell? ⟨tb,0,none⟩=some (.int .i64 (to_:Int))∧W.cell? ⟨sb,0,none⟩=some (.int .i64 (style:Int))
theorem PcR.below {W W':World} {fb tb sb style from_ to_:Nat} (h:PcR W fb tb sb style from_ to_) (hb:Below W.heap.size W W'):PcR W' fb tb sb style from_ to_:=by
 have key:∀ (p:Addr) (v:Value),W.cell? p=some v→W'.cell? p=some v:=fun p v hv=>(hb.cell (World.block_lt_of_cell? W p hv)).trans hv
 exact⟨key _ _ h.1,key _ _ h.2.1,key _ _ h.2.2⟩
theorem pieces1_in (n:Nat) (hn:1≤n) (l fb tb sb style from_ to_:Nat) (hs:style≤63) (hft:from_≤to_) (ht:to_≤1000) (J Jx:List (Nat × Nat)→World→Prop)
  (hY:∀ pre x W,J pre W→x∈piecesM style from_ to_→pre.length<(piecesM style from_ to_).length→YieldAt Fence.wide (n - 1) Tryz.prog l #[.int .i64 (x.1:Int),.int .i64 (x.2:Int)] W fun e W' =>
   (e=.returned (.bool true)∧J (pre++[x]) W'∧(PcR W fb tb sb style from_ to_→PcR W' fb tb sb style from_ to_))∨(e=.returned (.bool false)∧Jx (pre++[x]) W'))
  (W:World) (hR:PcR W fb tb sb style from_ to_) (h0:J [] W) :
  CallsIn Fence.wide n Tryz.prog 128 #[.func (.yield l) #[] #[],.pointer (some ⟨fb,0,none⟩),.pointer (some ⟨tb,0,none⟩),.pointer (some ⟨sb,0,none⟩)] W fun e W'=>(∃ v,e=.returned v) ∧
   ((∃ ys,ys=piecesM style from_ to_∧J ys W')∨(∃ pre,pre <+: piecesM style from_ to_∧Jx pre W')):=by
 refine callsIn_of_wp Tryz.func128 rfl trivial ?_ rfl
 simp only[Tryz.ntmps128,List.size_toArray,List.length_cons,List.length_nil,Nat.reduceAdd,Nat.reduceSub,Array.replicate_succ,Array.replicate_zero,List.push_toArray,List.append_toArray,List.nil_append,List.cons_append]
 obtain⟨PM,hPM⟩:∃ PM,piecesM style from_ to_=PM:=⟨_,rfl⟩
 rw[hPM] at hY ⊢
 obtain⟨c0,c1,c2⟩:=hR
 have KR:Hid (PcR W fb tb sb style from_ to_):=Lib.hid ⟨c0,c1,c2⟩
 have HP:=Lib.hid hPM
 have EA:=Lib.hid (fun k W (hk:k≤1000)=>lends_any style k W hs hk)
 clear hPM
 gi_wp2
 gi_loopw [5,6] (fun s5 s6 wr=>∃ (k b:Nat) (pre:List (Nat × Nat)),from_≤k∧k≤to_∧s6=.int .i64 (k:Int)∧s5=.int .i64 (b:Int)∧J pre wr∧PcR wr fb tb sb style from_ to_∧pre++pcs style to_ (to_ - k) k b=PM) (fun _ s6 _=>to_ - (intOf s6).toNat)
 case atStart=>exact⟨from_,from_,[],Nat.le_refl _,hft,rfl,rfl,h0,KR.out,HP.out⟩
 case round =>
  obtain⟨k,b,pre,hk1,hk2,rfl,rfl,hJ,hr,hpre⟩:=hrel
  obtain⟨c0,c1,c2⟩:=hr
  by_cases hlt:k<to_
  ·have d1:decide ((k:Int)<(to_:Int))=true:=by simp;omega
   obtain⟨f,hf⟩:∃ f,to_ - k=f+1:=⟨to_ - k - 1,by omega⟩
   have hf2:f=to_ - (k+1):=by omega
   rw[hf,pcs,hf2] at hpre
   have EK:=Lib.hid (fun W=>EA.out k W (by omega))
   have KJ:Hid (J pre wr∧PcR wr fb tb sb style from_ to_):=Lib.hid ⟨hJ,c0,c1,c2⟩
   have e1:(to_:Int) - 1=((to_ - 1:Nat):Int):=by omega
   clear hJ hf hf2
   obtain⟨en,hen⟩:∃ en,endsM style k=en:=⟨_,rfl⟩
   rw[hen] at EK hpre
   have YD:Hid ((en || decide (k+1=to_))=true→(b,k+1)∈PM∧pre.length<PM.length∧(pre++[(b,k+1)])++pcs style to_ (to_ - (k+1)) (k+1) (k+1)=PM):=Lib.hid (by
    intro h
    rw[if_pos h] at hpre
    rw[← hpre]
    refine⟨List.mem_append_right _ List.mem_cons_self,by rw[List.length_append,List.length_cons];omega,by simp⟩)
   have YN:Hid ((en || decide (k+1=to_))=false→pre++pcs style to_ (to_ - (k+1)) (k+1) b=PM):=Lib.hid (by
    intro h
    rw[if_neg (by rw[h];simp)] at hpre
    exact hpre)
   clear hpre
   cases en
   ·by_cases hkn:k+1=to_
    ·have h3:(false || decide (k+1=to_))=true:=by rw[decide_eq_true hkn];rfl
     obtain⟨y1,y2,y3⟩:=YD.out h3
     have d2:decide ((k:Int)<((to_ - 1:Nat):Int))=false:=by simp;omega
     obtain⟨fn,tmps,assign,body,hy,hR⟩:=hY _ (b,k+1) wr KJ.out.1 y1 y2
     simp only at hy
     rw[show ((k+1:Nat):Int)=(k:Int)+1 from by push_cast;rfl] at hy
     have hg:¬ k<to_ - 1:=by omega
     have HR:=Lib.hid hR
     have HY3:=Lib.hid y3
     clear y1 y2 y3 hR h3 hkn
     gi_wp2_with (refine⟨trivial,?_⟩;gi_at_call 92;refine(callsIn_wide.2 (EK.out _)).mono ?_;rintro e w2 ⟨rfl,rfl⟩)
     refine HR.out.mono ?_
     rintro e W3 (⟨rfl,hJ3,hk3⟩ | ⟨rfl,hJx3⟩)
     ·have K3:=Lib.hid (And.intro hJ3 (hk3 KJ.out.2))
      clear hJ3 hk3
      gi_wp2
      go_roundw
      case rel=>exact⟨k+1,k+1,pre++[(b,k+1)],by omega,by omega,by simp,by push_cast;rfl,K3.out.1,K3.out.2,HY3.out⟩
      case measure=>simp[intOf];omega
     ·have KX:=Lib.hid hJx3
      clear hJx3
      gi_wp2
      refine bodyPost_ret (results_none rfl _ _ _) rfl ?_
      exact⟨⟨_,rfl⟩,.inr ⟨_,⟨_,HY3.out⟩,KX.out⟩⟩
    ·have h3:(false || decide (k+1=to_))=false:=by rw[decide_eq_false hkn];rfl
     have d2:decide ((k:Int)<((to_ - 1:Nat):Int))=true:=by simp;omega
     have HPR:=Lib.hid (YN.out h3)
     have hg:k<to_ - 1:=by omega
     clear h3 hkn
     gi_wp2_with (refine⟨trivial,?_⟩;gi_at_call 92;refine(callsIn_wide.2 (EK.out _)).mono ?_;rintro e w2 ⟨rfl,rfl⟩)
     go_roundw
     case rel=>exact⟨k+1,b,pre,by omega,by omega,by simp,rfl,KJ.out.1,KJ.out.2,HPR.out⟩
     case measure=>simp[intOf];omega
   ·have h3:(true || decide (k+1=to_))=true:=rfl
    obtain⟨y1,y2,y3⟩:=YD.out h3
    obtain⟨fn,tmps,assign,body,hy,hR⟩:=hY _ (b,k+1) wr KJ.out.1 y1 y2
    simp only at hy
    rw[show ((k+1:Nat):Int)=(k:Int)+1 from by push_cast;rfl] at hy
    have HR:=Lib.hid hR
    have HY3:=Lib.hid y3
    clear y1 y2 y3 hR h3
    gi_wp2_with (refine⟨trivial,?_⟩;gi_at_call 92;refine(callsIn_wide.2 (EK.out _)).mono ?_;rintro e w2 ⟨rfl,rfl⟩)
    refine HR.out.mono ?_
    rintro e W3 (⟨rfl,hJ3,hk3⟩ | ⟨rfl,hJx3⟩)
    ·have K3:=Lib.hid (And.intro hJ3 (hk3 KJ.out.2))
     clear hJ3 hk3
     gi_wp2
     go_roundw
     case rel=>exact⟨k+1,k+1,pre++[(b,k+1)],by omega,by omega,by simp,by push_cast;rfl,K3.out.1,K3.out.2,HY3.out⟩
     case measure=>simp[intOf];omega
    ·have KX:=Lib.hid hJx3
     clear hJx3
     gi_wp2
     refine bodyPost_ret (results_none rfl _ _ _) rfl ?_
     exact⟨⟨_,rfl⟩,.inr ⟨_,⟨_,HY3.out⟩,KX.out⟩⟩
  ·obtain rfl:k=to_:=by omega
   rw[Nat.sub_self,pcs,List.append_nil] at hpre
   have d1:decide ((k:Int)<(k:Int))=false:=by simp
   gi_wp2
   go_end0
   exact⟨⟨_,rfl⟩,.inl ⟨_,rfl,by rw[← hpre];exact hJ⟩⟩
abbrev PieceIn (style from_ to_:Nat):={ x:Nat × Nat // x∈piecesM style from_ to_ }
theorem pieces_stops (n:Nat) (hn:1≤n) (fb tb sb style from_ to_:Nat) (hs:style≤63) (hft:from_≤to_) (ht:to_≤1000) (w:World) (hR:PcR w fb tb sb style from_ to_) :
  SeqStopsK Fence.wide n Tryz.prog 128 #[.pointer (some ⟨fb,0,none⟩),.pointer (some ⟨tb,0,none⟩),.pointer (some ⟨sb,0,none⟩)] (fun x:PieceIn style from_ to_=>#[.int .i64 (x.1.1:Int),.int .i64 (x.1.2:Int)]) (fun W W'=>PcR W fb tb sb style from_ to_→PcR W' fb tb sb style from_ to_) (fun ys=>ys.map (·.1)=piecesM style from_ to_) (fun pre=>pre.map (·.1) <+: piecesM style from_ to_) (piecesM style from_ to_).length w:=by
 intro l J Jx W hW _ _ hY h0
 refine(pieces1_in n hn l fb tb sb style from_ to_ hs hft ht (fun pre W=>∃ pre':List (PieceIn style from_ to_),pre'.map (·.1)=pre∧J pre' W) (fun pre W=>∃ pre':List (PieceIn style from_ to_),pre'.map (·.1)=pre∧Jx pre' W) ?_ W (hR.below hW) ⟨[],rfl,h0⟩).mono ?_
 ·rintro pre x W1 ⟨pre',rfl,hJ⟩ hx hlen
  obtain⟨fn,tmps,assign,body,hy,hr⟩:=hY pre' ⟨x,hx⟩ W1 hJ (by simpa using hlen)
  refine⟨fn,tmps,assign,body,hy,hr.mono ?_⟩
  rintro e W' (⟨rfl,h1,h2⟩ | ⟨rfl,h1⟩)
  ·exact .inl ⟨rfl,⟨_,by simp,h1⟩,h2⟩
  ·exact .inr ⟨rfl,_,by simp,h1⟩
 ·rintro e W' ⟨hv,⟨ys,rfl,ys',h1,h2⟩ | ⟨pre,hp,pre',h1,h2⟩⟩
  ·exact⟨hv,.inl ⟨ys',h1,h2⟩⟩
  ·exact⟨hv,.inr ⟨pre',by show List.map (fun x=>x.1) pre' <+: piecesM style from_ to_;rw[h1];exact hp,h2⟩⟩
theorem PcR.put {fb tb sb style from_ to_:Nat} (W:World) (l:Nat) (o o':Obj) (hl:W.heap[l]?=some o) (ho:o.isCells=false) (h:PcR W fb tb sb style from_ to_):PcR (W.putObj l o') fb tb sb style from_ to_:=by
 have key:∀ (p:Addr) (v:Value),W.cell? p=some v→(W.putObj l o').cell? p=some v:=fun p v hv=>(cell_kept hv (grownBy_putObj' W l o') (fun r e=>by cases e;exact⟨o,hl,ho⟩))
 exact⟨key _ _ h.1,key _ _ h.2.1,key _ _ h.2.2⟩
def pcPost {α:Type} (w0:World) (H0:List HB) (P:List α→List HB→Prop) (pre:List α):Exit→Act→World→Prop
 | .normal,_,W'=>∃ H',P pre H'∧Mv w0 H0 W' H'
 | _,_,_=>False
theorem range_pieces {n:Nat} (hn:3≤n) {g:Operand} {ps:Array Tmp} {assign body:Code} {Q:Exit→Act→World→Prop} {a:Act} {w:World} (w0:World) (H0:List HB) (hsz:w0.heap.size≤w.heap.size)
  {fb tb sb style from_ to_:Nat} (hs:style≤63) (hft:from_≤to_) (ht:to_≤1000) (hg:a.eval g=.func (.func 128) #[] #[.pointer (some ⟨fb,0,none⟩),.pointer (some ⟨tb,0,none⟩),.pointer (some ⟨sb,0,none⟩)]) (hps:ps.size=2)
  (P:List (PieceIn style from_ to_)→List HB→Prop) (hP:∀ pre H W,P pre H→Sat W H→PcR W fb tb sb style from_ to_)
  (h0:∃ H,P [] H∧Mv w0 H0 w H) (a₁:PieceIn style from_ to_→Act)
  (hassign:∀ (l:Nat) (x:PieceIn style from_ to_) (W:World) (K:Act→World→Prop),K (a₁ x) W →
   assign.wpIn (Fence.wide.inRound l) (n - 1 - 1) Tryz.prog (Exit.then K (fun _ _ _=>False)) { tmps:=(ps.zip #[.int .i64 (x.1.1:Int),.int .i64 (x.1.2:Int)]).foldl (fun t (p,v)=>t.setIfInBounds p v) a.tmps,defers:=[] } W)
  (hbody:∀ (l:Nat) (pre:List (PieceIn style from_ to_)) (x:PieceIn style from_ to_) (W:World) (H:List HB),(∃ r,W.heap[l]?=some (.loop r))→P pre H→Sat W H→pre.length<(piecesM style from_ to_).length →
   body.wpIn (Fence.wide.inRound l) (n - 1 - 1) Tryz.prog (pcPost W H P (pre++[x])) (a₁ x) W)
  (hdone:∀ (K:Nat) (ys:List (PieceIn style from_ to_)) (W:World) (H:List HB),w0.heap.size≤K→ys.map (·.1)=piecesM style from_ to_→P ys H→Mv w0 H0 W H→W.heap[K]?=some (.deferred (some []))→Q .normal { a with defers:={ target:=.collected K,args:=#[] }::a.defers } W) :
  (Code.rangeFunc g ps assign body).wpIn Fence.wide n Tryz.prog Q a w:=by
 obtain⟨Hi,hPi,hMi⟩:=h0
 refine wpIn_rangeFunc_ownH (F:=Fence.wide) rfl (by omega) hg trivial (enters_of Tryz.func128 (by kernel_rfl) rfl) (pieces_stops (n - 1) (by omega) fb tb sb style from_ to_ hs hft ht w (hP _ _ _ hPi hMi.sat))
  (fun {X Y Z} h k s=>k (h s)) (fun W l o o' _ hl ho _ hs=>PcR.put W l o o' hl ho hs) (Below.refl _ _) (fun _=>by simpa using hps.symm)
  (fun pre W=>∃ H,P pre H∧Mv w0 H0 W H) (fun _ _ _=>False) (mv_ownFrom P hsz) (fun c=>?_) ⟨Hi,hPi,hMi⟩
  (fun x a' W=>a'=a₁ x) (fun x a'=>?_) ?_ ?_ ?_ ?_
 ·rintro s W W' row h hg hr
  exact h
 ·rintro s W W' row h hgr hr
  exact h
 ·rintro l pre x W K ⟨H,hPp,hM⟩ hK
  exact hassign l x W K (hK _ _ ⟨Nat.le_refl _,fun _ _ _ h _=>h⟩ (fun hs=>hs) ⟨H,hPp,hM⟩ rfl)
 ·rintro l pre x a' W hl hr ⟨H,hPp,hM⟩ rfl hlen
  refine wpIn_mono (hbody l pre x W H hr hPp hM.sat hlen) ?_
  rintro e a3 W3 hp
  cases e with
  | normal =>
   obtain⟨H',h1,h2⟩:=hp
   exact⟨h2.keepsFrom hM.sat _,fun _=>hP _ _ _ h1 h2.sat,H',h1,hM.trans h2⟩
  | ret=>exact hp.elim
  | exit id=>exact hp.elim
  | goto t=>exact hp.elim
  | panic ch=>exact hp.elim
  | outgrown=>exact hp.elim
 ·rintro K ys W hK hS ⟨H,h1,h2⟩ hk
  exact hdone K ys W H (by omega) hS h1 h2 hk
 ·rintro K c pre W hK hS h hk
  exact h.elim
end
end Go.Proofs.YtjngfhgakokejaaGreat
