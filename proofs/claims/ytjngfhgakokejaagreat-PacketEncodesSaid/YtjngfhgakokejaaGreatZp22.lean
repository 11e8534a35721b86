/- A band set by the document, and one planted by the program. Plain. packet: a block's bytes up to a pass. packet: a packet's blocks, one by one: what a step is; a band among others. packet.Encode: a round of the loop that writes. -/
import Derived.Test.YtjngfhgakokejaaGreatZp21
import Derived.Test.YtjngfhgakokejaaGreatZp16
import Derived.Test.YtjngfhgakokejaaGreatZp05
import Derived.Test.YtjngfhgakokejaaGreatZp13
import Derived.Test.YtjngfhgakokejaaGreatZp18
import Derived.Test.YtjngfhgakokejaaGreatZp11
set_option maxRecDepth 100000
set_option maxHeartbeats 8000000
namespace Go.Proofs.YtjngfhgakokejaaGreat
section
open Go.RowKit
def vF (count:Nat) (m:BandM) (k:Nat):Int:=match m.ss[k]? with | some s=>(frN count s.ps.length:Nat) | none=>0
def vZ (m:BandM) (k:Nat):Int:=match m.ss[k]? with | some s=>m.planes - s.pl | none=>0
theorem rplantTo_trees (count:Nat) (m:BandM):∀ k,k≤m.ss.length→(rplantTo count m k).ss=m.ss∧(rplantTo count m k).planes=m.planes∧(rplantTo count m k).set=true∧(rplantTo count m k).w=m.w∧(rplantTo count m k).h=m.h ∧
  (rplantTo count m k).first=(List.range k).foldl (fun T j=>setLeaf T j (vF count m j)) m.first∧(rplantTo count m k).zeros=(List.range k).foldl (fun T j=>setLeaf T j (vZ m j)) m.zeros
 | 0,_=>⟨rfl,rfl,rfl,rfl,rfl,rfl,rfl⟩
 | k+1,hk=>by
  obtain ⟨h1,h2,h3,h4,h5,h6,h7⟩:=rplantTo_trees count m k (by omega)
  obtain ⟨s,hs⟩:∃ s,m.ss[k]?=some s:=⟨_,List.getElem?_eq_getElem (by omega)⟩
  have e:rplantTo count m (k+1)={ rplantTo count m k with first:=setLeaf (rplantTo count m k).first k (frN count s.ps.length:Nat),zeros:=setLeaf (rplantTo count m k).zeros k ((rplantTo count m k).planes - s.pl) }:=by
   have h:=rplantTo_succ count m k
   unfold rplantStep at h
   rw [h1] at h
   simp only [hs] at h
   exact h.trans (by rw [← h1])
  have eF:vF count m k=(frN count s.ps.length:Nat):=by unfold vF;rw [hs]
  have eZ:vZ m k=m.planes - s.pl:=by unfold vZ;rw [hs]
  refine ⟨by rw [e];exact h1,by rw [e];exact h2,by rw [e];exact h3,by rw [e];exact h4,by rw [e];exact h5,?_,?_⟩
  ·rw [e,List.range_succ,List.foldl_append,← h6]
   simp only [List.foldl_cons,List.foldl_nil,eF]
  ·rw [e,List.range_succ,List.foldl_append,← h7,h2]
   simp only [List.foldl_cons,List.foldl_nil,eZ]
theorem plantTo_trees (count:Nat) (m:BandM) (hp:∀ s∈m.ss,s.pl≤m.planes):∀ k,k≤m.ss.length→∃ P,(List.range k).foldl (plantStep count) { m with set:=true }=P∧P.ss=m.ss∧P.planes=m.planes∧P.set=true∧P.w=m.w∧P.h=m.h ∧
  P.first=(List.range k).foldl (fun T j=>setT T j (vF count m j)) m.first∧P.zeros=(List.range k).foldl (fun T j=>setT T j (vZ m j)) m.zeros
 | 0,_=>⟨_,rfl,rfl,rfl,rfl,rfl,rfl,rfl,rfl⟩
 | k+1,hk=>by
  obtain ⟨P,h0,h1,h2,h3,h4,h5,h6,h7⟩:=plantTo_trees count m hp k (by omega)
  obtain ⟨s,hs⟩:∃ s,m.ss[k]?=some s:=⟨_,List.getElem?_eq_getElem (by omega)⟩
  have e:plantStep count P k={ P with first:=setT P.first k (frN count s.ps.length:Nat),zeros:=setT P.zeros k (max (P.planes - s.pl) 0) }:=by
   unfold plantStep
   rw [h1]
   simp only [hs]
  have eF:vF count m k=(frN count s.ps.length:Nat):=by unfold vF;rw [hs]
  have eZ:vZ m k=m.planes - s.pl:=by unfold vZ;rw [hs]
  have hpl:=hp s (List.mem_of_getElem? hs)
  refine ⟨_,by rw [List.range_succ,List.foldl_append,h0],?_⟩
  simp only [List.foldl_cons,List.foldl_nil]
  rw [e]
  refine ⟨h1,h2,h3,h4,h5,?_,?_⟩
  ·rw [List.range_succ,List.foldl_append,← h6]
   simp only [List.foldl_cons,List.foldl_nil,eF]
  ·rw [List.range_succ,List.foldl_append,← h7,h2]
   simp only [List.foldl_cons,List.foldl_nil,eZ]
   rw [show max (m.planes - s.pl) 0=m.planes - s.pl by omega]
theorem frGo_le (count np:Int):∀ f n,frGo count np f n≤n+f
 | 0,n=>Nat.le_refl _
 | f+1,n=>by
  rw [frGo]
  split
  ·have:=frGo_le count np f (n+1);omega
  ·omega
theorem vF_ok (count:Nat) (m:BandM) (hc:count≤100):VOk (vF count m):=by
 intro k
 unfold vF
 split
 ·rename_i s _
  have:=frGo_le (count:Int) (s.ps.length:Int) count 0
  unfold frN
  omega
 ·omega
theorem vZ_ok (m:BandM) (hp:∀ s∈m.ss,s.pl≤m.planes∧m.planes≤s.pl+1000):VOk (vZ m):=by
 intro k
 unfold vZ
 split
 ·rename_i s h
  have:=hp s (List.mem_of_getElem? h)
  omega
 ·omega
theorem planted (count:Nat) (m:BandM) (hc:count≤100) (hset:m.set=false) (hw:1≤m.w∧m.w≤3) (hh:1≤m.h∧m.h≤3) (hn:m.ss.length=m.w * m.h) (h1:m.first=treeOf m.w m.h) (h2:m.zeros=treeOf m.w m.h) (hp:∀ s∈m.ss,s.pl≤m.planes∧m.planes≤s.pl+1000) :
  plantM count m={ rplantTo count m m.ss.length with first:=fillT (rplantTo count m m.ss.length).first,zeros:=fillT (rplantTo count m m.ss.length).zeros } ∧
  (Mono (plantM count m).first∧AllOk (plantM count m).first)∧(Mono (plantM count m).zeros∧AllOk (plantM count m).zeros):=by
 obtain ⟨g1,g2,g3,g4,g5,g6,g7⟩:=rplantTo_trees count m m.ss.length (Nat.le_refl _)
 obtain ⟨P,f0,f1,f2,f3,f4,f5,f6,f7⟩:=plantTo_trees count m (fun s hs=>(hp s hs).1) m.ss.length (Nat.le_refl _)
 have eP:plantM count m=P:=by unfold plantM;rw [if_neg (by rw [hset];exact Bool.false_ne_true)];exact f0
 have a1:=plant_all hw hh (vF count m) (vF_ok count m hc)
 have a2:=plant_all hw hh (vZ m) (vZ_ok m hp)
 unfold plantA plantB at a1 a2
 rw [hn,h1] at g6 f6
 rw [hn,h2] at g7 f7
 rw [← g6,← f6] at a1
 rw [← g7,← f7] at a2
 rw [← hn] at a1 a2
 rw [eP]
 refine ⟨?_,a1.2,a2.2⟩
 obtain ⟨w0,h0,p0,fi0,ze0,se0,ss0⟩:=P
 simp only at f1 f2 f3 f4 f5 a1 a2
 simp only [BandM.mk.injEq]
 exact ⟨by rw [g4,f4],by rw [g5,f5],by rw [g2,f2],a1.1.symm,a2.1.symm,by rw [g3,f3],by rw [g1,f1]⟩
end
section
open Go.RowKit
def bodyFrom (ps:List (Int × Bool)) (said:Nat):Int:=if said=0 then 0 else (ps.map (·.1)).getD (said - 1) 0
def bodyLo (ps:List (Int × Bool)) (said n:Nat):Nat:=min (bodyFrom ps said).toNat n
def bodyHi (ps:List (Int × Bool)) (said to_ n:Nat):Nat:=min (max ((ps.map (·.1)).getD (to_ - 1) 0) (bodyFrom ps said)).toNat n
def bodyM (ps:List (Int × Bool)) (bs:List UInt8) (said to_:Nat):List UInt8:=(bs.drop (bodyLo ps said bs.length)).take (bodyHi ps said to_ bs.length - bodyLo ps said bs.length)
theorem bodyLo_le (ps:List (Int × Bool)) (said to_ n:Nat):bodyLo ps said n≤bodyHi ps said to_ n∧bodyHi ps said to_ n≤n:=by
 unfold bodyLo bodyHi
 omega
def bodyW (bg vc lo hi_:Nat):Value:=if vc=lo then .slice (some ⟨bg,0,none⟩) 0 0 else .slice (some ⟨bg,lo,none⟩) (hi_ - lo) (vc - lo)
theorem bodyW_bv {w:World} {bg n vc:Nat} {ps:List (Int × Bool)} {bs:List UInt8} {said to_:Nat} (h:BV w (.slice (some ⟨bg,0,none⟩) n vc) bs) (hn:bs.length=n) (hv:n≤vc):BV w (bodyW bg vc (bodyLo ps said n) (bodyHi ps said to_ n)) (bodyM ps bs said to_):=by
 obtain ⟨l1,l2⟩:=bodyLo_le ps said to_ n
 unfold bodyW
 split
 ·rename_i he
  have e:bodyM ps bs said to_=[]:=by unfold bodyM;rw [hn,show bodyHi ps said to_ n - bodyLo ps said n=0 by omega,List.take_zero]
  rw [e]
  exact ⟨_,0,rfl,Nat.le_refl _,by decide,rfl,fun h=>absurd h (by decide)⟩
 ·have b2:=BV.mid h (bodyLo ps said n) (bodyHi ps said to_ n) l1 l2
  rw [Nat.zero_add] at b2
  unfold bodyM
  rw [hn]
  exact b2
theorem body_w1 (x:SpotX) (vp:Value) (ps:List (Int × Bool)) (said to_ bg vc n:Nat) (Hp:List HB) (w:World) (hc1:w.cell? ⟨x.d.lb,x.k * 5+1,none⟩=some vp) (hc2:w.cell? ⟨x.d.lb,x.k * 5+2,none⟩=some (.slice (some ⟨bg,0,none⟩) n vc)) (hc3:w.cell? ⟨x.d.lb,x.k * 5+3,none⟩=some (.int .i64 (said:Int)))
    (hp:RowP vp ps Hp) (hsp:Sat w Hp) (hn:ps.length≤1000) (hm:n≤10000000) (hvc:n≤vc) (he:∀ p∈ps,0≤p.1∧p.1≤100000000) (hx:x.k≤100000) (hst:said<to_) (hto:to_≤ps.length) :
    Calls Tryz.prog 30 #[x.v,.int .i64 (to_:Int)] w fun e w'=>e=.returned (bodyW bg vc (bodyLo ps said n) (bodyHi ps said to_ n))∧Mv w [] w' []:=by
  have hlt:=World.block_lt_of_cell? w _ hc1
  have M0:=mv_alloc w 66 x.cells
  obtain ⟨w1,hw1⟩:∃ w1,w1=w.alloc (.cells x.cells 66):=⟨_,rfl⟩
  rw [← hw1] at M0
  have SE:=Lib.hid (fun (W:World) (m:Mv w [] W [⟨w.heap.size,66,x.cells⟩])=>spot_ends x vp ps Hp W (m.drop1.old hc1 hlt) hp (Mv.drop (A:=[_]) (Mv.frame (R:=Hp) m (by simpa using hsp))).sat hn hx)
  have b0:w1.cell? ⟨w.heap.size,0,none⟩=x.cells[0]?:=M0.cell 0 rfl 0
  have b1:w1.cell? ⟨w.heap.size,1,none⟩=x.cells[1]?:=M0.cell 0 rfl 1
  have b2:w1.cell? ⟨w.heap.size,2,none⟩=x.cells[2]?:=M0.cell 0 rfl 2
  obtain ⟨l,hle⟩:∃ l,ps.map (·.1)=l:=⟨_,rfl⟩
  have hll:l.length=ps.length:=by rw [← hle,List.length_map]
  have hlb:∀ i,0≤l.getD i 0∧l.getD i 0≤100000000:=getD_bd l (by rw [← hle];intro e h;obtain ⟨p,hp,rfl⟩:=List.mem_map.1 h;exact he p hp)
  have hlg:∀ i,i<ps.length→l[i]?=some (l.getD i 0):=by
    intro i hi
    rw [List.getD_eq_getElem?_getD,List.getElem?_eq_getElem (by rw [hll];exact hi)]
    rfl
  obtain ⟨fr,hfr⟩:∃ fr,bodyFrom ps said=fr:=⟨_,rfl⟩
  obtain ⟨e1,he1⟩:∃ e1,l.getD (to_ - 1) 0=e1:=⟨_,rfl⟩
  have hfrb:0≤fr∧fr≤100000000:=by
    rw [← hfr]
    unfold bodyFrom
    rw [hle]
    split
    · exact ⟨by omega,by omega⟩
    · exact hlb _
  have he1b:0≤e1∧e1≤100000000:=by rw [← he1];exact hlb _
  obtain ⟨lo,hlo⟩:∃ lo,bodyLo ps said n=lo:=⟨_,rfl⟩
  obtain ⟨hi_,hhi⟩:∃ hi_,bodyHi ps said to_ n=hi_:=⟨_,rfl⟩
  have hlh:=bodyLo_le ps said to_ n
  rw [hlo,hhi] at hlh ⊢
  obtain ⟨mx,hmx⟩:∃ mx,max e1 fr=mx:=⟨_,rfl⟩
  have elo:(if (n:Int)<fr then (n:Int) else fr)=(lo:Int):=by
    rw [← hlo];unfold bodyLo;rw [hfr];split <;> omega
  have emx:(if e1<fr then fr else e1)=mx:=by
    rw [← hmx];split <;> omega
  have ehi:(if (n:Int)<mx then (n:Int) else mx)=(hi_:Int):=by
    rw [← hhi];unfold bodyHi;rw [hfr,hle,he1,hmx];split <;> omega
  have KL:=Lib.hid (And.intro hfr (And.intro hle (And.intro he1 (And.intro hlo hhi))))
  have KG:=Lib.hid hlg
  have KB:=Lib.hid hlb
  have K0:=Lib.hid M0
  have HW:=Lib.hid (show w1=w.alloc (.cells #[.pointer (some ⟨x.d.lb,x.k * 5,none⟩),.pointer (some ⟨x.d.bb,0,none⟩),.int .i64 (x.k:Int)] 66) from hw1)
  have HST:=Lib.hid (And.intro hc1 (And.intro hc2 hc3))
  have hel:(ps.map (·.1)).length=ps.length:=List.length_map _
  rw [hle] at SE
  obtain ⟨np,hnp⟩:∃ np,ps.length=np:=⟨_,rfl⟩
  rw [hnp] at hto hll KG hn
  unfold SpotX.cells at b0 b1 b2
  unfold SpotX.v
  unfold SpotX.v at SE
  have R:Hid (∀ W v Hn,RowI v l Hn→Mv w1 [] W Hn→∃ eg ec,v=.slice (some ⟨eg,0,none⟩) np ec∧(Mv w [] W [])∧(∀ i,i<np→W.cell? ⟨eg,i,none⟩=some (.int .i64 (l.getD i 0))) ∧
      W.cell? ⟨w.heap.size,0,none⟩=some (.pointer (some ⟨x.d.lb,x.k * 5,none⟩))∧W.cell? ⟨x.d.lb,x.k * 5+2,none⟩=some (.slice (some ⟨bg,0,none⟩) n vc)∧W.cell? ⟨x.d.lb,x.k * 5+3,none⟩=some (.int .i64 (said:Int))):=Lib.hid (by
    intro W v Hn r m
    obtain ⟨A,c,rfl⟩:=r.slice
    obtain ⟨eg,rfl⟩:=r.form (by omega)
    have m2:Mv w [] W (Hn++[⟨w.heap.size,66,x.cells⟩]):=Mv.call (H:=[]) K0.out m
    have old:=fun (q:Addr) (u:Value) (h:w.cell? q=some u)=>m2.old h (World.block_lt_of_cell? w q h)
    refine ⟨eg,c,by rw [hll],(m2.drop).drop1,fun i hi=>r.at_ m.sat (KG.out i hi),?_,old _ _ HST.out.2.1,old _ _ HST.out.2.2⟩
    exact (m2.drop).cell 0 rfl 0)
  clear hw1 M0 hc1 hc2 hc3 hp hsp he hlg hlb hfr hle he1 hlo hhi hlt hel hll hmx hfrb he1b
  go_enter Tryz.func30,Tryz.ntmps30
  go_upto_region 1 with fail
  rw [← HW.out]
  go_upto_if 14 with (go_at_call 76;with_reducible refine (SE.out _ K0.out).mono ?_;rintro e w2 ⟨v,Hn,rfl,hr,m2⟩;obtain ⟨eg,ec,rfl,m3,y1,y2,y3,y4⟩:=R.out _ _ _ hr m2;have Y:=Lib.hid y1;have M3:=Lib.hid m3;clear hr m2 m3 y1)
  have hYto:=Y.out (to_ - 1) (by omega)
  rw [KL.out.2.2.1] at hYto
  have ect:(to_:Int) - 1=((to_ - 1:Nat):Int):=by omega
  have hct:((to_ - 1:Nat):Int)<(np:Int):=by omega
  have hcn:to_ - 1<np:=by omega
  go_cut [6,14] from 15 (fun s6 s14 wx=>s6=.int .i64 fr∧wx=w2)
  case first =>
    by_cases h0:said=0
    · subst h0
      have e:fr=0:=by rw [← KL.out.1];rfl
      have E:=Lib.hid e
      clear e
      go_wp2_with fail
      go_meet
      exact ⟨by rw [E.out],rfl⟩
    · have hYs:=Y.out (said - 1) (by omega)
      have e:l.getD (said - 1) 0=fr:=by rw [← KL.out.1];unfold bodyFrom;rw [if_neg h0,KL.out.2.1]
      rw [e] at hYs
      have h1:0<said:=by omega
      have d1:decide ((0:Int)<(said:Int))=true:=by simp;omega
      have es:(said:Int) - 1=((said - 1:Nat):Int):=by omega
      have h2:said - 1<np:=by omega
      clear e h0
      go_wp2_with fail
      go_meet
      exact ⟨rfl,rfl⟩
  case rest =>
    obtain ⟨rfl,rfl⟩:=hcut
    go_upto_region 5 with fail
    go_quiet (fail)
    go_wp2_with fail
    all_goals
      go_ret
      refine ⟨?_,M3.out.drewN nq⟩
      refine congrArg Ending.returned ?_
      unfold bodyW
      first
      | (rw [if_neg (by omega)];rfl)
      | (have e0:hi_ - lo=0:=by omega
         rw [if_pos (by omega)]
         simp [e0])
      | (have e0:hi_ - lo=0:=by omega
         have e1:vc - lo=0:=by omega
         rw [if_pos (by omega)]
         simp [e0,e1])
theorem body_w0 (x:SpotX) (vp:Value) (ps:List (Int × Bool)) (said to_:Nat) (Hp:List HB) (w:World) (hc1:w.cell? ⟨x.d.lb,x.k * 5+1,none⟩=some vp) (hc2:w.cell? ⟨x.d.lb,x.k * 5+2,none⟩=some (.slice none 0 0)) (hc3:w.cell? ⟨x.d.lb,x.k * 5+3,none⟩=some (.int .i64 (said:Int)))
  (hp:RowP vp ps Hp) (hsp:Sat w Hp) (hn:ps.length≤1000) (he:∀ p∈ps,0≤p.1∧p.1≤100000000) (hx:x.k≤100000) (hst:said<to_) (hto:to_≤ps.length) :
  Calls Tryz.prog 30 #[x.v,.int .i64 (to_:Int)] w fun e w'=>e=.returned (.slice none 0 0)∧Mv w [] w' []:=by
 have hlt:=World.block_lt_of_cell? w _ hc1
 have M0:=mv_alloc w 66 x.cells
 obtain ⟨w1,hw1⟩:∃ w1,w1=w.alloc (.cells x.cells 66):=⟨_,rfl⟩
 rw [← hw1] at M0
 have SE:=Lib.hid (fun (W:World) (m:Mv w [] W [⟨w.heap.size,66,x.cells⟩])=>spot_ends x vp ps Hp W (m.drop1.old hc1 hlt) hp (Mv.drop (A:=[_]) (Mv.frame (R:=Hp) m (by simpa using hsp))).sat hn hx)
 have b0:w1.cell? ⟨w.heap.size,0,none⟩=x.cells[0]?:=M0.cell 0 rfl 0
 have b1:w1.cell? ⟨w.heap.size,1,none⟩=x.cells[1]?:=M0.cell 0 rfl 1
 have b2:w1.cell? ⟨w.heap.size,2,none⟩=x.cells[2]?:=M0.cell 0 rfl 2
 obtain ⟨l,hle⟩:∃ l,ps.map (·.1)=l:=⟨_,rfl⟩
 have hll:l.length=ps.length:=by rw [← hle,List.length_map]
 have hlb:∀ i,0≤l.getD i 0∧l.getD i 0≤100000000:=getD_bd l (by rw [← hle];intro e h;obtain ⟨p,hp,rfl⟩:=List.mem_map.1 h;exact he p hp)
 have hlg:∀ i,i<ps.length→l[i]?=some (l.getD i 0):=by
  intro i hi
  rw [List.getD_eq_getElem?_getD,List.getElem?_eq_getElem (by rw [hll];exact hi)]
  rfl
 obtain ⟨fr,hfr⟩:∃ fr,bodyFrom ps said=fr:=⟨_,rfl⟩
 obtain ⟨e1,he1⟩:∃ e1,l.getD (to_ - 1) 0=e1:=⟨_,rfl⟩
 have hfrb:0≤fr∧fr≤100000000:=by
  rw [← hfr]
  unfold bodyFrom
  rw [hle]
  split
  ·exact ⟨by omega,by omega⟩
  ·exact hlb _
 have he1b:0≤e1∧e1≤100000000:=by rw [← he1];exact hlb _
 obtain ⟨lo,hlo⟩:∃ lo,bodyLo ps said 0=lo:=⟨_,rfl⟩
 obtain ⟨hi_,hhi⟩:∃ hi_,bodyHi ps said to_ 0=hi_:=⟨_,rfl⟩
 have hlh:=bodyLo_le ps said to_ 0
 rw [hlo,hhi] at hlh
 obtain rfl:lo=0:=by omega
 obtain rfl:hi_=0:=by omega
 obtain ⟨mx,hmx⟩:∃ mx,max e1 fr=mx:=⟨_,rfl⟩
 have elo:(if (0:Int)<fr then (0:Int) else fr)=(0:Int):=by
  split <;> omega
 have emx:(if e1<fr then fr else e1)=mx:=by
  rw [← hmx];split <;> omega
 have ehi:(if (0:Int)<mx then (0:Int) else mx)=(0:Int):=by
  split <;> omega
 have KL:=Lib.hid (And.intro hfr (And.intro hle (And.intro he1 (And.intro hlo hhi))))
 have KG:=Lib.hid hlg
 have KB:=Lib.hid hlb
 have K0:=Lib.hid M0
 have HW:=Lib.hid (show w1=w.alloc (.cells #[.pointer (some ⟨x.d.lb,x.k * 5,none⟩),.pointer (some ⟨x.d.bb,0,none⟩),.int .i64 (x.k:Int)] 66) from hw1)
 have HST:=Lib.hid (And.intro hc1 (And.intro hc2 hc3))
 have hel:(ps.map (·.1)).length=ps.length:=List.length_map _
 rw [hle] at SE
 obtain ⟨np,hnp⟩:∃ np,ps.length=np:=⟨_,rfl⟩
 rw [hnp] at hto hll KG hn
 unfold SpotX.cells at b0 b1 b2
 unfold SpotX.v
 unfold SpotX.v at SE
 have R:Hid (∀ W v Hn,RowI v l Hn→Mv w1 [] W Hn→∃ eg ec,v=.slice (some ⟨eg,0,none⟩) np ec∧(Mv w [] W [])∧(∀ i,i<np→W.cell? ⟨eg,i,none⟩=some (.int .i64 (l.getD i 0))) ∧
   W.cell? ⟨w.heap.size,0,none⟩=some (.pointer (some ⟨x.d.lb,x.k * 5,none⟩))∧W.cell? ⟨x.d.lb,x.k * 5+2,none⟩=some (.slice none 0 0)∧W.cell? ⟨x.d.lb,x.k * 5+3,none⟩=some (.int .i64 (said:Int))):=Lib.hid (by
  intro W v Hn r m
  obtain ⟨A,c,rfl⟩:=r.slice
  obtain ⟨eg,rfl⟩:=r.form (by omega)
  have m2:Mv w [] W (Hn++[⟨w.heap.size,66,x.cells⟩]):=Mv.call (H:=[]) K0.out m
  have old:=fun (q:Addr) (u:Value) (h:w.cell? q=some u)=>m2.old h (World.block_lt_of_cell? w q h)
  refine ⟨eg,c,by rw [hll],(m2.drop).drop1,fun i hi=>r.at_ m.sat (KG.out i hi),?_,old _ _ HST.out.2.1,old _ _ HST.out.2.2⟩
  exact (m2.drop).cell 0 rfl 0)
 clear hw1 M0 hc1 hc2 hc3 hp hsp he hlg hlb hfr hle he1 hlo hhi hlt hel hll hmx hfrb he1b
 go_enter Tryz.func30,Tryz.ntmps30
 go_upto_region 1 with fail
 rw [← HW.out]
 go_upto_if 14 with (go_at_call 76;with_reducible refine (SE.out _ K0.out).mono ?_;rintro e w2 ⟨v,Hn,rfl,hr,m2⟩;obtain ⟨eg,ec,rfl,m3,y1,y2,y3,y4⟩:=R.out _ _ _ hr m2;have Y:=Lib.hid y1;have M3:=Lib.hid m3;clear hr m2 m3 y1)
 have hYto:=Y.out (to_ - 1) (by omega)
 rw [KL.out.2.2.1] at hYto
 have ect:(to_:Int) - 1=((to_ - 1:Nat):Int):=by omega
 have hct:((to_ - 1:Nat):Int)<(np:Int):=by omega
 have hcn:to_ - 1<np:=by omega
 go_cut [6,14] from 15 (fun s6 s14 wx=>s6=.int .i64 fr∧wx=w2)
 case first =>
  by_cases h0:said=0
  ·subst h0
   have e:fr=0:=by rw [← KL.out.1];rfl
   have E:=Lib.hid e
   clear e
   go_wp2_with fail
   go_meet
   exact ⟨by rw [E.out],rfl⟩
  ·have hYs:=Y.out (said - 1) (by omega)
   have e:l.getD (said - 1) 0=fr:=by rw [← KL.out.1];unfold bodyFrom;rw [if_neg h0,KL.out.2.1]
   rw [e] at hYs
   have h1:0<said:=by omega
   have d1:decide ((0:Int)<(said:Int))=true:=by simp;omega
   have es:(said:Int) - 1=((said - 1:Nat):Int):=by omega
   have h2:said - 1<np:=by omega
   clear e h0
   go_wp2_with fail
   go_meet
   exact ⟨rfl,rfl⟩
 case rest =>
  obtain ⟨rfl,rfl⟩:=hcut
  go_upto_region 5 with fail
  go_quiet (fail)
  go_wp2_with fail
  all_goals
   go_ret
   refine ⟨?_,M3.out.drewN nq⟩
   refine congrArg Ending.returned ?_
   first | rfl | simp
theorem body_any (x:SpotX) (vp vb:Value) (ps:List (Int × Bool)) (bs:List UInt8) (said to_:Nat) (Hp Hb:List HB) (hp:RowP vp ps Hp) (hb:RowB vb bs Hb) (hn:ps.length≤1000) (hm:bs.length≤10000000) (he:∀ p∈ps,0≤p.1∧p.1≤100000000) (hx:x.k≤100000) (hst:said<to_) (hto:to_≤ps.length) :
  ∃ v0,(∀ W,Sat W Hb→BV W v0 (bodyM ps bs said to_))∧∀ w,w.cell? ⟨x.d.lb,x.k * 5+1,none⟩=some vp→w.cell? ⟨x.d.lb,x.k * 5+2,none⟩=some vb→w.cell? ⟨x.d.lb,x.k * 5+3,none⟩=some (.int .i64 (said:Int))→Sat w Hp →
   Calls Tryz.prog 30 #[x.v,.int .i64 (to_:Int)] w fun e w'=>e=.returned v0∧Mv w [] w' []:=by
 rcases hb.2 with ⟨rfl,h0,h1⟩ | ⟨bg,vc,cur,rfl,h1,h2,-⟩
 ·have e0:bs=[]:=List.eq_nil_of_length_eq_zero h0
  subst e0
  refine ⟨.slice none 0 0,fun W hW=>?_,fun w c1 c2 c3 sp=>body_w0 x vp ps said to_ Hp w c1 c2 c3 hp sp hn he hx hst hto⟩
  have e:bodyM ps [] said to_=[]:=by simp [bodyM]
  rw [e]
  exact ⟨none,0,rfl,Nat.le_refl _,by decide,rfl,fun h=>absurd h (by decide)⟩
 ·exact ⟨_,fun W hW=>bodyW_bv (hb.bv hW) rfl h1,fun w c1 c2 c3 sp=>body_w1 x vp ps said to_ bg vc bs.length Hp w c1 c2 c3 hp sp hn hm h1 he hx hst hto⟩
end
section
open Go.RowKit
theorem passN_le_total (t:Nat) (n l:Int):passN (t:Int) n l≤(t:Int):=by
 unfold passN
 split
 ·omega
 ·split
  ·omega
  ·split
   ·omega
   ·have h1:1≤min n 100:=by omega
    have h2:0≤min (max (t:Int) 0) 100∧min (max (t:Int) 0) 100≤t:=by omega
    have h3:1≤min l 100∧min l 100≤min n 100:=by omega
    generalize min n 100=a at *
    generalize min (max (t:Int) 0) 100=b at *
    generalize min l 100=c at *
    have h4:b * c≤b * a:=Int.mul_le_mul_of_nonneg_left h3.2 h2.1
    have h5:b * c / a≤b:=Int.ediv_le_of_le_mul (by omega) h4
    omega
def toM (count layer:Nat) (s:StM):Nat:=max (passN s.ps.length (count:Int) ((layer:Int)+1)).toNat s.said.toNat
def setSaidM (m:BandM) (k to_:Nat):BandM:=match m.ss[k]? with
 | none=>m
 | some s=>{ m with ss:=m.ss.set k (s.withS (to_:Int) s.lb) }
structure PackS where
 M:Nat→BandM
 bits:List Bool
 body:List UInt8
def stepE (count style layer:Nat) (S:PackS) (x:SpotX):PackS:=match (S.M x.d.bb).ss[x.k]? with
  | none=>S
  | some s =>
    ⟨updM S.M x.d.bb (setSaidM (headM (S.M x.d.bb) x.k style layer s.said.toNat (toM count layer s) s).1 x.k (toM count layer s)),
     S.bits++(headM (S.M x.d.bb) x.k style layer s.said.toNat (toM count layer s) s).2,
     if s.said.toNat<toM count layer s then S.body++bodyM s.ps s.bs s.said.toNat (toM count layer s) else S.body⟩
structure GoodS (s:StM):Prop where
 pl:0≤s.pl∧s.pl≤60
 lb:s.lb≤100
 bs:s.bs.length≤300000
structure GoodB (m:BandM):Prop where
 pl:0≤m.planes∧m.planes≤60
 ss:∀ s∈m.ss,GoodS s
theorem GoodB.plant {m:BandM} (h:GoodB m) (c:Nat):GoodB (plantM c m):=by
 obtain ⟨e1,e2⟩:=plantM_ss c m
 exact ⟨by rw [e2];exact h.pl,by rw [e1];exact h.ss⟩
theorem GoodB.setS {m:BandM} (h:GoodB m) {k:Nat} {s:StM} (hs:m.ss[k]?=some s) (f z:List LevM) (said lb:Int) (hl:lb≤100):GoodB { m with first:=f,zeros:=z,ss:=m.ss.set k (s.withS said lb) }:=by
 refine ⟨h.pl,fun x hx=>?_⟩
 rcases List.mem_or_eq_of_mem_set hx with hx | rfl
 ·exact h.ss x hx
 ·have:=h.ss s (List.mem_of_getElem? hs)
  exact ⟨this.pl,hl,this.bs⟩
theorem needM_le (s:StM) (style said to_:Nat) (he:∀ p∈s.ps,0≤p.1∧p.1≤100000000) (hl:s.lb≤100):needM s style said to_≤100∧s.lb≤needM s style said to_∧needM s style said to_≤max s.lb 41:=by
 have h2:=needK_bd (segL1 style said to_) (segL2 s style said to_) s.lb (fun i=>(sizesM_getD _ (by intro e h;obtain ⟨p,hp,rfl⟩:=List.mem_map.1 h;exact he p hp) said (piecesM style said to_) i).2) (piecesM style said to_).length
 unfold needM
 omega
def headS (s:StM) (style said to_:Nat):StM:=if to_=said then s else s.withS s.said (needM s style said to_)
theorem headM_get (m:BandM) (k style layer said to_:Nat) (s:StM) (h:m.ss[k]?=some s):(headM m k style layer said to_ s).1.ss[k]?=some (headS s style said to_):=by
 unfold headM headS
 split
 ·exact h
 ·exact List.getElem?_set_self (List.getElem?_eq_some_iff.1 h).1
theorem headS_same (s:StM) (style said to_:Nat):(headS s style said to_).ps=s.ps∧(headS s style said to_).bs=s.bs∧(headS s style said to_).said=s.said:=by
 unfold headS
 split <;> exact ⟨rfl,rfl,rfl⟩
theorem GoodB.head {m:BandM} (g:GoodB m) {k:Nat} {s:StM} (h:m.ss[k]?=some s) (style layer said to_:Nat) (he:∀ p∈s.ps,0≤p.1∧p.1≤100000000):GoodB (headM m k style layer said to_ s).1:=by
 have gs:=g.ss s (List.mem_of_getElem? h)
 unfold headM
 split
 ·exact ⟨g.pl,g.ss⟩
 ·exact g.setS h _ _ _ _ (needM_le s style said to_ he gs.lb).1
theorem GoodB.said {m:BandM} (g:GoodB m) (k to_:Nat):GoodB (setSaidM m k to_):=by
 unfold setSaidM
 split
 ·exact g
 ·rename_i s hs
  exact g.setS hs m.first m.zeros _ _ (g.ss s (List.mem_of_getElem? hs)).lb
theorem headM_length (m:BandM) (k style layer said to_:Nat) (s:StM) (hf:m.first.length≤20) (hz:m.zeros.length≤20) (g:GoodB m) (gs:GoodS s) (hl:layer≤100) (he:∀ p∈s.ps,0≤p.1∧p.1≤100000000) (hb:0≤s.lb) (ht:to_≤1000):(headM m k style layer said to_ s).2.length≤130000:=by
 have h1:=headF_length m k layer said to_ hf hl
 have gp:=g.pl
 have gq:=gs.pl
 have h2:=headZ_length m k said s hz (by omega)
 have h3:=tellM_length (to_ - said)
 have h4:=needM_le s style said to_ he gs.lb
 have h5:=bitsK_length (segL1 style said to_) (segL2 s style said to_) (needM s style said to_) (piecesM style said to_).length
 have h6:=pieces_length style said to_
 have h7:=gs.lb
 unfold headM
 split
 ·simp only
  omega
 ·simp only [sizesB,List.length_append,List.length_replicate,List.length_cons]
  omega
theorem bands_at {D:List BandA} {M:Nat→BandM} {HB1:List HB} (hB:BandsR D M HB1) {w0 w:World} {H0 Y:List HB} (m:Mv w0 H0 w (Y++HB1)) {d:BandA} (hd:d∈D):∃ (b:BandG) (R:List HB),b.ok d∧b.model=M d.bb∧(∀ W,Mv w0 H0 W (Y++HB1)→Mv w0 H0 W ((Y++R)++b.heap d)) ∧
  ∀ (b':BandG) (Y':List HB),b'.ok d→∃ HB',BandsR D (updM M d.bb b'.model) HB'∧∀ W,Mv w0 H0 W ((Y'++R)++b'.heap d)→Mv w0 H0 W (Y'++HB'):=by
 obtain ⟨H1,R,⟨b,hb1,hb2,rfl⟩,sm,back⟩:=hB.split m.sat.right.1 hd
 refine ⟨b,R,hb2,hb1,fun W mW=>?_,fun b' Y' hb'=>?_⟩
 ·refine mW.sub (fun g=>?_) (fun y hy=>?_)
  ·have:=sm.1 g
   simp only [cnt_append] at this ⊢
   omega
  ·have:=sm.2 y
   simp only [List.mem_append] at this hy ⊢
   grind
 ·obtain ⟨HB',h3,h4⟩:=back b'.model _ ⟨b',rfl,hb',rfl⟩
  refine ⟨HB',h3,fun W mW=>mW.sub (fun g=>?_) (fun y hy=>?_)⟩
  ·have:=h4.1 g
   simp only [cnt_append] at this ⊢
   omega
  ·have:=h4.2 y
   simp only [List.mem_append] at this hy ⊢
   grind
theorem model_get {b:BandG} {m:BandM} (e:b.model=m) {k:Nat} {s:StM} (h:m.ss[k]?=some s):∃ st,b.G[k]?=some st∧st.m=s:=by
 subst e
 simp only [BandG.model,List.getElem?_map] at h
 exact Option.map_eq_some_iff.1 h
section
variable {D:List BandA} {M:Nat→BandM} {HB1 H0 Y HW:List HB} {w0 w:World} {d:BandA} {k wb:Nat} {s:StM} {bs:List Bool}
theorem step_head (hB:BandsR D M HB1) (hd:d∈D) (hk:k<d.n) (hs:(M d.bb).ss[k]?=some s) (g:GoodB (M d.bb)) (hw:WrB wb bs HW) (m:Mv w0 H0 w ((HW++Y)++HB1)) (style layer to_:Nat) (h1:s.said.toNat≤to_) (h2:to_≤s.ps.length) (h3:style≤63) (h4:layer≤100) (h5:bs.length≤40000000) :
  Calls Tryz.prog 29 #[SpotX.v ⟨d,k⟩,.pointer (some ⟨wb,0,none⟩),.int .i64 (style:Int),.int .i64 (layer:Int),.int .i64 (to_:Int)] w fun e w'=>e=.returned (.tuple #[]) ∧
   ∃ HW' HB',WrB wb (bs++(headM (M d.bb) k style layer s.said.toNat to_ s).2) HW'∧BandsR D (updM M d.bb (headM (M d.bb) k style layer s.said.toNat to_ s).1) HB'∧Mv w0 H0 w' ((HW'++Y)++HB'):=by
 obtain ⟨b,R,ok,em,fwd,back⟩:=bands_at hB m hd
 obtain ⟨st,hst,rfl⟩:=model_get em hs
 have gs:=g.ss _ (List.mem_of_getElem? hs)
 have hso:=ok.st st (List.mem_of_getElem? hst)
 have gp:=g.pl
 rw [← em] at gp ⊢
 have m1:Mv w0 H0 w ((HW++b.heap d)++(Y++R)):=(fwd w m).sub (fun g=>by simp only [cnt_append];omega) (fun c hc=>by simp only [List.mem_append] at hc ⊢;grind)
 refine (head_any d b k wb style layer st.m.said.toNat to_ st bs HW w ok hk hst hw m1.sat.left gp gs.pl gs.lb (by have:=hso.2.2.said;omega) h1 h2 h3 h4 h5).mono ?_
 rintro e w' ⟨rfl,b',HW',q1,q2,q3,q4⟩
 obtain ⟨HB',h6,h7⟩:=back b' (HW'++Y) q1
 refine ⟨rfl,HW',HB',q3,by rw [← q2];exact h6,h7 w' ?_⟩
 exact (Mv.call m1 q4).sub (fun g=>by simp only [cnt_append];omega) (fun c hc=>by simp only [List.mem_append] at hc ⊢;grind)
theorem step_body (hB:BandsR D M HB1) (hd:d∈D) (hk:k<d.n) (hs:(M d.bb).ss[k]?=some s) (m:Mv w0 H0 w (Y++HB1)) (to_:Nat) (h1:s.said.toNat<to_) (h2:to_≤s.ps.length) :
  ∃ v0,∀ W,Mv w0 H0 W (Y++HB1)→BV W v0 (bodyM s.ps s.bs s.said.toNat to_)∧Calls Tryz.prog 30 #[SpotX.v ⟨d,k⟩,.int .i64 (to_:Int)] W fun e w'=>e=.returned v0∧Mv w0 H0 w' (Y++HB1):=by
 obtain ⟨b,R,ok,em,fwd,back⟩:=bands_at hB m hd
 obtain ⟨st,hst,rfl⟩:=model_get em hs
 have hso:=ok.st st (List.mem_of_getElem? hst)
 have hkk:k<4096:=Nat.lt_of_lt_of_le hk ok.small
 obtain ⟨v0,b1,b2⟩:=body_any ⟨d,k⟩ st.vp st.vb st.m.ps st.m.bs st.m.said.toNat to_ st.Hp st.Hb hso.1 hso.2.1 hso.2.2.np hso.2.2.nb hso.2.2.ends (by show k≤100000;omega) h1 h2
 refine ⟨v0,fun W mW=>?_⟩
 have m1:=fwd W mW
 have sb:=StG.sat m1.sat.right (List.mem_of_getElem? hst)
 have a3:=Mv.blkm m1 (List.mem_append_right _ (b.mem_states d))
 obtain ⟨c0,c1,c2,c3,c4,-⟩:=state_cells a3 hst
 refine ⟨b1 W sb.2,(b2 W c1 c2 (by have h3:=hso.2.2.said.1;rw [Int.toNat_of_nonneg h3];exact c3) sb.1).mono ?_⟩
 rintro e w' ⟨rfl,m2⟩
 exact ⟨rfl,Mv.call (H:=[]) (H':=[]) mW m2⟩
theorem step_said (hB:BandsR D M HB1) (hd:d∈D) (hs:(M d.bb).ss[k]?=some s) (m:Mv w0 H0 w (Y++HB1)) (to_:Nat) (h2:to_≤s.ps.length) :
  ∃ HB',BandsR D (updM M d.bb (setSaidM (M d.bb) k to_)) HB'∧∀ W,Mv w0 H0 W (Y++HB1)→Mv w0 H0 (W.setCell ⟨d.lb,k * 5+3,none⟩ (.int .i64 (to_:Int))) (Y++HB'):=by
 obtain ⟨b,R,ok,em,fwd,back⟩:=bands_at hB m hd
 obtain ⟨st,hst,rfl⟩:=model_get em hs
 have hso:=ok.st st (List.mem_of_getElem? hst)
 have ok':=BandG.setS_ok ok hst (said:=(to_:Int)) (lb:=st.m.lb) ⟨by omega,by omega⟩ hso.2.2.lb
 obtain ⟨HB',h6,h7⟩:=back (b.setS k st (to_:Int) st.m.lb) Y ok'
 refine ⟨HB',?_,fun W mW=>h7 _ ?_⟩
 ·have e:(b.setS k st (to_:Int) st.m.lb).model=setSaidM (M d.bb) k to_:=by
   rw [BandG.setS_model,em]
   unfold setSaidM
   rw [hs]
  rw [← e]
  exact h6
 ·exact BandG.setS_mv (fwd W mW) hst (to_:Int) st.m.lb 3 _ (by omega) rfl
theorem step_cells (hB:BandsR D M HB1) (hd:d∈D) (hs:(M d.bb).ss[k]?=some s) (m:Mv w0 H0 w (Y++HB1)):∃ A cp,∀ W,Mv w0 H0 W (Y++HB1)→W.cell? ⟨d.lb,k * 5+1,none⟩=some (.slice A s.ps.length cp)∧W.cell? ⟨d.lb,k * 5+3,none⟩=some (.int .i64 s.said)∧W.frozen? ⟨d.lb,k * 5+3,none⟩=false:=by
 obtain ⟨b,R,ok,em,fwd,back⟩:=bands_at hB m hd
 obtain ⟨st,hst,rfl⟩:=model_get em hs
 have hso:=ok.st st (List.mem_of_getElem? hst)
 obtain ⟨A,cp,hvp⟩:=hso.passes
 refine ⟨A,cp,fun W mW=>?_⟩
 have a3:=Mv.blkm (fwd W mW) (List.mem_append_right _ (b.mem_states d))
 obtain ⟨c0,c1,c2,c3,c4,c5⟩:=state_cells a3 hst
 rw [hvp] at c1
 exact ⟨c1,c3,c5 _⟩
theorem step_fits (hB:BandsR D M HB1) (hd:d∈D) (hs:(M d.bb).ss[k]?=some s):s.Fits∧(M d.bb).first.length≤20∧(M d.bb).zeros.length≤20:=by
 obtain ⟨b,k1,k2,k3⟩:=hB.band hd
 obtain ⟨st,hst,rfl⟩:=model_get k1 hs
 rw [← k1]
 exact ⟨(k2.st st (List.mem_of_getElem? hst)).2.2,by have:=k2.kf.1;simpa [BandG.model] using this,by have:=k2.kz.1;simpa [BandG.model] using this⟩
end
end
section
open Go.RowKit Go.Shelf
attribute [local go_sem] Oper.semAt_some
def getBlockR (n:Nat):Code→Option Code
 | .block i b=>if i == n then some (.block i b) else getBlockR n b
 | .seq a b=>(getBlockR n a).or (getBlockR n b)
 | .cond _ a b=>(getBlockR n a).or (getBlockR n b)
 | .loop b=>getBlockR n b
 | .scope b=>getBlockR n b
 | .rangeFunc _ _ _ b=>getBlockR n b
 | _=>none
def blockR (n:Nat) (f:Func):Code:=((f.body.bind (getBlockR n))).getD .skip
def newB (count layer:Nat) (M:Nat→BandM) (x:SpotX):Bool:=match (M x.d.bb).ss[x.k]? with
 | none=>false
 | some s=>decide (s.said<passN s.ps.length (count:Int) ((layer:Int)+1))
def moreM (count layer:Nat) (M:Nat→BandM) (l:List SpotX):Bool:=l.any (newB count layer M)
theorem toM_eq (count layer:Nat) (s:StM) (h:0≤s.said):max (passN s.ps.length (count:Int) ((layer:Int)+1)) s.said=((toM count layer s:Nat):Int):=by
 have:=(passN_le s.ps.length (count:Int) ((layer:Int)+1)).1
 unfold toM
 omega
theorem toM_le (count layer:Nat) (s:StM) (h:s.said≤s.ps.length):s.said.toNat≤toM count layer s∧toM count layer s≤s.ps.length:=by
 have:=passN_le_total s.ps.length (count:Int) ((layer:Int)+1)
 unfold toM
 omega
def encY (box wx wb n0:Nat) (A:Option Addr) (nD c:Nat) (style count layer:Int) (vb:Value):List HB :=
 [⟨box,26,#[.slice A nD c]⟩,⟨wx,70,#[.pointer (some ⟨wb,0,none⟩)]⟩,⟨n0+3,30,#[vb]⟩,⟨n0+2,3,#[.int .i64 layer]⟩,⟨n0+1,3,#[.int .i64 count]⟩,⟨n0,3,#[.int .i64 style]⟩]
theorem encY_no (box wx wb n0:Nat) (A:Option Addr) (nD c:Nat) (style count layer:Int) (vb:Value):NoSpot (encY box wx wb n0 A nD c style count layer vb):=by
 intro x hx
 simp only [encY,List.mem_cons,List.not_mem_nil,or_false] at hx
 rcases hx with rfl | rfl | rfl | rfl | rfl | rfl
 ·exact (show 26≠66 by decide)
 ·exact (show 70≠66 by decide)
 ·exact (show 30≠66 by decide)
 ·exact (show 3≠66 by decide)
 ·exact (show 3≠66 by decide)
 ·exact (show 3≠66 by decide)
def encP2 (box wx wb n0:Nat) (A:Option Addr) (c:Nat) (D:List BandA) (style count layer:Nat) (HL:List HB) (S0:PackS) (pre:List (SpotIn D)) (H:List HB):Prop :=
 ∃ (S:PackS) (HW Hb:List HB) (vb:Value) (HB':List HB),S=(pre.map (·.1)).foldl (stepE count style layer) S0∧H=(HW++(encY box wx wb n0 A D.length c style count layer vb++(Hb++HL)))++HB' ∧
  WrB wb S.bits HW∧RowB vb S.body Hb∧BandsR D S.M HB'∧(∀ d∈D,GoodB (S.M d.bb))∧S.bits.length≤130000 * pre.length+1∧S.body.length≤300000 * pre.length
theorem bodyM_length (ps:List (Int × Bool)) (bs:List UInt8) (said to_:Nat):(bodyM ps bs said to_).length≤bs.length:=by
 unfold bodyM
 rw [List.length_take,List.length_drop]
 omega
theorem enc_round (l:Nat) (D:List BandA) (A:Option Addr) (c box wx wb n0 B:Nat) (HL:List HB) (style count layer:Nat) (S0:PackS) (pre:List (SpotIn D)) (x:SpotX) (hx:x∈spotsOf D) (w:World) (H:List HB) (s0 s1 s2 s3 s4 s8 s10 s11 s14 s15 s16 s17 s18 s19 s20 s21 s22 s23 s24 s25 s26 s27 s28 s29 s30 s31 s32 s33 s34 s35 s36 s37 s38 s39 s40 s41 s42 s43 s44 s45 s46 s47 s48 s49 s50 s51 s52 s53 s54 s55 s56 s57 s58 s59 s60 s61 s62 s63 s64 s65 s66 s67 s68 s69 s70 s71 s72 s73 s74 s75 s76 s77 s78 s79 s80 s81 s82 s83:Value)
  (hP:encP2 box wx wb n0 A c D style count layer HL S0 pre H) (hs:Sat w (⟨B,66,x.cells⟩::H)) (hlen:pre.length<200) (hst:style≤63) (hly:layer≤100) (hct:count≤100000) :
  (blockR 3 Tryz.f10).wpIn (Fence.wide.inRound l) 6 Tryz.prog (spPost w (⟨B,66,x.cells⟩::H) (encP2 box wx wb n0 A c D style count layer HL S0) (fun _ _=>False) (pre++[⟨x,hx⟩]))
   ⟨List.toArray (s0::s1::s2::s3::s4::(.pointer (some ⟨n0,0,none⟩))::(.pointer (some ⟨n0+1,0,none⟩))::(.pointer (some ⟨n0+2,0,none⟩))::s8::(.pointer (some ⟨n0+3,0,none⟩))::s10::s11::(.pointer (some ⟨wx,0,none⟩))::(.pointer (some ⟨B,0,none⟩))::s14::s15::s16::s17::s18::s19::s20::s21::s22::s23::s24::s25::s26::s27::s28::s29::s30::s31::s32::s33::s34::s35::s36::s37::s38::s39::s40::s41::s42::s43::s44::s45::s46::s47::s48::s49::s50::s51::s52::s53::s54::s55::s56::s57::s58::s59::s60::s61::s62::s63::s64::s65::s66::s67::s68::s69::s70::s71::s72::s73::s74::s75::s76::s77::s78::s79::s80::s81::s82::s83::[]),[]⟩ w:=by
 conv in (blockR _ _)=>whnf
 obtain ⟨S,HW,Hb,vb,HB1,hS,rfl,hw,hb,hB,hg,hl1,hl2⟩:=hP
 obtain ⟨hxd,hxk⟩:=mem_spots hx
 obtain ⟨d,k⟩:=x
 simp only at hxd hxk
 obtain ⟨PS,hPS⟩:∃ PS,spPost w (⟨B,66,SpotX.cells ⟨d,k⟩⟩::((HW++(encY box wx wb n0 A D.length c style count layer vb++(Hb++HL)))++HB1)) (encP2 box wx wb n0 A c D style count layer HL S0) (fun _ _=>False) (pre++[⟨⟨d,k⟩,hx⟩])=PS:=⟨_,rfl⟩
 have LP:Hid (¬LetsOut PS):=Lib.hid (by rw [← hPS];rintro ⟨a,w,h⟩;exact h)
 rw [hPS]
 -- the block's state
 obtain ⟨bd,e1,e2,-⟩:=hB.band hxd
 have hsl:(S.M d.bb).ss.length=d.n:=by rw [← e1];show (bd.G.map _).length=_;rw [List.length_map];exact e2.len
 have hkn:k<4096:=Nat.lt_of_lt_of_le hxk e2.small
 clear e1 e2 bd
 obtain ⟨s,hss⟩:∃ s,(S.M d.bb).ss[k]?=some s:=⟨_,List.getElem?_eq_getElem (by rw [hsl];exact hxk)⟩
 obtain ⟨F1,F2,F3⟩:=step_fits hB hxd hss
 have GB:=hg d hxd
 have GS:=GB.ss s (List.mem_of_getElem? hss)
 obtain ⟨t,ht⟩:∃ t,toM count layer s=t:=⟨_,rfl⟩
 have et:=toM_eq count layer s F1.said.1
 have tl:=toM_le count layer s F1.said.2
 rw [ht] at et tl
 obtain ⟨sd,hsd⟩:∃ sd:Nat,s.said=(sd:Int):=⟨s.said.toNat,(Int.toNat_of_nonneg F1.said.1).symm⟩
 have hsd2:s.said.toNat=sd:=by omega
 rw [hsd2] at tl
 -- memory
 obtain ⟨XX,hXX⟩:∃ XX:Value→List HB,XX=fun v=>⟨B,66,SpotX.cells ⟨d,k⟩⟩::encY box wx wb n0 A D.length c style count layer v:=⟨_,rfl⟩
 obtain ⟨HH,hHH⟩:∃ HH,HH=⟨B,66,SpotX.cells ⟨d,k⟩⟩::((HW++(encY box wx wb n0 A D.length c style count layer vb++(Hb++HL)))++HB1):=⟨_,rfl⟩
 have M0:Mv w HH w ((HW++(XX vb++(Hb++HL)))++HB1):=by
  have m:Mv w HH w HH:=Mv.refl (by rw [hHH];exact hs)
  refine m.sub (fun g=>?_) (fun y hy=>?_)
  ·rw [hHH,hXX];simp only [cnt_append,cnt_cons];omega
  ·rw [hXX] at hy;rw [hHH];simp only [List.mem_append,List.mem_cons] at hy ⊢;grind
 have BX:Hid (∀ w' HW' v HR HB',Mv w HH w' ((HW'++(XX v++HR))++HB')→w'.cell? ⟨B,0,none⟩=some (.pointer (some ⟨d.lb,k * 5,none⟩))∧w'.cell? ⟨B,1,none⟩=some (.pointer (some ⟨d.bb,0,none⟩))∧w'.cell? ⟨B,2,none⟩=some (.int .i64 (k:Int))∧w'.cell? ⟨wx,0,none⟩=some (.pointer (some ⟨wb,0,none⟩))∧w'.cell? ⟨n0,0,none⟩=some (.int .i64 (style:Int))∧w'.cell? ⟨n0+1,0,none⟩=some (.int .i64 (count:Int))∧w'.cell? ⟨n0+2,0,none⟩=some (.int .i64 (layer:Int)) ∧
   w'.cell? ⟨n0+3,0,none⟩=some v∧w'.frozen? ⟨n0+3,0,none⟩=false):=Lib.hid (by
  intro w' HW' v HR HB' m
  have a0:Sat w' (XX v):=m.sat.left.right.left
  rw [hXX] at a0
  have b0:=a0.at_ 0 rfl
  have b2:=a0.at_ 2 rfl
  have b3:=a0.at_ 3 rfl
  have b4:=a0.at_ 4 rfl
  have b5:=a0.at_ 5 rfl
  have b6:=a0.at_ 6 rfl
  exact ⟨b0.cell 0,b0.cell 1,b0.cell 2,b2.cell 0,b6.cell 0,b5.cell 0,b4.cell 0,b3.cell 0,b3.frozen 0⟩)
 have FIN:Hid (∀ (a:Act) (w4:World) (HW' Hb':List HB) (v:Value) (HB':List HB),WrB wb (stepE count style layer S ⟨d,k⟩).bits HW'→RowB v (stepE count style layer S ⟨d,k⟩).body Hb'→BandsR D (stepE count style layer S ⟨d,k⟩).M HB'→Mv w HH w4 ((HW'++(XX v++(Hb'++HL)))++HB')→PS .normal a w4):=Lib.hid (by
  intro a w4 HW' Hb' v HB' h1 h2 h3 m4
  rw [← hPS]
  refine ⟨(HW'++(encY box wx wb n0 A D.length c style count layer v++(Hb'++HL)))++HB',⟨stepE count style layer S ⟨d,k⟩,HW',Hb',v,HB',?_,rfl,h1,h2,h3,?_,?_,?_⟩,?_⟩
  ·rw [List.map_append,List.foldl_append,← hS];rfl
  ·intro d' hd'
   simp only [stepE,hss,ht]
   unfold updM
   split
   ·exact (GB.head hss style layer _ _ F1.ends).said k t
   ·exact hg d' hd'
  ·have hh:=headM_length (S.M d.bb) k style layer sd t s F2 F3 GB GS hly F1.ends F1.lb.1 (by have:=F1.np;omega)
   simp only [stepE,hss,ht,hsd2,List.length_append,List.length_cons,List.length_nil]
   omega
  ·have hh:=bodyM_length s.ps s.bs sd t
   have h3:=GS.bs
   simp only [stepE,hss,ht,hsd2]
   split
   ·simp only [List.length_append,List.length_cons,List.length_nil];omega
   ·simp only [List.length_append,List.length_cons,List.length_nil];omega
  ·rw [← hHH]
   refine m4.sub (fun g=>?_) (fun y hy=>?_)
   ·rw [hXX];simp only [cnt_append,cnt_cons];omega
   ·rw [hXX];simp only [List.mem_append,List.mem_cons] at hy ⊢;grind)
 have SV:Hid (∀ w' HW' v v' Hb' HB',Mv w HH w' ((HW'++(XX v++Hb'))++HB')→Mv w HH (w'.setCell ⟨n0+3,0,none⟩ v') ((HW'++(XX v'++Hb'))++HB')):=Lib.hid (by
  intro w' HW' v v' Hb' HB' m
  rw [hXX] at m ⊢
  have m1:Mv w HH w' ((HW'++[⟨B,66,SpotX.cells ⟨d,k⟩⟩,⟨box,26,#[.slice A D.length c]⟩,⟨wx,70,#[.pointer (some ⟨wb,0,none⟩)]⟩])++⟨n0+3,30,#[v]⟩::([⟨n0+2,3,#[.int .i64 (layer:Int)]⟩,⟨n0+1,3,#[.int .i64 (count:Int)]⟩,⟨n0,3,#[.int .i64 (style:Int)]⟩]++(Hb'++HB'))):=by
   simpa only [encY,List.append_assoc,List.cons_append,List.nil_append] using m
  have m2:=Mv.setAt m1 0 v'
  rw [show (#[v]:Array Value).setIfInBounds 0 v'=#[v'] from rfl] at m2
  simpa only [encY,List.append_assoc,List.cons_append,List.nil_append] using m2)
 clear hHH hPS
 obtain ⟨A',cp,SC⟩:=step_cells hB hxd hss M0
 have hnp:=F1.np
 have hmx:Tryz.prog.follows .mixedOrders=true:=by kernel_rfl
 obtain ⟨C,hC⟩:∃ C:World→Prop,C=fun w'=>Hid (Mv w HH w' ((HW++(XX vb++(Hb++HL)))++HB1)):=⟨_,rfl⟩
 have CF:∀ w',C w'→w'.cell? ⟨B,0,none⟩=some (.pointer (some ⟨d.lb,k * 5,none⟩))∧w'.cell? ⟨B,1,none⟩=some (.pointer (some ⟨d.bb,0,none⟩))∧w'.cell? ⟨B,2,none⟩=some (.int .i64 (k:Int))∧w'.cell? ⟨n0+1,0,none⟩=some (.int .i64 (count:Int))∧w'.cell? ⟨n0+2,0,none⟩=some (.int .i64 (layer:Int))∧w'.cell? ⟨d.lb,k * 5+3,none⟩=some (.int .i64 (sd:Int)):=by
  intro w' h
  rw [hC] at h
  obtain ⟨a0,a1,a2,a3,a4,a5,a6,a7,a8⟩:=BX.out w' HW vb _ HB1 h.out
  have a9:=(SC w' h.out).2.1
  rw [hsd] at a9
  exact ⟨a0,a1,a2,a5,a6,a9⟩
 have CK:∀ w',C w'→Calls Tryz.prog 24 #[.agg #[.pointer (some ⟨d.lb,k * 5,none⟩),.pointer (some ⟨d.bb,0,none⟩),.int .i64 (k:Int)],.int .i64 (count:Int),.int .i64 (layer:Int)] w' fun e w3=>e=.returned (.int .i64 (passN s.ps.length count ((layer:Int)+1)))∧C w3:=by
  intro w' h
  rw [hC] at h ⊢
  refine (fresh_any ⟨d,k⟩ count layer w' A' s.ps.length cp (SC w' h.out).1 (by simp;omega) (by omega) ⟨by omega,by omega⟩ ⟨by omega,by omega⟩).mono ?_
  rintro e w3 ⟨rfl,m3⟩
  exact ⟨rfl,Lib.hid (Mv.call (H:=[]) (H':=[]) h.out m3)⟩
 rw [hsd] at et
 obtain ⟨fr,hfr⟩:∃ fr,passN s.ps.length (count:Int) ((layer:Int)+1)=fr:=⟨_,rfl⟩
 rw [hfr] at et CK
 have CD:C w.drew:=by rw [hC];exact Lib.hid (Mv.drew M0)
 replace CF:=Lib.hid CF
 replace CK:=Lib.hid CK
 have HC:=Lib.hid hC
 have SB:=Lib.hid (fun (W:World) HWx Y (m:Mv w HH W ((HWx++Y)++HB1)) (hwx:WrB wb S.bits HWx)=>step_head hB hxd hxk hss GB hwx m style layer t (by omega) tl.2 hst hly (by omega))
 have HX:=Lib.hid hXX
 have KK:=Lib.hid (And.intro hB (And.intro hss (And.intro GB (And.intro hw (And.intro hb (And.intro F1 (And.intro ht (And.intro hsd hsd2))))))))
 clear hC hXX hB hss GB GS hw hb F1 ht hsd hsd2 F2 F3 hg hS hs hsl M0 SC hfr hx
 gi_upto_region 12 with fail
 refine round_quiet_tail 10 C hmx (by kernel_rfl) (fun ⟨a,w,h⟩=>LP.out ⟨a,w,h⟩) CD (by kernel_rfl) ?_
 simp only [List.take_succ_cons,List.take_zero,List.drop_succ_cons,List.drop_zero]
 (first | (with_reducible refine qc_pass ?hw1 ?nx1;(case hw1=>(go_simp;done));(try simp only [Act.put,List.setIfInBounds_toArray,List.set_cons_zero,List.set_cons_succ])) | (with_reducible refine qc_one ?v1 ?hw1 (fun w' hw'=>?hr1) ?nx1;(case hw1=>(go_simp;done));(case hr1=>(first | (refine qc_val ?_;(obtain ⟨a0,a1,a2,a3,a4,a5⟩:=CF.out w' hw');clear hw';go_simp;done) | (refine qc_val ?_;(obtain ⟨a0,a1,a2,a3,a4,a5⟩:=CF.out w' hw');clear hw';go_simp;rfl) | (refine qc_call (f:=?f1) (args:=?args1) ?h11 ?h21;(case h11=>((obtain ⟨a0,a1,a2,a3,a4,a5⟩:=CF.out w' hw');go_simp;constructor <;> rfl));(case h21=>(exact CK.out w' hw'))) | (refine qc_skip ?_;(obtain ⟨a0,a1,a2,a3,a4,a5⟩:=CF.out w' hw');clear hw';go_simp;done)));(try simp only [Act.put,List.setIfInBounds_toArray,List.set_cons_zero,List.set_cons_succ])))
 (first | (with_reducible refine qc_pass ?hw2 ?nx2;(case hw2=>(go_simp;done));(try simp only [Act.put,List.setIfInBounds_toArray,List.set_cons_zero,List.set_cons_succ])) | (with_reducible refine qc_one ?v2 ?hw2 (fun w' hw'=>?hr2) ?nx2;(case hw2=>(go_simp;done));(case hr2=>(first | (refine qc_val ?_;(obtain ⟨a0,a1,a2,a3,a4,a5⟩:=CF.out w' hw');clear hw';go_simp;done) | (refine qc_val ?_;(obtain ⟨a0,a1,a2,a3,a4,a5⟩:=CF.out w' hw');clear hw';go_simp;rfl) | (refine qc_call (f:=?f2) (args:=?args2) ?h12 ?h22;(case h12=>((obtain ⟨a0,a1,a2,a3,a4,a5⟩:=CF.out w' hw');go_simp;constructor <;> rfl));(case h22=>(exact CK.out w' hw'))) | (refine qc_skip ?_;(obtain ⟨a0,a1,a2,a3,a4,a5⟩:=CF.out w' hw');clear hw';go_simp;done)));(try simp only [Act.put,List.setIfInBounds_toArray,List.set_cons_zero,List.set_cons_succ])))
 (first | (with_reducible refine qc_pass ?hw3 ?nx3;(case hw3=>(go_simp;done));(try simp only [Act.put,List.setIfInBounds_toArray,List.set_cons_zero,List.set_cons_succ])) | (with_reducible refine qc_one ?v3 ?hw3 (fun w' hw'=>?hr3) ?nx3;(case hw3=>(go_simp;done));(case hr3=>(first | (refine qc_val ?_;(obtain ⟨a0,a1,a2,a3,a4,a5⟩:=CF.out w' hw');clear hw';go_simp;done) | (refine qc_val ?_;(obtain ⟨a0,a1,a2,a3,a4,a5⟩:=CF.out w' hw');clear hw';go_simp;rfl) | (refine qc_call (f:=?f3) (args:=?args3) ?h13 ?h23;(case h13=>((obtain ⟨a0,a1,a2,a3,a4,a5⟩:=CF.out w' hw');go_simp;constructor <;> rfl));(case h23=>(exact CK.out w' hw'))) | (refine qc_skip ?_;(obtain ⟨a0,a1,a2,a3,a4,a5⟩:=CF.out w' hw');clear hw';go_simp;done)));(try simp only [Act.put,List.setIfInBounds_toArray,List.set_cons_zero,List.set_cons_succ])))
 (first | (with_reducible refine qc_pass ?hw4 ?nx4;(case hw4=>(go_simp;done));(try simp only [Act.put,List.setIfInBounds_toArray,List.set_cons_zero,List.set_cons_succ])) | (with_reducible refine qc_one ?v4 ?hw4 (fun w' hw'=>?hr4) ?nx4;(case hw4=>(go_simp;done));(case hr4=>(first | (refine qc_val ?_;(obtain ⟨a0,a1,a2,a3,a4,a5⟩:=CF.out w' hw');clear hw';go_simp;done) | (refine qc_val ?_;(obtain ⟨a0,a1,a2,a3,a4,a5⟩:=CF.out w' hw');clear hw';go_simp;rfl) | (refine qc_call (f:=?f4) (args:=?args4) ?h14 ?h24;(case h14=>((obtain ⟨a0,a1,a2,a3,a4,a5⟩:=CF.out w' hw');go_simp;constructor <;> rfl));(case h24=>(exact CK.out w' hw'))) | (refine qc_skip ?_;(obtain ⟨a0,a1,a2,a3,a4,a5⟩:=CF.out w' hw');clear hw';go_simp;done)));(try simp only [Act.put,List.setIfInBounds_toArray,List.set_cons_zero,List.set_cons_succ])))
 (first | (with_reducible refine qc_pass ?hw5 ?nx5;(case hw5=>(go_simp;done));(try simp only [Act.put,List.setIfInBounds_toArray,List.set_cons_zero,List.set_cons_succ])) | (with_reducible refine qc_one ?v5 ?hw5 (fun w' hw'=>?hr5) ?nx5;(case hw5=>(go_simp;done));(case hr5=>(first | (refine qc_val ?_;(obtain ⟨a0,a1,a2,a3,a4,a5⟩:=CF.out w' hw');clear hw';go_simp;done) | (refine qc_val ?_;(obtain ⟨a0,a1,a2,a3,a4,a5⟩:=CF.out w' hw');clear hw';go_simp;rfl) | (refine qc_call (f:=?f5) (args:=?args5) ?h15 ?h25;(case h15=>((obtain ⟨a0,a1,a2,a3,a4,a5⟩:=CF.out w' hw');go_simp;constructor <;> rfl));(case h25=>(exact CK.out w' hw'))) | (refine qc_skip ?_;(obtain ⟨a0,a1,a2,a3,a4,a5⟩:=CF.out w' hw');clear hw';go_simp;done)));(try simp only [Act.put,List.setIfInBounds_toArray,List.set_cons_zero,List.set_cons_succ])))
 (first | (with_reducible refine qc_pass ?hw6 ?nx6;(case hw6=>(go_simp;done));(try simp only [Act.put,List.setIfInBounds_toArray,List.set_cons_zero,List.set_cons_succ])) | (with_reducible refine qc_one ?v6 ?hw6 (fun w' hw'=>?hr6) ?nx6;(case hw6=>(go_simp;done));(case hr6=>(first | (refine qc_val ?_;(obtain ⟨a0,a1,a2,a3,a4,a5⟩:=CF.out w' hw');clear hw';go_simp;done) | (refine qc_val ?_;(obtain ⟨a0,a1,a2,a3,a4,a5⟩:=CF.out w' hw');clear hw';go_simp;rfl) | (refine qc_call (f:=?f6) (args:=?args6) ?h16 ?h26;(case h16=>((obtain ⟨a0,a1,a2,a3,a4,a5⟩:=CF.out w' hw');go_simp;constructor <;> rfl));(case h26=>(exact CK.out w' hw'))) | (refine qc_skip ?_;(obtain ⟨a0,a1,a2,a3,a4,a5⟩:=CF.out w' hw');clear hw';go_simp;done)));(try simp only [Act.put,List.setIfInBounds_toArray,List.set_cons_zero,List.set_cons_succ])))
 (first | (with_reducible refine qc_pass ?hw7 ?nx7;(case hw7=>(go_simp;done));(try simp only [Act.put,List.setIfInBounds_toArray,List.set_cons_zero,List.set_cons_succ])) | (with_reducible refine qc_one ?v7 ?hw7 (fun w' hw'=>?hr7) ?nx7;(case hw7=>(go_simp;done));(case hr7=>(first | (refine qc_val ?_;(obtain ⟨a0,a1,a2,a3,a4,a5⟩:=CF.out w' hw');clear hw';go_simp;done) | (refine qc_val ?_;(obtain ⟨a0,a1,a2,a3,a4,a5⟩:=CF.out w' hw');clear hw';go_simp;rfl) | (refine qc_call (f:=?f7) (args:=?args7) ?h17 ?h27;(case h17=>((obtain ⟨a0,a1,a2,a3,a4,a5⟩:=CF.out w' hw');go_simp;constructor <;> rfl));(case h27=>(exact CK.out w' hw'))) | (refine qc_skip ?_;(obtain ⟨a0,a1,a2,a3,a4,a5⟩:=CF.out w' hw');clear hw';go_simp;done)));(try simp only [Act.put,List.setIfInBounds_toArray,List.set_cons_zero,List.set_cons_succ])))
 (first | (with_reducible refine qc_pass ?hw8 ?nx8;(case hw8=>(go_simp;done));(try simp only [Act.put,List.setIfInBounds_toArray,List.set_cons_zero,List.set_cons_succ])) | (with_reducible refine qc_one ?v8 ?hw8 (fun w' hw'=>?hr8) ?nx8;(case hw8=>(go_simp;done));(case hr8=>(first | (refine qc_val ?_;(obtain ⟨a0,a1,a2,a3,a4,a5⟩:=CF.out w' hw');clear hw';go_simp;done) | (refine qc_val ?_;(obtain ⟨a0,a1,a2,a3,a4,a5⟩:=CF.out w' hw');clear hw';go_simp;rfl) | (refine qc_call (f:=?f8) (args:=?args8) ?h18 ?h28;(case h18=>((obtain ⟨a0,a1,a2,a3,a4,a5⟩:=CF.out w' hw');go_simp;constructor <;> rfl));(case h28=>(exact CK.out w' hw'))) | (refine qc_skip ?_;(obtain ⟨a0,a1,a2,a3,a4,a5⟩:=CF.out w' hw');clear hw';go_simp;done)));(try simp only [Act.put,List.setIfInBounds_toArray,List.set_cons_zero,List.set_cons_succ])))
 (first | (with_reducible refine qc_pass ?hw9 ?nx9;(case hw9=>(go_simp;done));(try simp only [Act.put,List.setIfInBounds_toArray,List.set_cons_zero,List.set_cons_succ])) | (with_reducible refine qc_one ?v9 ?hw9 (fun w' hw'=>?hr9) ?nx9;(case hw9=>(go_simp;done));(case hr9=>(first | (refine qc_val ?_;(obtain ⟨a0,a1,a2,a3,a4,a5⟩:=CF.out w' hw');clear hw';go_simp;done) | (refine qc_val ?_;(obtain ⟨a0,a1,a2,a3,a4,a5⟩:=CF.out w' hw');clear hw';go_simp;rfl) | (refine qc_call (f:=?f9) (args:=?args9) ?h19 ?h29;(case h19=>((obtain ⟨a0,a1,a2,a3,a4,a5⟩:=CF.out w' hw');go_simp;constructor <;> rfl));(case h29=>(exact CK.out w' hw'))) | (refine qc_skip ?_;(obtain ⟨a0,a1,a2,a3,a4,a5⟩:=CF.out w' hw');clear hw';go_simp;done)));(try simp only [Act.put,List.setIfInBounds_toArray,List.set_cons_zero,List.set_cons_succ])))
 (first | (with_reducible refine qc_pass ?hw10 ?nx10;(case hw10=>(go_simp;done));(try simp only [Act.put,List.setIfInBounds_toArray,List.set_cons_zero,List.set_cons_succ])) | (with_reducible refine qc_one ?v10 ?hw10 (fun w' hw'=>?hr10) ?nx10;(case hw10=>(go_simp;done));(case hr10=>(first | (refine qc_val ?_;(obtain ⟨a0,a1,a2,a3,a4,a5⟩:=CF.out w' hw');clear hw';go_simp;done) | (refine qc_val ?_;(obtain ⟨a0,a1,a2,a3,a4,a5⟩:=CF.out w' hw');clear hw';go_simp;rfl) | (refine qc_call (f:=?f10) (args:=?args10) ?h110 ?h210;(case h110=>((obtain ⟨a0,a1,a2,a3,a4,a5⟩:=CF.out w' hw');go_simp;constructor <;> rfl));(case h210=>(exact CK.out w' hw'))) | (refine qc_skip ?_;(obtain ⟨a0,a1,a2,a3,a4,a5⟩:=CF.out w' hw');clear hw';go_simp;done)));(try simp only [Act.put,List.setIfInBounds_toArray,List.set_cons_zero,List.set_cons_succ])))
 refine wpQuiet_nil ?_
 intro w' hw'
 have em1:(if fr<(sd:Int) then (sd:Int) else fr)=(t:Int):=by split <;> omega
 have em2:(if (sd:Int)<fr then fr else (sd:Int))=(t:Int):=by split <;> omega
 first
  | rw [em1]
  | rw [em2]
  | rw [et]
 clear em1 em2 et
 have m2:Hid (Mv w HH w' ((HW++(XX vb++(Hb++HL)))++HB1)):=by rw [HC.out] at hw';exact hw'
 clear hw' CD CK CF HC C
 obtain ⟨b0,b1,b2,b3,b4,b5,b6,b7,b8⟩:=BX.out w' HW vb _ HB1 m2.out
 have H1:=Lib.hid (SB.out w' HW _ m2.out KK.out.2.2.2.1)
 rw [KK.out.2.2.2.2.2.2.2.2] at H1
 unfold SpotX.v at H1
 obtain ⟨HM,hHM⟩:∃ HM,headM (S.M d.bb) k style layer sd t s=HM:=⟨_,rfl⟩
 rw [hHM] at H1
 have AF:Hid (∀ w3 HW' HB',Mv w HH w3 ((HW'++(XX vb++(Hb++HL)))++HB')→BandsR D (updM S.M d.bb HM.1) HB'→w3.cell? ⟨d.lb,k * 5+3,none⟩=some (.int .i64 (sd:Int))∧w3.frozen? ⟨d.lb,k * 5+3,none⟩=false):=Lib.hid (by
  intro w3 HW' HB' m h
  have e1:(updM S.M d.bb HM.1 d.bb).ss[k]?=some (headS s style sd t):=by rw [updM_same,← hHM];exact headM_get _ _ _ _ _ _ _ KK.out.2.1
  obtain ⟨A2,cp2,sc⟩:=step_cells h hxd e1 m
  obtain ⟨-,q2,q3⟩:=sc w3 m
  rw [(headS_same s style sd t).2.2,KK.out.2.2.2.2.2.2.2.1] at q2
  exact ⟨q2,q3⟩)
 have HHM:=Lib.hid hHM
 clear SB hHM
 go_wp2_with fail
 gi_upto_region 14 with (refine ⟨trivial,?_⟩;gi_at_call 29;refine (CallsIn.inRound l (callsIn_wide.2 H1.out)).mono ?_;rintro e w3 ⟨rfl,HW2,HB2,q1,q2,q3⟩;have K3:=Lib.hid (And.intro q1 (And.intro q2 q3));clear q1 q2 q3)
 have hB2:=K3.out.2.1
 have e1:(updM S.M d.bb HM.1 d.bb).ss[k]?=some (headS s style sd t):=by rw [updM_same,← HHM.out];exact headM_get _ _ _ _ _ _ _ KK.out.2.1
 obtain ⟨hs1,hs2,hs3⟩:=headS_same s style sd t
 have FIN2:Hid (∀ (a:Act) (w6:World) (v':Value) (Hb':List HB),RowB v' (stepE count style layer S ⟨d,k⟩).body Hb'→Mv w HH w6 ((HW2++(XX v'++(Hb'++HL)))++HB2)→PS .normal a (w6.setCell ⟨d.lb,k * 5+3,none⟩ (.int .i64 (t:Int)))):=Lib.hid (by
  intro a w6 v' Hb' hr m
  obtain ⟨HB',q1,q2⟩:=step_said hB2 hxd e1 m t (by rw [hs1];exact tl.2)
  refine FIN.out a _ HW2 Hb' v' HB' ?_ hr ?_ (q2 _ m)
  ·have h:=K3.out.1
   simp only [stepE,KK.out.2.1,KK.out.2.2.2.2.2.2.1,KK.out.2.2.2.2.2.2.2.2,HHM.out]
   exact h
  ·simp only [stepE,KK.out.2.1,KK.out.2.2.2.2.2.2.1,KK.out.2.2.2.2.2.2.2.2,HHM.out]
   rw [updM_updM,updM_same] at q1
   exact q1)
 obtain ⟨b0',b1',b2',b3',b4',b5',b6',b7',b8'⟩:=BX.out w3 HW2 vb _ HB2 K3.out.2.2
 obtain ⟨c3,c4⟩:=AF.out w3 HW2 HB2 K3.out.2.2 hB2
 have htS:(stepE count style layer S ⟨d,k⟩).body=if sd<t then S.body++bodyM s.ps s.bs sd t else S.body:=by
  simp only [stepE,KK.out.2.1,KK.out.2.2.2.2.2.2.1,KK.out.2.2.2.2.2.2.2.2]
 have TS:=Lib.hid htS
 clear htS b0 b1 b2 b3 b4 b5 b6 b7 b8
 by_cases hlt:sd<t
 ·have hlt':(sd:Int)<(t:Int):=by omega
  obtain ⟨v0,SBD⟩:=step_body hB2 hxd hxk e1 K3.out.2.2 t (by rw [hs3,KK.out.2.2.2.2.2.2.2.2];exact hlt) (by rw [hs1];exact tl.2)
  rw [hs1,hs2,hs3,KK.out.2.2.2.2.2.2.2.2] at SBD
  unfold SpotX.v at SBD
  replace SBD:=Lib.hid SBD
  clear hB2 e1 hs1 hs2 hs3 H1
  gi_upto_region 15 with fail
  obtain ⟨C,hC⟩:∃ C:World→Prop,C=fun w'=>Hid (Mv w HH w' ((HW2++(XX vb++(Hb++HL)))++HB2)):=⟨_,rfl⟩
  have CF:∀ w',C w'→w'.cell? ⟨B,0,none⟩=some (.pointer (some ⟨d.lb,k * 5,none⟩))∧w'.cell? ⟨B,1,none⟩=some (.pointer (some ⟨d.bb,0,none⟩))∧w'.cell? ⟨B,2,none⟩=some (.int .i64 (k:Int))∧w'.cell? ⟨n0+3,0,none⟩=some vb:=by
   intro w' h
   rw [hC] at h
   obtain ⟨a0,a1,a2,a3,a4,a5,a6,a7,a8⟩:=BX.out w' HW2 vb _ HB2 h.out
   exact ⟨a0,a1,a2,a7⟩
  have CK:∀ w',C w'→Calls Tryz.prog 30 #[.agg #[.pointer (some ⟨d.lb,k * 5,none⟩),.pointer (some ⟨d.bb,0,none⟩),.int .i64 (k:Int)],.int .i64 (t:Int)] w' fun e w3=>e=.returned v0∧C w3:=by
   intro w' h
   rw [hC] at h ⊢
   refine ((SBD.out w' h.out).2).mono ?_
   rintro e w3 ⟨rfl,m3⟩
   exact ⟨rfl,Lib.hid m3⟩
  have CD:C w3.drew:=by rw [hC];exact Lib.hid (Mv.drew K3.out.2.2)
  replace CF:=Lib.hid CF
  replace CK:=Lib.hid CK
  have HC:=Lib.hid hC
  clear hC b0' b1' b2' b3' b4' b5' b6' b7' b8' c3 c4
  refine round_quiet_tail 4 C hmx (by kernel_rfl) (fun ⟨a,w,h⟩=>LP.out ⟨a,w,h⟩) CD (by kernel_rfl) ?_
  simp only [List.take_succ_cons,List.take_zero,List.drop_succ_cons,List.drop_zero]
  (first | (with_reducible refine qc_pass ?hw11 ?nx11;(case hw11=>(go_simp;done));(try simp only [Act.put,List.setIfInBounds_toArray,List.set_cons_zero,List.set_cons_succ])) | (with_reducible refine qc_one ?v11 ?hw11 (fun w' hw'=>?hr11) ?nx11;(case hw11=>(go_simp;done));(case hr11=>(first | (refine qc_val ?_;(obtain ⟨a0,a1,a2,a3⟩:=CF.out w' hw');clear hw';go_simp;done) | (refine qc_val ?_;(obtain ⟨a0,a1,a2,a3⟩:=CF.out w' hw');clear hw';go_simp;rfl) | (refine qc_call (f:=?f11) (args:=?args11) ?h111 ?h211;(case h111=>((obtain ⟨a0,a1,a2,a3⟩:=CF.out w' hw');go_simp;constructor <;> rfl));(case h211=>(exact CK.out w' hw'))) | (refine qc_skip ?_;(obtain ⟨a0,a1,a2,a3⟩:=CF.out w' hw');clear hw';go_simp;done)));(try simp only [Act.put,List.setIfInBounds_toArray,List.set_cons_zero,List.set_cons_succ])))
  (first | (with_reducible refine qc_pass ?hw12 ?nx12;(case hw12=>(go_simp;done));(try simp only [Act.put,List.setIfInBounds_toArray,List.set_cons_zero,List.set_cons_succ])) | (with_reducible refine qc_one ?v12 ?hw12 (fun w' hw'=>?hr12) ?nx12;(case hw12=>(go_simp;done));(case hr12=>(first | (refine qc_val ?_;(obtain ⟨a0,a1,a2,a3⟩:=CF.out w' hw');clear hw';go_simp;done) | (refine qc_val ?_;(obtain ⟨a0,a1,a2,a3⟩:=CF.out w' hw');clear hw';go_simp;rfl) | (refine qc_call (f:=?f12) (args:=?args12) ?h112 ?h212;(case h112=>((obtain ⟨a0,a1,a2,a3⟩:=CF.out w' hw');go_simp;constructor <;> rfl));(case h212=>(exact CK.out w' hw'))) | (refine qc_skip ?_;(obtain ⟨a0,a1,a2,a3⟩:=CF.out w' hw');clear hw';go_simp;done)));(try simp only [Act.put,List.setIfInBounds_toArray,List.set_cons_zero,List.set_cons_succ])))
  (first | (with_reducible refine qc_pass ?hw13 ?nx13;(case hw13=>(go_simp;done));(try simp only [Act.put,List.setIfInBounds_toArray,List.set_cons_zero,List.set_cons_succ])) | (with_reducible refine qc_one ?v13 ?hw13 (fun w' hw'=>?hr13) ?nx13;(case hw13=>(go_simp;done));(case hr13=>(first | (refine qc_val ?_;(obtain ⟨a0,a1,a2,a3⟩:=CF.out w' hw');clear hw';go_simp;done) | (refine qc_val ?_;(obtain ⟨a0,a1,a2,a3⟩:=CF.out w' hw');clear hw';go_simp;rfl) | (refine qc_call (f:=?f13) (args:=?args13) ?h113 ?h213;(case h113=>((obtain ⟨a0,a1,a2,a3⟩:=CF.out w' hw');go_simp;constructor <;> rfl));(case h213=>(exact CK.out w' hw'))) | (refine qc_skip ?_;(obtain ⟨a0,a1,a2,a3⟩:=CF.out w' hw');clear hw';go_simp;done)));(try simp only [Act.put,List.setIfInBounds_toArray,List.set_cons_zero,List.set_cons_succ])))
  (first | (with_reducible refine qc_pass ?hw14 ?nx14;(case hw14=>(go_simp;done));(try simp only [Act.put,List.setIfInBounds_toArray,List.set_cons_zero,List.set_cons_succ])) | (with_reducible refine qc_one ?v14 ?hw14 (fun w' hw'=>?hr14) ?nx14;(case hw14=>(go_simp;done));(case hr14=>(first | (refine qc_val ?_;(obtain ⟨a0,a1,a2,a3⟩:=CF.out w' hw');clear hw';go_simp;done) | (refine qc_val ?_;(obtain ⟨a0,a1,a2,a3⟩:=CF.out w' hw');clear hw';go_simp;rfl) | (refine qc_call (f:=?f14) (args:=?args14) ?h114 ?h214;(case h114=>((obtain ⟨a0,a1,a2,a3⟩:=CF.out w' hw');go_simp;constructor <;> rfl));(case h214=>(exact CK.out w' hw'))) | (refine qc_skip ?_;(obtain ⟨a0,a1,a2,a3⟩:=CF.out w' hw');clear hw';go_simp;done)));(try simp only [Act.put,List.setIfInBounds_toArray,List.set_cons_zero,List.set_cons_succ])))
  refine wpQuiet_nil ?_
  intro w4 hw4
  have m4:Hid (Mv w HH w4 ((HW2++(XX vb++(Hb++HL)))++HB2)):=by rw [HC.out] at hw4;exact hw4
  clear hw4 CD CK CF HC C
  have hl3:S.body.length≤60000000∧(bodyM s.ps s.bs sd t).length≤300000:=⟨by omega,Nat.le_trans (bodyM_length _ _ _ _) (KK.out.2.2.1.ss s (List.mem_of_getElem? KK.out.2.1)).bs⟩
  refine wpList_appB rfl (.tmp 70) (.tmp 73) rfl vb v0 S.body (bodyM s.ps s.bs sd t) Hb rfl rfl KK.out.2.2.2.2.1 m4.out.sat.left.right.right.left (SBD.out w4 m4.out).1 (by omega) ?_
  intro v5 w5 Hb5 hr5 m5
  obtain ⟨a5,c5,rfl⟩:=hr5.slice
  have M5:Mv w HH w5 ((HW2++(XX vb++(Hb5++HL)))++HB2):=by
   have m6:Mv w HH w4 (Hb++(HW2++(XX vb++(HL++HB2)))):=m4.out.sub (fun g=>by simp only [cnt_append];omega) (fun y hy=>by simp only [List.mem_append] at hy ⊢;grind)
   exact (Mv.call m6 m5).sub (fun g=>by simp only [cnt_append];omega) (fun y hy=>by simp only [List.mem_append] at hy ⊢;grind)
  obtain ⟨nl,hnl⟩:∃ nl,(S.body++bodyM s.ps s.bs sd t).length=nl:=⟨_,rfl⟩
  rw [hnl] at hr5 ⊢
  obtain ⟨-,-,-,-,-,-,-,b7,b8⟩:=BX.out w5 HW2 vb _ HB2 M5
  have M6:=SV.out w5 HW2 vb (.slice a5 nl c5) _ HB2 M5
  obtain ⟨w6,hw6⟩:∃ w6,w6=w5.setCell ⟨n0+3,0,none⟩ (.slice a5 nl c5):=⟨_,rfl⟩
  have HW6:=Lib.hid hw6
  rw [← hw6] at M6
  have K6:=Lib.hid (And.intro hr5 M6)
  clear hw6 M6 M5 hr5 m5 m4 hnl hl3
  go_wp2_with fail
  rw [← HW6.out]
  obtain ⟨b0,b1,b2,-⟩:=BX.out w6 HW2 _ _ HB2 K6.out.2
  obtain ⟨c3,c4⟩:w6.cell? ⟨d.lb,k * 5+3,none⟩=some (.int .i64 (sd:Int))∧w6.frozen? ⟨d.lb,k * 5+3,none⟩=false:=by
   obtain ⟨A2,cp2,sc⟩:=step_cells K3.out.2.1 hxd (by rw [updM_same,← HHM.out];exact headM_get _ _ _ _ _ _ _ KK.out.2.1) K6.out.2
   obtain ⟨-,q2,q3⟩:=sc w6 K6.out.2
   rw [(headS_same s style sd t).2.2,KK.out.2.2.2.2.2.2.2.1] at q2
   exact ⟨q2,q3⟩
  clear b7 b8
  gi_wp2
  exact FIN2.out _ _ _ _ (by rw [TS.out,if_pos hlt];exact K6.out.1) K6.out.2
 ·have hlt':¬ (sd:Int)<(t:Int):=by omega
  clear hB2 e1 hs1 hs2 hs3 H1
  gi_wp2
  exact FIN2.out _ _ _ _ (by rw [TS.out,if_neg hlt];exact KK.out.2.2.2.2.1) K3.out.2.2
end
end Go.Proofs.YtjngfhgakokejaaGreat
