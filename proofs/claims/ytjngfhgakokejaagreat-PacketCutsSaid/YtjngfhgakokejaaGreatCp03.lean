/- Tag trees of the program: the way down to a leaf. Tag trees of the program: the way down to a leaf that is there. Tag trees of the program: the least number beneath a node. Tag trees: a leaf's number is laid: what becomes of the tree; a node's cell is written. Tag trees of the program: Set. Tag trees: what is said of a leaf; the program's Encode. Tag trees of the program: a node on the way, while something is said of it. -/
import Derived.Test.YtjngfhgakokejaaGreatCp02
import Derived.Deep.QuietTactic
import Derived.BigQuiet
import Derived.Test.YtjngfhgakokejaaGreatCp01
set_option maxRecDepth 100000
set_option maxHeartbeats 8000000
set_option linter.all false
namespace Go.Proofs.YtjngfhgakokejaaGreat
section
open Go.RowKit
def wayV (P:List LvG) (x y:Nat):List Value:=P.mapIdx fun i p=>.pointer (some ⟨p.1,3 * ((y / 2 ^ i) * p.2.w+x / 2 ^ i),none⟩)
theorem wayV_length (P:List LvG) (x y:Nat):(wayV P x y).length=P.length:=by simp[wayV]
theorem wayV_get (P:List LvG) (x y i:Nat) (p:LvG) (h:P[i]?=some p):(wayV P x y)[i]?=some (.pointer (some ⟨p.1,3 * ((y / 2 ^ i) * p.2.w+x / 2 ^ i),none⟩)):=by simp[wayV,h]
def PDims (P:List LvG):Prop:=Dims (P.map (·.2))∧∀ p∈P,1≤p.2.w∧p.2.w≤64∧1≤p.2.h∧p.2.h≤64
theorem PDims.get {P:List LvG} (h:PDims P) {i:Nat} {p:LvG} (hp:P[i]?=some p):p.2.l.length=p.2.w * p.2.h∧1≤p.2.w∧p.2.w≤64∧1≤p.2.h∧p.2.h≤64 :=
 ⟨h.1.len (i:=i) (by simp[hp]),h.2 p (List.mem_of_getElem? hp)⟩
theorem PDims.at_ {P:List LvG} (h:PDims P) {p0:LvG} {x y:Nat} (h0:P[0]?=some p0) (hx:x<p0.2.w) (hy:y<p0.2.h) {i:Nat} {p:LvG} (hp:P[i]?=some p):x / 2 ^ i<p.2.w∧y / 2 ^ i<p.2.h :=
 h.1.at_ (L0:=p0.2) (by simp[h0]) hx hy (by simp[hp])
theorem infoPN:(Tryz.prog.info? 194).map (fun i=>(i.zero,i.size,i.bytes))=some (some (.pointer none),1,8):=by kernel_rfl
theorem RowH.get {e:TypeId} {size n c:Nat} {A:Option Addr} {xs:List Value} {H:List HB} {w:World} (h:RowH e size (.slice A n c) n xs H) (hs:Sat w H) (hn:0<n) :
  ∃ g,A=some ⟨g,0,none⟩∧(∀ i,i<n * size→w.cell? ⟨g,i,none⟩=xs[i]?)∧∀ i,w.frozen? ⟨g,i,none⟩=false:=by
 obtain⟨g,cap,cur,hv,k1,k2,k3,k4,hH⟩:=h.form hn
 cases hv
 subst hH
 have hb:Blk w g e cur:=hs.mem List.mem_cons_self
 refine⟨g,rfl,fun i hi=>?_,fun i=>hb.frozen i⟩
 rw[hb.cell i,← k4,List.getElem?_take,if_pos hi,Array.getElem?_toList]
end
section
open Go.RowKit
theorem flat_ptr (n:Nat):(List.replicate n (Value.pointer none).cells.toList).flatten=List.replicate n (.pointer none):=by
 induction n with
 | zero=>rfl
 | succ n ih=>rw[List.replicate_succ,List.replicate_succ,List.flatten_cons,ih];rfl
theorem set_way (n:Nat) (L:List Value) (i q:Nat) (v:Value) (hi:i<n) (hL:L.length=n) (hq:n - 1 - i=q) (hv:L[i]?=some v) :
  (List.replicate (n - i) (Value.pointer none)++(L.take i).reverse).set q v=List.replicate (n - (i+1)) (Value.pointer none)++(L.take (i+1)).reverse:=by
 have e1:n - i=(n - (i+1))+1:=by omega
 have e2:q=n - (i+1):=by omega
 have e3:L.take (i+1)=L.take i++[v]:=by
  rw[List.take_add_one,hv]
  rfl
 rw[e3,List.reverse_append,e1,List.replicate_succ',e2]
 rw[List.append_assoc,List.set_append_right _ _ (by simp)]
 simp
theorem way_ok (tb:Nat) (P:List LvG) (k:Nat) (p0:LvG) (W:World) (H:List HB) (h:TreeH tb P H) (hs:Sat W H) (hl:P.length≤20) (hd:PDims P) (h0:P[0]?=some p0) (hk:k<p0.2.w * p0.2.h) :
  Calls Tryz.prog 106 #[.pointer (some ⟨tb,0,none⟩),.int .i64 (k:Int)] W fun e W'=>∃ v Hn,e=.returned v∧RowH 194 1 v P.length (wayV P (k % p0.2.w) (k / p0.2.w)).reverse Hn∧Mv W H W' (Hn++H):=by
 obtain⟨i0,hti,hz0,hz1,hz2⟩:=info_parts infoPN
 have hm:=fun W=>run_made (P:=Tryz.prog) 192 194 i0 _ 1 8 P.length Tryz.underlying192 hti hz0 hz1 hz2 rfl (by decide) (by omega) (by omega) W
 rw[flat_ptr] at hm
 obtain⟨v,Hl,rfl,hr⟩:=h
 obtain⟨va,vc,rfl⟩:=hr.slice
 have hn:0<P.length:=(List.getElem?_eq_some_iff.1 h0).1
 obtain⟨g,rfl,hc,hfz⟩:=hr.get (hs.right (A:=[_])).left hn
 have c0:W.cell? ⟨tb,0,none⟩=some (.slice (some ⟨g,0,none⟩) P.length vc):=(hs.at_ 0 rfl).cell 0
 obtain⟨l1,l2,l3⟩:=levsV_get P 0 p0 h0
 have c1:=hc 0 (by omega)
 have c2:=hc 2 (by omega)
 rw[l1] at c1
 rw[l3,(hd.get h0).1] at c2
 have hw0:=(hd.get h0).2
 have hx:k % p0.2.w<p0.2.w:=Nat.mod_lt _ (by omega)
 have hy:k / p0.2.w<p0.2.h:=Nat.div_lt_of_lt_mul hk
 have hat:=fun i p hp=>hd.at_ (i:=i) (p:=p) h0 hx hy hp
 have d0:((P.length:Int) == 0)=false:=beq_eq_false_iff_ne.2 (by omega)
 have d2:decide (((p0.2.w * p0.2.h:Nat):Int)≤(k:Int))=false:=decide_eq_false (fun h=>Nat.not_le.2 hk (Int.ofNat_le.1 h))
 have hmm:p0.2.w * p0.2.h≤4096:=Nat.mul_le_mul hw0.2.1 hw0.2.2.2
 have hkb:k≤4096:=Nat.le_of_lt (Nat.lt_of_lt_of_le hk hmm)
 have hkm:¬ p0.2.w * p0.2.h≤k:=Nat.not_le.2 hk
 have d1:decide ((k:Int)<0)=false:=by simp
 have hk0:(0:Int)≤(k:Int):=by omega
 have KP:=Lib.hid (And.intro hr (And.intro hs (And.intro hd (And.intro hat (And.intro hx hy)))))
 have hn0:(0:Int)<(P.length:Int):=by omega
 obtain⟨x,hxx⟩:∃ x,k % p0.2.w=x:=⟨_,rfl⟩
 obtain⟨y,hyy⟩:∃ y,k / p0.2.w=y:=⟨_,rfl⟩
 generalize p0.1=g0 at *
 generalize hww:p0.2.w=w0 at *
 generalize p0.2.h=h00 at *
 generalize w0 * h00=m0 at *
 have hw1:(w0:Int)≠0:=by omega
 have hx64:x≤64:=by rw[← hxx];have:=Nat.mod_lt k (show 0<w0 by omega);omega
 have hy64:y≤4096:=by rw[← hyy];have:=Nat.div_le_self k w0;omega
 have hxi:(k:Int) % (w0:Int)=(x:Int):=by rw[← hxx];push_cast;rfl
 have hyi:wrap64 ((k:Int) / (w0:Int))=(y:Int):=by
  have e:(k:Int) / (w0:Int)=(y:Int):=by rw[← hyy];push_cast;rfl
  rw[e,← IntWalk.i64_left,IntWalk.i64_in _ (by omega)]
 rw[hxx,hyy] at KP ⊢
 clear hxx hyy
 clear hr hs hd hat hc hfz hx hy h0 l1 l2 l3 hk
 go_enter Tryz.func106,Tryz.ntmps106
 go_upto_region 3 with fail
 go_quiet (fail)
 go_upto_region 6 with fail
 simp only[hxi,hyi]
 have M0:Mv W _ ((W.drewN nq).alloc (.cells (Array.replicate P.length (.pointer none)) 194)) (⟨W.heap.size,194,Array.replicate P.length (.pointer none)⟩::(⟨tb,178,#[.slice (some ⟨g,0,none⟩) P.length vc]⟩::(Hl++P.map levB))):=((Mv.refl KP.out.2.1).drewN nq).alloc _ _
 have R0:RowH 194 1 (.slice (some ⟨W.heap.size,0,none⟩) P.length P.length) P.length (List.replicate (P.length - 0) (.pointer none)++((wayV P x y).take 0).reverse) [⟨W.heap.size,194,Array.replicate P.length (.pointer none)⟩]:=by
  have:=RowH.new 194 W.heap.size P.length (size:=1) (Array.replicate P.length (.pointer none)) (by simp) (by unfold maxLen;omega)
  simpa using this
 have K0:=Lib.hid (And.intro R0 M0)
 obtain⟨w1,hw1'⟩:∃ w1,w1=(W.drewN nq).alloc (.cells (Array.replicate P.length (.pointer none)) 194):=⟨_,rfl⟩
 rw[← hw1'] at K0
 simp only[← hw1']
 clear R0 M0 c0 c1 c2 hm hw1' d0 d1 d2 hkm hmm hxi hyi
 go_wp2_with fail
 go_loopg [9,58,72,79] P.length (fun m s9 s58 s72 s79 wx=>∃ (i:Nat) (Hn:List HB),i≤P.length∧m=P.length - i∧s58=.int .i64 (i:Int)∧RowH 194 1 (.slice (some ⟨W.heap.size,0,none⟩) P.length P.length) P.length (List.replicate (P.length - i) (.pointer none)++((wayV P x y).take i).reverse) Hn∧Mv W _ wx (Hn++(⟨tb,178,#[.slice (some ⟨g,0,none⟩) P.length vc]⟩::(Hl++P.map levB))))
 case atStart=>exact⟨0,_,Nat.zero_le _,rfl,rfl,K0.out.1,K0.out.2⟩
 case round =>
  obtain⟨wa,rfl⟩:∃ wa:World,wa=wr:=⟨_,rfl⟩
  obtain⟨i,Hn,hi,rfl,rfl,hrn,mn⟩:=hrel
  by_cases hlt:i<P.length
  ·obtain⟨p,hp⟩:∃ p,P[i]?=some p:=⟨_,List.getElem?_eq_getElem hlt⟩
   have mt:=Mv.mv1 (A:=Hn) (B:=[_]) mn
   have c0:wa.cell? ⟨tb,0,none⟩=some (.slice (some ⟨g,0,none⟩) P.length vc):=mt.cell 0 rfl 0
   have sHl:Sat wa Hl:=(Mv.mv2 (A:=Hn) (B:=[_]) (C:=Hl) mn).sat.left
   obtain⟨g',eg,hc,-⟩:=KP.out.1.get sHl hn
   obtain rfl:g=g':=by cases eg;rfl
   obtain⟨l1,l2,l3⟩:=levsV_get P i p hp
   have e1:=hc (3 * i) (by omega)
   have e2:=hc (3 * i+1) (by omega)
   have e3:=hc (3 * i+2) (by omega)
   rw[l1,Nat.mul_comm 3 i] at e1
   rw[l2,Nat.mul_comm 3 i] at e2
   rw[l3,(KP.out.2.2.1.get hp).1,Nat.mul_comm 3 i] at e3
   obtain⟨q1,q2⟩:=KP.out.2.2.2.1 i p hp
   have q3:=(KP.out.2.2.1.get hp).2
   have hii:(i:Int)<(P.length:Int):=by omega
   have hxq:x / 2 ^ i≤64:=Nat.le_trans (Nat.div_le_self _ _) hx64
   have hyq:y / 2 ^ i≤64:=by omega
   have hpl:y / 2 ^ i * p.2.w+x / 2 ^ i<p.2.w * p.2.h:=place_lt q1 q2
   have G0:=fun V=>grid_at p.2.w p.2.h p.1 (p.2.w * p.2.h) (p.2.w * p.2.h) (x / 2 ^ i) (y / 2 ^ i) V hpl (by omega) (by omega) (by omega) (by have:=Nat.mul_le_mul q3.2.1 q3.2.2.2;omega)
   simp only[Int.natCast_ediv,Int.natCast_pow,Int.cast_ofNat_Int] at G0
   have G:=Lib.hid G0
   clear G0
   have EP:=Lib.hid (And.intro hp (And.intro hrn mn))
   have hi20:i≤20:=by omega
   obtain⟨q,hq⟩:∃ q,P.length - 1 - i=q:=⟨_,rfl⟩
   have hwi:IntKind.i64.wrap (IntKind.i64.wrap ((P.length:Int) - 1) - (i:Int))=(q:Int):=by
    rw[IntWalk.i64_in ((P.length:Int) - 1) (by omega),IntWalk.i64_in _ (by omega)]
    omega
   have hql:(q:Int)<(P.length:Int):=by omega
   have hqn:q<P.length - i:=by omega
   have HQ:=Lib.hid (And.intro hq hqn)
   clear hq hqn
   have FX:Hid (∀ w2,Mv wa.drew [] w2 []→Mv W (⟨tb,178,#[.slice (some ⟨g,0,none⟩) P.length vc]⟩::(Hl++P.map levB)) w2 (Hn++(⟨tb,178,#[.slice (some ⟨g,0,none⟩) P.length vc]⟩::(Hl++P.map levB)))∧w2.cell? ⟨W.heap.size,q,none⟩=some (.pointer none)∧w2.frozen? ⟨W.heap.size,q,none⟩=false):=Lib.hid (by
    intro w2 m2
    have m3:Mv W _ w2 (Hn++(⟨tb,178,#[.slice (some ⟨g,0,none⟩) P.length vc]⟩::(Hl++P.map levB))):=Mv.call (H:=[]) (H':=[]) (Mv.drew EP.out.2.2) m2
    have z:=RowH.cell EP.out.2.1 m3.sat.left rfl q (by omega)
    refine⟨m3,?_,z.2⟩
    rw[z.1,List.getElem?_append_left (by simpa using HQ.out.2),List.getElem?_replicate,if_pos HQ.out.2])
   have d7:decide ((i:Int)<(P.length:Int))=true:=by simpa using hlt
   generalize hpw:p.2.w * p.2.h=pn at *
   generalize hpg:p.1=pg at *
   generalize hpw2:p.2.w=pw at *
   generalize p.2.h=ph at *
   clear hrn mn mt hc l1 l2 l3 sHl hp q1 q2 hpw eg
   go_upto_region 9 with fail
   go_region_law (first
    | (go_simp;go_at_call 108;(with_reducible refine(G.out _).mono ?_);rintro e w2 ⟨rfl,m2⟩;obtain⟨m3,y1,y2⟩:=FX.out w2 m2;have K2:=Lib.hid m3;clear m2 m3))
   all_goals
    obtain⟨H3,r3,m3⟩:=RowH.set EP.out.2.1 K2.out.sat.left rfl q (.pointer (some ⟨pg,3 * (y / 2 ^ i * pw+x / 2 ^ i),none⟩)) (by omega)
    have m4:=Mv.call K2.out m3
    have K4:=Lib.hid (And.intro r3 m4)
    clear r3 m3 m4 y1 y2 K2
    go_wp2_with fail
    go_roundg (P.length - (i+1))
    case measure=>omega
    case rel =>
     refine⟨i+1,H3,by omega,rfl,by go_num,?_,K4.out.2⟩
     have hv:=wayV_get P x y i p EP.out.1
     rw[hpg,hpw2] at hv
     have:=K4.out.1
     rw[set_way _ _ i q _ hlt (wayV_length P x y) HQ.out.1 hv] at this
     exact this
  ·obtain rfl:i=P.length:=by omega
   have d7:decide ((P.length:Int)<(P.length:Int))=false:=by simp
   have EP:=Lib.hid (And.intro hrn mn)
   clear hrn mn
   go_wp2_with fail
   go_ret
   refine⟨_,Hn,rfl,?_,EP.out.2⟩
   have:=EP.out.1
   rw[Nat.sub_self,List.take_of_length_le (by rw[wayV_length];exact Nat.le_refl _)] at this
   simpa using this
end
section
open Go.RowKit
def nodeD:NodeM:=⟨0,0,false⟩
def LevM.at_ (L:LevM) (x y:Nat):NodeM:=L.l.getD (y * L.w+x) nodeD
def leastStep (L:LevM) (x y dx dy:Nat) (n:Int):Int:=if 2 * x+dx<L.w∧2 * y+dy<L.h then min n (L.at_ (2 * x+dx) (2 * y+dy)).n else n
def leastRow (L:LevM) (x y dy:Nat) (n:Int):Int:=leastStep L x y 1 dy (leastStep L x y 0 dy n)
def leastM (L:LevM) (x y:Nat):Int:=leastRow L x y 1 (leastRow L x y 0 (L.at_ (2 * x) (2 * y)).n)
def leastI (L:LevM) (x y dy:Nat) (n:Int) (i:Nat):Int:=if i=0 then n else if i=1 then leastStep L x y 0 dy n else leastRow L x y dy n
def leastO (L:LevM) (x y:Nat) (j:Nat):Int:=if j=0 then (L.at_ (2 * x) (2 * y)).n else if j=1 then leastRow L x y 0 (L.at_ (2 * x) (2 * y)).n else leastM L x y
theorem leastI_step (L:LevM) (x y dy:Nat) (n:Int) (i:Nat) (hi:i<2):leastI L x y dy n (i+1)=leastStep L x y i dy (leastI L x y dy n i):=by
 have:i=0∨i=1:=by omega
 rcases this with rfl | rfl <;> rfl
theorem leastO_step (L:LevM) (x y j:Nat) (hj:j<2):leastO L x y (j+1)=leastI L x y j (leastO L x y j) 2:=by
 have:j=0∨j=1:=by omega
 rcases this with rfl | rfl <;> rfl
theorem node_cell {tb:Nat} {P:List LvG} {H R:List HB} {w w0:World} {H0:List HB} (h:TreeH tb P H) (m:Mv w0 H0 w (R++H)) (hd:PDims P) {i:Nat} {p:LvG} (hp:P[i]?=some p) {x y:Nat} (hx:x<p.2.w) (hy:y<p.2.h) :
  w.cell? ⟨p.1,3 * (y * p.2.w+x),none⟩=some (.int .i64 (p.2.at_ x y).n)∧w.cell? ⟨p.1,3 * (y * p.2.w+x)+1,none⟩=some (.int .i64 (p.2.at_ x y).low)∧w.cell? ⟨p.1,3 * (y * p.2.w+x)+2,none⟩=some (.bool (p.2.at_ x y).said)∧∀ k,w.frozen? ⟨p.1,k,none⟩=false:=by
 obtain⟨v,Hl,rfl,hr⟩:=h
 have hb:Blk w p.1 184 (nodesV p.2.l).toArray:=m.sat.2 (levB p) (by
  refine List.mem_append_right _ (List.mem_cons_of_mem _ (List.mem_append_right _ ?_))
  exact List.mem_map.2 ⟨p,List.mem_of_getElem? hp,rfl⟩)
 have hl:y * p.2.w+x<p.2.l.length:=by rw[(hd.get hp).1];exact place_lt hx hy
 have hg:p.2.l[y * p.2.w+x]?=some (p.2.at_ x y):=by
  unfold LevM.at_
  rw[List.getD_eq_getElem?_getD,List.getElem?_eq_getElem hl]
  rfl
 obtain⟨k1,k2,k3⟩:=nodesV_get _ _ _ hg
 refine⟨?_,?_,?_,fun k=>hb.frozen k⟩
 ·rw[hb.cell];simpa using k1
 ·rw[hb.cell];simpa using k2
 ·rw[hb.cell];simpa using k3
theorem lev_cell {tb:Nat} {P:List LvG} {H R:List HB} {w w0:World} {H0:List HB} (h:TreeH tb P H) (m:Mv w0 H0 w (R++H)) (hd:PDims P) (hn:0<P.length) :
  ∃ g c,w.cell? ⟨tb,0,none⟩=some (.slice (some ⟨g,0,none⟩) P.length c)∧∀ i p,P[i]?=some p→w.cell? ⟨g,i * 3,none⟩=some (.int .i64 (p.2.w:Int))∧w.cell? ⟨g,i * 3+1,none⟩=some (.int .i64 (p.2.h:Int))∧w.cell? ⟨g,i * 3+2,none⟩=some (.slice (some ⟨p.1,0,none⟩) (p.2.w * p.2.h) (p.2.w * p.2.h)):=by
 obtain⟨v,Hl,rfl,hr⟩:=h
 obtain⟨va,vc,rfl⟩:=hr.slice
 have s1:=m.sat.right (A:=R)
 obtain⟨g,rfl,hc,-⟩:=hr.get (s1.right (A:=[_])).left hn
 refine⟨g,vc,(s1.at_ 0 rfl).cell 0,fun i p hp=>?_⟩
 obtain⟨l1,l2,l3⟩:=levsV_get P i p hp
 have hi:=(List.getElem?_eq_some_iff.1 hp).1
 have e1:=hc (3 * i) (by omega)
 have e2:=hc (3 * i+1) (by omega)
 have e3:=hc (3 * i+2) (by omega)
 rw[l1,Nat.mul_comm 3 i] at e1
 rw[l2,Nat.mul_comm 3 i] at e2
 rw[l3,(hd.get hp).1,Nat.mul_comm 3 i] at e3
 exact⟨e1,e2,e3⟩
theorem least_any (tb:Nat) (P:List LvG) (i:Nat) (p:LvG) (x y:Nat) (W:World) (H:List HB) (h:TreeH tb P H) (hs:Sat W H) (hd:PDims P) (hp:P[i]?=some p) (hl:P.length≤20) (hx:2 * x<p.2.w) (hy:2 * y<p.2.h) :
  Calls Tryz.prog 107 #[.pointer (some ⟨tb,0,none⟩),.int .i64 ((i:Int)+1),.int .i64 (x:Int),.int .i64 (y:Int)] W fun e W'=>e=.returned (.int .i64 (leastM p.2 x y))∧Mv W H W' H:=by
 have hi:i<P.length:=(List.getElem?_eq_some_iff.1 hp).1
 obtain⟨g,c,c0,hc⟩:=lev_cell (R:=[]) h (Mv.refl hs) hd (by omega)
 obtain⟨e1,e2,e3⟩:=hc i p hp
 have hii:(i:Int)<(P.length:Int):=by omega
 have hi20:i≤20:=by omega
 have q:=hd.get hp
 have hx64:2 * x<64:=by omega
 have hy64:2 * y<64:=by omega
 have K:=Lib.hid (And.intro h (And.intro hs (And.intro hd (And.intro hp q))))
 have GA:=Lib.hid fun (a b:Nat) (V:World) (ha:a<p.2.w) (hb:b<p.2.h)=>grid_at p.2.w p.2.h p.1 (p.2.w * p.2.h) (p.2.w * p.2.h) a b V (place_lt ha hb) (by omega) (by omega) (by omega) (by have:=Nat.mul_le_mul q.2.2.1 q.2.2.2.2;omega)
 have NC:=Lib.hid fun (w:World) (R:List HB) (m:Mv W H w (R++H)) (a b:Nat) (ha:a<p.2.w) (hb:b<p.2.h)=>node_cell h m hd hp ha hb
 have KX:=Lib.hid (And.intro hx hy)
 clear h hs hd hc q
 rw[show leastM p.2 x y=leastO p.2 x y 2 from rfl]
 go_enter Tryz.func107,Tryz.ntmps107
 go_upto_region 2 with fail
 have M1:=(Mv.refl K.out.2.1).alloc 181 #[.int .i64 (p.2.w:Int),.int .i64 (p.2.h:Int),.slice (some ⟨p.1,0,none⟩) (p.2.w * p.2.h) (p.2.w * p.2.h)]
 obtain⟨w1,hw1⟩:∃ w1,w1=W.alloc (.cells #[.int .i64 (p.2.w:Int),.int .i64 (p.2.h:Int),.slice (some ⟨p.1,0,none⟩) (p.2.w * p.2.h) (p.2.w * p.2.h)] 181):=⟨_,rfl⟩
 rw[← hw1] at M1
 simp only[← hw1]
 have BX:Hid (∀ w,Mv W H w (⟨W.heap.size,181,#[.int .i64 (p.2.w:Int),.int .i64 (p.2.h:Int),.slice (some ⟨p.1,0,none⟩) (p.2.w * p.2.h) (p.2.w * p.2.h)]⟩::H)→w.cell? ⟨W.heap.size,0,none⟩=some (.int .i64 (p.2.w:Int))∧w.cell? ⟨W.heap.size,1,none⟩=some (.int .i64 (p.2.h:Int))∧w.cell? ⟨W.heap.size,2,none⟩=some (.slice (some ⟨p.1,0,none⟩) (p.2.w * p.2.h) (p.2.w * p.2.h))):=Lib.hid fun w m=>⟨m.cell 0 rfl 0,m.cell 0 rfl 1,m.cell 0 rfl 2⟩
 have FX:Hid (∀ wa w2 a b,a<p.2.w→b<p.2.h→Mv W H wa (⟨W.heap.size,181,#[.int .i64 (p.2.w:Int),.int .i64 (p.2.h:Int),.slice (some ⟨p.1,0,none⟩) (p.2.w * p.2.h) (p.2.w * p.2.h)]⟩::H)→Mv wa [] w2 []→Mv W H w2 (⟨W.heap.size,181,#[.int .i64 (p.2.w:Int),.int .i64 (p.2.h:Int),.slice (some ⟨p.1,0,none⟩) (p.2.w * p.2.h) (p.2.w * p.2.h)]⟩::H)∧w2.cell? ⟨p.1,3 * (b * p.2.w+a),none⟩=some (.int .i64 (p.2.at_ a b).n)):=Lib.hid (by
  intro wa w2 a b ha hb m m2
  have m3:=Mv.call (H:=[]) (H':=[]) m m2
  exact⟨m3,(NC.out w2 [_] m3 a b ha hb).1⟩)
 have KM:=Lib.hid M1
 have G1:=fun V=>GA.out (2 * x) (2 * y) V KX.out.1 KX.out.2
 simp only[Int.natCast_mul,Int.cast_ofNat_Int] at G1
 have G1:=Lib.hid G1
 have Z0:=Lib.hid (show leastO p.2 x y 0=(p.2.at_ (2 * x) (2 * y)).n from rfl)
 obtain⟨b0,b1,b2⟩:=BX.out w1 M1
 clear hw1 M1 c0 e1 e2 e3 NC
 go_upto_region 3 with (go_at_call 108;with_reducible refine(G1.out _).mono ?_;rintro e w2 ⟨rfl,m2⟩;obtain⟨m3,y1⟩:=FX.out w1 w2 (2 * x) (2 * y) KX.out.1 KX.out.2 KM.out m2;have K2:=Lib.hid m3;clear m2 m3)
 go_wp2_with fail
 go_loopg [10,11,12,30,33] 2 (fun m s10 _ _ s30 _ wx=>∃ j:Nat,j≤2∧m=2 - j∧s30=.int .i64 (j:Int)∧s10=.int .i64 (leastO p.2 x y j)∧Mv W H wx (⟨W.heap.size,181,#[.int .i64 (p.2.w:Int),.int .i64 (p.2.h:Int),.slice (some ⟨p.1,0,none⟩) (p.2.w * p.2.h) (p.2.w * p.2.h)]⟩::H))
 case atStart=>exact⟨0,by omega,rfl,rfl,by rw[Z0.out],K2.out⟩
 case round =>
  obtain⟨wa,rfl⟩:∃ wa:World,wa=wr:=⟨_,rfl⟩
  obtain⟨j,hj,rfl,rfl,rfl,ma⟩:=hrel
  have KA:=Lib.hid ma
  clear ma y1 b0 b1 b2
  by_cases hlt:j<2
  ·have d1:decide ((j:Int)<2)=true:=by simp;omega
   have ES:=Lib.hid (leastO_step p.2 x y j hlt)
   obtain⟨z,hz⟩:∃ z,leastO p.2 x y j=z:=⟨_,rfl⟩
   rw[hz] at ES ⊢
   clear hz
   go_wp2_with fail
   go_loopg [10,12,33] 2 (fun m s10 _ s33 wx=>∃ i':Nat,i'≤2∧m=2 - i'∧s33=.int .i64 (i':Int)∧s10=.int .i64 (leastI p.2 x y j z i')∧Mv W H wx (⟨W.heap.size,181,#[.int .i64 (p.2.w:Int),.int .i64 (p.2.h:Int),.slice (some ⟨p.1,0,none⟩) (p.2.w * p.2.h) (p.2.w * p.2.h)]⟩::H))
   case atStart=>exact⟨0,by omega,rfl,rfl,rfl,KA.out⟩
   case round =>
    obtain⟨wb,rfl⟩:∃ wb:World,wb=wr:=⟨_,rfl⟩
    obtain⟨i',hi',rfl,rfl,rfl,mb⟩:=hrel
    obtain⟨b0,b1,b2⟩:=BX.out wb mb
    have KB:=Lib.hid mb
    clear mb
    by_cases hlt':i'<2
    ·have d2:decide ((i':Int)<2)=true:=by simp;omega
     have EI:=Lib.hid (leastI_step p.2 x y j z i' hlt')
     obtain⟨z',hz'⟩:∃ z',leastI p.2 x y j z i'=z':=⟨_,rfl⟩
     rw[hz'] at EI ⊢
     clear hz'
     by_cases hin:2 * x+i'<p.2.w∧2 * y+j<p.2.h
     ·have t1:2 * (x:Int)+(i':Int)<(p.2.w:Int):=by omega
      have t2:2 * (y:Int)+(j:Int)<(p.2.h:Int):=by omega
      have E2:Hid (leastI p.2 x y j z (i'+1)=min z' (p.2.at_ (2 * x+i') (2 * y+j)).n):=Lib.hid (by rw[EI.out];unfold leastStep;rw[if_pos hin])
      have G2:=fun V=>GA.out (2 * x+i') (2 * y+j) V hin.1 hin.2
      have F2:=Lib.hid fun w2=>FX.out wb w2 (2 * x+i') (2 * y+j) hin.1 hin.2 KB.out
      simp only[Int.natCast_add,Int.natCast_mul,Int.cast_ofNat_Int] at G2
      have G3:=Lib.hid G2
      obtain⟨nn,hnn⟩:∃ nn,(p.2.at_ (2 * x+i') (2 * y+j)).n=nn:=⟨_,rfl⟩
      rw[hnn] at E2 F2
      clear G2 hnn hin EI
      go_wp2_with (go_at_call 108;with_reducible refine(G3.out _).mono ?_;rintro e w2 ⟨rfl,m2⟩;obtain⟨m3,y1⟩:=F2.out w2 m2;have K2:=Lib.hid m3;clear m2 m3)
      all_goals
       go_roundg (2 - (i'+1))
       case measure=>omega
       case rel=>exact⟨i'+1,by omega,rfl,by go_num,by rw[E2.out];exact congrArg _ (by omega),K2.out⟩
     ·have E2:Hid (leastI p.2 x y j z (i'+1)=z'):=Lib.hid (by rw[EI.out];unfold leastStep;rw[if_neg hin])
      by_cases hin1:2 * x+i'<p.2.w
      ·have t1:2 * (x:Int)+(i':Int)<(p.2.w:Int):=by omega
       have t2:¬ 2 * (y:Int)+(j:Int)<(p.2.h:Int):=by omega
       clear hin EI hin1
       go_wp2_with fail
       go_roundg (2 - (i'+1))
       case measure=>omega
       case rel=>exact⟨i'+1,by omega,rfl,by go_num,by rw[E2.out],KB.out⟩
      ·have t1:¬ 2 * (x:Int)+(i':Int)<(p.2.w:Int):=by omega
       clear hin EI hin1
       go_wp2_with fail
       go_roundg (2 - (i'+1))
       case measure=>omega
       case rel=>exact⟨i'+1,by omega,rfl,by go_num,by rw[E2.out],KB.out⟩
    ·obtain rfl:i'=2:=by omega
     have d2:decide ((2:Int)<2)=false:=by decide
     rw[← ES.out]
     go_wp2_with fail
     go_roundg (2 - (j+1))
     case measure=>omega
     case rel=>exact⟨j+1,by omega,rfl,by go_num,rfl,KB.out⟩
  ·obtain rfl:j=2:=by omega
   have d1:decide ((2:Int)<2)=false:=by decide
   go_wp2_with fail
   go_ret
   exact⟨rfl,KA.out.drop1⟩
end
section
open Go.RowKit
def shapeL (L:LevM):Nat × Nat × Nat:=(L.w,L.h,L.l.length)
theorem Dims.congr {T U:List LevM} (h:Dims T) (e:U.map shapeL=T.map shapeL):Dims U:=by
 induction T generalizing U with
 | nil=>rw[List.map_nil,List.map_eq_nil_iff] at e;subst e;trivial
 | cons L T ih =>
  cases U with
  | nil=>simp at e
  | cons K U =>
   simp only[List.map_cons,List.cons.injEq] at e
   obtain⟨e1,e2⟩:=e
   simp only[shapeL,Prod.mk.injEq] at e1
   obtain⟨a1,a2,a3⟩:=e1
   cases T with
   | nil =>
    rw[List.map_nil,List.map_eq_nil_iff] at e2
    subst e2
    obtain⟨b1,b2,b3⟩:=h
    exact⟨a1.trans b1,a2.trans b2,by rw[a3,a1,a2];exact b3⟩
   | cons M T =>
    cases U with
    | nil=>simp at e2
    | cons N U =>
     obtain⟨b1,b2,b3,b4,b5,b6⟩:=h
     have e3:=e2
     simp only[List.map_cons,List.cons.injEq] at e3
     obtain⟨c1,-⟩:=e3
     simp only[shapeL,Prod.mk.injEq] at c1
     exact⟨by omega,by omega,by rw[a3,a1,a2];exact b3,by omega,by omega,ih b6 e2⟩
theorem PDims.congr {P Q:List LvG} (h:PDims P) (e:Q.map (fun p=>shapeL p.2)=P.map (fun p=>shapeL p.2)):PDims Q:=by
 refine⟨h.1.congr (by simpa [List.map_map,Function.comp_def] using e),fun q hq=>?_⟩
 have hm:shapeL q.2∈Q.map (fun p=>shapeL p.2):=List.mem_map.2 ⟨q,hq,rfl⟩
 rw[e] at hm
 obtain⟨p,hp,hs⟩:=List.mem_map.1 hm
 have:=h.2 p hp
 simp only[shapeL,Prod.mk.injEq] at hs
 omega
def LevM.set_ (L:LevM) (x y:Nat) (z:NodeM):LevM:={ L with l:=L.l.set (y * L.w+x) z }
theorem LevM.set_shape (L:LevM) (x y:Nat) (z:NodeM):shapeL (L.set_ x y z)=shapeL L:=by simp[shapeL,LevM.set_]
def LevM.setN (L:LevM) (x y:Nat) (n:Int):LevM:=L.set_ x y { L.at_ x y with n:=n }
theorem levsV_set (P:List LvG) (i:Nat) (p:LvG) (L:LevM) (hp:P[i]?=some p) (hs:shapeL L=shapeL p.2):levsV (P.set i (p.1,L))=levsV P:=by
 induction P generalizing i with
 | nil=>simp at hp
 | cons q P ih =>
  have e:∀ (a:LvG) (M:List LvG),levsV (a::M)=levV a++levsV M:=by intro a M;simp[levsV]
  cases i with
  | zero =>
   simp at hp
   subst hp
   simp only[shapeL,Prod.mk.injEq] at hs
   rw[List.set_cons_zero,e,e]
   simp[levV,hs.1,hs.2.1,hs.2.2]
  | succ i=>rw[List.set_cons_succ,e,e,ih i (by simpa using hp)]
theorem Mv.upd {w0 w w':World} {H0:List HB} {a b b':HB} {X Y Z:List HB} (h:Mv w0 H0 w (a::(X++(Y++b::Z)))) (m:Mv w [b] w' [b']):Mv w0 H0 w' (a::(X++(Y++b'::Z))):=by
 have h1:Mv w0 H0 w ([b]++(a::(X++(Y++Z)))) :=
  h.sub (fun g=>by simp only[cnt_append,cnt_cons,cnt_nil];omega) (fun c hc=>by simp only[List.mem_append,List.mem_cons,List.not_mem_nil,or_false] at hc ⊢;grind)
 have h2:=Mv.call h1 m
 exact h2.sub (fun g=>by simp only[cnt_append,cnt_cons,cnt_nil];omega) (fun c hc=>by simp only[List.mem_append,List.mem_cons,List.not_mem_nil,or_false] at hc ⊢;grind)
theorem tree_set {tb:Nat} {P:List LvG} {H:List HB} {w:World} (h:TreeH tb P H) (hs:Sat w H) {i:Nat} {p:LvG} (hp:P[i]?=some p) (L:LevM) (hL:shapeL L=shapeL p.2) (j:Nat) (v:Value) (hv:nodesV L.l=(nodesV p.2.l).set j v) :
  ∃ H',TreeH tb (P.set i (p.1,L)) H'∧Mv w H (w.setCell ⟨p.1,j,none⟩ v) H':=by
 obtain⟨va,Hl,rfl,hr⟩:=h
 have hi:=(List.getElem?_eq_some_iff.1 hp).1
 have e1:P=P.take i++p::P.drop (i+1):=by
  have:=List.getElem?_eq_some_iff.1 hp
  rw[← this.2]
  simp
 have e2:P.map levB=(P.take i).map levB++levB p::(P.drop (i+1)).map levB:=by
  conv=>lhs;rw[e1]
  simp
 have e3:(P.set i (p.1,L)).map levB=(P.take i).map levB++levB (p.1,L)::(P.drop (i+1)).map levB:=by
  rw[List.set_eq_take_append_cons_drop,if_pos hi]
  simp
 have m:=Mv.refl hs
 rw[e2] at hs m ⊢
 have hb:Blk w p.1 184 (nodesV p.2.l).toArray:=hs.2 (levB p) (by simp)
 have m2:=mv_set hb j v
 have e4:(nodesV p.2.l).toArray.setIfInBounds j v=(nodesV L.l).toArray:=by rw[hv];simp
 rw[e4] at m2
 refine⟨_,⟨va,Hl,rfl,by rw[List.length_set,levsV_set P i p L hp hL];exact hr⟩,?_⟩
 rw[e3]
 exact Mv.upd m m2
theorem nodes_setN (L:LevM) (x y:Nat) (n:Int) (hl:y * L.w+x<L.l.length):nodesV (L.setN x y n).l=(nodesV L.l).set (3 * (y * L.w+x)) (.int .i64 n):=by
 have hg:L.l[y * L.w+x]?=some (L.at_ x y):=by
  unfold LevM.at_
  rw[List.getD_eq_getElem?_getD,List.getElem?_eq_getElem hl]
  rfl
 have h:=nodesV_set L.l _ _ hg { L.at_ x y with n:=n }
 obtain⟨k1,k2,k3⟩:=nodesV_get _ _ _ hg
 show nodesV (L.l.set _ _)=_
 rw[h]
 simp only
 apply List.ext_getElem?
 intro q
 simp only[List.getElem?_set,List.length_set,nodesV_length]
 by_cases e2:3 * (y * L.w+x)+2=q
 ·subst e2
  rw[if_pos rfl,if_pos (by omega),if_neg (by omega),k3]
 ·rw[if_neg e2]
  by_cases e1:3 * (y * L.w+x)+1=q
  ·subst e1
   rw[if_pos rfl,if_pos (by omega),if_neg (by omega),k2]
  ·rw[if_neg e1]
def setUpP:LevM→List LvG→Nat→Nat→List LvG
 | _,[],_,_=>[]
 | B,p::R,x,y=>(p.1,p.2.setN (x / 2) (y / 2) (leastM B (x / 2) (y / 2)))::setUpP (p.2.setN (x / 2) (y / 2) (leastM B (x / 2) (y / 2))) R (x / 2) (y / 2)
def setP (P:List LvG) (x y:Nat) (n:Int):List LvG :=
 match P with
 | []=>[]
 | p::R=>(p.1,p.2.setN x y n)::setUpP (p.2.setN x y n) R x y
theorem setUpP_get (B:LevM) (R:List LvG) (x y i:Nat) (p:LvG) (h:R[i]?=some p) :
  ∃ B',((i=0∧B'=B)∨(0<i∧∃ g,(setUpP B R x y)[i - 1]?=some (g,B')))∧(setUpP B R x y)[i]?=some (p.1,p.2.setN (x / 2 ^ (i+1)) (y / 2 ^ (i+1)) (leastM B' (x / 2 ^ (i+1)) (y / 2 ^ (i+1)))):=by
 induction R generalizing B x y i with
 | nil=>simp at h
 | cons q R ih =>
  cases i with
  | zero=>simp at h;subst h;exact⟨B,.inl ⟨rfl,rfl⟩,by simp[setUpP]⟩
  | succ i =>
   obtain⟨B',h1,h2⟩:=ih (q.2.setN (x / 2) (y / 2) (leastM B (x / 2) (y / 2))) (x / 2) (y / 2) i (by simpa using h)
   refine⟨B',.inr ⟨by omega,?_⟩,?_⟩
   ·rcases h1 with ⟨rfl,rfl⟩ | ⟨h0,g,hg⟩
    ·exact⟨q.1,by simp[setUpP]⟩
    ·refine⟨g,?_⟩
     rw[Nat.add_sub_cancel]
     obtain⟨k,rfl⟩:∃ k,i=k+1:=⟨i - 1,by omega⟩
     simpa [setUpP] using hg
   ·have e:∀ z:Nat,z / 2 / 2 ^ (i+1)=z / 2 ^ (i+1+1):=fun z=>by rw[Nat.div_div_eq_div_mul,Nat.pow_succ 2 (i+1),Nat.mul_comm (2 ^ (i+1)) 2]
    rw[e,e] at h2
    simpa [setUpP] using h2
theorem setUpP_shape (B:LevM) (R:List LvG) (x y:Nat):(setUpP B R x y).map (fun p=>shapeL p.2)=R.map (fun p=>shapeL p.2)∧(setUpP B R x y).map (·.1)=R.map (·.1):=by
 induction R generalizing B x y with
 | nil=>exact⟨rfl,rfl⟩
 | cons q R ih =>
  obtain⟨h1,h2⟩:=ih (q.2.setN (x / 2) (y / 2) (leastM B (x / 2) (y / 2))) (x / 2) (y / 2)
  simp only[setUpP,List.map_cons,h1,h2,List.cons.injEq,and_true]
  exact LevM.set_shape _ _ _ _
theorem setP_shape (P:List LvG) (x y:Nat) (n:Int):(setP P x y n).map (fun p=>shapeL p.2)=P.map (fun p=>shapeL p.2)∧(setP P x y n).map (·.1)=P.map (·.1):=by
 cases P with
 | nil=>exact⟨rfl,rfl⟩
 | cons q R =>
  obtain⟨h1,h2⟩:=setUpP_shape (q.2.setN x y n) R x y
  simp only[setP,List.map_cons,h1,h2,List.cons.injEq,and_true]
  exact LevM.set_shape _ _ _ _
theorem setP_length (P:List LvG) (x y:Nat) (n:Int):(setP P x y n).length=P.length:=by
 have:=congrArg List.length (setP_shape P x y n).2
 simpa using this
theorem setP_get (P:List LvG) (x y:Nat) (n:Int) (i:Nat) (p:LvG) (h:P[i+1]?=some p) :
  ∃ g B,(setP P x y n)[i]?=some (g,B)∧(setP P x y n)[i+1]?=some (p.1,p.2.setN (x / 2 ^ (i+1)) (y / 2 ^ (i+1)) (leastM B (x / 2 ^ (i+1)) (y / 2 ^ (i+1)))):=by
 cases P with
 | nil=>simp at h
 | cons q R =>
  obtain⟨B',h1,h2⟩:=setUpP_get (q.2.setN x y n) R x y i p (by simpa using h)
  rcases h1 with ⟨rfl,rfl⟩ | ⟨h0,g,hg⟩
  ·exact⟨q.1,q.2.setN x y n,by simp[setP],by simpa [setP] using h2⟩
  ·obtain⟨k,rfl⟩:∃ k,i=k+1:=⟨i - 1,by omega⟩
   exact⟨g,B',by simpa [setP] using hg,by simpa [setP] using h2⟩
end
section
open Go.RowKit
def midT (P Q:List LvG) (i:Nat):List LvG:=Q.take i++P.drop i
theorem midT_shape {P Q:List LvG} (h:Q.map (fun p=>shapeL p.2)=P.map (fun p=>shapeL p.2)) (i:Nat):(midT P Q i).map (fun p=>shapeL p.2)=P.map (fun p=>shapeL p.2):=by
 unfold midT
 rw[List.map_append,List.map_take,List.map_drop,h,List.take_append_drop]
theorem midT_length {P Q:List LvG} (h:Q.length=P.length) (i:Nat):(midT P Q i).length=P.length:=by
 unfold midT
 rw[List.length_append,List.length_take,List.length_drop,h]
 omega
theorem midT_get {P Q:List LvG} (h:Q.length=P.length) {i:Nat} (hi:i<P.length):(midT P Q i)[i]?=P[i]?:=by
 unfold midT
 rw[List.getElem?_append_right (by simp;omega),List.getElem?_drop]
 congr 1
 simp
 omega
theorem midT_below {P Q:List LvG} (h:Q.length=P.length) {i:Nat} (hi:i+1≤P.length):(midT P Q (i+1))[i]?=Q[i]?:=by
 unfold midT
 rw[List.getElem?_append_left (by simp;omega),List.getElem?_take,if_pos (by omega)]
theorem midT_step {P Q:List LvG} (h:Q.length=P.length) {i:Nat} {z:LvG} (hz:Q[i]?=some z):(midT P Q i).set i z=midT P Q (i+1):=by
 have hi:i<P.length:=by rw[← h];exact(List.getElem?_eq_some_iff.1 hz).1
 unfold midT
 rw[List.take_add_one,hz]
 rw[List.set_append_right _ _ (by simp;omega)]
 have e:i - (Q.take i).length=0:=by simp;omega
 have e2:(P.drop i).set 0 z=z::P.drop (i+1):=by rw[List.drop_eq_getElem_cons hi];rfl
 rw[e,e2]
 simp
theorem midT_all {P Q:List LvG} (h:Q.length=P.length):midT P Q P.length=Q:=by
 unfold midT
 rw[List.drop_length,List.append_nil,← h,List.take_length]
theorem midT_zero (P Q:List LvG):midT P Q 0=P:=by simp[midT]
theorem set_tree (tb:Nat) (P:List LvG) (k:Nat) (n:Int) (p0:LvG) (W:World) (H:List HB) (h:TreeH tb P H) (hs:Sat W H) (hl:P.length≤20) (hd:PDims P) (h0:P[0]?=some p0) (hk:k<p0.2.w * p0.2.h) :
  Calls Tryz.prog 69 #[.pointer (some ⟨tb,0,none⟩),.int .i64 (k:Int),.int .i64 n] W fun e W'=>e=.returned (.tuple #[])∧∃ H',TreeH tb (setP P (k % p0.2.w) (k / p0.2.w) n) H'∧Mv W H W' H':=by
 have WO:=Lib.hid (way_ok tb P k p0 W H h hs hl hd h0 hk)
 have hn:0<P.length:=(List.getElem?_eq_some_iff.1 h0).1
 have q:=hd.get h0
 have hx:k % p0.2.w<p0.2.w:=Nat.mod_lt _ (by omega)
 have hy:k / p0.2.w<p0.2.h:=Nat.div_lt_of_lt_mul hk
 have hmm:p0.2.w * p0.2.h≤4096:=Nat.mul_le_mul q.2.2.1 q.2.2.2.2
 have hkb:k≤4096:=Nat.le_of_lt (Nat.lt_of_lt_of_le hk hmm)
 have hkk:k / p0.2.w * p0.2.w+k % p0.2.w=k:=Nat.div_add_mod' k p0.2.w
 have hki:(k:Int)<((p0.2.w * p0.2.h:Nat):Int):=by omega
 have hki2:(k:Int)<(p0.2.w:Int) * (p0.2.h:Int):=by exact_mod_cast hk
 have d0:((P.length:Int) == 0)=false:=beq_eq_false_iff_ne.2 (by omega)
 have hn0:(0:Int)<(P.length:Int):=by omega
 have hw1:(p0.2.w:Int)≠0:=by omega
 have K:=Lib.hid (And.intro h (And.intro hs (And.intro hd (And.intro h0 (And.intro hx (And.intro hy hkk))))))
 have KQ:=Lib.hid (And.intro q h0)
 clear h hs hd q h0 hk hx hy hkk hmm
 go_enter Tryz.func69,Tryz.ntmps69
 go_upto_region 1 with (go_at_call 106;refine WO.out.mono ?_;rintro e w1 ⟨v1,H1,rfl,r1,m1⟩;obtain⟨a1,c1,rfl⟩:=r1.slice;have K1:=Lib.hid m1;clear r1 m1)
 obtain⟨lg,lc,c0,hc⟩:=lev_cell (R:=H1) K.out.1 K1.out K.out.2.2.1 hn
 obtain⟨e1,e2,e3⟩:=hc 0 p0 K.out.2.2.2.1
 simp only[Nat.zero_mul,Nat.zero_add] at e1 e2 e3
 clear hc WO
 go_upto_region 2 with fail
 have M2:=(Mv.drop (A:=H1) K1.out).alloc 181 #[.int .i64 (p0.2.w:Int),.int .i64 (p0.2.h:Int),.slice (some ⟨p0.1,0,none⟩) (p0.2.w * p0.2.h) (p0.2.w * p0.2.h)]
 obtain⟨bx,hbx⟩:∃ bx,bx=w1.heap.size:=⟨_,rfl⟩
 obtain⟨w2,hw2⟩:∃ w2,w2=w1.alloc (.cells #[.int .i64 (p0.2.w:Int),.int .i64 (p0.2.h:Int),.slice (some ⟨p0.1,0,none⟩) (p0.2.w * p0.2.h) (p0.2.w * p0.2.h)] 181):=⟨_,rfl⟩
 rw[← hw2,← hbx] at M2
 simp only[← hw2,← hbx]
 clear hw2 hbx c0 e1 e2 e3
 obtain⟨x,hxx⟩:∃ x,k % p0.2.w=x:=⟨_,rfl⟩
 obtain⟨y,hyy⟩:∃ y,k / p0.2.w=y:=⟨_,rfl⟩
 have hx64:x≤64:=by rw[← hxx];have:=K.out.2.2.2.2.1;have:=KQ.out.1;omega
 have hy64:y≤64:=by rw[← hyy];have:=K.out.2.2.2.2.2.1;have:=KQ.out.1;omega
 have hxi:(k:Int) % (p0.2.w:Int)=(x:Int):=by rw[← hxx];push_cast;rfl
 have hyi:(k:Int) / (p0.2.w:Int)=(y:Int):=by rw[← hyy];push_cast;rfl
 have N2:=node_cell (R:=[_]) K.out.1 M2 K.out.2.2.1 K.out.2.2.2.1 K.out.2.2.2.2.1 K.out.2.2.2.2.2.1
 rw[K.out.2.2.2.2.2.2,Nat.mul_comm 3 k] at N2
 have y1:=N2.1
 have f1:=N2.2.2.2 (k * 3)
 have b2:w2.cell? ⟨bx,2,none⟩=some (.slice (some ⟨p0.1,0,none⟩) (p0.2.w * p0.2.h) (p0.2.w * p0.2.h)):=M2.cell 0 rfl 2
 obtain⟨H3,t3,m3⟩:=tree_set K.out.1 (M2.sat.right (A:=[_])) K.out.2.2.2.1 (p0.2.setN (k % p0.2.w) (k / p0.2.w) n) (LevM.set_shape _ _ _ _) (k * 3) (.int .i64 n) (by
  rw[nodes_setN _ _ _ _ (by rw[KQ.out.1.1];exact place_lt K.out.2.2.2.2.1 K.out.2.2.2.2.2.1),K.out.2.2.2.2.2.2,Nat.mul_comm 3 k])
 have M3:=Mv.mv1 (A:=H3) (B:=[_]) (R:=[]) (Mv.call (Mv.mv1 (A:=[_]) (B:=H) (R:=[]) (by simpa using M2)) m3)
 have hQl:=setP_length P (k % p0.2.w) (k / p0.2.w) n
 have hQ0:(setP P (k % p0.2.w) (k / p0.2.w) n)[0]?=some (p0.1,p0.2.setN (k % p0.2.w) (k / p0.2.w) n):=by
  have h0:=KQ.out.2
  cases P with
  | nil=>cases h0
  | cons p R=>simp at h0;subst h0;rfl
 have t4:TreeH tb (midT P (setP P (k % p0.2.w) (k / p0.2.w) n) 1) H3:=by
  rw[← midT_step hQl hQ0,midT_zero]
  exact t3
 have hQs:=(setP_shape P (k % p0.2.w) (k / p0.2.w) n).1
 have hQg:=fun i p hp=>setP_get P (k % p0.2.w) (k / p0.2.w) n i p hp
 rw[hxx,hyy] at t4 hQl hQs hQg
 have KD:=Lib.hid (And.intro K.out.2.2.1 (And.intro hQl (And.intro hQs hQg)))
 have AT:=Lib.hid fun i p hp=>PDims.at_ (i:=i) (p:=p) K.out.2.2.1 K.out.2.2.2.1 K.out.2.2.2.2.1 K.out.2.2.2.2.2.1 hp
 rw[hxx,hyy] at AT
 rw[hxx,hyy] at K
 obtain⟨Q,hQ⟩:∃ Q,setP P x y n=Q:=⟨_,rfl⟩
 have HQ:=Lib.hid hQ
 rw[hQ] at KD t4
 have K3:=Lib.hid (And.intro t4 M3)
 clear t3 m3 M3 M2 N2 t4 hQl hQ0 hQs hQg hQ K1 K
 obtain⟨w3,hw3⟩:∃ w3,w3=w2.setCell ⟨p0.1,k * 3,none⟩ (.int .i64 n):=⟨_,rfl⟩
 rw[← hw3] at K3
 go_upto_region 3 with fail
 simp only[← hw3]
 clear hw3 y1 f1 b2
 have b0:w3.cell? ⟨bx,0,none⟩=some (.int .i64 (p0.2.w:Int)):=K3.out.2.cell 0 rfl 0
 go_quiet (fail)
 go_upto_region 4 with fail
 simp only[hxi]
 obtain⟨w4,hw4⟩:∃ w4,w4=w3.drewN nq:=⟨_,rfl⟩
 have K4:Hid (TreeH tb (midT P Q 1) H3∧Mv W H w4 ([⟨bx,181,#[.int .i64 (p0.2.w:Int),.int .i64 (p0.2.h:Int),.slice (some ⟨p0.1,0,none⟩) (p0.2.w * p0.2.h) (p0.2.w * p0.2.h)]⟩]++H3)):=Lib.hid ⟨K3.out.1,by rw[hw4];simpa using K3.out.2.drewN nq⟩
 simp only[← hw4]
 clear hw4 K3 b0 hxi hyi d0 hki hki2 hw1
 go_wp2_with fail
 go_loopg [7,8,9] P.length (fun m s7 s8 s9 wx=>∃ (i:Nat) (Hi:List HB),i+1≤P.length∧m=P.length - i∧s9=.int .i64 ((i:Int)+1)∧s7=.int .i64 ((x / 2 ^ i:Nat):Int)∧s8=.int .i64 ((y / 2 ^ i:Nat):Int)∧TreeH tb (midT P Q (i+1)) Hi∧Mv W H wx ([⟨bx,181,#[.int .i64 (p0.2.w:Int),.int .i64 (p0.2.h:Int),.slice (some ⟨p0.1,0,none⟩) (p0.2.w * p0.2.h) (p0.2.w * p0.2.h)]⟩]++Hi))
 case atStart=>exact⟨0,H3,by omega,rfl,rfl,by simp,by simp,K4.out.1,K4.out.2⟩
 case round =>
  obtain⟨wa,rfl⟩:∃ wa:World,wa=wr:=⟨_,rfl⟩
  obtain⟨i,Hi,hi,rfl,rfl,rfl,rfl,ti,mi⟩:=hrel
  obtain⟨hd,hQl,hQs,hQg⟩:=KD.out
  have hdT:PDims (midT P Q (i+1)):=hd.congr (midT_shape hQs _)
  have hTl:(midT P Q (i+1)).length=P.length:=midT_length hQl _
  obtain⟨lg,lc,c0,hc⟩:=lev_cell (R:=[_]) ti mi hdT (by omega)
  rw[hTl] at c0
  have KI:=Lib.hid (And.intro ti mi)
  by_cases hlt:i+1<P.length
  ·obtain⟨p,hp⟩:∃ p,P[i+1]?=some p:=⟨_,List.getElem?_eq_getElem hlt⟩
   have hTp:(midT P Q (i+1))[i+1]?=some p:=by rw[midT_get hQl hlt,hp]
   obtain⟨e1,e2,e3⟩:=hc (i+1) p hTp
   obtain⟨gB,B,hB,hz⟩:=hQg i p hp
   have hTB:(midT P Q (i+1))[i]?=some (gB,B):=by rw[midT_below hQl (by omega),hB]
   have qp:=hd.get hp
   have qB:B.w=(P[i]'(by omega)).2.w∧B.h=(P[i]'(by omega)).2.h:=by
    have e9:=congrArg (fun l=>l[i]?) hQs
    simp only[List.getElem?_map,hB,List.getElem?_eq_getElem (show i<P.length by omega),Option.map_some,Option.some.injEq,shapeL,Prod.mk.injEq] at e9
    exact⟨e9.1,e9.2.1⟩
   have a1:=AT.out i (P[i]'(by omega)) (List.getElem?_eq_getElem (by omega))
   have a2:=AT.out (i+1) p hp
   rw[← qB.1,← qB.2] at a1
   obtain⟨X,hX⟩:∃ X,x / 2 ^ i=X:=⟨_,rfl⟩
   obtain⟨Y,hY⟩:∃ Y,y / 2 ^ i=Y:=⟨_,rfl⟩
   have hX2:x / 2 ^ (i+1)=X / 2:=by rw[← hX,Nat.pow_succ,Nat.div_div_eq_div_mul]
   have hY2:y / 2 ^ (i+1)=Y / 2:=by rw[← hY,Nat.pow_succ,Nat.div_div_eq_div_mul]
   rw[hX,hY] at a1
   rw[hX2,hY2] at a2 hz
   simp only[hX,hY]
   have HXY:=Lib.hid (And.intro hX2 hY2)
   have LE0:=fun V H hV sV=>least_any tb (midT P Q (i+1)) i (gB,B) (X / 2) (Y / 2) V H hV sV hdT hTB (by omega) (by simp only;omega) (by simp only;omega)
   have GA0:=fun V=>grid_at p.2.w p.2.h p.1 (p.2.w * p.2.h) (p.2.w * p.2.h) (X / 2) (Y / 2) V (place_lt a2.1 a2.2) (by omega) (by omega) (by omega) (by have:=Nat.mul_le_mul qp.2.2.1 qp.2.2.2.2;omega)
   simp only[Int.natCast_ediv,Int.cast_ofNat_Int] at LE0 GA0
   have LE:=Lib.hid LE0
   have GA:=Lib.hid GA0
   clear LE0 GA0
   have hXb:X≤64:=by have:=Nat.div_le_self x (2 ^ i);omega
   have hYb:Y≤64:=by have:=Nat.div_le_self y (2 ^ i);omega
   have hii:(i:Int)+1<(P.length:Int):=by omega
   have hi20:i≤20:=by omega
   have KZ:=Lib.hid (And.intro hTp (And.intro hz (And.intro a2 qp)))
   have c0:=c0
   clear hd hQs hQg hdT hTl hc hp hTp hB hTB qp qB a1 a2 hX hY hX2 hY2 hz ti mi
   have FX:Hid (∀ w5,Mv wa [] w5 []→Mv W H w5 ([⟨bx,181,#[.int .i64 (p0.2.w:Int),.int .i64 (p0.2.h:Int),.slice (some ⟨p0.1,0,none⟩) (p0.2.w * p0.2.h) (p0.2.w * p0.2.h)]⟩]++Hi)):=Lib.hid fun w5 m=>Mv.call (H:=[]) (H':=[]) KI.out.2 m
   have FY:Hid (∀ w5 w6,Mv W H w5 ([⟨bx,181,#[.int .i64 (p0.2.w:Int),.int .i64 (p0.2.h:Int),.slice (some ⟨p0.1,0,none⟩) (p0.2.w * p0.2.h) (p0.2.w * p0.2.h)]⟩]++Hi)→Mv w5 Hi w6 Hi→Mv W H w6 ([⟨bx,181,#[.int .i64 (p0.2.w:Int),.int .i64 (p0.2.h:Int),.slice (some ⟨p0.1,0,none⟩) (p0.2.w * p0.2.h) (p0.2.w * p0.2.h)]⟩]++Hi)∧w6.cell? ⟨p.1,3 * (Y / 2 * p.2.w+X / 2),none⟩=some (.int .i64 (p.2.at_ (X / 2) (Y / 2)).n)∧w6.frozen? ⟨p.1,3 * (Y / 2 * p.2.w+X / 2),none⟩=false):=Lib.hid (by
    intro w5 w6 m m6
    have M6:=Mv.mv1 (A:=Hi) (B:=[_]) (R:=[]) (Mv.call (Mv.mv1 (A:=[_]) (B:=Hi) (R:=[]) (by simpa using m)) m6)
    rw[List.append_nil] at M6
    have N6:=node_cell (R:=[_]) KI.out.1 M6 (KD.out.1.congr (midT_shape KD.out.2.2.1 _)) KZ.out.1 KZ.out.2.2.1.1 KZ.out.2.2.1.2
    exact⟨M6,N6.1,N6.2.2.2 _⟩)
   go_upto_region 8 with fail
   go_wp2_with (first | (go_at_call 108;with_reducible refine(GA.out _).mono ?_;rintro e w5 ⟨rfl,m5⟩;have K5:=Lib.hid (FX.out w5 m5);clear m5) | (go_at_call 107;with_reducible refine(LE.out _ Hi KI.out.1 (K5.out.sat.right)).mono ?_;rintro e w6 ⟨rfl,m6⟩;obtain⟨m7,y1,f1⟩:=FY.out w5 w6 K5.out m6;have K6:=Lib.hid m7;clear m6 m7))
   obtain⟨H7,t7,m7⟩:=tree_set KI.out.1 (K6.out.sat.right) KZ.out.1 (p.2.setN (X / 2) (Y / 2) (leastM B (X / 2) (Y / 2))) (LevM.set_shape _ _ _ _) (3 * (Y / 2 * p.2.w+X / 2)) (.int .i64 (leastM B (X / 2) (Y / 2))) (nodes_setN _ _ _ _ (by rw[KZ.out.2.2.2.1];exact place_lt KZ.out.2.2.1.1 KZ.out.2.2.1.2))
   rw[midT_step KD.out.2.1 KZ.out.2.1] at t7
   have M7:=Mv.mv1 (A:=H7) (B:=[_]) (R:=[]) (Mv.call (Mv.mv1 (A:=[_]) (B:=Hi) (R:=[]) (by simpa using K6.out)) m7)
   rw[List.append_nil] at M7
   have K7:=Lib.hid (And.intro t7 M7)
   clear t7 m7 M7 y1 f1
   go_roundg (P.length - (i+1))
   case measure=>omega
   case rel =>
    refine⟨i+1,H7,by omega,rfl,by go_num,?_,?_,K7.out.1,K7.out.2⟩
    ·rw[HXY.out.1];push_cast;rfl
    ·rw[HXY.out.2];push_cast;rfl
  ·have hie:i+1=P.length:=by omega
   have hie2:(i:Int)+1=(P.length:Int):=by omega
   rw[hie,midT_all hQl] at ti
   have KE:=Lib.hid (And.intro ti mi)
   have d9:¬ (i:Int)+1<(P.length:Int):=by omega
   have KH:=Lib.hid hie2
   clear ti mi hd hQl hQs hQg hdT hTl hc hie hie2 KI
   go_wp2_with fail
   go_end0
   rw[HQ.out]
   exact⟨rfl,Hi,KE.out.1,Mv.drop (A:=[_]) KE.out.2⟩
end
section
open Go.RowKit
def encL:Nat→NodeM→Int→NodeM × List Bool
 | 0,x,_=>(x,[])
 | f+1,x,b=>if x.low<b∧x.said=false then (if x.n≤x.low then ({ x with said:=true },[true]) else ((encL f { x with low:=x.low+1,said:=false } b).1,false::(encL f { x with low:=x.low+1,said:=false } b).2)) else (x,[])
def encNode (x:NodeM) (low b:Int):NodeM × List Bool:=encL (b - max x.low low).toNat { x with low:=max x.low low } b
structure EncR where
 t:List LvG
 low:Int
 bs:List Bool
def encP:List LvG→Nat→Nat→Int→EncR
 | [],_,_,_=>⟨[],0,[]⟩
 | p::R,x,y,b =>
  let r:=encP R (x / 2) (y / 2) b
  let e:=encNode (p.2.at_ x y) r.low b
  ⟨(p.1,p.2.set_ x y e.1)::r.t,e.1.low,r.bs++e.2⟩
theorem LevM.set_set (L:LevM) (x y:Nat) (a b:NodeM):(L.set_ x y a).set_ x y b=L.set_ x y b:=by simp[LevM.set_]
theorem LevM.at_set (L:LevM) (x y:Nat) (a:NodeM) (h:y * L.w+x<L.l.length):(L.set_ x y a).at_ x y=a:=by
 unfold LevM.at_ LevM.set_
 simp only
 rw[List.getD_eq_getElem?_getD,List.getElem?_set,if_pos rfl,if_pos h]
 rfl
theorem LevM.set_at (L:LevM) (x y:Nat) (h:y * L.w+x<L.l.length):L.set_ x y (L.at_ x y)=L:=by
 have hg:L.l[y * L.w+x]?=some (L.at_ x y):=by
  unfold LevM.at_
  rw[List.getD_eq_getElem?_getD,List.getElem?_eq_getElem h]
  rfl
 have:L.l.set (y * L.w+x) (L.at_ x y)=L.l:=by
  obtain⟨h1,h2⟩:=List.getElem?_eq_some_iff.1 hg
  rw[← h2]
  exact List.set_getElem_self h1
 unfold LevM.set_
 rw[this]
theorem encP_shape (P:List LvG) (x y:Nat) (b:Int):(encP P x y b).t.map (fun p=>shapeL p.2)=P.map (fun p=>shapeL p.2)∧(encP P x y b).t.map (·.1)=P.map (·.1):=by
 induction P generalizing x y with
 | nil=>exact⟨rfl,rfl⟩
 | cons q R ih =>
  obtain⟨h1,h2⟩:=ih (x / 2) (y / 2)
  simp only[encP,List.map_cons,h1,h2,List.cons.injEq,and_true]
  exact LevM.set_shape _ _ _ _
theorem nodes_setZ (L:LevM) (x y:Nat) (z:NodeM) (hl:y * L.w+x<L.l.length) (f:Nat) (v:Value) (hv:(f=1∧z={ L.at_ x y with low:=z.low }∧v=.int .i64 z.low)∨(f=2∧z={ L.at_ x y with said:=z.said }∧v=.bool z.said)) :
  nodesV (L.set_ x y z).l=(nodesV L.l).set (3 * (y * L.w+x)+f) v:=by
 have hg:L.l[y * L.w+x]?=some (L.at_ x y):=by
  unfold LevM.at_
  rw[List.getD_eq_getElem?_getD,List.getElem?_eq_getElem hl]
  rfl
 have h:=nodesV_set L.l _ _ hg z
 obtain⟨k1,k2,k3⟩:=nodesV_get _ _ _ hg
 show nodesV (L.l.set _ _)=_
 rw[h]
 generalize L.at_ x y=a at *
 generalize y * L.w+x=k at *
 apply List.ext_getElem?
 intro q
 simp only[List.getElem?_set,List.length_set,nodesV_length]
 rcases hv with ⟨rfl,hz,rfl⟩ | ⟨rfl,hz,rfl⟩
 ·have z1:z.n=a.n:=by rw[hz]
  have z3:z.said=a.said:=by rw[hz]
  by_cases e2:3 * k+2=q
  ·subst e2
   rw[if_pos rfl,if_pos (by omega),if_neg (by omega),k3,z3]
  ·rw[if_neg e2]
   by_cases e1:3 * k+1=q
   ·subst e1
    rw[if_pos rfl,if_pos rfl]
   ·rw[if_neg e1,if_neg e1]
    by_cases e0:3 * k=q
    ·subst e0
     rw[if_pos rfl,if_pos (by omega),k1,z1]
    ·rw[if_neg e0]
 ·have z1:z.n=a.n:=by rw[hz]
  have z2:z.low=a.low:=by rw[hz]
  by_cases e2:3 * k+2=q
  ·subst e2
   rw[if_pos rfl,if_pos rfl]
  ·rw[if_neg e2,if_neg e2]
   by_cases e1:3 * k+1=q
   ·subst e1
    rw[if_pos rfl,if_pos (by omega),k2,z2]
   ·rw[if_neg e1]
    by_cases e0:3 * k=q
    ·subst e0
     rw[if_pos rfl,if_pos (by omega),k1,z1]
    ·rw[if_neg e0]
theorem node_cellS {tb:Nat} {P:List LvG} {H:List HB} {w:World} (h:TreeH tb P H) (hs:Sat w H) (hd:PDims P) {i:Nat} {p:LvG} (hp:P[i]?=some p) {x y:Nat} (hx:x<p.2.w) (hy:y<p.2.h) :
  w.cell? ⟨p.1,3 * (y * p.2.w+x),none⟩=some (.int .i64 (p.2.at_ x y).n)∧w.cell? ⟨p.1,3 * (y * p.2.w+x)+1,none⟩=some (.int .i64 (p.2.at_ x y).low)∧w.cell? ⟨p.1,3 * (y * p.2.w+x)+2,none⟩=some (.bool (p.2.at_ x y).said)∧∀ k,w.frozen? ⟨p.1,k,none⟩=false :=
 node_cell (R:=[]) h (Mv.refl hs) hd hp hx hy
theorem tree_setZ {tb:Nat} {P:List LvG} {H:List HB} {w:World} (h:TreeH tb P H) (hs:Sat w H) (hd:PDims P) {i:Nat} {p:LvG} (hp:P[i]?=some p) {x y:Nat} (hx:x<p.2.w) (hy:y<p.2.h) (z:NodeM) (f:Nat) (v:Value)
  (hv:(f=1∧z={ p.2.at_ x y with low:=z.low }∧v=.int .i64 z.low)∨(f=2∧z={ p.2.at_ x y with said:=z.said }∧v=.bool z.said)) :
  ∃ H',TreeH tb (P.set i (p.1,p.2.set_ x y z)) H'∧Mv w H (w.setCell ⟨p.1,3 * (y * p.2.w+x)+f,none⟩ v) H' :=
 tree_set h hs hp _ (LevM.set_shape _ _ _ _) _ v (nodes_setZ _ _ _ _ (by rw[(hd.get hp).1];exact place_lt hx hy) f v hv)
end
section
open Go.RowKit
def Sta (w0:World) (H0:List HB) (w:World) (tb wb:Nat) (T:List LvG) (m:Nat) (p:LvG) (X Y:Nat) (z:NodeM) (bs:List Bool) (Hn:List HB):Prop :=
 ∃ HT HW,TreeH tb (T.set m (p.1,p.2.set_ X Y z)) HT∧WrB wb bs HW∧Mv w0 H0 w (HW++(HT++Hn))
section
variable {w0 w:World} {H0:List HB} {tb wb:Nat} {T:List LvG} {m:Nat} {p:LvG} {X Y:Nat} {z:NodeM} {bs:List Bool} {Hn:List HB}
theorem setT_shape (hp:T[m]?=some p) (z:NodeM):(T.set m (p.1,p.2.set_ X Y z)).map (fun p=>shapeL p.2)=T.map (fun p=>shapeL p.2):=by
 rw[List.map_set]
 have hm:=(List.getElem?_eq_some_iff.1 hp).1
 obtain⟨h1,h2⟩:=List.getElem?_eq_some_iff.1 hp
 rw[show shapeL (p.1,p.2.set_ X Y z).2=(T.map (fun p=>shapeL p.2))[m]'(by simpa using h1) from by simp[h2,LevM.set_shape]]
 exact List.set_getElem_self _
theorem Sta.cells (h:Sta w0 H0 w tb wb T m p X Y z bs Hn) (hd:PDims T) (hp:T[m]?=some p) (hx:X<p.2.w) (hy:Y<p.2.h) :
  w.cell? ⟨p.1,3 * (Y * p.2.w+X),none⟩=some (.int .i64 z.n)∧w.cell? ⟨p.1,3 * (Y * p.2.w+X)+1,none⟩=some (.int .i64 z.low)∧w.cell? ⟨p.1,3 * (Y * p.2.w+X)+2,none⟩=some (.bool z.said)∧∀ k,w.frozen? ⟨p.1,k,none⟩=false:=by
 obtain⟨HT,HW,h1,h2,h3⟩:=h
 have hm:=(List.getElem?_eq_some_iff.1 hp).1
 have:=node_cellS h1 h3.sat.right.left (hd.congr (setT_shape hp z)) (i:=m) (p:=(p.1,p.2.set_ X Y z)) (by rw[List.getElem?_set,if_pos rfl,if_pos hm]) (x:=X) (y:=Y) hx hy
 rw[LevM.at_set _ _ _ _ (by rw[(hd.get hp).1];exact place_lt hx hy)] at this
 exact this
theorem Sta.set (h:Sta w0 H0 w tb wb T m p X Y z bs Hn) (hd:PDims T) (hp:T[m]?=some p) (hx:X<p.2.w) (hy:Y<p.2.h) (z':NodeM) (f:Nat) (v:Value)
  (hv:(f=1∧z'={ z with low:=z'.low }∧v=.int .i64 z'.low)∨(f=2∧z'={ z with said:=z'.said }∧v=.bool z'.said)) :
  Sta w0 H0 (w.setCell ⟨p.1,3 * (Y * p.2.w+X)+f,none⟩ v) tb wb T m p X Y z' bs Hn:=by
 obtain⟨HT,HW,h1,h2,h3⟩:=h
 have hm:=(List.getElem?_eq_some_iff.1 hp).1
 have ha:=LevM.at_set p.2 X Y z (by rw[(hd.get hp).1];exact place_lt hx hy)
 obtain⟨HT',k1,k2⟩:=tree_setZ h1 h3.sat.right.left (hd.congr (setT_shape hp z)) (i:=m) (p:=(p.1,p.2.set_ X Y z)) (by rw[List.getElem?_set,if_pos rfl,if_pos hm]) (x:=X) (y:=Y) hx hy z' f v (by rw[ha];exact hv)
 rw[List.set_set,LevM.set_set] at k1
 exact⟨HT',HW,k1,h2,Mv.mv1 (A:=HT') (B:=HW) (R:=Hn) (Mv.call (Mv.mv1 (A:=HW) (B:=HT) (R:=Hn) h3) k2)⟩
theorem Sta.bit (h:Sta w0 H0 w tb wb T m p X Y z bs Hn) (b:Int) (hl:bs.length≤80000000) :
  Calls Tryz.prog 71 #[.pointer (some ⟨wb,0,none⟩),.int .i64 b] w fun e w'=>e=.returned (.tuple #[])∧Sta w0 H0 w' tb wb T m p X Y z (bs++[decide (b % 2=1)]) Hn:=by
 obtain⟨HT,HW,h1,h2,h3⟩:=h
 refine(bit_any wb bs b w HW h2 h3.sat.left hl).mono ?_
 rintro e w' ⟨rfl,HW',k1,k2⟩
 exact⟨rfl,HT,HW',h1,k1,Mv.call h3 k2⟩
theorem Sta.drew (h:Sta w0 H0 w tb wb T m p X Y z bs Hn):Sta w0 H0 w.drew tb wb T m p X Y z bs Hn:=by
 obtain⟨HT,HW,h1,h2,h3⟩:=h
 exact⟨HT,HW,h1,h2,h3.drew⟩
end
theorem encL_inv:∀ (f:Nat) (x:NodeM) (b:Int),(encL f x b).2.length≤f∧x.low≤(encL f x b).1.low
 | 0,x,b=>⟨by simp[encL],Int.le_refl _⟩
 | f+1,x,b=>by
  unfold encL
  split
  ·split
   ·exact⟨by simp,Int.le_refl _⟩
   ·obtain⟨h1,h2⟩:=encL_inv f { x with low:=x.low+1,said:=false } b
    refine⟨by simp only[List.length_cons];omega,?_⟩
    simp only at h2 ⊢
    omega
  ·exact⟨by simp,Int.le_refl _⟩
theorem encP_inv (P:List LvG) (x y:Nat) (b:Int):0≤(encP P x y b).low∧(encP P x y b).bs.length≤P.length * b.toNat:=by
 induction P generalizing x y with
 | nil=>exact⟨Int.le_refl _,by simp[encP]⟩
 | cons q R ih =>
  obtain⟨h1,h2⟩:=ih (x / 2) (y / 2)
  obtain⟨k1,k2⟩:=encL_inv (b - max (q.2.at_ x y).low (encP R (x / 2) (y / 2) b).low).toNat { q.2.at_ x y with low:=max (q.2.at_ x y).low (encP R (x / 2) (y / 2) b).low } b
  simp only[encP,encNode]
  refine⟨?_,?_⟩
  ·simp only at k2
   omega
  ·rw[List.length_append,List.length_cons,Nat.succ_mul]
   exact Nat.add_le_add h2 (Nat.le_trans k1 (by omega))
theorem encL_said (f:Nat) (x:NodeM) (b:Int) (h:¬ (x.low<b∧x.said=false)):encL f x b=(x,[]):=by
 cases f with
 | zero=>rfl
 | succ f=>unfold encL;rw[if_neg h]
theorem encL_one (f:Nat) (x:NodeM) (b:Int) (h:x.low<b∧x.said=false) (hn:x.n≤x.low) (hf:f=(b - x.low).toNat):encL f x b=({ x with said:=true },[true]):=by
 cases f with
 | zero=>omega
 | succ f=>unfold encL;rw[if_pos h,if_pos hn]
theorem encL_zero (f:Nat) (x:NodeM) (b:Int) (h:x.low<b∧x.said=false) (hn:¬ x.n≤x.low) (hf:f=(b - x.low).toNat):f=(b - (x.low+1)).toNat+1∧encL f x b=((encL (b - (x.low+1)).toNat { x with low:=x.low+1,said:=false } b).1,false::(encL (b - (x.low+1)).toNat { x with low:=x.low+1,said:=false } b).2):=by
 obtain⟨f',rfl⟩:∃ f',f=f'+1:=⟨f - 1,by omega⟩
 have e:f'=(b - (x.low+1)).toNat:=by omega
 refine⟨by omega,?_⟩
 rw[← e]
 conv=>lhs;unfold encL
 rw[if_pos h,if_neg hn]
end
end Go.Proofs.YtjngfhgakokejaaGreat
