/- Tag trees: a leaf's number is laid: what becomes of the tree; a node's cell is written. Tag trees of the program: Set. Tag trees: what is said of a leaf; the program's Encode. Tag trees of the program: a node on the way, while something is said of it. Tag trees of the program: Encode. Bands of blocks in memory. The document's trees of numbers in memory (waveletref13), by the same model. Plain. Pieces of a function: its blocks and regions, by number. -/
import Derived.Test.YtjngfhgakokejaaGreatZp02
import Derived.Test.YtjngfhgakokejaaGreatZp01
set_option maxRecDepth 100000
set_option maxHeartbeats 8000000
namespace Go.Proofs.YtjngfhgakokejaaGreat
section
open Go.RowKit
def shapeL (L:LevM):Nat × Nat × Nat:=(L.w,L.h,L.l.length)
theorem Dims.congr {T U:List LevM} (h:Dims T) (e:U.map shapeL=T.map shapeL):Dims U:=by
 induction T generalizing U with
 | nil=>rw [List.map_nil,List.map_eq_nil_iff] at e;subst e;trivial
 | cons L T ih =>
  cases U with
  | nil=>simp at e
  | cons K U =>
   simp only [List.map_cons,List.cons.injEq] at e
   obtain ⟨e1,e2⟩:=e
   simp only [shapeL,Prod.mk.injEq] at e1
   obtain ⟨a1,a2,a3⟩:=e1
   cases T with
   | nil =>
    rw [List.map_nil,List.map_eq_nil_iff] at e2
    subst e2
    obtain ⟨b1,b2,b3⟩:=h
    exact ⟨a1.trans b1,a2.trans b2,by rw [a3,a1,a2];exact b3⟩
   | cons M T =>
    cases U with
    | nil=>simp at e2
    | cons N U =>
     obtain ⟨b1,b2,b3,b4,b5,b6⟩:=h
     have e3:=e2
     simp only [List.map_cons,List.cons.injEq] at e3
     obtain ⟨c1,-⟩:=e3
     simp only [shapeL,Prod.mk.injEq] at c1
     exact ⟨by omega,by omega,by rw [a3,a1,a2];exact b3,by omega,by omega,ih b6 e2⟩
theorem PDims.congr {P Q:List LvG} (h:PDims P) (e:Q.map (fun p=>shapeL p.2)=P.map (fun p=>shapeL p.2)):PDims Q:=by
 refine ⟨h.1.congr (by simpa [List.map_map,Function.comp_def] using e),fun q hq=>?_⟩
 have hm:shapeL q.2∈Q.map (fun p=>shapeL p.2):=List.mem_map.2 ⟨q,hq,rfl⟩
 rw [e] at hm
 obtain ⟨p,hp,hs⟩:=List.mem_map.1 hm
 have:=h.2 p hp
 simp only [shapeL,Prod.mk.injEq] at hs
 omega
def LevM.set_ (L:LevM) (x y:Nat) (z:NodeM):LevM:={ L with l:=L.l.set (y * L.w+x) z }
theorem LevM.set_shape (L:LevM) (x y:Nat) (z:NodeM):shapeL (L.set_ x y z)=shapeL L:=by simp [shapeL,LevM.set_]
def LevM.setN (L:LevM) (x y:Nat) (n:Int):LevM:=L.set_ x y { L.at_ x y with n:=n }
theorem levsV_set (P:List LvG) (i:Nat) (p:LvG) (L:LevM) (hp:P[i]?=some p) (hs:shapeL L=shapeL p.2):levsV (P.set i (p.1,L))=levsV P:=by
 induction P generalizing i with
 | nil=>simp at hp
 | cons q P ih =>
  have e:∀ (a:LvG) (M:List LvG),levsV (a::M)=levV a++levsV M:=by intro a M;simp [levsV]
  cases i with
  | zero =>
   simp at hp
   subst hp
   simp only [shapeL,Prod.mk.injEq] at hs
   rw [List.set_cons_zero,e,e]
   simp [levV,hs.1,hs.2.1,hs.2.2]
  | succ i=>rw [List.set_cons_succ,e,e,ih i (by simpa using hp)]
theorem Mv.upd {w0 w w':World} {H0:List HB} {a b b':HB} {X Y Z:List HB} (h:Mv w0 H0 w (a::(X++(Y++b::Z)))) (m:Mv w [b] w' [b']):Mv w0 H0 w' (a::(X++(Y++b'::Z))):=by
 have h1:Mv w0 H0 w ([b]++(a::(X++(Y++Z)))) :=
  h.sub (fun g=>by simp only [cnt_append,cnt_cons,cnt_nil];omega) (fun c hc=>by simp only [List.mem_append,List.mem_cons,List.not_mem_nil,or_false] at hc ⊢;grind)
 have h2:=Mv.call h1 m
 exact h2.sub (fun g=>by simp only [cnt_append,cnt_cons,cnt_nil];omega) (fun c hc=>by simp only [List.mem_append,List.mem_cons,List.not_mem_nil,or_false] at hc ⊢;grind)
theorem tree_set {tb:Nat} {P:List LvG} {H:List HB} {w:World} (h:TreeH tb P H) (hs:Sat w H) {i:Nat} {p:LvG} (hp:P[i]?=some p) (L:LevM) (hL:shapeL L=shapeL p.2) (j:Nat) (v:Value) (hv:nodesV L.l=(nodesV p.2.l).set j v) :
  ∃ H',TreeH tb (P.set i (p.1,L)) H'∧Mv w H (w.setCell ⟨p.1,j,none⟩ v) H':=by
 obtain ⟨va,Hl,rfl,hr⟩:=h
 have hi:=(List.getElem?_eq_some_iff.1 hp).1
 have e1:P=P.take i++p::P.drop (i+1):=by
  have:=List.getElem?_eq_some_iff.1 hp
  rw [← this.2]
  simp
 have e2:P.map levB=(P.take i).map levB++levB p::(P.drop (i+1)).map levB:=by
  conv=>lhs;rw [e1]
  simp
 have e3:(P.set i (p.1,L)).map levB=(P.take i).map levB++levB (p.1,L)::(P.drop (i+1)).map levB:=by
  rw [List.set_eq_take_append_cons_drop,if_pos hi]
  simp
 have m:=Mv.refl hs
 rw [e2] at hs m ⊢
 have hb:Blk w p.1 184 (nodesV p.2.l).toArray:=hs.2 (levB p) (by simp)
 have m2:=mv_set hb j v
 have e4:(nodesV p.2.l).toArray.setIfInBounds j v=(nodesV L.l).toArray:=by rw [hv];simp
 rw [e4] at m2
 refine ⟨_,⟨va,Hl,rfl,by rw [List.length_set,levsV_set P i p L hp hL];exact hr⟩,?_⟩
 rw [e3]
 exact Mv.upd m m2
theorem nodes_setN (L:LevM) (x y:Nat) (n:Int) (hl:y * L.w+x<L.l.length):nodesV (L.setN x y n).l=(nodesV L.l).set (3 * (y * L.w+x)) (.int .i64 n):=by
 have hg:L.l[y * L.w+x]?=some (L.at_ x y):=by
  unfold LevM.at_
  rw [List.getD_eq_getElem?_getD,List.getElem?_eq_getElem hl]
  rfl
 have h:=nodesV_set L.l _ _ hg { L.at_ x y with n:=n }
 obtain ⟨k1,k2,k3⟩:=nodesV_get _ _ _ hg
 show nodesV (L.l.set _ _)=_
 rw [h]
 simp only
 apply List.ext_getElem?
 intro q
 simp only [List.getElem?_set,List.length_set,nodesV_length]
 by_cases e2:3 * (y * L.w+x)+2=q
 ·subst e2
  rw [if_pos rfl,if_pos (by omega),if_neg (by omega),k3]
 ·rw [if_neg e2]
  by_cases e1:3 * (y * L.w+x)+1=q
  ·subst e1
   rw [if_pos rfl,if_pos (by omega),if_neg (by omega),k2]
  ·rw [if_neg e1]
def setUpP:LevM→List LvG→Nat→Nat→List LvG
 | _,[],_,_=>[]
 | B,p::R,x,y=>(p.1,p.2.setN (x / 2) (y / 2) (leastM B (x / 2) (y / 2)))::setUpP (p.2.setN (x / 2) (y / 2) (leastM B (x / 2) (y / 2))) R (x / 2) (y / 2)
def setP (P:List LvG) (x y:Nat) (n:Int):List LvG :=
 match P with
 | []=>[]
 | p::R=>(p.1,p.2.setN x y n)::setUpP (p.2.setN x y n) R x y
theorem setUpP_get (B:LevM) (R:List LvG) (x y i:Nat) (p:LvG) (h:R[i]?=some p) :
  ∃ B',((i=0∧B'=B)∨(0<i∧∃ g,(setUpP B R x y)[i - 1]?=some (g,B')))∧(setUpP B R x y)[i]?=some (p.1,p.2.setN (x / 2 ^ (i+1)) (y / 2 ^ (i+1)) (leastM B' (x / 2 ^ (i+1)) (y / 2 ^ (i+1)))):=by
 induction R generalizing B x y i with
 | nil=>simp at h
 | cons q R ih =>
  cases i with
  | zero=>simp at h;subst h;exact ⟨B,.inl ⟨rfl,rfl⟩,by simp [setUpP]⟩
  | succ i =>
   obtain ⟨B',h1,h2⟩:=ih (q.2.setN (x / 2) (y / 2) (leastM B (x / 2) (y / 2))) (x / 2) (y / 2) i (by simpa using h)
   refine ⟨B',.inr ⟨by omega,?_⟩,?_⟩
   ·rcases h1 with ⟨rfl,rfl⟩ | ⟨h0,g,hg⟩
    ·exact ⟨q.1,by simp [setUpP]⟩
    ·refine ⟨g,?_⟩
     rw [Nat.add_sub_cancel]
     obtain ⟨k,rfl⟩:∃ k,i=k+1:=⟨i - 1,by omega⟩
     simpa [setUpP] using hg
   ·have e:∀ z:Nat,z / 2 / 2 ^ (i+1)=z / 2 ^ (i+1+1):=fun z=>by rw [Nat.div_div_eq_div_mul,Nat.pow_succ 2 (i+1),Nat.mul_comm (2 ^ (i+1)) 2]
    rw [e,e] at h2
    simpa [setUpP] using h2
theorem setUpP_shape (B:LevM) (R:List LvG) (x y:Nat):(setUpP B R x y).map (fun p=>shapeL p.2)=R.map (fun p=>shapeL p.2)∧(setUpP B R x y).map (·.1)=R.map (·.1):=by
 induction R generalizing B x y with
 | nil=>exact ⟨rfl,rfl⟩
 | cons q R ih =>
  obtain ⟨h1,h2⟩:=ih (q.2.setN (x / 2) (y / 2) (leastM B (x / 2) (y / 2))) (x / 2) (y / 2)
  simp only [setUpP,List.map_cons,h1,h2,List.cons.injEq,and_true]
  exact LevM.set_shape _ _ _ _
theorem setP_shape (P:List LvG) (x y:Nat) (n:Int):(setP P x y n).map (fun p=>shapeL p.2)=P.map (fun p=>shapeL p.2)∧(setP P x y n).map (·.1)=P.map (·.1):=by
 cases P with
 | nil=>exact ⟨rfl,rfl⟩
 | cons q R =>
  obtain ⟨h1,h2⟩:=setUpP_shape (q.2.setN x y n) R x y
  simp only [setP,List.map_cons,h1,h2,List.cons.injEq,and_true]
  exact LevM.set_shape _ _ _ _
theorem setP_length (P:List LvG) (x y:Nat) (n:Int):(setP P x y n).length=P.length:=by
 have:=congrArg List.length (setP_shape P x y n).2
 simpa using this
theorem setP_get (P:List LvG) (x y:Nat) (n:Int) (i:Nat) (p:LvG) (h:P[i+1]?=some p) :
  ∃ g B,(setP P x y n)[i]?=some (g,B)∧(setP P x y n)[i+1]?=some (p.1,p.2.setN (x / 2 ^ (i+1)) (y / 2 ^ (i+1)) (leastM B (x / 2 ^ (i+1)) (y / 2 ^ (i+1)))):=by
 cases P with
 | nil=>simp at h
 | cons q R =>
  obtain ⟨B',h1,h2⟩:=setUpP_get (q.2.setN x y n) R x y i p (by simpa using h)
  rcases h1 with ⟨rfl,rfl⟩ | ⟨h0,g,hg⟩
  ·exact ⟨q.1,q.2.setN x y n,by simp [setP],by simpa [setP] using h2⟩
  ·obtain ⟨k,rfl⟩:∃ k,i=k+1:=⟨i - 1,by omega⟩
   exact ⟨g,B',by simpa [setP] using hg,by simpa [setP] using h2⟩
end
section
open Go.RowKit
def midT (P Q:List LvG) (i:Nat):List LvG:=Q.take i++P.drop i
theorem midT_shape {P Q:List LvG} (h:Q.map (fun p=>shapeL p.2)=P.map (fun p=>shapeL p.2)) (i:Nat):(midT P Q i).map (fun p=>shapeL p.2)=P.map (fun p=>shapeL p.2):=by
 unfold midT
 rw [List.map_append,List.map_take,List.map_drop,h,List.take_append_drop]
theorem midT_length {P Q:List LvG} (h:Q.length=P.length) (i:Nat):(midT P Q i).length=P.length:=by
 unfold midT
 rw [List.length_append,List.length_take,List.length_drop,h]
 omega
theorem midT_get {P Q:List LvG} (h:Q.length=P.length) {i:Nat} (hi:i<P.length):(midT P Q i)[i]?=P[i]?:=by
 unfold midT
 rw [List.getElem?_append_right (by simp;omega),List.getElem?_drop]
 congr 1
 simp
 omega
theorem midT_below {P Q:List LvG} (h:Q.length=P.length) {i:Nat} (hi:i+1≤P.length):(midT P Q (i+1))[i]?=Q[i]?:=by
 unfold midT
 rw [List.getElem?_append_left (by simp;omega),List.getElem?_take,if_pos (by omega)]
theorem midT_step {P Q:List LvG} (h:Q.length=P.length) {i:Nat} {z:LvG} (hz:Q[i]?=some z):(midT P Q i).set i z=midT P Q (i+1):=by
 have hi:i<P.length:=by rw [← h];exact (List.getElem?_eq_some_iff.1 hz).1
 unfold midT
 rw [List.take_add_one,hz]
 rw [List.set_append_right _ _ (by simp;omega)]
 have e:i - (Q.take i).length=0:=by simp;omega
 have e2:(P.drop i).set 0 z=z::P.drop (i+1):=by rw [List.drop_eq_getElem_cons hi];rfl
 rw [e,e2]
 simp
theorem midT_all {P Q:List LvG} (h:Q.length=P.length):midT P Q P.length=Q:=by
 unfold midT
 rw [List.drop_length,List.append_nil,← h,List.take_length]
theorem midT_zero (P Q:List LvG):midT P Q 0=P:=by simp [midT]
theorem set_tree (tb:Nat) (P:List LvG) (k:Nat) (n:Int) (p0:LvG) (W:World) (H:List HB) (h:TreeH tb P H) (hs:Sat W H) (hl:P.length≤20) (hd:PDims P) (h0:P[0]?=some p0) (hk:k<p0.2.w * p0.2.h) :
  Calls Tryz.prog 69 #[.pointer (some ⟨tb,0,none⟩),.int .i64 (k:Int),.int .i64 n] W fun e W'=>e=.returned (.tuple #[])∧∃ H',TreeH tb (setP P (k % p0.2.w) (k / p0.2.w) n) H'∧Mv W H W' H':=by
 have WO:=Lib.hid (way_ok tb P k p0 W H h hs hl hd h0 hk)
 have hn:0<P.length:=(List.getElem?_eq_some_iff.1 h0).1
 have q:=hd.get h0
 have hx:k % p0.2.w<p0.2.w:=Nat.mod_lt _ (by omega)
 have hy:k / p0.2.w<p0.2.h:=Nat.div_lt_of_lt_mul hk
 have hmm:p0.2.w * p0.2.h≤4096:=Nat.mul_le_mul q.2.2.1 q.2.2.2.2
 have hkb:k≤4096:=Nat.le_of_lt (Nat.lt_of_lt_of_le hk hmm)
 have hkk:k / p0.2.w * p0.2.w+k % p0.2.w=k:=Nat.div_add_mod' k p0.2.w
 have hki:(k:Int)<((p0.2.w * p0.2.h:Nat):Int):=by omega
 have hki2:(k:Int)<(p0.2.w:Int) * (p0.2.h:Int):=by exact_mod_cast hk
 have d0:((P.length:Int) == 0)=false:=beq_eq_false_iff_ne.2 (by omega)
 have hn0:(0:Int)<(P.length:Int):=by omega
 have hw1:(p0.2.w:Int)≠0:=by omega
 have K:=Lib.hid (And.intro h (And.intro hs (And.intro hd (And.intro h0 (And.intro hx (And.intro hy hkk))))))
 have KQ:=Lib.hid (And.intro q h0)
 clear h hs hd q h0 hk hx hy hkk hmm
 go_enter Tryz.func69,Tryz.ntmps69
 go_upto_region 1 with (go_at_call 106;refine WO.out.mono ?_;rintro e w1 ⟨v1,H1,rfl,r1,m1⟩;obtain ⟨a1,c1,rfl⟩:=r1.slice;have K1:=Lib.hid m1;clear r1 m1)
 obtain ⟨lg,lc,c0,hc⟩:=lev_cell (R:=H1) K.out.1 K1.out K.out.2.2.1 hn
 obtain ⟨e1,e2,e3⟩:=hc 0 p0 K.out.2.2.2.1
 simp only [Nat.zero_mul,Nat.zero_add] at e1 e2 e3
 clear hc WO
 go_upto_region 2 with fail
 have M2:=(Mv.drop (A:=H1) K1.out).alloc 181 #[.int .i64 (p0.2.w:Int),.int .i64 (p0.2.h:Int),.slice (some ⟨p0.1,0,none⟩) (p0.2.w * p0.2.h) (p0.2.w * p0.2.h)]
 obtain ⟨bx,hbx⟩:∃ bx,bx=w1.heap.size:=⟨_,rfl⟩
 obtain ⟨w2,hw2⟩:∃ w2,w2=w1.alloc (.cells #[.int .i64 (p0.2.w:Int),.int .i64 (p0.2.h:Int),.slice (some ⟨p0.1,0,none⟩) (p0.2.w * p0.2.h) (p0.2.w * p0.2.h)] 181):=⟨_,rfl⟩
 rw [← hw2,← hbx] at M2
 simp only [← hw2,← hbx]
 clear hw2 hbx c0 e1 e2 e3
 obtain ⟨x,hxx⟩:∃ x,k % p0.2.w=x:=⟨_,rfl⟩
 obtain ⟨y,hyy⟩:∃ y,k / p0.2.w=y:=⟨_,rfl⟩
 have hx64:x≤64:=by rw [← hxx];have:=K.out.2.2.2.2.1;have:=KQ.out.1;omega
 have hy64:y≤64:=by rw [← hyy];have:=K.out.2.2.2.2.2.1;have:=KQ.out.1;omega
 have hxi:(k:Int) % (p0.2.w:Int)=(x:Int):=by rw [← hxx];push_cast;rfl
 have hyi:(k:Int) / (p0.2.w:Int)=(y:Int):=by rw [← hyy];push_cast;rfl
 have N2:=node_cell (R:=[_]) K.out.1 M2 K.out.2.2.1 K.out.2.2.2.1 K.out.2.2.2.2.1 K.out.2.2.2.2.2.1
 rw [K.out.2.2.2.2.2.2,Nat.mul_comm 3 k] at N2
 have y1:=N2.1
 have f1:=N2.2.2.2 (k * 3)
 have b2:w2.cell? ⟨bx,2,none⟩=some (.slice (some ⟨p0.1,0,none⟩) (p0.2.w * p0.2.h) (p0.2.w * p0.2.h)):=M2.cell 0 rfl 2
 obtain ⟨H3,t3,m3⟩:=tree_set K.out.1 (M2.sat.right (A:=[_])) K.out.2.2.2.1 (p0.2.setN (k % p0.2.w) (k / p0.2.w) n) (LevM.set_shape _ _ _ _) (k * 3) (.int .i64 n) (by
  rw [nodes_setN _ _ _ _ (by rw [KQ.out.1.1];exact place_lt K.out.2.2.2.2.1 K.out.2.2.2.2.2.1),K.out.2.2.2.2.2.2,Nat.mul_comm 3 k])
 have M3:=Mv.mv1 (A:=H3) (B:=[_]) (R:=[]) (Mv.call (Mv.mv1 (A:=[_]) (B:=H) (R:=[]) (by simpa using M2)) m3)
 have hQl:=setP_length P (k % p0.2.w) (k / p0.2.w) n
 have hQ0:(setP P (k % p0.2.w) (k / p0.2.w) n)[0]?=some (p0.1,p0.2.setN (k % p0.2.w) (k / p0.2.w) n):=by
  have h0:=KQ.out.2
  cases P with
  | nil=>cases h0
  | cons p R=>simp at h0;subst h0;rfl
 have t4:TreeH tb (midT P (setP P (k % p0.2.w) (k / p0.2.w) n) 1) H3:=by
  rw [← midT_step hQl hQ0,midT_zero]
  exact t3
 have hQs:=(setP_shape P (k % p0.2.w) (k / p0.2.w) n).1
 have hQg:=fun i p hp=>setP_get P (k % p0.2.w) (k / p0.2.w) n i p hp
 rw [hxx,hyy] at t4 hQl hQs hQg
 have KD:=Lib.hid (And.intro K.out.2.2.1 (And.intro hQl (And.intro hQs hQg)))
 have AT:=Lib.hid fun i p hp=>PDims.at_ (i:=i) (p:=p) K.out.2.2.1 K.out.2.2.2.1 K.out.2.2.2.2.1 K.out.2.2.2.2.2.1 hp
 rw [hxx,hyy] at AT
 rw [hxx,hyy] at K
 obtain ⟨Q,hQ⟩:∃ Q,setP P x y n=Q:=⟨_,rfl⟩
 have HQ:=Lib.hid hQ
 rw [hQ] at KD t4
 have K3:=Lib.hid (And.intro t4 M3)
 clear t3 m3 M3 M2 N2 t4 hQl hQ0 hQs hQg hQ K1 K
 obtain ⟨w3,hw3⟩:∃ w3,w3=w2.setCell ⟨p0.1,k * 3,none⟩ (.int .i64 n):=⟨_,rfl⟩
 rw [← hw3] at K3
 go_upto_region 3 with fail
 simp only [← hw3]
 clear hw3 y1 f1 b2
 have b0:w3.cell? ⟨bx,0,none⟩=some (.int .i64 (p0.2.w:Int)):=K3.out.2.cell 0 rfl 0
 go_quiet (fail)
 go_upto_region 4 with fail
 simp only [hxi]
 obtain ⟨w4,hw4⟩:∃ w4,w4=w3.drewN nq:=⟨_,rfl⟩
 have K4:Hid (TreeH tb (midT P Q 1) H3∧Mv W H w4 ([⟨bx,181,#[.int .i64 (p0.2.w:Int),.int .i64 (p0.2.h:Int),.slice (some ⟨p0.1,0,none⟩) (p0.2.w * p0.2.h) (p0.2.w * p0.2.h)]⟩]++H3)):=Lib.hid ⟨K3.out.1,by rw [hw4];simpa using K3.out.2.drewN nq⟩
 simp only [← hw4]
 clear hw4 K3 b0 hxi hyi d0 hki hki2 hw1
 go_wp2_with fail
 go_loopg [7,8,9] P.length (fun m s7 s8 s9 wx=>∃ (i:Nat) (Hi:List HB),i+1≤P.length∧m=P.length - i∧s9=.int .i64 ((i:Int)+1)∧s7=.int .i64 ((x / 2 ^ i:Nat):Int)∧s8=.int .i64 ((y / 2 ^ i:Nat):Int)∧TreeH tb (midT P Q (i+1)) Hi∧Mv W H wx ([⟨bx,181,#[.int .i64 (p0.2.w:Int),.int .i64 (p0.2.h:Int),.slice (some ⟨p0.1,0,none⟩) (p0.2.w * p0.2.h) (p0.2.w * p0.2.h)]⟩]++Hi))
 case atStart=>exact ⟨0,H3,by omega,rfl,rfl,by simp,by simp,K4.out.1,K4.out.2⟩
 case round =>
  obtain ⟨wa,rfl⟩:∃ wa:World,wa=wr:=⟨_,rfl⟩
  obtain ⟨i,Hi,hi,rfl,rfl,rfl,rfl,ti,mi⟩:=hrel
  obtain ⟨hd,hQl,hQs,hQg⟩:=KD.out
  have hdT:PDims (midT P Q (i+1)):=hd.congr (midT_shape hQs _)
  have hTl:(midT P Q (i+1)).length=P.length:=midT_length hQl _
  obtain ⟨lg,lc,c0,hc⟩:=lev_cell (R:=[_]) ti mi hdT (by omega)
  rw [hTl] at c0
  have KI:=Lib.hid (And.intro ti mi)
  by_cases hlt:i+1<P.length
  ·obtain ⟨p,hp⟩:∃ p,P[i+1]?=some p:=⟨_,List.getElem?_eq_getElem hlt⟩
   have hTp:(midT P Q (i+1))[i+1]?=some p:=by rw [midT_get hQl hlt,hp]
   obtain ⟨e1,e2,e3⟩:=hc (i+1) p hTp
   obtain ⟨gB,B,hB,hz⟩:=hQg i p hp
   have hTB:(midT P Q (i+1))[i]?=some (gB,B):=by rw [midT_below hQl (by omega),hB]
   have qp:=hd.get hp
   have qB:B.w=(P[i]'(by omega)).2.w∧B.h=(P[i]'(by omega)).2.h:=by
    have e9:=congrArg (fun l=>l[i]?) hQs
    simp only [List.getElem?_map,hB,List.getElem?_eq_getElem (show i<P.length by omega),Option.map_some,Option.some.injEq,shapeL,Prod.mk.injEq] at e9
    exact ⟨e9.1,e9.2.1⟩
   have a1:=AT.out i (P[i]'(by omega)) (List.getElem?_eq_getElem (by omega))
   have a2:=AT.out (i+1) p hp
   rw [← qB.1,← qB.2] at a1
   obtain ⟨X,hX⟩:∃ X,x / 2 ^ i=X:=⟨_,rfl⟩
   obtain ⟨Y,hY⟩:∃ Y,y / 2 ^ i=Y:=⟨_,rfl⟩
   have hX2:x / 2 ^ (i+1)=X / 2:=by rw [← hX,Nat.pow_succ,Nat.div_div_eq_div_mul]
   have hY2:y / 2 ^ (i+1)=Y / 2:=by rw [← hY,Nat.pow_succ,Nat.div_div_eq_div_mul]
   rw [hX,hY] at a1
   rw [hX2,hY2] at a2 hz
   simp only [hX,hY]
   have HXY:=Lib.hid (And.intro hX2 hY2)
   have LE0:=fun V H hV sV=>least_any tb (midT P Q (i+1)) i (gB,B) (X / 2) (Y / 2) V H hV sV hdT hTB (by omega) (by simp only;omega) (by simp only;omega)
   have GA0:=fun V=>grid_at p.2.w p.2.h p.1 (p.2.w * p.2.h) (p.2.w * p.2.h) (X / 2) (Y / 2) V (place_lt a2.1 a2.2) (by omega) (by omega) (by omega) (by have:=Nat.mul_le_mul qp.2.2.1 qp.2.2.2.2;omega)
   simp only [Int.natCast_ediv,Int.cast_ofNat_Int] at LE0 GA0
   have LE:=Lib.hid LE0
   have GA:=Lib.hid GA0
   clear LE0 GA0
   have hXb:X≤64:=by have:=Nat.div_le_self x (2 ^ i);omega
   have hYb:Y≤64:=by have:=Nat.div_le_self y (2 ^ i);omega
   have hii:(i:Int)+1<(P.length:Int):=by omega
   have hi20:i≤20:=by omega
   have KZ:=Lib.hid (And.intro hTp (And.intro hz (And.intro a2 qp)))
   have c0:=c0
   clear hd hQs hQg hdT hTl hc hp hTp hB hTB qp qB a1 a2 hX hY hX2 hY2 hz ti mi
   have FX:Hid (∀ w5,Mv wa [] w5 []→Mv W H w5 ([⟨bx,181,#[.int .i64 (p0.2.w:Int),.int .i64 (p0.2.h:Int),.slice (some ⟨p0.1,0,none⟩) (p0.2.w * p0.2.h) (p0.2.w * p0.2.h)]⟩]++Hi)):=Lib.hid fun w5 m=>Mv.call (H:=[]) (H':=[]) KI.out.2 m
   have FY:Hid (∀ w5 w6,Mv W H w5 ([⟨bx,181,#[.int .i64 (p0.2.w:Int),.int .i64 (p0.2.h:Int),.slice (some ⟨p0.1,0,none⟩) (p0.2.w * p0.2.h) (p0.2.w * p0.2.h)]⟩]++Hi)→Mv w5 Hi w6 Hi→Mv W H w6 ([⟨bx,181,#[.int .i64 (p0.2.w:Int),.int .i64 (p0.2.h:Int),.slice (some ⟨p0.1,0,none⟩) (p0.2.w * p0.2.h) (p0.2.w * p0.2.h)]⟩]++Hi)∧w6.cell? ⟨p.1,3 * (Y / 2 * p.2.w+X / 2),none⟩=some (.int .i64 (p.2.at_ (X / 2) (Y / 2)).n)∧w6.frozen? ⟨p.1,3 * (Y / 2 * p.2.w+X / 2),none⟩=false):=Lib.hid (by
    intro w5 w6 m m6
    have M6:=Mv.mv1 (A:=Hi) (B:=[_]) (R:=[]) (Mv.call (Mv.mv1 (A:=[_]) (B:=Hi) (R:=[]) (by simpa using m)) m6)
    rw [List.append_nil] at M6
    have N6:=node_cell (R:=[_]) KI.out.1 M6 (KD.out.1.congr (midT_shape KD.out.2.2.1 _)) KZ.out.1 KZ.out.2.2.1.1 KZ.out.2.2.1.2
    exact ⟨M6,N6.1,N6.2.2.2 _⟩)
   go_upto_region 8 with fail
   go_wp2_with (first | (go_at_call 108;with_reducible refine (GA.out _).mono ?_;rintro e w5 ⟨rfl,m5⟩;have K5:=Lib.hid (FX.out w5 m5);clear m5) | (go_at_call 107;with_reducible refine (LE.out _ Hi KI.out.1 (K5.out.sat.right)).mono ?_;rintro e w6 ⟨rfl,m6⟩;obtain ⟨m7,y1,f1⟩:=FY.out w5 w6 K5.out m6;have K6:=Lib.hid m7;clear m6 m7))
   obtain ⟨H7,t7,m7⟩:=tree_set KI.out.1 (K6.out.sat.right) KZ.out.1 (p.2.setN (X / 2) (Y / 2) (leastM B (X / 2) (Y / 2))) (LevM.set_shape _ _ _ _) (3 * (Y / 2 * p.2.w+X / 2)) (.int .i64 (leastM B (X / 2) (Y / 2))) (nodes_setN _ _ _ _ (by rw [KZ.out.2.2.2.1];exact place_lt KZ.out.2.2.1.1 KZ.out.2.2.1.2))
   rw [midT_step KD.out.2.1 KZ.out.2.1] at t7
   have M7:=Mv.mv1 (A:=H7) (B:=[_]) (R:=[]) (Mv.call (Mv.mv1 (A:=[_]) (B:=Hi) (R:=[]) (by simpa using K6.out)) m7)
   rw [List.append_nil] at M7
   have K7:=Lib.hid (And.intro t7 M7)
   clear t7 m7 M7 y1 f1
   go_roundg (P.length - (i+1))
   case measure=>omega
   case rel =>
    refine ⟨i+1,H7,by omega,rfl,by go_num,?_,?_,K7.out.1,K7.out.2⟩
    ·rw [HXY.out.1];push_cast;rfl
    ·rw [HXY.out.2];push_cast;rfl
  ·have hie:i+1=P.length:=by omega
   have hie2:(i:Int)+1=(P.length:Int):=by omega
   rw [hie,midT_all hQl] at ti
   have KE:=Lib.hid (And.intro ti mi)
   have d9:¬ (i:Int)+1<(P.length:Int):=by omega
   have KH:=Lib.hid hie2
   clear ti mi hd hQl hQs hQg hdT hTl hc hie hie2 KI
   go_wp2_with fail
   go_end0
   rw [HQ.out]
   exact ⟨rfl,Hi,KE.out.1,Mv.drop (A:=[_]) KE.out.2⟩
end
section
open Go.RowKit
def encL:Nat→NodeM→Int→NodeM × List Bool
 | 0,x,_=>(x,[])
 | f+1,x,b=>if x.low<b∧x.said=false then (if x.n≤x.low then ({ x with said:=true },[true]) else ((encL f { x with low:=x.low+1,said:=false } b).1,false::(encL f { x with low:=x.low+1,said:=false } b).2)) else (x,[])
def encNode (x:NodeM) (low b:Int):NodeM × List Bool:=encL (b - max x.low low).toNat { x with low:=max x.low low } b
structure EncR where
 t:List LvG
 low:Int
 bs:List Bool
def encP:List LvG→Nat→Nat→Int→EncR
 | [],_,_,_=>⟨[],0,[]⟩
 | p::R,x,y,b =>
  let r:=encP R (x / 2) (y / 2) b
  let e:=encNode (p.2.at_ x y) r.low b
  ⟨(p.1,p.2.set_ x y e.1)::r.t,e.1.low,r.bs++e.2⟩
theorem LevM.set_set (L:LevM) (x y:Nat) (a b:NodeM):(L.set_ x y a).set_ x y b=L.set_ x y b:=by simp [LevM.set_]
theorem LevM.at_set (L:LevM) (x y:Nat) (a:NodeM) (h:y * L.w+x<L.l.length):(L.set_ x y a).at_ x y=a:=by
 unfold LevM.at_ LevM.set_
 simp only
 rw [List.getD_eq_getElem?_getD,List.getElem?_set,if_pos rfl,if_pos h]
 rfl
theorem LevM.set_at (L:LevM) (x y:Nat) (h:y * L.w+x<L.l.length):L.set_ x y (L.at_ x y)=L:=by
 have hg:L.l[y * L.w+x]?=some (L.at_ x y):=by
  unfold LevM.at_
  rw [List.getD_eq_getElem?_getD,List.getElem?_eq_getElem h]
  rfl
 have:L.l.set (y * L.w+x) (L.at_ x y)=L.l:=by
  obtain ⟨h1,h2⟩:=List.getElem?_eq_some_iff.1 hg
  rw [← h2]
  exact List.set_getElem_self h1
 unfold LevM.set_
 rw [this]
theorem encP_shape (P:List LvG) (x y:Nat) (b:Int):(encP P x y b).t.map (fun p=>shapeL p.2)=P.map (fun p=>shapeL p.2)∧(encP P x y b).t.map (·.1)=P.map (·.1):=by
 induction P generalizing x y with
 | nil=>exact ⟨rfl,rfl⟩
 | cons q R ih =>
  obtain ⟨h1,h2⟩:=ih (x / 2) (y / 2)
  simp only [encP,List.map_cons,h1,h2,List.cons.injEq,and_true]
  exact LevM.set_shape _ _ _ _
theorem nodes_setZ (L:LevM) (x y:Nat) (z:NodeM) (hl:y * L.w+x<L.l.length) (f:Nat) (v:Value) (hv:(f=1∧z={ L.at_ x y with low:=z.low }∧v=.int .i64 z.low)∨(f=2∧z={ L.at_ x y with said:=z.said }∧v=.bool z.said)) :
  nodesV (L.set_ x y z).l=(nodesV L.l).set (3 * (y * L.w+x)+f) v:=by
 have hg:L.l[y * L.w+x]?=some (L.at_ x y):=by
  unfold LevM.at_
  rw [List.getD_eq_getElem?_getD,List.getElem?_eq_getElem hl]
  rfl
 have h:=nodesV_set L.l _ _ hg z
 obtain ⟨k1,k2,k3⟩:=nodesV_get _ _ _ hg
 show nodesV (L.l.set _ _)=_
 rw [h]
 generalize L.at_ x y=a at *
 generalize y * L.w+x=k at *
 apply List.ext_getElem?
 intro q
 simp only [List.getElem?_set,List.length_set,nodesV_length]
 rcases hv with ⟨rfl,hz,rfl⟩ | ⟨rfl,hz,rfl⟩
 ·have z1:z.n=a.n:=by rw [hz]
  have z3:z.said=a.said:=by rw [hz]
  by_cases e2:3 * k+2=q
  ·subst e2
   rw [if_pos rfl,if_pos (by omega),if_neg (by omega),k3,z3]
  ·rw [if_neg e2]
   by_cases e1:3 * k+1=q
   ·subst e1
    rw [if_pos rfl,if_pos rfl]
   ·rw [if_neg e1,if_neg e1]
    by_cases e0:3 * k=q
    ·subst e0
     rw [if_pos rfl,if_pos (by omega),k1,z1]
    ·rw [if_neg e0]
 ·have z1:z.n=a.n:=by rw [hz]
  have z2:z.low=a.low:=by rw [hz]
  by_cases e2:3 * k+2=q
  ·subst e2
   rw [if_pos rfl,if_pos rfl]
  ·rw [if_neg e2,if_neg e2]
   by_cases e1:3 * k+1=q
   ·subst e1
    rw [if_pos rfl,if_pos (by omega),k2,z2]
   ·rw [if_neg e1]
    by_cases e0:3 * k=q
    ·subst e0
     rw [if_pos rfl,if_pos (by omega),k1,z1]
    ·rw [if_neg e0]
theorem node_cellS {tb:Nat} {P:List LvG} {H:List HB} {w:World} (h:TreeH tb P H) (hs:Sat w H) (hd:PDims P) {i:Nat} {p:LvG} (hp:P[i]?=some p) {x y:Nat} (hx:x<p.2.w) (hy:y<p.2.h) :
  w.cell? ⟨p.1,3 * (y * p.2.w+x),none⟩=some (.int .i64 (p.2.at_ x y).n)∧w.cell? ⟨p.1,3 * (y * p.2.w+x)+1,none⟩=some (.int .i64 (p.2.at_ x y).low)∧w.cell? ⟨p.1,3 * (y * p.2.w+x)+2,none⟩=some (.bool (p.2.at_ x y).said)∧∀ k,w.frozen? ⟨p.1,k,none⟩=false :=
 node_cell (R:=[]) h (Mv.refl hs) hd hp hx hy
theorem tree_setZ {tb:Nat} {P:List LvG} {H:List HB} {w:World} (h:TreeH tb P H) (hs:Sat w H) (hd:PDims P) {i:Nat} {p:LvG} (hp:P[i]?=some p) {x y:Nat} (hx:x<p.2.w) (hy:y<p.2.h) (z:NodeM) (f:Nat) (v:Value)
  (hv:(f=1∧z={ p.2.at_ x y with low:=z.low }∧v=.int .i64 z.low)∨(f=2∧z={ p.2.at_ x y with said:=z.said }∧v=.bool z.said)) :
  ∃ H',TreeH tb (P.set i (p.1,p.2.set_ x y z)) H'∧Mv w H (w.setCell ⟨p.1,3 * (y * p.2.w+x)+f,none⟩ v) H' :=
 tree_set h hs hp _ (LevM.set_shape _ _ _ _) _ v (nodes_setZ _ _ _ _ (by rw [(hd.get hp).1];exact place_lt hx hy) f v hv)
end
section
open Go.RowKit
def Sta (w0:World) (H0:List HB) (w:World) (tb wb:Nat) (T:List LvG) (m:Nat) (p:LvG) (X Y:Nat) (z:NodeM) (bs:List Bool) (Hn:List HB):Prop :=
 ∃ HT HW,TreeH tb (T.set m (p.1,p.2.set_ X Y z)) HT∧WrB wb bs HW∧Mv w0 H0 w (HW++(HT++Hn))
section
variable {w0 w:World} {H0:List HB} {tb wb:Nat} {T:List LvG} {m:Nat} {p:LvG} {X Y:Nat} {z:NodeM} {bs:List Bool} {Hn:List HB}
theorem setT_shape (hp:T[m]?=some p) (z:NodeM):(T.set m (p.1,p.2.set_ X Y z)).map (fun p=>shapeL p.2)=T.map (fun p=>shapeL p.2):=by
 rw [List.map_set]
 have hm:=(List.getElem?_eq_some_iff.1 hp).1
 obtain ⟨h1,h2⟩:=List.getElem?_eq_some_iff.1 hp
 rw [show shapeL (p.1,p.2.set_ X Y z).2=(T.map (fun p=>shapeL p.2))[m]'(by simpa using h1) from by simp [h2,LevM.set_shape]]
 exact List.set_getElem_self _
theorem Sta.cells (h:Sta w0 H0 w tb wb T m p X Y z bs Hn) (hd:PDims T) (hp:T[m]?=some p) (hx:X<p.2.w) (hy:Y<p.2.h) :
  w.cell? ⟨p.1,3 * (Y * p.2.w+X),none⟩=some (.int .i64 z.n)∧w.cell? ⟨p.1,3 * (Y * p.2.w+X)+1,none⟩=some (.int .i64 z.low)∧w.cell? ⟨p.1,3 * (Y * p.2.w+X)+2,none⟩=some (.bool z.said)∧∀ k,w.frozen? ⟨p.1,k,none⟩=false:=by
 obtain ⟨HT,HW,h1,h2,h3⟩:=h
 have hm:=(List.getElem?_eq_some_iff.1 hp).1
 have:=node_cellS h1 h3.sat.right.left (hd.congr (setT_shape hp z)) (i:=m) (p:=(p.1,p.2.set_ X Y z)) (by rw [List.getElem?_set,if_pos rfl,if_pos hm]) (x:=X) (y:=Y) hx hy
 rw [LevM.at_set _ _ _ _ (by rw [(hd.get hp).1];exact place_lt hx hy)] at this
 exact this
theorem Sta.set (h:Sta w0 H0 w tb wb T m p X Y z bs Hn) (hd:PDims T) (hp:T[m]?=some p) (hx:X<p.2.w) (hy:Y<p.2.h) (z':NodeM) (f:Nat) (v:Value)
  (hv:(f=1∧z'={ z with low:=z'.low }∧v=.int .i64 z'.low)∨(f=2∧z'={ z with said:=z'.said }∧v=.bool z'.said)) :
  Sta w0 H0 (w.setCell ⟨p.1,3 * (Y * p.2.w+X)+f,none⟩ v) tb wb T m p X Y z' bs Hn:=by
 obtain ⟨HT,HW,h1,h2,h3⟩:=h
 have hm:=(List.getElem?_eq_some_iff.1 hp).1
 have ha:=LevM.at_set p.2 X Y z (by rw [(hd.get hp).1];exact place_lt hx hy)
 obtain ⟨HT',k1,k2⟩:=tree_setZ h1 h3.sat.right.left (hd.congr (setT_shape hp z)) (i:=m) (p:=(p.1,p.2.set_ X Y z)) (by rw [List.getElem?_set,if_pos rfl,if_pos hm]) (x:=X) (y:=Y) hx hy z' f v (by rw [ha];exact hv)
 rw [List.set_set,LevM.set_set] at k1
 exact ⟨HT',HW,k1,h2,Mv.mv1 (A:=HT') (B:=HW) (R:=Hn) (Mv.call (Mv.mv1 (A:=HW) (B:=HT) (R:=Hn) h3) k2)⟩
theorem Sta.bit (h:Sta w0 H0 w tb wb T m p X Y z bs Hn) (b:Int) (hl:bs.length≤80000000) :
  Calls Tryz.prog 71 #[.pointer (some ⟨wb,0,none⟩),.int .i64 b] w fun e w'=>e=.returned (.tuple #[])∧Sta w0 H0 w' tb wb T m p X Y z (bs++[decide (b % 2=1)]) Hn:=by
 obtain ⟨HT,HW,h1,h2,h3⟩:=h
 refine (bit_any wb bs b w HW h2 h3.sat.left hl).mono ?_
 rintro e w' ⟨rfl,HW',k1,k2⟩
 exact ⟨rfl,HT,HW',h1,k1,Mv.call h3 k2⟩
theorem Sta.drew (h:Sta w0 H0 w tb wb T m p X Y z bs Hn):Sta w0 H0 w.drew tb wb T m p X Y z bs Hn:=by
 obtain ⟨HT,HW,h1,h2,h3⟩:=h
 exact ⟨HT,HW,h1,h2,h3.drew⟩
end
theorem encL_inv:∀ (f:Nat) (x:NodeM) (b:Int),(encL f x b).2.length≤f∧x.low≤(encL f x b).1.low
 | 0,x,b=>⟨by simp [encL],Int.le_refl _⟩
 | f+1,x,b=>by
  unfold encL
  split
  ·split
   ·exact ⟨by simp,Int.le_refl _⟩
   ·obtain ⟨h1,h2⟩:=encL_inv f { x with low:=x.low+1,said:=false } b
    refine ⟨by simp only [List.length_cons];omega,?_⟩
    simp only at h2 ⊢
    omega
  ·exact ⟨by simp,Int.le_refl _⟩
theorem encP_inv (P:List LvG) (x y:Nat) (b:Int):0≤(encP P x y b).low∧(encP P x y b).bs.length≤P.length * b.toNat:=by
 induction P generalizing x y with
 | nil=>exact ⟨Int.le_refl _,by simp [encP]⟩
 | cons q R ih =>
  obtain ⟨h1,h2⟩:=ih (x / 2) (y / 2)
  obtain ⟨k1,k2⟩:=encL_inv (b - max (q.2.at_ x y).low (encP R (x / 2) (y / 2) b).low).toNat { q.2.at_ x y with low:=max (q.2.at_ x y).low (encP R (x / 2) (y / 2) b).low } b
  simp only [encP,encNode]
  refine ⟨?_,?_⟩
  ·simp only at k2
   omega
  ·rw [List.length_append,List.length_cons,Nat.succ_mul]
   exact Nat.add_le_add h2 (Nat.le_trans k1 (by omega))
theorem encL_said (f:Nat) (x:NodeM) (b:Int) (h:¬ (x.low<b∧x.said=false)):encL f x b=(x,[]):=by
 cases f with
 | zero=>rfl
 | succ f=>unfold encL;rw [if_neg h]
theorem encL_one (f:Nat) (x:NodeM) (b:Int) (h:x.low<b∧x.said=false) (hn:x.n≤x.low) (hf:f=(b - x.low).toNat):encL f x b=({ x with said:=true },[true]):=by
 cases f with
 | zero=>omega
 | succ f=>unfold encL;rw [if_pos h,if_pos hn]
theorem encL_zero (f:Nat) (x:NodeM) (b:Int) (h:x.low<b∧x.said=false) (hn:¬ x.n≤x.low) (hf:f=(b - x.low).toNat):f=(b - (x.low+1)).toNat+1∧encL f x b=((encL (b - (x.low+1)).toNat { x with low:=x.low+1,said:=false } b).1,false::(encL (b - (x.low+1)).toNat { x with low:=x.low+1,said:=false } b).2):=by
 obtain ⟨f',rfl⟩:∃ f',f=f'+1:=⟨f - 1,by omega⟩
 have e:f'=(b - (x.low+1)).toNat:=by omega
 refine ⟨by omega,?_⟩
 rw [← e]
 conv=>lhs;unfold encL
 rw [if_pos h,if_neg hn]
end
section
open Go.RowKit
def midE (P:List LvG) (x y:Nat) (b:Int) (m:Nat):List LvG:=P.take m++(encP (P.drop m) (x / 2 ^ m) (y / 2 ^ m) b).t
theorem midE_shape (P:List LvG) (x y:Nat) (b:Int) (m:Nat):(midE P x y b m).map (fun p=>shapeL p.2)=P.map (fun p=>shapeL p.2):=by
 unfold midE
 rw [List.map_append,(encP_shape _ _ _ _).1,List.map_take,List.map_drop,List.take_append_drop]
theorem midE_get (P:List LvG) (x y:Nat) (b:Int) (m:Nat) (p:LvG) (hp:P[m]?=some p):(midE P x y b (m+1))[m]?=some p:=by
 have hm:=(List.getElem?_eq_some_iff.1 hp).1
 unfold midE
 rw [List.getElem?_append_left (by simp;omega),List.getElem?_take,if_pos (by omega),hp]
theorem midE_step (P:List LvG) (x y:Nat) (b:Int) (m:Nat) (p:LvG) (hp:P[m]?=some p) :
  let r:=encP (P.drop (m+1)) (x / 2 ^ (m+1)) (y / 2 ^ (m+1)) b
  let e:=encNode (p.2.at_ (x / 2 ^ m) (y / 2 ^ m)) r.low b
  (midE P x y b (m+1)).set m (p.1,p.2.set_ (x / 2 ^ m) (y / 2 ^ m) e.1)=midE P x y b m∧(encP (P.drop m) (x / 2 ^ m) (y / 2 ^ m) b).low=e.1.low∧(encP (P.drop m) (x / 2 ^ m) (y / 2 ^ m) b).bs=r.bs++e.2:=by
 obtain ⟨hm,hpe⟩:=List.getElem?_eq_some_iff.1 hp
 have e1:P.drop m=p::P.drop (m+1):=by rw [List.drop_eq_getElem_cons hm,hpe]
 have e2:∀ z:Nat,z / 2 ^ m / 2=z / 2 ^ (m+1):=fun z=>by rw [Nat.div_div_eq_div_mul,Nat.pow_succ]
 intro r e
 rw [e1]
 simp only [encP,e2]
 refine ⟨?_,rfl,rfl⟩
 unfold midE
 rw [e1]
 simp only [encP,e2]
 rw [List.take_add_one,hp]
 rw [List.append_assoc,List.set_append_right _ _ (by simp;omega)]
 have e3:m - (P.take m).length=0:=by simp;omega
 rw [e3]
 rfl
theorem midE_all (P:List LvG) (x y:Nat) (b:Int):midE P x y b P.length=P:=by simp [midE,encP]
theorem midE_zero (P:List LvG) (x y:Nat) (b:Int):midE P x y b 0=(encP P x y b).t:=by simp [midE]
theorem enc_tree (tb wb:Nat) (P:List LvG) (bs:List Bool) (k:Nat) (b:Int) (p0:LvG) (W:World) (HT HW:List HB) (h:TreeH tb P HT) (hw:WrB wb bs HW) (hs:Sat W (HW++HT)) (hl:P.length≤20) (hd:PDims P) (h0:P[0]?=some p0) (hk:k<p0.2.w * p0.2.h)
  (hb:b≤1000) (hbs:bs.length≤60000000) :
  Calls Tryz.prog 73 #[.pointer (some ⟨tb,0,none⟩),.pointer (some ⟨wb,0,none⟩),.int .i64 (k:Int),.int .i64 b] W fun e W'=>e=.returned (.tuple #[]) ∧
   ∃ HT' HW',TreeH tb (encP P (k % p0.2.w) (k / p0.2.w) b).t HT'∧WrB wb (bs++(encP P (k % p0.2.w) (k / p0.2.w) b).bs) HW'∧Mv W (HW++HT) W' (HW'++HT'):=by
 have WO:=Lib.hid (way_ok tb P k p0 W HT h hs.right hl hd h0 hk)
 have hn:0<P.length:=(List.getElem?_eq_some_iff.1 h0).1
 have q:=hd.get h0
 have hx:k % p0.2.w<p0.2.w:=Nat.mod_lt _ (by omega)
 have hy:k / p0.2.w<p0.2.h:=Nat.div_lt_of_lt_mul hk
 have AT:=Lib.hid fun i p hp=>PDims.at_ (i:=i) (p:=p) hd h0 hx hy hp
 generalize k % p0.2.w=x at *
 generalize k / p0.2.w=y at *
 have K:=Lib.hid (And.intro h (And.intro hw (And.intro hs hd)))
 clear h hw hs hd q h0 hk hx hy
 have hn0:(0:Int)<(P.length:Int):=by omega
 rw [← midE_zero]
 go_enter Tryz.func73,Tryz.ntmps73
 go_wp2_with (go_at_call 106;refine WO.out.mono ?_;rintro e w1 ⟨v1,H1,rfl,r1,m1⟩;obtain ⟨a1,c1,rfl⟩:=r1.slice;have K1:=Lib.hid (And.intro r1 m1);clear r1 m1)
 go_loopg [8,10,15] P.length (fun g s8 _ s15 wx=>∃ (m:Nat) (HTm HWm:List HB),m≤P.length∧m=g∧s15=.int .i64 ((P.length - m:Nat):Int)∧s8=.int .i64 (encP (P.drop m) (x / 2 ^ m) (y / 2 ^ m) b).low ∧
  TreeH tb (midE P x y b m) HTm∧WrB wb (bs++(encP (P.drop m) (x / 2 ^ m) (y / 2 ^ m) b).bs) HWm∧Mv W (HW++HT) wx (HWm++(HTm++H1)))
 case atStart =>
  refine ⟨P.length,HT,HW,Nat.le_refl _,rfl,by simp,by simp [encP],by rw [midE_all];exact K.out.1,by simpa [encP] using K.out.2.1,?_⟩
  have:=Mv.call (Mv.mv1 (A:=HW) (B:=HT) (R:=[]) (by simpa using Mv.refl K.out.2.2.1)) K1.out.2
  exact Mv.sub this (fun g=>by simp only [cnt_append,cnt_nil];omega) (fun c hc=>by simp only [List.mem_append,List.not_mem_nil,or_false] at hc ⊢;grind)
 case round =>
  obtain ⟨wa,rfl⟩:∃ wa:World,wa=wr:=⟨_,rfl⟩
  obtain ⟨m,HTm,HWm,hm,rfl,rfl,rfl,tm,bm,mm⟩:=hrel
  by_cases hm0:m=0
  ·subst hm0
   have KE:=Lib.hid (And.intro tm (And.intro bm mm))
   clear tm bm mm K1
   simp only [Nat.sub_zero,List.drop_zero,Nat.pow_zero,Nat.div_one] at KE ⊢
   have d9:¬ (P.length:Int)<(P.length:Int):=by omega
   go_wp2_with fail
   go_end0
   exact ⟨rfl,HTm,KE.out.1,HWm,KE.out.2.1,Mv.sub KE.out.2.2 (fun g=>by simp only [cnt_append];omega) (fun c hc=>by simp only [List.mem_append] at hc ⊢;grind)⟩
  ·obtain ⟨m,rfl⟩:∃ m',m=m'+1:=⟨m - 1,by omega⟩
   obtain ⟨p,hp⟩:∃ p,P[m]?=some p:=⟨_,List.getElem?_eq_getElem (by omega)⟩
   obtain ⟨g1,eg1,hc1,-⟩:=K1.out.1.get mm.sat.right.right (by omega)
   obtain ⟨j,hj⟩:∃ j,P.length - (m+1)=j:=⟨_,rfl⟩
   have hjn:j<P.length:=by omega
   have cj:=hc1 j (by omega)
   rw [List.getElem?_reverse (by rw [wayV_length];exact hjn),wayV_length,show P.length - 1 - j=m from by omega,wayV_get P x y m p hp] at cj
   subst eg1
   have hT:=midE_get P x y b m p hp
   have hst:=midE_step P x y b m p hp
   have hdT:PDims (midE P x y b (m+1)):=K.out.2.2.2.congr (midE_shape P x y b (m+1))
   have hXY:=AT.out m p hp
   have hlw:=encP_inv (P.drop (m+1)) (x / 2 ^ (m+1)) (y / 2 ^ (m+1)) b
   have hbl:(encP (P.drop (m+1)) (x / 2 ^ (m+1)) (y / 2 ^ (m+1)) b).bs.length≤20000:=by
    refine Nat.le_trans hlw.2 (Nat.le_trans (Nat.mul_le_mul (show (P.drop (m+1)).length≤20 by simp;omega) (show b.toNat≤1000 by omega)) (by omega))
   have hlow:=hlw.1
   generalize hX:x / 2 ^ m=X at *
   generalize hY:y / 2 ^ m=Y at *
   have HX:=Lib.hid (And.intro hX hY)
   clear hX hY
   generalize encP (P.drop (m+1)) (x / 2 ^ (m+1)) (y / 2 ^ (m+1)) b=E at *
   have hTs:(midE P x y b (m+1)).set m (p.1,p.2.set_ X Y (p.2.at_ X Y))=midE P x y b (m+1):=by
    rw [LevM.set_at _ _ _ (by rw [(K.out.2.2.2.get hp).1];exact place_lt hXY.1 hXY.2)]
    obtain ⟨h1,h2⟩:=List.getElem?_eq_some_iff.1 hT
    conv=>rhs;rw [← List.set_getElem_self h1]
    rw [h2]
   have S0:Sta W (HW++HT) wa tb wb (midE P x y b (m+1)) m p X Y (p.2.at_ X Y) (bs++E.bs) H1:=⟨HTm,HWm,by rw [hTs];exact tm,bm,mm⟩
   simp only at hst
   generalize p.2.at_ X Y=z0 at *
   generalize midE P x y b (m+1)=T at *
   have CE:=fun w z bs (h:Sta W (HW++HT) w tb wb T m p X Y z bs H1)=>h.cells hdT hT hXY.1 hXY.2
   have SE:=fun w z bs z' f v (h:Sta W (HW++HT) w tb wb T m p X Y z bs H1)=>h.set hdT hT hXY.1 hXY.2 z' f v
   generalize 3 * (Y * p.2.w+X)=kk at *
   have KS:=Lib.hid S0
   obtain ⟨y0,y1,y2,fz⟩:=CE wa z0 _ S0
   have CE:=Lib.hid CE
   have SE:=Lib.hid SE
   have HS:=Lib.hid hst
   have KM:=Lib.hid (And.intro hm hj)
   obtain ⟨lo,hlo⟩:∃ lo,E.low=lo:=⟨_,rfl⟩
   rw [hlo] at hlow HS ⊢
   rw [hj]
   clear tm bm mm hc1 hT hst hdT hXY hlw hTs S0 hp hlo hj hm hm0
   go_upto_region 5 with fail
   all_goals
    obtain ⟨lw,hlw⟩:∃ lw,max z0.low lo=lw:=⟨_,rfl⟩
    have S1:=SE.out wa z0 _ { z0 with low:=max z0.low lo } 1 (.int .i64 (max z0.low lo)) KS.out (.inl ⟨rfl,rfl,rfl⟩)
    have hmx:max z0.low lo=lo∧lo=lw∨max z0.low lo=z0.low∧z0.low=lw:=by omega
    have hw5:∃ w5,w5=wa.setCell ⟨p.1,kk+1,none⟩ (.int .i64 (max z0.low lo)):=⟨_,rfl⟩
    obtain ⟨w5,hw5⟩:=hw5
    rw [← hw5] at S1
    have EN:encNode z0 lo b=encL (b - lw).toNat { z0 with low:=lw } b:=by unfold encNode;rw [hlw]
    rw [hlw] at S1
    have hlb:0≤lw:=by omega
    first
     | (have h5:max z0.low lo=lo:=by omega)
     | (have h5:max z0.low lo=z0.low:=by omega)
    rw [h5] at hw5
    simp only [← hw5]
    have EN:=Lib.hid EN
    have KS1:=Lib.hid S1
    clear y0 y1 y2 fz hw5 S1 h5 hmx hlw cj
    go_loopg [28] (b - lw).toNat (fun g _ wx=>∃ (z:NodeM) (d:List Bool),(b - z.low).toNat=g∧encL (b - lw).toNat { z0 with low:=lw } b=((encL g z b).1,d++(encL g z b).2)∧Sta W (HW++HT) wx tb wb T m p X Y z (bs++E.bs++d) H1∧0≤z.low∧z.n=z0.n)
    case atStart=>exact ⟨_,[],rfl,rfl,by simpa using KS1.out,hlb,rfl⟩
    case round =>
     obtain ⟨wd,rfl⟩:∃ wd:World,wd=wr:=⟨_,rfl⟩
     obtain ⟨z,d,rfl,hE,hS,hz0,hzn⟩:=hrel
     obtain ⟨y0,y1,y2,fz⟩:=CE.out wd z _ hS
     have hdl:d.length≤1000:=by
      have h1:=(encL_inv (b - lw).toNat { z0 with low:=lw } b).1
      rw [hE,List.length_append] at h1
      omega
     have KZ:=Lib.hid (And.intro hE (And.intro hS hzn))
     have f1:=fz (kk+1)
     have f2:=fz (kk+2)
     clear hE hS fz hzn
     by_cases hlt:z.low<b
     ·by_cases hsd:z.said=true
      ·rw [hsd] at y2
       have EQ:Hid (encNode z0 lo b=(z,d)):=Lib.hid (by rw [EN.out,KZ.out.1,encL_said _ _ _ (by rw [hsd];simp)];simp)
       have K9:=Lib.hid KZ.out.2.1
       clear hsd
       go_wp2_with fail
       go_roundg m
       case measure=>omega
       case rel =>
        obtain ⟨HT9,HW9,q1,q2,q3⟩:=K9.out
        obtain ⟨s1,s2,s3⟩:=HS.out
        rw [EQ.out] at s1 s2 s3
        rw [← HX.out.1,← HX.out.2] at s1 s2 s3
        refine ⟨m,HT9,HW9,by have:=KM.out.1;omega,rfl,?_,?_,by rw [← s1,HX.out.1,HX.out.2];exact q1,by rw [s3,← List.append_assoc];exact q2,q3⟩
        ·have:=KM.out;first | (congr 1;omega) | go_num
        ·rw [s2]
      ·rw [Bool.not_eq_true] at hsd
       rw [hsd] at y2
       by_cases hnl:z.n≤z.low
       ·have d3:decide (z.n≤z.low)=true:=by simpa using hnl
        have S6:=(SE.out wd z _ { z with said:=true } 2 (.bool true) KZ.out.2.1 (.inr ⟨rfl,rfl,rfl⟩)).drew
        have EQ:Hid (encNode z0 lo b=({ z with said:=true },d++[true])):=Lib.hid (by rw [EN.out,KZ.out.1,encL_one _ _ _ ⟨hlt,hsd⟩ hnl rfl])
        go_upto_region 6 with fail
        go_region
        all_goals
         obtain ⟨w6,hw6⟩:∃ w6,w6=(wd.setCell ⟨p.1,kk+2,none⟩ (.bool true)).drew:=⟨_,rfl⟩
         rw [← hw6] at S6
         simp only [← hw6]
         clear hw6 y0 y1 y2 f1 f2
         obtain ⟨-,y1,y2,-⟩:=CE.out w6 _ _ S6
         have B6:=Lib.hid (S6.bit 1 (by simp only [List.length_append];omega))
         clear S6
         go_wp2_with (go_at_call 71;with_reducible refine B6.out.mono ?_;rintro e w7 ⟨rfl,S7⟩;obtain ⟨-,x1,-,-⟩:=CE.out w7 _ _ S7;have K9:=Lib.hid S7;clear S7)
         have K9:Hid (Sta W (HW++HT) w7 tb wb T m p X Y { z with said:=true } (bs++E.bs++(d++[true])) H1):=Lib.hid (by rw [← List.append_assoc];simpa using K9.out)
         go_roundg m
         case measure=>omega
         case rel =>
          obtain ⟨HT9,HW9,q1,q2,q3⟩:=K9.out
          obtain ⟨s1,s2,s3⟩:=HS.out
          rw [EQ.out] at s1 s2 s3
          rw [← HX.out.1,← HX.out.2] at s1 s2 s3
          refine ⟨m,HT9,HW9,by have:=KM.out.1;omega,rfl,?_,?_,by rw [← s1,HX.out.1,HX.out.2];exact q1,by rw [s3,← List.append_assoc];exact q2,q3⟩
          ·have:=KM.out;first | (congr 1;omega) | go_num
          ·rw [s2]
       ·have d3:decide (z.n≤z.low)=false:=by simpa using hnl
        have S6:=(SE.out wd z _ { z with said:=false } 2 (.bool false) KZ.out.2.1 (.inr ⟨rfl,rfl,rfl⟩)).drew
        obtain ⟨hf,EZ⟩:=encL_zero _ z b ⟨hlt,hsd⟩ hnl rfl
        have EQ:=Lib.hid EZ
        clear EZ
        go_upto_region 6 with fail
        go_region
        all_goals
         obtain ⟨w6,hw6⟩:∃ w6,w6=(wd.setCell ⟨p.1,kk+2,none⟩ (.bool false)).drew:=⟨_,rfl⟩
         rw [← hw6] at S6
         simp only [← hw6]
         clear hw6 y0 y1 y2 f1 f2
         obtain ⟨-,y1,y2,-⟩:=CE.out w6 _ _ S6
         have B6:=Lib.hid (S6.bit 0 (by simp only [List.length_append];omega))
         clear S6
         go_wp2_with (go_at_call 71;with_reducible refine B6.out.mono ?_;rintro e w7 ⟨rfl,S7⟩;obtain ⟨-,x1,-,fz⟩:=CE.out w7 _ _ S7;have fx:=fz (kk+1);have K9:=Lib.hid S7;clear S7 fz)
         have S8:=SE.out w7 _ _ { z with said:=false,low:=z.low+1 } 1 (.int .i64 (z.low+1)) K9.out (.inl ⟨rfl,rfl,rfl⟩)
         have K8:Hid (Sta W (HW++HT) (w7.setCell ⟨p.1,kk+1,none⟩ (.int .i64 (z.low+1))) tb wb T m p X Y { z with said:=false,low:=z.low+1 } (bs++E.bs++(d++[false])) H1):=Lib.hid (by rw [← List.append_assoc];simpa using S8)
         clear S8
         go_roundg (b - (z.low+1)).toNat
         case measure=>omega
         case rel =>
          refine ⟨_,d++[false],rfl,?_,K8.out,by simp only;omega,KZ.out.2.2⟩
          rw [KZ.out.1,EQ.out]
          simp
     ·have EQ:Hid (encNode z0 lo b=(z,d)):=Lib.hid (by rw [EN.out,KZ.out.1,encL_said _ _ _ (fun e=>hlt e.1)];simp)
      have K9:=Lib.hid KZ.out.2.1
      go_wp2_with fail
      go_roundg m
      case measure=>omega
      case rel =>
       obtain ⟨HT9,HW9,q1,q2,q3⟩:=K9.out
       obtain ⟨s1,s2,s3⟩:=HS.out
       rw [EQ.out] at s1 s2 s3
       rw [← HX.out.1,← HX.out.2] at s1 s2 s3
       refine ⟨m,HT9,HW9,by have:=KM.out.1;omega,rfl,?_,?_,by rw [← s1,HX.out.1,HX.out.2];exact q1,by rw [s3,← List.append_assoc];exact q2,q3⟩
       ·have:=KM.out;first | (congr 1;omega) | go_num
       ·rw [s2]
end
section
open Go.RowKit
theorem flat_length {α:Type} (f:α→List Value) (n:Nat) (hf:∀ x,(f x).length=n) (l:List α):(l.flatMap f).length=l.length * n:=by
 induction l with
 | nil=>simp
 | cons x l ih=>rw [List.flatMap_cons,List.length_append,ih,hf,List.length_cons,Nat.succ_mul,Nat.add_comm]
theorem flat_get {α:Type} (f:α→List Value) (n:Nat) (hf:∀ x,(f x).length=n) (l:List α) (i:Nat) (x:α) (h:l[i]?=some x) (j:Nat) (hj:j<n):(l.flatMap f)[i * n+j]?=(f x)[j]?:=by
 induction l generalizing i with
 | nil=>simp at h
 | cons y l ih =>
  rw [List.flatMap_cons]
  cases i with
  | zero =>
   simp at h
   subst h
   rw [List.getElem?_append_left (by rw [hf];omega)]
   simp
  | succ i =>
   rw [List.getElem?_append_right (by rw [hf,Nat.succ_mul];omega),hf,show (i+1) * n+j - n=i * n+j from by rw [Nat.succ_mul];omega]
   exact ih i (by simpa using h)
theorem flat_set {α:Type} (f:α→List Value) (n:Nat) (hf:∀ x,(f x).length=n) (l:List α) (i:Nat) (x y:α) (h:l[i]?=some x) (j:Nat) (hj:j<n) (v:Value) (hv:f y=(f x).set j v):(l.flatMap f).set (i * n+j) v=(l.set i y).flatMap f:=by
 induction l generalizing i with
 | nil=>simp at h
 | cons z l ih =>
  cases i with
  | zero =>
   simp at h
   subst h
   rw [List.set_cons_zero,List.flatMap_cons,List.flatMap_cons,hv,List.set_append_left _ _ (by rw [hf];omega)]
   simp
  | succ i =>
   rw [List.set_cons_succ,List.flatMap_cons,List.flatMap_cons,List.set_append_right _ _ (by rw [hf,Nat.succ_mul];omega),hf,show (i+1) * n+j - n=i * n+j from by rw [Nat.succ_mul];omega,ih i (by simpa using h)]
structure StM where
 pl:Int
 ps:List (Int × Bool)
 bs:List UInt8
 said:Int
 lb:Int
def passV (p:Int × Bool):List Value:=[.int .i64 p.1,.bool p.2]
def passesV (l:List (Int × Bool)):List Value:=l.flatMap passV
theorem passV_length (p:Int × Bool):(passV p).length=2:=rfl
structure StG where
 m:StM
 vp:Value
 vb:Value
 Hp:List HB
 Hb:List HB
structure StM.Fits (m:StM):Prop where
 np:m.ps.length≤1000
 nb:m.bs.length≤10000000
 pl : -1000≤m.pl∧m.pl≤1000
 said:0≤m.said∧m.said≤m.ps.length
 lb:0≤m.lb∧m.lb≤1000
 ends:∀ p∈m.ps,0≤p.1∧p.1≤100000000
def StG.ok (s:StG):Prop:=RowH 142 2 s.vp s.m.ps.length (passesV s.m.ps) s.Hp∧RowB s.vb s.m.bs s.Hb∧s.m.Fits
def StG.v (s:StG):List Value:=[.int .i64 s.m.pl,s.vp,s.vb,.int .i64 s.m.said,.int .i64 s.m.lb]
def StG.heap (s:StG):List HB:=s.Hp++s.Hb
theorem StG.v_length (s:StG):s.v.length=5:=rfl
def TreeOk (P:List LvG) (w h:Nat):Prop:=P.length≤20∧PDims P∧(0<w * h→∃ p0,P[0]?=some p0∧p0.2.w=w∧p0.2.h=h)
theorem TreeOk.congr {P Q:List LvG} {w h:Nat} (k:TreeOk P w h) (e:Q.map (fun p=>shapeL p.2)=P.map (fun p=>shapeL p.2)):TreeOk Q w h:=by
 have hl:Q.length=P.length:=by simpa using congrArg List.length e
 refine ⟨by rw [hl];exact k.1,k.2.1.congr e,fun h0=>?_⟩
 obtain ⟨p0,h1,h2,h3⟩:=k.2.2 h0
 have h4:=congrArg (fun l=>l[0]?) e
 simp only [List.getElem?_map,h1,Option.map_some] at h4
 obtain ⟨q,hq,h5⟩:=Option.map_eq_some_iff.1 h4
 simp only [shapeL,Prod.mk.injEq] at h5
 exact ⟨q,hq,by omega,by omega⟩
theorem dims_new:∀ (k w h:Nat),1≤w→1≤h→w≤2 ^ k→h≤2 ^ k→Dims (treeNew (k+1) w h)∧(∃ T,treeNew (k+1) w h=levNew w h::T)∧(treeNew (k+1) w h).length≤k+1∧∀ L∈treeNew (k+1) w h,1≤L.w∧L.w≤w∧1≤L.h∧L.h≤h:=by
 intro k
 induction k with
 | zero =>
  intro w h h1 h2 h3 h4
  obtain rfl:w=1:=by omega
  obtain rfl:h=1:=by omega
  refine ⟨?_,⟨[],by simp [treeNew]⟩,by simp [treeNew],?_⟩
  ·simp [treeNew,Dims,levNew]
  ·intro L hL
   simp [treeNew] at hL
   subst hL
   simp [levNew]
 | succ k ih =>
  intro w h h1 h2 h3 h4
  by_cases hb:w=1∧h=1
  ·obtain ⟨rfl,rfl⟩:=hb
   refine ⟨?_,⟨[],by simp [treeNew]⟩,by simp [treeNew],?_⟩
   ·simp [treeNew,Dims,levNew]
   ·intro L hL
    simp [treeNew] at hL
    subst hL
    simp [levNew]
  ·have e:treeNew (k+1+1) w h=levNew w h::treeNew (k+1) ((w+1) / 2) ((h+1) / 2):=by
    conv=>lhs;unfold treeNew
    rw [if_neg hb]
   have hp:2 ^ (k+1)=2 * 2 ^ k:=by rw [Nat.pow_succ,Nat.mul_comm]
   obtain ⟨i1,⟨T,i2⟩,i3,i4⟩:=ih ((w+1) / 2) ((h+1) / 2) (by omega) (by omega) (by omega) (by omega)
   rw [e]
   refine ⟨?_,⟨_,rfl⟩,by simp;omega,?_⟩
   ·rw [i2] at i1 ⊢
    exact ⟨h1,h2,by simp [levNew],rfl,rfl,i1⟩
   ·intro L hL
    rcases List.mem_cons.1 hL with rfl | hL
    ·exact ⟨h1,Nat.le_refl _,h2,Nat.le_refl _⟩
    ·have:=i4 L hL
     omega
theorem treeOk_new (P:List LvG) (w h:Nat) (hw:w≤64) (hh:h≤64) (e:P.map (·.2)=treeOf w h):TreeOk P w h:=by
 by_cases hb:(w:Int)<1∨(h:Int)<1∨64<(w:Int)∨64<(h:Int)
 ·have e0:treeOf w h=[]:=by unfold treeOf;rw [if_pos hb]
  rw [e0] at e
  obtain rfl:=List.map_eq_nil_iff.1 e
  refine ⟨by simp,⟨by simp [Dims],by simp⟩,fun h0=>?_⟩
  have h1:=Nat.pos_of_mul_pos_left h0
  have h2:=Nat.pos_of_mul_pos_right h0
  omega
 ·have e0:treeOf w h=treeNew 7 w h:=by unfold treeOf;rw [if_neg hb];simp
  rw [e0] at e
  obtain ⟨i1,⟨T,i2⟩,i3,i4⟩:=dims_new 6 w h (by omega) (by omega) (by omega) (by omega)
  rw [← e] at i1 i2 i3 i4
  refine ⟨by simp at i3;omega,⟨i1,fun p hp=>?_⟩,fun _=>?_⟩
  ·have:=i4 p.2 (List.mem_map.2 ⟨p,hp,rfl⟩)
   omega
  ·have h4:=congrArg (fun l=>l[0]?) i2
   simp only [List.getElem?_map,List.getElem?_cons_zero] at h4
   obtain ⟨q,hq,h5⟩:=Option.map_eq_some_iff.1 h4
   exact ⟨q,hq,by rw [h5];rfl,by rw [h5];rfl⟩
structure BandM where
 w:Nat
 h:Nat
 planes:Int
 first:List LevM
 zeros:List LevM
 set:Bool
 ss:List StM
structure BandG where
 ft:Nat
 zt:Nat
 Pf:List LvG
 Pz:List LvG
 Hf:List HB
 Hz:List HB
 G:List StG
 planes:Int
 set:Bool
 w:Nat
 h:Nat
def BandG.model (b:BandG):BandM:=⟨b.w,b.h,b.planes,b.Pf.map (·.2),b.Pz.map (·.2),b.set,b.G.map (·.m)⟩
structure BandG.ok (b:BandG) (d:BandA):Prop where
 tf:TreeH b.ft b.Pf b.Hf
 tz:TreeH b.zt b.Pz b.Hz
 kf:TreeOk b.Pf b.w b.h
 kz:TreeOk b.Pz b.w b.h
 st:∀ s∈b.G,s.ok
 len:b.G.length=d.n
 n:d.n=b.w * b.h
 pl : -1000≤b.planes∧b.planes≤1000
 hw:b.w≤64
 hh:b.h≤64
def bandB (b:BandG) (d:BandA):HB:=⟨d.bb,118,#[.slice (some ⟨d.lb,0,none⟩) d.n d.n,.int .i64 b.planes,.pointer (some ⟨b.ft,0,none⟩),.pointer (some ⟨b.zt,0,none⟩),.bool b.set]⟩
def statesB (b:BandG) (d:BandA):HB:=⟨d.lb,69,(b.G.flatMap StG.v).toArray⟩
def BandG.heap (b:BandG) (d:BandA):List HB:=bandB b d::statesB b d::(b.Hf++(b.Hz++b.G.flatMap StG.heap))
def BandR (d:BandA) (m:BandM) (H:List HB):Prop:=∃ b:BandG,b.model=m∧b.ok d∧H=b.heap d
theorem BandG.ok.small {b:BandG} {d:BandA} (h:b.ok d):d.n≤4096:=by
 rw [h.n]
 exact Nat.mul_le_mul h.hw h.hh
theorem RowH.types {e:TypeId} {size n:Nat} {v:Value} {xs:List Value} {H:List HB} (h:RowH e size v n xs H):∀ b∈H,b.t=e:=by
 rcases h.2 with ⟨-,-,rfl⟩ | ⟨g,cap,cur,-,-,-,-,-,rfl⟩
 ·intro b hb;cases hb
 ·intro b hb
  simp only [List.mem_singleton] at hb
  subst hb
  rfl
theorem TreeH.types {tb:Nat} {P:List LvG} {H:List HB} (h:TreeH tb P H):∀ b∈H,b.t=178∨b.t=181∨b.t=184:=by
 obtain ⟨v,Hl,rfl,hr⟩:=h
 intro b hb
 rcases List.mem_cons.1 hb with rfl | hb
 ·exact .inl rfl
 ·rcases List.mem_append.1 hb with hb | hb
  ·exact .inr (.inl (hr.types b hb))
  ·obtain ⟨p,-,rfl⟩:=List.mem_map.1 hb
   exact .inr (.inr rfl)
def NoSpot (H:List HB):Prop:=∀ b∈H,b.t≠66
theorem NoSpot.append {A B:List HB} (h:NoSpot A) (k:NoSpot B):NoSpot (A++B):=fun b hb=>(List.mem_append.1 hb).elim (h b) (k b)
theorem NoSpot.cons {a:HB} {B:List HB} (h:a.t≠66) (k:NoSpot B):NoSpot (a::B):=fun b hb=>by
 rcases List.mem_cons.1 hb with rfl | hb
 ·exact h
 ·exact k b hb
theorem NoSpot.nil:NoSpot []:=fun b hb=>by cases hb
theorem NoSpot.tree {tb:Nat} {P:List LvG} {H:List HB} (h:TreeH tb P H):NoSpot H:=fun b hb=>by
 rcases h.types b hb with e | e | e <;> rw [e] <;> decide
theorem NoSpot.row {e:TypeId} {size n:Nat} {v:Value} {xs:List Value} {H:List HB} (h:RowH e size v n xs H) (he:e≠66):NoSpot H:=fun b hb=>by rw [h.types b hb];exact he
theorem NoSpot.states {G:List StG} (h:∀ s∈G,s.ok):NoSpot (G.flatMap StG.heap):=by
 intro b hb
 obtain ⟨s,hs,hb⟩:=List.mem_flatMap.1 hb
 have:=h s hs
 exact (NoSpot.row this.1 (by decide)).append (NoSpot.row this.2.1 (by decide)) b hb
theorem BandR.noSpot {d:BandA} {m:BandM} {H:List HB} (h:BandR d m H):NoSpot H:=by
 obtain ⟨b,-,hk,rfl⟩:=h
 exact NoSpot.cons (show 118≠66 by decide) (NoSpot.cons (show 69≠66 by decide) ((NoSpot.tree hk.tf).append ((NoSpot.tree hk.tz).append (NoSpot.states hk.st))))
def updM (M:Nat→BandM) (b:Nat) (m:BandM):Nat→BandM:=fun k=>if k=b then m else M k
theorem updM_same (M:Nat→BandM) (b:Nat) (m:BandM):updM M b m b=m:=by simp [updM]
theorem updM_other (M:Nat→BandM) {b k:Nat} (m:BandM) (h:k≠b):updM M b m k=M k:=by simp [updM,h]
theorem updM_updM (M:Nat→BandM) (b:Nat) (m m':BandM):updM (updM M b m) b m'=updM M b m':=by funext k;simp only [updM];split <;> rfl
theorem updM_self (M:Nat→BandM) (b:Nat):updM M b (M b)=M:=by funext k;simp only [updM];split <;> simp_all
def BandsR:List BandA→(Nat→BandM)→List HB→Prop
 | [],_,H=>H=[]
 | d::D,M,H=>∃ H1 H2,H=H1++H2∧BandR d (M d.bb) H1∧BandsR D M H2
theorem BandR.key {d:BandA} {m:BandM} {H:List HB} (h:BandR d m H):d.bb∈keys H:=by
 obtain ⟨b,-,-,rfl⟩:=h
 simp [BandG.heap,bandB,keys]
theorem BandsR.noSpot {D:List BandA} {M:Nat→BandM} {H:List HB} (h:BandsR D M H):NoSpot H:=by
 induction D generalizing H with
 | nil=>cases h;exact NoSpot.nil
 | cons d D ih =>
  obtain ⟨H1,H2,rfl,h1,h2⟩:=h
  exact h1.noSpot.append (ih h2)
theorem BandsR.key {D:List BandA} {M:Nat→BandM} {H:List HB} (h:BandsR D M H) {d:BandA} (hd:d∈D):d.bb∈keys H:=by
 induction D generalizing H with
 | nil=>cases hd
 | cons e D ih =>
  obtain ⟨H1,H2,rfl,h1,h2⟩:=h
  rw [keys_append,List.mem_append]
  rcases List.mem_cons.1 hd with rfl | hd
  ·exact .inl h1.key
  ·exact .inr (ih h2 hd)
theorem BandsR.congr {D:List BandA} {M M':Nat→BandM} {H:List HB} (h:BandsR D M H) (e:∀ d∈D,M' d.bb=M d.bb):BandsR D M' H:=by
 induction D generalizing H with
 | nil=>exact h
 | cons d D ih =>
  obtain ⟨H1,H2,rfl,h1,h2⟩:=h
  exact ⟨H1,H2,rfl,by rw [e d List.mem_cons_self];exact h1,ih h2 fun x hx=>e x (List.mem_cons_of_mem _ hx)⟩
def Same (A B:List HB):Prop:=(∀ g,cnt g A=cnt g B)∧∀ b,b∈A↔b∈B
theorem BandsR.split {D:List BandA} {M:Nat→BandM} {H:List HB} (h:BandsR D M H) (hk:(keys H).Nodup) {d:BandA} (hd:d∈D):∃ H1 R,BandR d (M d.bb) H1∧Same H (H1++R)∧∀ m' H1',BandR d m' H1'→∃ H',BandsR D (updM M d.bb m') H'∧Same (H1'++R) H':=by
 induction D generalizing H with
 | nil=>cases hd
 | cons e D ih =>
  obtain ⟨H1,H2,rfl,h1,h2⟩:=h
  rw [keys_append] at hk
  obtain ⟨k1,k2,k3⟩:=List.nodup_append.1 hk
  by_cases he:e=d
  ·subst he
   refine ⟨H1,H2,h1,⟨fun _=>rfl,fun _=>Iff.rfl⟩,fun m' H1' h'=>⟨H1'++H2,⟨H1',H2,rfl,by rw [updM_same];exact h',h2.congr fun x hx=>?_⟩,⟨fun _=>rfl,fun _=>Iff.rfl⟩⟩⟩
   exact updM_other _ _ fun e2=>k3 _ h1.key _ (h2.key hx) e2.symm
  ·have hd':d∈D:=by
    rcases List.mem_cons.1 hd with e2 | e2
    ·exact absurd e2.symm he
    ·exact e2
   obtain ⟨A,R,i1,i2,i3⟩:=ih h2 k2 hd'
   refine ⟨A,H1++R,i1,⟨fun g=>?_,fun b=>?_⟩,fun m' H1' h'=>?_⟩
   ·have:=i2.1 g
    simp only [cnt_append] at this ⊢
    omega
   ·have:=i2.2 b
    simp only [List.mem_append] at this ⊢
    grind
   ·obtain ⟨H',j1,j2⟩:=i3 m' H1' h'
    refine ⟨H1++H',⟨H1,H',rfl,?_,j1⟩,⟨fun g=>?_,fun b=>?_⟩⟩
    ·rw [updM_other]
     ·exact h1
     ·intro e2
      exact k3 _ h1.key _ (h2.key hd') e2
    ·have:=j2.1 g
     simp only [cnt_append] at this ⊢
     omega
    ·have:=j2.2 b
     simp only [List.mem_append] at this ⊢
     grind
end
section
open Go.RowKit
def rUp (a w h k:Nat):Int:=if 1<w * h then ((a+w * h+k / w / 2 * ((w+1) / 2)+k % w / 2:Nat):Int) else -1
def rlev (a:Nat) (L:LevM):List (Int × NodeM):=L.l.mapIdx fun k x=>(rUp a L.w L.h k,x)
def rnodes:Nat→List LevM→List (Int × NodeM)
 | _,[]=>[]
 | a,L::T=>rlev a L++rnodes (a+L.l.length) T
def rnodeV (p:Int × NodeM):List Value:=[.int .i64 p.2.n,.int .i64 p.2.low,.bool p.2.said,.int .i64 p.1]
def rnodesV (l:List (Int × NodeM)):List Value:=l.flatMap rnodeV
theorem rnodeV_length (p:Int × NodeM):(rnodeV p).length=4:=rfl
theorem rnodesV_length (l:List (Int × NodeM)):(rnodesV l).length=l.length * 4:=flat_length rnodeV 4 rnodeV_length l
theorem rnodesV_append (a b:List (Int × NodeM)):rnodesV (a++b)=rnodesV a++rnodesV b:=by simp [rnodesV]
theorem rnodesV_one (l:List (Int × NodeM)):∀ u∈rnodesV l,u.oneCell'=true:=by
 intro u hu
 simp only [rnodesV,rnodeV,List.mem_flatMap,List.mem_cons,List.not_mem_nil,or_false] at hu
 obtain ⟨q,-,rfl | rfl | rfl | rfl⟩:=hu <;> rfl
theorem rnodesV_get {l:List (Int × NodeM)} {k:Nat} {p:Int × NodeM} (h:l[k]?=some p):(rnodesV l)[k * 4]?=some (.int .i64 p.2.n)∧(rnodesV l)[k * 4+1]?=some (.int .i64 p.2.low)∧(rnodesV l)[k * 4+2]?=some (.bool p.2.said)∧(rnodesV l)[k * 4+3]?=some (.int .i64 p.1):=by
 have g:=fun j (hj:j<4)=>flat_get rnodeV 4 rnodeV_length l k p h j hj
 exact ⟨g 0 (by omega),g 1 (by omega),g 2 (by omega),g 3 (by omega)⟩
theorem rlev_length (a:Nat) (L:LevM):(rlev a L).length=L.l.length:=by simp [rlev]
theorem rlev_get {a:Nat} {L:LevM} {k:Nat} {x:NodeM} (h:L.l[k]?=some x):(rlev a L)[k]?=some (rUp a L.w L.h k,x):=by simp [rlev,h]
def leavesM:List LevM→Nat
 | []=>0
 | L::_=>L.l.length
def RTreeH (tb:Nat) (T:List LevM) (fresh:Bool) (H:List HB):Prop :=
 ∃ v Hl,H=⟨tb,159,#[v,.int .i64 (leavesM T:Int),.bool fresh]⟩::Hl∧RowH 162 4 v (rnodes 0 T).length (rnodesV (rnodes 0 T)) Hl
theorem infoRn:(Tryz.prog.info? 162).map (fun i=>(i.zero,i.size,i.bytes))=some (some (.agg #[.int .i64 0,.int .i64 0,.bool false,.int .i64 0]),4,32):=by kernel_rfl
def offT:List LevM→Nat→Nat
 | _,0=>0
 | [],_+1=>0
 | L::T,j+1=>L.l.length+offT T j
theorem rnodes_get {T:List LevM} {j:Nat} {L:LevM} (a:Nat) (hL:T[j]?=some L) {p:Nat} {x:NodeM} (hp:L.l[p]?=some x):(rnodes a T)[offT T j+p]?=some (rUp (a+offT T j) L.w L.h p,x):=by
 induction T generalizing a j with
 | nil=>simp at hL
 | cons M T ih =>
  cases j with
  | zero =>
   simp at hL
   subst hL
   have hpl:=(List.getElem?_eq_some_iff.1 hp).1
   simp only [rnodes,offT,Nat.zero_add,Nat.add_zero]
   rw [List.getElem?_append_left (by rw [rlev_length];exact hpl)]
   exact rlev_get hp
  | succ j =>
   simp only [rnodes,offT]
   rw [List.getElem?_append_right (by rw [rlev_length];omega),rlev_length,show M.l.length+offT T j+p - M.l.length=offT T j+p by omega,ih (a+M.l.length) (by simpa using hL),Nat.add_assoc]
theorem rlev_set {a:Nat} {L:LevM} {p:Nat} (y:NodeM):(rlev a L).set p (rUp a L.w L.h p,y)=rlev a { L with l:=L.l.set p y }:=by
 apply List.ext_getElem?
 intro i
 simp only [rlev,List.getElem?_set,List.getElem?_mapIdx,List.length_mapIdx]
 split
 ·rename_i e
  subst e
  split <;> simp_all
 ·rfl
theorem rnodes_set {T:List LevM} {j:Nat} {L:LevM} (a:Nat) (hL:T[j]?=some L) {p:Nat} (hp:p<L.l.length) (y:NodeM):(rnodes a T).set (offT T j+p) (rUp (a+offT T j) L.w L.h p,y)=rnodes a (T.set j { L with l:=L.l.set p y }):=by
 induction T generalizing a j with
 | nil=>simp at hL
 | cons M T ih =>
  cases j with
  | zero =>
   simp at hL
   subst hL
   simp only [rnodes,offT,Nat.zero_add,Nat.add_zero,List.set_cons_zero,List.length_set]
   rw [List.set_append_left _ _ (by rw [rlev_length];exact hp),rlev_set]
  | succ j =>
   simp only [rnodes,offT,List.set_cons_succ]
   rw [List.set_append_right _ _ (by rw [rlev_length];omega),rlev_length,show M.l.length+offT T j+p - M.l.length=offT T j+p by omega,show a+(M.l.length+offT T j)=a+M.l.length+offT T j by omega,ih (a+M.l.length) (by simpa using hL)]
theorem rnodes_length (a:Nat) (T:List LevM):(rnodes a T).length=offT T T.length:=by
 induction T generalizing a with
 | nil=>rfl
 | cons L T ih=>simp only [rnodes,List.length_append,rlev_length,ih,List.length_cons,offT]
theorem offT_le {T:List LevM} {j:Nat} {L:LevM} (hL:T[j]?=some L):offT T j+L.l.length≤offT T T.length:=by
 induction T generalizing j with
 | nil=>simp at hL
 | cons M T ih =>
  cases j with
  | zero =>
   simp at hL
   subst hL
   simp only [offT,List.length_cons]
   omega
  | succ j =>
   have:=ih (j:=j) (by simpa using hL)
   simp only [offT,List.length_cons]
   omega
theorem offT_shape {T U:List LevM} (h:T.map (fun L=>L.l.length)=U.map (fun L=>L.l.length)) (j:Nat):offT T j=offT U j:=by
 induction T generalizing U j with
 | nil =>
  obtain rfl:U=[]:=by simpa using h.symm
  rfl
 | cons L T ih =>
  cases U with
  | nil=>simp at h
  | cons M U =>
   simp only [List.map_cons,List.cons.injEq] at h
   cases j with
   | zero=>rfl
   | succ j=>simp only [offT,h.1,ih h.2 j]
end
section
open Go.RowKit
def getBlock (n:Nat):Code→Option Code
 | .block i b=>if i == n then some (.block i b) else getBlock n b
 | .seq a b=>(getBlock n a).or (getBlock n b)
 | .cond _ a b=>(getBlock n a).or (getBlock n b)
 | .loop b=>getBlock n b
 | .scope b=>getBlock n b
 | _=>none
def blockOf (n:Nat) (f:Func):Code:=((f.body.bind (getBlock n))).getD .skip
def noQ:Exit→Act→World→Prop:=fun _ _ _=>False
theorem wp_piece {P:Program} {c:Code} {K:Act→World→Prop} {Q:Exit→Act→World→Prop} {a:Act} {w:World} (h:c.wp P (Exit.then K noQ) a w):c.wp P (Exit.then K Q) a w:=by
 refine wp_mono h ?_
 intro e a' w' hq
 cases e with
 | normal=>exact hq
 | _=>exact hq.elim
def getRegion (n:Nat):Code→Option Code
 | .region i os b=>if i == n then some (.region i os b) else none
 | .block _ b=>getRegion n b
 | .seq a b=>(getRegion n a).or (getRegion n b)
 | .cond _ a b=>(getRegion n a).or (getRegion n b)
 | .loop b=>getRegion n b
 | .scope b=>getRegion n b
 | _=>none
def regionOf (n:Nat) (f:Func):Code:=((f.body.bind (getRegion n))).getD .skip
end
end Go.Proofs.YtjngfhgakokejaaGreat
