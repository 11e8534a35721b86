/- Tag trees of the program: New. Tag trees of the program: the way down to a leaf. Tag trees of the program: the way down to a leaf that is there. Tag trees of the program: the least number beneath a node. Bits of packets' heads: the plain law: the program's way of packing them and the document's. Bits of packets' heads: the program's writer, over heaplets. Bits of packets' heads: the program's writer by what was written; slices.Clone of bytes. Bits of packets' heads: the writer's bytes; the program's reader. -/
import Derived.Test.YtjngfhgakokejaaGreatZp01
import Derived.Deep.RegionLaw
import Derived.Deep.QuietTactic
import Derived.BigQuiet
import Derived.Laws.Bits128
import Derived.Laws.BitsAllLaws
import Derived.Deep.RegionHeld
import Derived.WalkLawsBesides
set_option maxRecDepth 100000
set_option maxHeartbeats 8000000
namespace Go.Proofs.YtjngfhgakokejaaGreat
section
open Go.RowKit
theorem levV_new (g w h:Nat):levV (g,levNew w h)=[.int .i64 (w:Int),.int .i64 (h:Int),.slice (some ⟨g,0,none⟩) (w * h) (w * h)]:=by simp [levV,levNew]
theorem grid_new2 (w h:Nat) (W:World) (hw:w≤64) (hh:h≤64) :
  Calls Tryz.prog 98 #[.int .i64 (w:Int),.int .i64 (h:Int)] W fun e W' =>
   ∃ g,e=.returned (.agg #[.int .i64 (w:Int),.int .i64 (h:Int),.slice (some ⟨g,0,none⟩) (w * h) (w * h)])∧Mv W [] W' [levB (g,levNew w h)]:=by
 refine (grid_new w h W hw hh).mono ?_
 rintro e W' ⟨g,rfl,m⟩
 exact ⟨g,by rw [levV_new],m⟩
theorem Mv.rot {w0 w:World} {H0 X Y:List HB} {a b:HB} (h:Mv w0 H0 w (a::(b::(X++Y)))):Mv w0 H0 w (a::(X++(Y++[b]))) :=
 h.sub (fun g=>by simp only [cnt_append,cnt_cons,cnt_nil];omega) (fun c hc=>by simp only [List.mem_append,List.mem_cons,List.not_mem_nil,or_false] at hc ⊢;grind)
theorem tree_new (w h:Int) (W:World) :
  Calls Tryz.prog 50 #[.int .i64 w,.int .i64 h] W fun e W'=>∃ tb P H,e=.returned (.pointer (some ⟨tb,0,none⟩))∧P.map (·.2)=treeOf w h∧TreeH tb P H∧Mv W [] W' H:=by
 by_cases hb:w<1∨h<1∨64<w∨64<h
 ·have e0:treeOf w h=[]:=by unfold treeOf;rw [if_pos hb]
  rw [e0]
  have M:=mv_alloc W 178 #[.slice none 0 0]
  have T0:TreeH W.heap.size [] [⟨W.heap.size,178,#[.slice none 0 0]⟩]:=⟨_,[],by simp,RowH.nil _ _⟩
  have K:=Lib.hid (And.intro M T0)
  clear M T0
  by_cases h1:w<1
  ·have d1:decide (w<1)=true:=by simpa using h1
   clear hb h1
   go_enter Tryz.func50,Tryz.ntmps50
   go_wp2_with fail
   go_ret
   exact ⟨_,_,_,rfl,rfl,K.out.2,K.out.1⟩
  ·have d1:decide (w<1)=false:=by simpa using h1
   by_cases h2:h<1
   ·have d2:decide (h<1)=true:=by simpa using h2
    clear hb h1 h2
    go_enter Tryz.func50,Tryz.ntmps50
    go_wp2_with fail
    go_ret
    exact ⟨_,_,_,rfl,rfl,K.out.2,K.out.1⟩
   ·have d2:decide (h<1)=false:=by simpa using h2
    by_cases h3:64<w
    ·have d3:decide (64<w)=true:=by simpa using h3
     clear hb h1 h2 h3
     go_enter Tryz.func50,Tryz.ntmps50
     go_wp2_with fail
     go_ret
     exact ⟨_,_,_,rfl,rfl,K.out.2,K.out.1⟩
    ·have d3:decide (64<w)=false:=by simpa using h3
     have d4:decide (64<h)=true:=by simp;omega
     clear hb h1 h2 h3
     go_enter Tryz.func50,Tryz.ntmps50
     go_wp2_with fail
     go_ret
     exact ⟨_,_,_,rfl,rfl,K.out.2,K.out.1⟩
 ·have d1:decide (w<1)=false:=by simp;omega
  have d2:decide (h<1)=false:=by simp;omega
  have d3:decide (64<w)=false:=by simp;omega
  have d4:decide (64<h)=false:=by simp;omega
  have e0:treeOf w h=treeNew 7 w.toNat h.toNat:=by unfold treeOf;rw [if_neg hb]
  rw [e0]
  obtain ⟨w,rfl⟩:=Int.eq_ofNat_of_zero_le (a:=w) (by omega)
  obtain ⟨h,rfl⟩:=Int.eq_ofNat_of_zero_le (a:=h) (by omega)
  simp only [Int.toNat_natCast]
  have hw1:1≤w∧w≤2 ^ 6∧1≤h∧h≤2 ^ 6:=by omega
  have M:=mv_alloc W 178 #[.slice none 0 0]
  have K:=Lib.hid M
  have KW:=Lib.hid hw1
  clear M hb e0 hw1
  go_enter Tryz.func50,Tryz.ntmps50
  go_wp2_with fail
  go_loopg [0,1] 7 (fun m s0 s1 wx=>∃ (f a b:Nat) (P:List LvG) (v:Value) (Hl:List HB),m=f+1∧f≤6∧s0=.int .i64 (a:Int)∧s1=.int .i64 (b:Int)∧1≤a∧a≤2 ^ f∧1≤b∧b≤2 ^ f ∧
   P.length+f=6∧P.map (·.2)++treeNew (f+1) a b=treeNew 7 w h∧RowH 181 3 v P.length (levsV P) Hl∧Mv W [] wx (⟨W.heap.size,178,#[v]⟩::(Hl++P.map levB)))
  case atStart=>exact ⟨6,w,h,[],_,[],rfl,Nat.le_refl _,rfl,rfl,KW.out.1,KW.out.2.1,KW.out.2.2.1,KW.out.2.2.2,rfl,by simp,RowH.nil _ _,by simpa using K.out⟩
  case round =>
   obtain ⟨wa,rfl⟩:∃ wa:World,wa=wr:=⟨_,rfl⟩
   obtain ⟨f,a,b,P,v,Hl,rfl,hf,rfl,rfl,ha1,ha2,hb1,hb2,hP,hT,hr,m⟩:=hrel
   have h64:2 ^ f≤64:=Nat.pow_le_pow_right (n:=2) (by decide) hf
   have c0:wa.cell? ⟨W.heap.size,0,none⟩=some v:=m.cell 0 rfl 0
   have ha64:a≤64:=by omega
   have hb64:b≤64:=by omega
   have G:=Lib.hid fun V=>grid_new2 a b V ha64 hb64
   obtain ⟨va,vc,rfl⟩:=hr.slice
   have KR:=Lib.hid (And.intro hr (And.intro m (And.intro hT (And.intro ha2 (And.intro hb2 hP)))))
   clear hr m hT ha2 hb2 hP h64
   go_upto_region 4 with fail
   go_region_law (first
    | (go_simp;go_at_call 98;(with_reducible refine (G.out _).mono ?_);rintro e w1 ⟨g,rfl,m1⟩;have M1:=Mv.call (H:=[]) (Mv.drew KR.out.2.1) m1;have y0:w1.cell? ⟨W.heap.size,0,none⟩=some (.slice va P.length vc):=M1.cell 1 rfl 0;have M2:=M1.alloc 181 (levV (g,levNew a b)).toArray;have y1:(w1.alloc (.cells #[.int .i64 (a:Int),.int .i64 (b:Int),.slice (some ⟨g,0,none⟩) (a * b) (a * b)] 181)).cell? ⟨W.heap.size,0,none⟩=some (.slice va P.length vc):=(by have:=M2.cell 2 rfl 0;rw [levV_new] at this;exact this);have M3:=Mv.mv1 (A:=[_,_,_]) (B:=Hl) (R:=P.map levB) M2;have K1:=Lib.hid (And.intro M3.sat.left M3);clear M1 M2 M3 m1)
    | ((with_reducible refine step_appG (o:=⟨some 33,_,_,_,_,_⟩) (wb:=w1) (v:=.slice va P.length vc) (P:=P) (p:=(g,levNew a b)) (H:=Hl) rfl (.tmp 28) (.tmp 32) rfl ?_ ?_ KR.out.1 ?_ ?_ ?_ ?_);simp [Act.eval];simp [Act.eval];have:=K1.out.1;rw [levV_new] at this;exact this;rw [levV_new];have:=KR.out.2.2.2.2.2;omega;intro v6 w6 H6 h6 m6;obtain ⟨a6,c6,rfl⟩:=h6.slice;have M6:=Mv.drop1 (Mv.mv1 (A:=H6) (B:=[_,_,_]) (Mv.call K1.out.2 (by rw [levV_new];exact m6)));have M7:=Mv.mv1 (A:=[_]) (B:=[_]) M6;have y4:w6.cell? ⟨W.heap.size,0,none⟩=some (.slice va P.length vc):=M7.cell 0 rfl 0;have y5:w6.frozen? ⟨W.heap.size,0,none⟩=false:=M7.frozen 0 rfl 0;have K6:=Lib.hid (And.intro h6 M7);clear h6 m6 M6 M7))
   all_goals
    have M8:=Mv.rot (X:=H6) (Y:=P.map levB) (K6.out.2.set 0 (.slice a6 (P.length+1) c6))
    have hr6:RowH 181 3 (.slice a6 (P.length+1) c6) (P++[(g,levNew a b)]).length (levsV (P++[(g,levNew a b)])) H6:=by simpa using K6.out.1
    generalize w6.setCell ⟨W.heap.size,0,none⟩ (.slice a6 (P.length+1) c6)=w7 at M8 ⊢
    have K7:=Lib.hid (And.intro hr6 M8)
    clear M8 hr6 y0 y1 y4 y5 K6 K1 G c0
    go_wp2_with fail
    ·go_ret
     have ea:a=1:=by first | omega | (simp only [beq_iff_eq] at *;omega)
     have eb:b=1:=by first | omega | (simp only [beq_iff_eq] at *;omega)
     subst ea eb
     refine ⟨_,P++[(g,levNew 1 1)],_,rfl,?_,⟨_,H6,by rw [List.map_append];rfl,K7.out.1⟩,K7.out.2⟩
     have:=KR.out.2.2.1
     simpa [treeNew] using this
    all_goals
     have hne:¬ (a=1∧b=1):=by first | omega | (simp only [beq_eq_false_iff_ne,ne_eq] at *;omega)
     obtain ⟨hr6,M8⟩:=K7.out
     obtain ⟨-,-,hT,ha2,hb2,hP⟩:=KR.out
     cases f with
     | zero=>exact absurd (show a=1∧b=1 by simp at ha2 hb2;omega) hne
     | succ f =>
      rw [Nat.pow_succ] at ha2 hb2
      go_roundg (f+1)
      case measure=>omega
      case rel =>
       refine ⟨f,(a+1) / 2,(b+1) / 2,P++[(g,levNew a b)],_,H6,rfl,by omega,by go_num,by go_num,by omega,by omega,by omega,by omega,by simp;omega,?_,hr6,by rw [List.map_append];exact M8⟩
       rw [← hT]
       have e:treeNew (f+1+1) a b=levNew a b::treeNew (f+1) ((a+1) / 2) ((b+1) / 2):=by
        conv=>lhs;unfold treeNew
        rw [if_neg hne]
       rw [e]
       simp
end
section
open Go.RowKit
def wayV (P:List LvG) (x y:Nat):List Value:=P.mapIdx fun i p=>.pointer (some ⟨p.1,3 * ((y / 2 ^ i) * p.2.w+x / 2 ^ i),none⟩)
theorem wayV_length (P:List LvG) (x y:Nat):(wayV P x y).length=P.length:=by simp [wayV]
theorem wayV_get (P:List LvG) (x y i:Nat) (p:LvG) (h:P[i]?=some p):(wayV P x y)[i]?=some (.pointer (some ⟨p.1,3 * ((y / 2 ^ i) * p.2.w+x / 2 ^ i),none⟩)):=by simp [wayV,h]
def PDims (P:List LvG):Prop:=Dims (P.map (·.2))∧∀ p∈P,1≤p.2.w∧p.2.w≤64∧1≤p.2.h∧p.2.h≤64
theorem PDims.get {P:List LvG} (h:PDims P) {i:Nat} {p:LvG} (hp:P[i]?=some p):p.2.l.length=p.2.w * p.2.h∧1≤p.2.w∧p.2.w≤64∧1≤p.2.h∧p.2.h≤64 :=
 ⟨h.1.len (i:=i) (by simp [hp]),h.2 p (List.mem_of_getElem? hp)⟩
theorem PDims.at_ {P:List LvG} (h:PDims P) {p0:LvG} {x y:Nat} (h0:P[0]?=some p0) (hx:x<p0.2.w) (hy:y<p0.2.h) {i:Nat} {p:LvG} (hp:P[i]?=some p):x / 2 ^ i<p.2.w∧y / 2 ^ i<p.2.h :=
 h.1.at_ (L0:=p0.2) (by simp [h0]) hx hy (by simp [hp])
theorem infoPN:(Tryz.prog.info? 194).map (fun i=>(i.zero,i.size,i.bytes))=some (some (.pointer none),1,8):=by kernel_rfl
theorem RowH.get {e:TypeId} {size n c:Nat} {A:Option Addr} {xs:List Value} {H:List HB} {w:World} (h:RowH e size (.slice A n c) n xs H) (hs:Sat w H) (hn:0<n) :
  ∃ g,A=some ⟨g,0,none⟩∧(∀ i,i<n * size→w.cell? ⟨g,i,none⟩=xs[i]?)∧∀ i,w.frozen? ⟨g,i,none⟩=false:=by
 obtain ⟨g,cap,cur,hv,k1,k2,k3,k4,hH⟩:=h.form hn
 cases hv
 subst hH
 have hb:Blk w g e cur:=hs.mem List.mem_cons_self
 refine ⟨g,rfl,fun i hi=>?_,fun i=>hb.frozen i⟩
 rw [hb.cell i,← k4,List.getElem?_take,if_pos hi,Array.getElem?_toList]
end
section
open Go.RowKit
theorem flat_ptr (n:Nat):(List.replicate n (Value.pointer none).cells.toList).flatten=List.replicate n (.pointer none):=by
 induction n with
 | zero=>rfl
 | succ n ih=>rw [List.replicate_succ,List.replicate_succ,List.flatten_cons,ih];rfl
theorem set_way (n:Nat) (L:List Value) (i q:Nat) (v:Value) (hi:i<n) (hL:L.length=n) (hq:n - 1 - i=q) (hv:L[i]?=some v) :
  (List.replicate (n - i) (Value.pointer none)++(L.take i).reverse).set q v=List.replicate (n - (i+1)) (Value.pointer none)++(L.take (i+1)).reverse:=by
 have e1:n - i=(n - (i+1))+1:=by omega
 have e2:q=n - (i+1):=by omega
 have e3:L.take (i+1)=L.take i++[v]:=by
  rw [List.take_add_one,hv]
  rfl
 rw [e3,List.reverse_append,e1,List.replicate_succ',e2]
 rw [List.append_assoc,List.set_append_right _ _ (by simp)]
 simp
theorem way_ok (tb:Nat) (P:List LvG) (k:Nat) (p0:LvG) (W:World) (H:List HB) (h:TreeH tb P H) (hs:Sat W H) (hl:P.length≤20) (hd:PDims P) (h0:P[0]?=some p0) (hk:k<p0.2.w * p0.2.h) :
  Calls Tryz.prog 106 #[.pointer (some ⟨tb,0,none⟩),.int .i64 (k:Int)] W fun e W'=>∃ v Hn,e=.returned v∧RowH 194 1 v P.length (wayV P (k % p0.2.w) (k / p0.2.w)).reverse Hn∧Mv W H W' (Hn++H):=by
 obtain ⟨i0,hti,hz0,hz1,hz2⟩:=info_parts infoPN
 have hm:=fun W=>run_made (P:=Tryz.prog) 192 194 i0 _ 1 8 P.length Tryz.underlying192 hti hz0 hz1 hz2 rfl (by decide) (by omega) (by omega) W
 rw [flat_ptr] at hm
 obtain ⟨v,Hl,rfl,hr⟩:=h
 obtain ⟨va,vc,rfl⟩:=hr.slice
 have hn:0<P.length:=(List.getElem?_eq_some_iff.1 h0).1
 obtain ⟨g,rfl,hc,hfz⟩:=hr.get (hs.right (A:=[_])).left hn
 have c0:W.cell? ⟨tb,0,none⟩=some (.slice (some ⟨g,0,none⟩) P.length vc):=(hs.at_ 0 rfl).cell 0
 obtain ⟨l1,l2,l3⟩:=levsV_get P 0 p0 h0
 have c1:=hc 0 (by omega)
 have c2:=hc 2 (by omega)
 rw [l1] at c1
 rw [l3,(hd.get h0).1] at c2
 have hw0:=(hd.get h0).2
 have hx:k % p0.2.w<p0.2.w:=Nat.mod_lt _ (by omega)
 have hy:k / p0.2.w<p0.2.h:=Nat.div_lt_of_lt_mul hk
 have hat:=fun i p hp=>hd.at_ (i:=i) (p:=p) h0 hx hy hp
 have d0:((P.length:Int) == 0)=false:=beq_eq_false_iff_ne.2 (by omega)
 have d2:decide (((p0.2.w * p0.2.h:Nat):Int)≤(k:Int))=false:=decide_eq_false (fun h=>Nat.not_le.2 hk (Int.ofNat_le.1 h))
 have hmm:p0.2.w * p0.2.h≤4096:=Nat.mul_le_mul hw0.2.1 hw0.2.2.2
 have hkb:k≤4096:=Nat.le_of_lt (Nat.lt_of_lt_of_le hk hmm)
 have hkm:¬ p0.2.w * p0.2.h≤k:=Nat.not_le.2 hk
 have d1:decide ((k:Int)<0)=false:=by simp
 have hk0:(0:Int)≤(k:Int):=by omega
 have KP:=Lib.hid (And.intro hr (And.intro hs (And.intro hd (And.intro hat (And.intro hx hy)))))
 have hn0:(0:Int)<(P.length:Int):=by omega
 obtain ⟨x,hxx⟩:∃ x,k % p0.2.w=x:=⟨_,rfl⟩
 obtain ⟨y,hyy⟩:∃ y,k / p0.2.w=y:=⟨_,rfl⟩
 generalize p0.1=g0 at *
 generalize hww:p0.2.w=w0 at *
 generalize p0.2.h=h00 at *
 generalize w0 * h00=m0 at *
 have hw1:(w0:Int)≠0:=by omega
 have hx64:x≤64:=by rw [← hxx];have:=Nat.mod_lt k (show 0<w0 by omega);omega
 have hy64:y≤4096:=by rw [← hyy];have:=Nat.div_le_self k w0;omega
 have hxi:(k:Int) % (w0:Int)=(x:Int):=by rw [← hxx];push_cast;rfl
 have hyi:wrap64 ((k:Int) / (w0:Int))=(y:Int):=by
  have e:(k:Int) / (w0:Int)=(y:Int):=by rw [← hyy];push_cast;rfl
  rw [e,← IntWalk.i64_left,IntWalk.i64_in _ (by omega)]
 rw [hxx,hyy] at KP ⊢
 clear hxx hyy
 clear hr hs hd hat hc hfz hx hy h0 l1 l2 l3 hk
 go_enter Tryz.func106,Tryz.ntmps106
 go_upto_region 3 with fail
 go_quiet (fail)
 go_upto_region 6 with fail
 simp only [hxi,hyi]
 have M0:Mv W _ ((W.drewN nq).alloc (.cells (Array.replicate P.length (.pointer none)) 194)) (⟨W.heap.size,194,Array.replicate P.length (.pointer none)⟩::(⟨tb,178,#[.slice (some ⟨g,0,none⟩) P.length vc]⟩::(Hl++P.map levB))):=((Mv.refl KP.out.2.1).drewN nq).alloc _ _
 have R0:RowH 194 1 (.slice (some ⟨W.heap.size,0,none⟩) P.length P.length) P.length (List.replicate (P.length - 0) (.pointer none)++((wayV P x y).take 0).reverse) [⟨W.heap.size,194,Array.replicate P.length (.pointer none)⟩]:=by
  have:=RowH.new 194 W.heap.size P.length (size:=1) (Array.replicate P.length (.pointer none)) (by simp) (by unfold maxLen;omega)
  simpa using this
 have K0:=Lib.hid (And.intro R0 M0)
 obtain ⟨w1,hw1'⟩:∃ w1,w1=(W.drewN nq).alloc (.cells (Array.replicate P.length (.pointer none)) 194):=⟨_,rfl⟩
 rw [← hw1'] at K0
 simp only [← hw1']
 clear R0 M0 c0 c1 c2 hm hw1' d0 d1 d2 hkm hmm hxi hyi
 go_wp2_with fail
 go_loopg [9,58,72,79] P.length (fun m s9 s58 s72 s79 wx=>∃ (i:Nat) (Hn:List HB),i≤P.length∧m=P.length - i∧s58=.int .i64 (i:Int)∧RowH 194 1 (.slice (some ⟨W.heap.size,0,none⟩) P.length P.length) P.length (List.replicate (P.length - i) (.pointer none)++((wayV P x y).take i).reverse) Hn∧Mv W _ wx (Hn++(⟨tb,178,#[.slice (some ⟨g,0,none⟩) P.length vc]⟩::(Hl++P.map levB))))
 case atStart=>exact ⟨0,_,Nat.zero_le _,rfl,rfl,K0.out.1,K0.out.2⟩
 case round =>
  obtain ⟨wa,rfl⟩:∃ wa:World,wa=wr:=⟨_,rfl⟩
  obtain ⟨i,Hn,hi,rfl,rfl,hrn,mn⟩:=hrel
  by_cases hlt:i<P.length
  ·obtain ⟨p,hp⟩:∃ p,P[i]?=some p:=⟨_,List.getElem?_eq_getElem hlt⟩
   have mt:=Mv.mv1 (A:=Hn) (B:=[_]) mn
   have c0:wa.cell? ⟨tb,0,none⟩=some (.slice (some ⟨g,0,none⟩) P.length vc):=mt.cell 0 rfl 0
   have sHl:Sat wa Hl:=(Mv.mv2 (A:=Hn) (B:=[_]) (C:=Hl) mn).sat.left
   obtain ⟨g',eg,hc,-⟩:=KP.out.1.get sHl hn
   obtain rfl:g=g':=by cases eg;rfl
   obtain ⟨l1,l2,l3⟩:=levsV_get P i p hp
   have e1:=hc (3 * i) (by omega)
   have e2:=hc (3 * i+1) (by omega)
   have e3:=hc (3 * i+2) (by omega)
   rw [l1,Nat.mul_comm 3 i] at e1
   rw [l2,Nat.mul_comm 3 i] at e2
   rw [l3,(KP.out.2.2.1.get hp).1,Nat.mul_comm 3 i] at e3
   obtain ⟨q1,q2⟩:=KP.out.2.2.2.1 i p hp
   have q3:=(KP.out.2.2.1.get hp).2
   have hii:(i:Int)<(P.length:Int):=by omega
   have hxq:x / 2 ^ i≤64:=Nat.le_trans (Nat.div_le_self _ _) hx64
   have hyq:y / 2 ^ i≤64:=by omega
   have hpl:y / 2 ^ i * p.2.w+x / 2 ^ i<p.2.w * p.2.h:=place_lt q1 q2
   have G0:=fun V=>grid_at p.2.w p.2.h p.1 (p.2.w * p.2.h) (p.2.w * p.2.h) (x / 2 ^ i) (y / 2 ^ i) V hpl (by omega) (by omega) (by omega) (by have:=Nat.mul_le_mul q3.2.1 q3.2.2.2;omega)
   simp only [Int.natCast_ediv,Int.natCast_pow,Int.cast_ofNat_Int] at G0
   have G:=Lib.hid G0
   clear G0
   have EP:=Lib.hid (And.intro hp (And.intro hrn mn))
   have hi20:i≤20:=by omega
   obtain ⟨q,hq⟩:∃ q,P.length - 1 - i=q:=⟨_,rfl⟩
   have hwi:IntKind.i64.wrap (IntKind.i64.wrap ((P.length:Int) - 1) - (i:Int))=(q:Int):=by
    rw [IntWalk.i64_in ((P.length:Int) - 1) (by omega),IntWalk.i64_in _ (by omega)]
    omega
   have hql:(q:Int)<(P.length:Int):=by omega
   have hqn:q<P.length - i:=by omega
   have HQ:=Lib.hid (And.intro hq hqn)
   clear hq hqn
   have FX:Hid (∀ w2,Mv wa.drew [] w2 []→Mv W (⟨tb,178,#[.slice (some ⟨g,0,none⟩) P.length vc]⟩::(Hl++P.map levB)) w2 (Hn++(⟨tb,178,#[.slice (some ⟨g,0,none⟩) P.length vc]⟩::(Hl++P.map levB)))∧w2.cell? ⟨W.heap.size,q,none⟩=some (.pointer none)∧w2.frozen? ⟨W.heap.size,q,none⟩=false):=Lib.hid (by
    intro w2 m2
    have m3:Mv W _ w2 (Hn++(⟨tb,178,#[.slice (some ⟨g,0,none⟩) P.length vc]⟩::(Hl++P.map levB))):=Mv.call (H:=[]) (H':=[]) (Mv.drew EP.out.2.2) m2
    have z:=RowH.cell EP.out.2.1 m3.sat.left rfl q (by omega)
    refine ⟨m3,?_,z.2⟩
    rw [z.1,List.getElem?_append_left (by simpa using HQ.out.2),List.getElem?_replicate,if_pos HQ.out.2])
   have d7:decide ((i:Int)<(P.length:Int))=true:=by simpa using hlt
   generalize hpw:p.2.w * p.2.h=pn at *
   generalize hpg:p.1=pg at *
   generalize hpw2:p.2.w=pw at *
   generalize p.2.h=ph at *
   clear hrn mn mt hc l1 l2 l3 sHl hp q1 q2 hpw eg
   go_upto_region 9 with fail
   go_region_law (first
    | (go_simp;go_at_call 108;(with_reducible refine (G.out _).mono ?_);rintro e w2 ⟨rfl,m2⟩;obtain ⟨m3,y1,y2⟩:=FX.out w2 m2;have K2:=Lib.hid m3;clear m2 m3))
   all_goals
    obtain ⟨H3,r3,m3⟩:=RowH.set EP.out.2.1 K2.out.sat.left rfl q (.pointer (some ⟨pg,3 * (y / 2 ^ i * pw+x / 2 ^ i),none⟩)) (by omega)
    have m4:=Mv.call K2.out m3
    have K4:=Lib.hid (And.intro r3 m4)
    clear r3 m3 m4 y1 y2 K2
    go_wp2_with fail
    go_roundg (P.length - (i+1))
    case measure=>omega
    case rel =>
     refine ⟨i+1,H3,by omega,rfl,by go_num,?_,K4.out.2⟩
     have hv:=wayV_get P x y i p EP.out.1
     rw [hpg,hpw2] at hv
     have:=K4.out.1
     rw [set_way _ _ i q _ hlt (wayV_length P x y) HQ.out.1 hv] at this
     exact this
  ·obtain rfl:i=P.length:=by omega
   have d7:decide ((P.length:Int)<(P.length:Int))=false:=by simp
   have EP:=Lib.hid (And.intro hrn mn)
   clear hrn mn
   go_wp2_with fail
   go_ret
   refine ⟨_,Hn,rfl,?_,EP.out.2⟩
   have:=EP.out.1
   rw [Nat.sub_self,List.take_of_length_le (by rw [wayV_length];exact Nat.le_refl _)] at this
   simpa using this
end
section
open Go.RowKit
def nodeD:NodeM:=⟨0,0,false⟩
def LevM.at_ (L:LevM) (x y:Nat):NodeM:=L.l.getD (y * L.w+x) nodeD
def leastStep (L:LevM) (x y dx dy:Nat) (n:Int):Int:=if 2 * x+dx<L.w∧2 * y+dy<L.h then min n (L.at_ (2 * x+dx) (2 * y+dy)).n else n
def leastRow (L:LevM) (x y dy:Nat) (n:Int):Int:=leastStep L x y 1 dy (leastStep L x y 0 dy n)
def leastM (L:LevM) (x y:Nat):Int:=leastRow L x y 1 (leastRow L x y 0 (L.at_ (2 * x) (2 * y)).n)
def leastI (L:LevM) (x y dy:Nat) (n:Int) (i:Nat):Int:=if i=0 then n else if i=1 then leastStep L x y 0 dy n else leastRow L x y dy n
def leastO (L:LevM) (x y:Nat) (j:Nat):Int:=if j=0 then (L.at_ (2 * x) (2 * y)).n else if j=1 then leastRow L x y 0 (L.at_ (2 * x) (2 * y)).n else leastM L x y
theorem leastI_step (L:LevM) (x y dy:Nat) (n:Int) (i:Nat) (hi:i<2):leastI L x y dy n (i+1)=leastStep L x y i dy (leastI L x y dy n i):=by
 have:i=0∨i=1:=by omega
 rcases this with rfl | rfl <;> rfl
theorem leastO_step (L:LevM) (x y j:Nat) (hj:j<2):leastO L x y (j+1)=leastI L x y j (leastO L x y j) 2:=by
 have:j=0∨j=1:=by omega
 rcases this with rfl | rfl <;> rfl
theorem node_cell {tb:Nat} {P:List LvG} {H R:List HB} {w w0:World} {H0:List HB} (h:TreeH tb P H) (m:Mv w0 H0 w (R++H)) (hd:PDims P) {i:Nat} {p:LvG} (hp:P[i]?=some p) {x y:Nat} (hx:x<p.2.w) (hy:y<p.2.h) :
  w.cell? ⟨p.1,3 * (y * p.2.w+x),none⟩=some (.int .i64 (p.2.at_ x y).n)∧w.cell? ⟨p.1,3 * (y * p.2.w+x)+1,none⟩=some (.int .i64 (p.2.at_ x y).low)∧w.cell? ⟨p.1,3 * (y * p.2.w+x)+2,none⟩=some (.bool (p.2.at_ x y).said)∧∀ k,w.frozen? ⟨p.1,k,none⟩=false:=by
 obtain ⟨v,Hl,rfl,hr⟩:=h
 have hb:Blk w p.1 184 (nodesV p.2.l).toArray:=m.sat.2 (levB p) (by
  refine List.mem_append_right _ (List.mem_cons_of_mem _ (List.mem_append_right _ ?_))
  exact List.mem_map.2 ⟨p,List.mem_of_getElem? hp,rfl⟩)
 have hl:y * p.2.w+x<p.2.l.length:=by rw [(hd.get hp).1];exact place_lt hx hy
 have hg:p.2.l[y * p.2.w+x]?=some (p.2.at_ x y):=by
  unfold LevM.at_
  rw [List.getD_eq_getElem?_getD,List.getElem?_eq_getElem hl]
  rfl
 obtain ⟨k1,k2,k3⟩:=nodesV_get _ _ _ hg
 refine ⟨?_,?_,?_,fun k=>hb.frozen k⟩
 ·rw [hb.cell];simpa using k1
 ·rw [hb.cell];simpa using k2
 ·rw [hb.cell];simpa using k3
theorem lev_cell {tb:Nat} {P:List LvG} {H R:List HB} {w w0:World} {H0:List HB} (h:TreeH tb P H) (m:Mv w0 H0 w (R++H)) (hd:PDims P) (hn:0<P.length) :
  ∃ g c,w.cell? ⟨tb,0,none⟩=some (.slice (some ⟨g,0,none⟩) P.length c)∧∀ i p,P[i]?=some p→w.cell? ⟨g,i * 3,none⟩=some (.int .i64 (p.2.w:Int))∧w.cell? ⟨g,i * 3+1,none⟩=some (.int .i64 (p.2.h:Int))∧w.cell? ⟨g,i * 3+2,none⟩=some (.slice (some ⟨p.1,0,none⟩) (p.2.w * p.2.h) (p.2.w * p.2.h)):=by
 obtain ⟨v,Hl,rfl,hr⟩:=h
 obtain ⟨va,vc,rfl⟩:=hr.slice
 have s1:=m.sat.right (A:=R)
 obtain ⟨g,rfl,hc,-⟩:=hr.get (s1.right (A:=[_])).left hn
 refine ⟨g,vc,(s1.at_ 0 rfl).cell 0,fun i p hp=>?_⟩
 obtain ⟨l1,l2,l3⟩:=levsV_get P i p hp
 have hi:=(List.getElem?_eq_some_iff.1 hp).1
 have e1:=hc (3 * i) (by omega)
 have e2:=hc (3 * i+1) (by omega)
 have e3:=hc (3 * i+2) (by omega)
 rw [l1,Nat.mul_comm 3 i] at e1
 rw [l2,Nat.mul_comm 3 i] at e2
 rw [l3,(hd.get hp).1,Nat.mul_comm 3 i] at e3
 exact ⟨e1,e2,e3⟩
theorem least_any (tb:Nat) (P:List LvG) (i:Nat) (p:LvG) (x y:Nat) (W:World) (H:List HB) (h:TreeH tb P H) (hs:Sat W H) (hd:PDims P) (hp:P[i]?=some p) (hl:P.length≤20) (hx:2 * x<p.2.w) (hy:2 * y<p.2.h) :
  Calls Tryz.prog 107 #[.pointer (some ⟨tb,0,none⟩),.int .i64 ((i:Int)+1),.int .i64 (x:Int),.int .i64 (y:Int)] W fun e W'=>e=.returned (.int .i64 (leastM p.2 x y))∧Mv W H W' H:=by
 have hi:i<P.length:=(List.getElem?_eq_some_iff.1 hp).1
 obtain ⟨g,c,c0,hc⟩:=lev_cell (R:=[]) h (Mv.refl hs) hd (by omega)
 obtain ⟨e1,e2,e3⟩:=hc i p hp
 have hii:(i:Int)<(P.length:Int):=by omega
 have hi20:i≤20:=by omega
 have q:=hd.get hp
 have hx64:2 * x<64:=by omega
 have hy64:2 * y<64:=by omega
 have K:=Lib.hid (And.intro h (And.intro hs (And.intro hd (And.intro hp q))))
 have GA:=Lib.hid fun (a b:Nat) (V:World) (ha:a<p.2.w) (hb:b<p.2.h)=>grid_at p.2.w p.2.h p.1 (p.2.w * p.2.h) (p.2.w * p.2.h) a b V (place_lt ha hb) (by omega) (by omega) (by omega) (by have:=Nat.mul_le_mul q.2.2.1 q.2.2.2.2;omega)
 have NC:=Lib.hid fun (w:World) (R:List HB) (m:Mv W H w (R++H)) (a b:Nat) (ha:a<p.2.w) (hb:b<p.2.h)=>node_cell h m hd hp ha hb
 have KX:=Lib.hid (And.intro hx hy)
 clear h hs hd hc q
 rw [show leastM p.2 x y=leastO p.2 x y 2 from rfl]
 go_enter Tryz.func107,Tryz.ntmps107
 go_upto_region 2 with fail
 have M1:=(Mv.refl K.out.2.1).alloc 181 #[.int .i64 (p.2.w:Int),.int .i64 (p.2.h:Int),.slice (some ⟨p.1,0,none⟩) (p.2.w * p.2.h) (p.2.w * p.2.h)]
 obtain ⟨w1,hw1⟩:∃ w1,w1=W.alloc (.cells #[.int .i64 (p.2.w:Int),.int .i64 (p.2.h:Int),.slice (some ⟨p.1,0,none⟩) (p.2.w * p.2.h) (p.2.w * p.2.h)] 181):=⟨_,rfl⟩
 rw [← hw1] at M1
 simp only [← hw1]
 have BX:Hid (∀ w,Mv W H w (⟨W.heap.size,181,#[.int .i64 (p.2.w:Int),.int .i64 (p.2.h:Int),.slice (some ⟨p.1,0,none⟩) (p.2.w * p.2.h) (p.2.w * p.2.h)]⟩::H)→w.cell? ⟨W.heap.size,0,none⟩=some (.int .i64 (p.2.w:Int))∧w.cell? ⟨W.heap.size,1,none⟩=some (.int .i64 (p.2.h:Int))∧w.cell? ⟨W.heap.size,2,none⟩=some (.slice (some ⟨p.1,0,none⟩) (p.2.w * p.2.h) (p.2.w * p.2.h))):=Lib.hid fun w m=>⟨m.cell 0 rfl 0,m.cell 0 rfl 1,m.cell 0 rfl 2⟩
 have FX:Hid (∀ wa w2 a b,a<p.2.w→b<p.2.h→Mv W H wa (⟨W.heap.size,181,#[.int .i64 (p.2.w:Int),.int .i64 (p.2.h:Int),.slice (some ⟨p.1,0,none⟩) (p.2.w * p.2.h) (p.2.w * p.2.h)]⟩::H)→Mv wa [] w2 []→Mv W H w2 (⟨W.heap.size,181,#[.int .i64 (p.2.w:Int),.int .i64 (p.2.h:Int),.slice (some ⟨p.1,0,none⟩) (p.2.w * p.2.h) (p.2.w * p.2.h)]⟩::H)∧w2.cell? ⟨p.1,3 * (b * p.2.w+a),none⟩=some (.int .i64 (p.2.at_ a b).n)):=Lib.hid (by
  intro wa w2 a b ha hb m m2
  have m3:=Mv.call (H:=[]) (H':=[]) m m2
  exact ⟨m3,(NC.out w2 [_] m3 a b ha hb).1⟩)
 have KM:=Lib.hid M1
 have G1:=fun V=>GA.out (2 * x) (2 * y) V KX.out.1 KX.out.2
 simp only [Int.natCast_mul,Int.cast_ofNat_Int] at G1
 have G1:=Lib.hid G1
 have Z0:=Lib.hid (show leastO p.2 x y 0=(p.2.at_ (2 * x) (2 * y)).n from rfl)
 obtain ⟨b0,b1,b2⟩:=BX.out w1 M1
 clear hw1 M1 c0 e1 e2 e3 NC
 go_upto_region 3 with (go_at_call 108;with_reducible refine (G1.out _).mono ?_;rintro e w2 ⟨rfl,m2⟩;obtain ⟨m3,y1⟩:=FX.out w1 w2 (2 * x) (2 * y) KX.out.1 KX.out.2 KM.out m2;have K2:=Lib.hid m3;clear m2 m3)
 go_wp2_with fail
 go_loopg [10,11,12,30,33] 2 (fun m s10 _ _ s30 _ wx=>∃ j:Nat,j≤2∧m=2 - j∧s30=.int .i64 (j:Int)∧s10=.int .i64 (leastO p.2 x y j)∧Mv W H wx (⟨W.heap.size,181,#[.int .i64 (p.2.w:Int),.int .i64 (p.2.h:Int),.slice (some ⟨p.1,0,none⟩) (p.2.w * p.2.h) (p.2.w * p.2.h)]⟩::H))
 case atStart=>exact ⟨0,by omega,rfl,rfl,by rw [Z0.out],K2.out⟩
 case round =>
  obtain ⟨wa,rfl⟩:∃ wa:World,wa=wr:=⟨_,rfl⟩
  obtain ⟨j,hj,rfl,rfl,rfl,ma⟩:=hrel
  have KA:=Lib.hid ma
  clear ma y1 b0 b1 b2
  by_cases hlt:j<2
  ·have d1:decide ((j:Int)<2)=true:=by simp;omega
   have ES:=Lib.hid (leastO_step p.2 x y j hlt)
   obtain ⟨z,hz⟩:∃ z,leastO p.2 x y j=z:=⟨_,rfl⟩
   rw [hz] at ES ⊢
   clear hz
   go_wp2_with fail
   go_loopg [10,12,33] 2 (fun m s10 _ s33 wx=>∃ i':Nat,i'≤2∧m=2 - i'∧s33=.int .i64 (i':Int)∧s10=.int .i64 (leastI p.2 x y j z i')∧Mv W H wx (⟨W.heap.size,181,#[.int .i64 (p.2.w:Int),.int .i64 (p.2.h:Int),.slice (some ⟨p.1,0,none⟩) (p.2.w * p.2.h) (p.2.w * p.2.h)]⟩::H))
   case atStart=>exact ⟨0,by omega,rfl,rfl,rfl,KA.out⟩
   case round =>
    obtain ⟨wb,rfl⟩:∃ wb:World,wb=wr:=⟨_,rfl⟩
    obtain ⟨i',hi',rfl,rfl,rfl,mb⟩:=hrel
    obtain ⟨b0,b1,b2⟩:=BX.out wb mb
    have KB:=Lib.hid mb
    clear mb
    by_cases hlt':i'<2
    ·have d2:decide ((i':Int)<2)=true:=by simp;omega
     have EI:=Lib.hid (leastI_step p.2 x y j z i' hlt')
     obtain ⟨z',hz'⟩:∃ z',leastI p.2 x y j z i'=z':=⟨_,rfl⟩
     rw [hz'] at EI ⊢
     clear hz'
     by_cases hin:2 * x+i'<p.2.w∧2 * y+j<p.2.h
     ·have t1:2 * (x:Int)+(i':Int)<(p.2.w:Int):=by omega
      have t2:2 * (y:Int)+(j:Int)<(p.2.h:Int):=by omega
      have E2:Hid (leastI p.2 x y j z (i'+1)=min z' (p.2.at_ (2 * x+i') (2 * y+j)).n):=Lib.hid (by rw [EI.out];unfold leastStep;rw [if_pos hin])
      have G2:=fun V=>GA.out (2 * x+i') (2 * y+j) V hin.1 hin.2
      have F2:=Lib.hid fun w2=>FX.out wb w2 (2 * x+i') (2 * y+j) hin.1 hin.2 KB.out
      simp only [Int.natCast_add,Int.natCast_mul,Int.cast_ofNat_Int] at G2
      have G3:=Lib.hid G2
      obtain ⟨nn,hnn⟩:∃ nn,(p.2.at_ (2 * x+i') (2 * y+j)).n=nn:=⟨_,rfl⟩
      rw [hnn] at E2 F2
      clear G2 hnn hin EI
      go_wp2_with (go_at_call 108;with_reducible refine (G3.out _).mono ?_;rintro e w2 ⟨rfl,m2⟩;obtain ⟨m3,y1⟩:=F2.out w2 m2;have K2:=Lib.hid m3;clear m2 m3)
      all_goals
       go_roundg (2 - (i'+1))
       case measure=>omega
       case rel=>exact ⟨i'+1,by omega,rfl,by go_num,by rw [E2.out];exact congrArg _ (by omega),K2.out⟩
     ·have E2:Hid (leastI p.2 x y j z (i'+1)=z'):=Lib.hid (by rw [EI.out];unfold leastStep;rw [if_neg hin])
      by_cases hin1:2 * x+i'<p.2.w
      ·have t1:2 * (x:Int)+(i':Int)<(p.2.w:Int):=by omega
       have t2:¬ 2 * (y:Int)+(j:Int)<(p.2.h:Int):=by omega
       clear hin EI hin1
       go_wp2_with fail
       go_roundg (2 - (i'+1))
       case measure=>omega
       case rel=>exact ⟨i'+1,by omega,rfl,by go_num,by rw [E2.out],KB.out⟩
      ·have t1:¬ 2 * (x:Int)+(i':Int)<(p.2.w:Int):=by omega
       clear hin EI hin1
       go_wp2_with fail
       go_roundg (2 - (i'+1))
       case measure=>omega
       case rel=>exact ⟨i'+1,by omega,rfl,by go_num,by rw [E2.out],KB.out⟩
    ·obtain rfl:i'=2:=by omega
     have d2:decide ((2:Int)<2)=false:=by decide
     rw [← ES.out]
     go_wp2_with fail
     go_roundg (2 - (j+1))
     case measure=>omega
     case rel=>exact ⟨j+1,by omega,rfl,by go_num,rfl,KB.out⟩
  ·obtain rfl:j=2:=by omega
   have d1:decide ((2:Int)<2)=false:=by decide
   go_wp2_with fail
   go_ret
   exact ⟨rfl,KA.out.drop1⟩
end
section
def wbit (s:List UInt8 × Nat) (b:Bool):List UInt8 × Nat :=
 let t:List UInt8 × Nat:=if s.2=0 then (s.1++[0],if s.1.getLast?=some 255 then 7 else 8) else s
 (t.1.dropLast++[t.1.getLastD 0 ||| (if b then (1:UInt8) <<< UInt8.ofNat (t.2 - 1) else 0)],t.2 - 1)
def wbits (bs:List Bool):List UInt8 × Nat:=bs.foldl wbit ([],0)
def wout (s:List UInt8 × Nat):List UInt8:=if s.1.getLast?=some 255 then s.1++[0] else s.1
def rbit (s:List UInt8 × UInt8 × Nat) (b:Bool):List UInt8 × UInt8 × Nat :=
 let c:=s.2.1 ||| (if b then (1:UInt8) <<< UInt8.ofNat (s.2.2 - 1) else 0)
 if s.2.2=1 then (s.1++[c],0,if c=255 then 7 else 8) else (s.1,c,s.2.2 - 1)
def rbits (bs:List Bool):List UInt8 × UInt8 × Nat:=bs.foldl rbit ([],0,8)
def rout (s:List UInt8 × UInt8 × Nat):List UInt8 :=
 let b:=if s.2.2<(if s.1.getLast?=some 255 then 7 else 8) then s.1++[s.2.1] else s.1
 if b.getLast?=some 255 then b++[0] else b
theorem wbits_snoc (bs:List Bool) (b:Bool):wbits (bs++[b])=wbit (wbits bs) b:=by simp [wbits]
theorem rbits_snoc (bs:List Bool) (b:Bool):rbits (bs++[b])=rbit (rbits bs) b:=by simp [rbits]
def WR (s:List UInt8 × Nat) (r:List UInt8 × UInt8 × Nat):Prop :=
 (s.2=0∧s.1=r.1∧r.2.1=0∧r.2.2=(if r.1.getLast?=some 255 then 7 else 8)) ∨
 (1≤s.2∧s.2<(if r.1.getLast?=some 255 then 7 else 8)∧s.1=r.1++[r.2.1]∧r.2.2=s.2)
theorem WR.step {s:List UInt8 × Nat} {r:List UInt8 × UInt8 × Nat} (h:WR s r) (b:Bool):WR (wbit s b) (rbit r b):=by
 obtain ⟨l,k⟩:=s
 obtain ⟨B,c,f⟩:=r
 rcases h with ⟨h1,h2,h3,h4⟩ | ⟨h1,h2,h3,h4⟩
 ·simp only at h1 h2 h3 h4
  subst h1 h2 h3
  have hf:f=7∨f=8:=by rw [h4];split <;> simp
  right
  have hf1:¬ f=1:=by omega
  simp only [wbit,rbit,if_true,hf1,if_false]
  rw [← h4]
  exact ⟨by omega,by omega,by simp,by first | rfl | trivial⟩
 ·simp only at h1 h2 h3 h4
  subst h3 h4
  have hk:¬ f=0:=by omega
  by_cases hf1:f=1
  ·subst hf1
   left
   simp [wbit,rbit]
  ·right
   simp only [wbit,rbit,hk,hf1,if_false]
   exact ⟨by omega,by omega,by simp,by first | rfl | trivial⟩
theorem wr_bits (bs:List Bool):WR (wbits bs) (rbits bs):=by
 have h:∀ (l:List Bool) (s:List UInt8 × Nat) (r:List UInt8 × UInt8 × Nat),WR s r→WR (l.foldl wbit s) (l.foldl rbit r):=by
  intro l
  induction l with
  | nil=>intro s r h;exact h
  | cons b l ih=>intro s r h;exact ih _ _ (h.step b)
 exact h bs _ _ (.inl ⟨rfl,rfl,rfl,rfl⟩)
theorem wout_rout (bs:List Bool):wout (wbits bs)=rout (rbits bs):=by
 have h:=wr_bits bs
 generalize wbits bs=s at h ⊢
 generalize rbits bs=r at h ⊢
 obtain ⟨l,k⟩:=s
 obtain ⟨B,c,f⟩:=r
 rcases h with ⟨h1,h2,h3,h4⟩ | ⟨h1,h2,h3,h4⟩
 ·simp only at h1 h2 h3 h4
  subst h1 h2 h3
  have:¬ f<(if l.getLast?=some 255 then 7 else 8):=by omega
  simp only [wout,rout,this,if_false]
 ·simp only at h1 h2 h3 h4
  subst h3 h4
  simp only [wout,rout,h2,if_true]
end
section
open Go.RowKit
theorem i64_and1 (n:Int):bits .and .i64 n 1=n % 2:=by
 have h1:(BitVec.ofInt 64 1).toNat=2 ^ 1 - 1:=by decide
 have key:(BitVec.ofInt 64 n &&& BitVec.ofInt 64 1).toNat=(n % ((2 ^ 64:Nat):Int)).toNat % 2 ^ 1:=by
  rw [BitVec.toNat_and,BitVec.toNat_ofInt,h1,Nat.and_two_pow_sub_one_eq_mod]
 show IntKind.i64.wrap ((BitVec.ofInt 64 n &&& BitVec.ofInt 64 1).toNat:Nat)=n % 2
 rw [key,IntKind.wrap_i64]
 omega
theorem shl_u8:∀ k,k<8→((1:UInt8) <<< UInt8.ofNat k).toNat=2 ^ k:=by decide
theorem byte_bit (x:UInt8) (b:Int) (k:Nat) (hk:k<8):bits .or .u8 (x.toNat:Int) (bits .and .i64 b 1 % 256 * 2 ^ k % 256)=((x ||| (if decide (b % 2=1)=true then (1:UInt8) <<< UInt8.ofNat k else 0)).toNat:Int):=by
 rw [i64_and1]
 have hx:=x.toNat_lt
 rcases (show b % 2=0∨b % 2=1 by omega) with h | h
 ·rw [h]
  have:=u8_or_nat x.toNat 0 (by omega) (by omega)
  simpa using this
 ·rw [h]
  have h2:(2:Nat) ^ k<256:=Nat.pow_lt_pow_right (by decide) hk
  have e:(1:Int) % 256 * 2 ^ k % 256=((2 ^ k:Nat):Int):=by
   have e0:(2:Int) ^ k=((2 ^ k:Nat):Int):=by simp
   rw [show (1:Int) % 256=1 from rfl,Int.one_mul,e0]
   exact Int.emod_eq_of_lt (Int.natCast_nonneg _) (by omega)
  rw [e,u8_or_nat x.toNat (2 ^ k) (by omega) h2,if_pos (by simp),UInt8.toNat_or,shl_u8 k hk]
theorem getLast_255 {l:List UInt8} (h:l.getLastD 0=255):(l.getLast?=some 255)=True:=by
 rw [List.getLastD_eq_getLast?] at h
 cases hl:l.getLast? with
 | none=>rw [hl] at h;simp at h
 | some x=>rw [hl] at h;simpa using h
theorem getLast_no255 {l:List UInt8} (h:¬ l.getLastD 0=255):(l.getLast?=some 255)=False:=by
 rw [List.getLastD_eq_getLast?] at h
 simp only [eq_iff_iff,iff_false]
 intro e
 rw [e] at h
 exact h rfl
theorem last_any (g:Nat) (v:Value) (l:List UInt8) (Hr:List HB) (w:World) (c0:w.cell? ⟨g,0,none⟩=some v) (hr:RowB v l Hr) (hs:Sat w Hr) (hl:l.length≤100000000) :
  Calls Tryz.prog 72 #[.pointer (some ⟨g,0,none⟩)] w fun e w'=>e=.returned (.int .u8 ((l.getLastD 0).toNat:Int))∧∃ n,w'=w.drewN n:=by
 by_cases h0:l.length=0
 ·have hl0:l=[]:=List.eq_nil_of_length_eq_zero h0
  subst hl0
  obtain ⟨a,c,rfl⟩:=hr.slice
  have HO:=Lib.hid (And.intro hr hs)
  clear hr hs
  go_enter Tryz.func72,Tryz.ntmps72
  go_wp2_with fail
  go_ret
  exact ⟨rfl,0,rfl⟩
 ·obtain ⟨g2,c,rfl,hc,-⟩:=hr.last hs (by omega)
  have HO:=Lib.hid (And.intro hr hs)
  clear hr hs
  obtain ⟨n,hn⟩:∃ n,l.length=n:=⟨_,rfl⟩
  rw [hn] at c0 hc h0 hl
  simp only [hn] at HO
  have d1:((n:Int) == 0)=false:=by simpa using h0
  have d2:(n:Int) - 1=((n - 1:Nat):Int):=by omega
  have d3:(((n - 1:Nat):Int))<(n:Int):=by omega
  generalize (l.getLastD 0)=lst at *
  go_enter Tryz.func72,Tryz.ntmps72
  go_upto_region 4 with fail
  go_region
  all_goals
   go_wp2_with fail
   go_ret
   exact ⟨rfl,1,rfl⟩
def WrH (wb:Nat) (l:List UInt8) (r:Nat) (H:List HB):Prop:=∃ v Hr,H=⟨wb,148,#[v,.int .i64 (r:Int)]⟩::Hr∧RowB v l Hr
theorem put_any (wb:Nat) (l:List UInt8) (r:Nat) (c:UInt8) (w:World) (H:List HB) (h:WrH wb l r H) (hs:Sat w H) (hl:l.length≤90000000) :
  Calls Tryz.prog 109 #[.pointer (some ⟨wb,0,none⟩),.int .u8 (c.toNat:Int)] w fun e w'=>e=.returned (.tuple #[])∧∃ H',WrH wb (l++[c]) r H'∧Mv w H w' H':=by
 obtain ⟨v,Hr,rfl,hr⟩:=h
 obtain ⟨va,vc,rfl⟩:=hr.slice
 have c0:w.cell? ⟨wb,0,none⟩=some (.slice va l.length vc):=(hs.at_ 0 rfl).cell 0
 have M0:=(Mv.refl hs).alloc 5 #[.int .u8 (c.toNat:Int)]
 have H0:=Lib.hid (And.intro hr M0)
 clear hr hs M0
 go_enter Tryz.func109,Tryz.ntmps109
 go_wp2_with (at_builtin;refine wpList_appB rfl (.tmp 8) (.tmp 10) rfl _ _ l [c] Hr rfl rfl H0.out.1 ((H0.out.2.sat.right (A:=[_,_]))) (bv_one w c _ rfl) (by simp;omega) ?_;intro v8 w8 H8 hr8 m8;obtain ⟨a8,c8,rfl⟩:=hr8.slice;have M8:=Mv.call (Mv.mv1 (A:=[_,_]) (B:=Hr) (R:=[]) (by simpa using H0.out.2)) m8;have y0:=(M8.mv1 (A:=H8) (B:=[_,_]) (R:=[])).cell 1 rfl 0;have yf:=(M8.mv1 (A:=H8) (B:=[_,_]) (R:=[])).frozen 1 rfl 0;have K8:=Lib.hid (And.intro hr8 M8);clear hr8 M8 m8;rw [List.length_append,List.length_cons,List.length_nil,Nat.zero_add] at *)
 go_end0
 obtain ⟨hr8,M8⟩:=K8.out
 have M9:=((M8.mv1 (A:=H8) (B:=[_,_]) (R:=[])).drop1.set 0 (.slice a8 (l.length+1) c8))
 refine ⟨rfl,_,⟨_,H8,rfl,?_⟩,by simpa using M9⟩
 simpa using hr8
theorem bit_wr (wb:Nat) (l:List UInt8) (r:Nat) (b:Int) (w:World) (H:List HB) (h:WrH wb l r H) (hs:Sat w H) (hl:l.length≤80000000) (hr8:r≤8) (h1:r≠0→l≠[]) :
    Calls Tryz.prog 71 #[.pointer (some ⟨wb,0,none⟩),.int .i64 b] w fun e w'=>e=.returned (.tuple #[])∧∃ H',WrH wb (wbit (l,r) (decide (b % 2=1))).1 (wbit (l,r) (decide (b % 2=1))).2 H'∧Mv w H w' H':=by
  by_cases h0:r=0
  case neg =>
    obtain ⟨v,Hr,rfl,hr⟩:=h
    have hl0:0<l.length:=List.length_pos_iff.2 (h1 h0)
    have hr1:1≤r:=by omega
    obtain ⟨g,c,rfl,-,-⟩:=hr.last (hs.right (A:=[_])) hl0
    have M0:=Mv.refl hs
    obtain ⟨n,hn⟩:∃ n,l.length=n:=⟨_,rfl⟩
    have hn0:0<n:=by omega
    have hnl:n≤80000000:=by omega
    rw [hn] at hr M0 ⊢
    clear hs hl hl0 h1
    have c0:w.cell? ⟨wb,0,none⟩=some (.slice (some ⟨g,0,none⟩) n c):=M0.cell 0 rfl 0
    have c1:w.cell? ⟨wb,1,none⟩=some (.int .i64 (r:Int)):=M0.cell 0 rfl 1
    have f1:w.frozen? ⟨wb,1,none⟩=false:=M0.frozen 0 rfl 1
    have d1:IntKind.i64.wrap ((r:Int) - 1)=((r - 1:Nat):Int):=by rw [IntWalk.i64_in _ (by omega)];omega
    have d2:(n:Int) - 1=((n - 1:Nat):Int):=by omega
    have d3:(((n - 1:Nat):Int))<(n:Int):=by omega
    obtain ⟨lst,hlst⟩:∃ x,(l).getLastD 0=x:=⟨_,rfl⟩
    have M2:=M0.set 1 (.int .i64 ((r - 1:Nat):Int))
    obtain ⟨k1,k2⟩:=hr.at_last (M2.sat.right (A:=[_])) hn hn0
    rw [hlst] at k1
    have K:=Lib.hid (And.intro hr (And.intro M2 (And.intro hn hlst)))
    clear hn hlst hr M2 M0
    have d0:((r:Int) == 0)=false:=by simpa using h0
    go_enter Tryz.func71,Tryz.ntmps71
    go_upto_region 6 with fail
    obtain ⟨w2,hw2⟩:∃ w2,w2=w.setCell ⟨wb,1,none⟩ (.int .i64 ((r - 1:Nat):Int)):=⟨_,rfl⟩
    obtain ⟨hr,M2,hn,hlst⟩:=K.out
    rw [← hw2] at M2 k1 k2
    have e0:w2.cell? ⟨wb,0,none⟩=some (.slice (some ⟨g,0,none⟩) n c):=M2.cell 0 rfl 0
    have e1:w2.cell? ⟨wb,1,none⟩=some (.int .i64 ((r - 1:Nat):Int)):=M2.cell 0 rfl 1
    simp only [← hw2]
    have K2:=Lib.hid (And.intro hr (And.intro M2 (And.intro hn hlst)))
    clear K c0 c1 f1 hw2 d1 hr M2 hn hlst
    go_region
    all_goals
      go_wp2_with fail
      go_end0
      obtain ⟨hr,M2,hn,hlst⟩:=K2.out
      rw [byte_bit lst b (r - 1) (by omega)]
      obtain ⟨H',j1,j2⟩:=RowB.set_last (by rw [hn];exact hr) (M2.sat.right (A:=[_])) (by omega) (lst ||| (if decide (b % 2=1)=true then (1:UInt8) <<< UInt8.ofNat (r - 1) else 0))
      rw [hn] at j1 j2
      have M3:=Mv.call (Mv.mv1 (A:=[_]) (B:=Hr) (R:=[]) (by simpa using M2)) j2
      have M4:=(Mv.mv1 (A:=H') (B:=[_]) (R:=[]) M3).drew
      have e:wbit (l,r) (decide (b % 2=1))=((l).dropLast++[lst ||| (if decide (b % 2=1)=true then (1:UInt8) <<< UInt8.ofNat (r - 1) else 0)],r - 1):=by
        simp only [wbit,h0,if_false,hlst]
      rw [e]
      refine ⟨rfl,_,⟨_,H',rfl,j1⟩,?_⟩
      simpa using M4
  case pos =>
    subst h0
    have HH:=Lib.hid (And.intro h hs)
    obtain ⟨v,Hr,rfl,hr⟩:=h
    obtain ⟨va,vc,rfl⟩:=hr.slice
    have M1:=(Mv.refl hs).set 1 (.int .i64 8)
    have c1:w.cell? ⟨wb,1,none⟩=some (.int .i64 0):=(hs.at_ 0 rfl).cell 1
    have f1:w.frozen? ⟨wb,1,none⟩=false:=(hs.at_ 0 rfl).frozen 1
    obtain ⟨w1,hw1⟩:∃ w1,w1=w.setCell ⟨wb,1,none⟩ (.int .i64 8):=⟨_,rfl⟩
    rw [← hw1] at M1
    have LA:=Lib.hid (last_any wb _ l Hr w1 (M1.cell 0 rfl 0) hr (M1.sat.right (A:=[_])) (by omega))
    have K1:=Lib.hid (And.intro hr M1)
    clear hr hs M1
    go_enter Tryz.func71,Tryz.ntmps71
    go_upto_region 2 with fail
    simp only [← hw1]
    clear hw1 HH c1 f1
    have PU:Hid (∀ (r:Nat) (w:World) (H:List HB),WrH wb l r H→Sat w H→Calls Tryz.prog 109 #[.pointer (some ⟨wb,0,none⟩),.int .u8 0] w fun e w'=>e=.returned (.tuple #[])∧∃ H',WrH wb (l++[0]) r H'∧Mv w H w' H'):=Lib.hid (fun r w H h hs=>put_any wb l r 0 w H h hs (by omega))
    obtain ⟨q,hq⟩:∃ q,l.getLastD 0=q:=⟨_,rfl⟩
    rw [hq] at LA
    have HQ:=Lib.hid hq
    clear hq
    by_cases h255:q=255
    case' pos=>have d0:((q.toNat:Int) == 255)=true:=by rw [h255];rfl
    case' neg => have d0 : ((q.toNat : Int) == 255) = false := by
                  have:q.toNat≠255:=fun e=>h255 (UInt8.toNat_inj.1 (by rw [e];rfl))
                  exact beq_eq_false_iff_ne.2 (by omega)
    case pos =>
      go_upto_region 4 with (go_at_call 72;refine LA.out.mono ?_;rintro e w' ⟨rfl,k,rfl⟩;have f1:(w1.drewN k).frozen? ⟨wb,1,none⟩=false:=(K1.out.2.drewN k).frozen 0 rfl 1;have c1:(w1.drewN k).cell? ⟨wb,1,none⟩=some (.int .i64 8):=(K1.out.2.drewN k).cell 0 rfl 1)
      obtain ⟨w2,hw2⟩:∃ w2,w2=(w1.drewN k).setCell ⟨wb,1,none⟩ (.int .i64 7):=⟨_,rfl⟩
      simp only [← hw2]
      have M2:=(K1.out.2.drewN k).set 1 (.int .i64 7)
      rw [← hw2] at M2
      have K2:Hid (RowB (.slice va l.length vc) l Hr∧Mv w _ w2 (⟨wb,148,#[.slice va l.length vc,.int .i64 ((7:Nat):Int)]⟩::Hr)):=Lib.hid (And.intro K1.out.1 M2)
      clear hw2 c1 f1 M2 LA
      go_upto_region 5 with (go_at_call 109;refine (PU.out 7 w2 _ ⟨_,_,rfl,K2.out.1⟩ K2.out.2.sat).mono ?_;rintro e w3 ⟨rfl,H3,h3,m3⟩;have K3:=Lib.hid (And.intro h3 (K2.out.2.trans m3));clear h3 m3 K2 K1)
      obtain ⟨h3,M3⟩:=K3.out
      clear K3
      obtain ⟨v3,Hr,rfl,hr⟩:=h3
      have hl0:0<(l++[0]).length:=by simp
      obtain ⟨g,c,rfl,-,-⟩:=hr.last (M3.sat.right (A:=[_])) hl0
      obtain ⟨n,hn⟩:∃ n,(l++[0]).length=n:=⟨_,rfl⟩
      have hn0:0<n:=by omega
      have hnl : n ≤ 80000001 := by have : (l ++ [0]).length = l.length + 1 := by simp
                                    omega
      rw [hn] at hr M3
      have hr1:1≤7:=by omega
      have c0:w3.cell? ⟨wb,0,none⟩=some (.slice (some ⟨g,0,none⟩) n c):=M3.cell 0 rfl 0
      have c1:w3.cell? ⟨wb,1,none⟩=some (.int .i64 (7:Int)):=M3.cell 0 rfl 1
      have f1:w3.frozen? ⟨wb,1,none⟩=false:=M3.frozen 0 rfl 1
      have d1:IntKind.i64.wrap ((7:Int) - 1)=6:=by rw [IntWalk.i64_in _ (by omega)];omega
      have d2:(n:Int) - 1=((n - 1:Nat):Int):=by omega
      have d3:(((n - 1:Nat):Int))<(n:Int):=by omega
      obtain ⟨lst,hlst⟩:∃ x,((l++[0])).getLastD 0=x:=⟨_,rfl⟩
      have M2:=M3.set 1 (.int .i64 6)
      obtain ⟨k1,k2⟩:=hr.at_last (M2.sat.right (A:=[_])) hn hn0
      rw [hlst] at k1
      have K:=Lib.hid (And.intro hr (And.intro M2 (And.intro hn hlst)))
      clear hn hlst hr M2 M3
      go_upto_region 6 with fail
      obtain ⟨w2,hw2⟩:∃ w2,w2=w3.setCell ⟨wb,1,none⟩ (.int .i64 6):=⟨_,rfl⟩
      obtain ⟨hr,M2,hn,hlst⟩:=K.out
      rw [← hw2] at M2 k1 k2
      have e0:w2.cell? ⟨wb,0,none⟩=some (.slice (some ⟨g,0,none⟩) n c):=M2.cell 0 rfl 0
      have e1:w2.cell? ⟨wb,1,none⟩=some (.int .i64 6):=M2.cell 0 rfl 1
      simp only [← hw2]
      have K2:=Lib.hid (And.intro hr (And.intro M2 (And.intro hn hlst)))
      clear K c0 c1 f1 hw2 d1 hr M2 hn hlst
      go_region
      all_goals
        go_wp2_with fail
        go_end0
        obtain ⟨hr,M2,hn,hlst⟩:=K2.out
        have bb:=byte_bit lst b 6 (by decide)
        rw [show (2:Int) ^ 6=64 from by decide] at bb
        rw [bb]
        obtain ⟨H',j1,j2⟩:=RowB.set_last (by rw [hn];exact hr) (M2.sat.right (A:=[_])) (by omega) (lst ||| (if decide (b % 2=1)=true then (1:UInt8) <<< UInt8.ofNat 6 else 0))
        rw [hn] at j1 j2
        have M3:=Mv.call (Mv.mv1 (A:=[_]) (B:=Hr) (R:=[]) (by simpa using M2)) j2
        have M4:=(Mv.mv1 (A:=H') (B:=[_]) (R:=[]) M3).drew
        have e:wbit (l,0) (decide (b % 2=1))=(((l++[0])).dropLast++[lst ||| (if decide (b % 2=1)=true then (1:UInt8) <<< UInt8.ofNat 6 else 0)],6):=by
          simp only [wbit,if_true,getLast_255 (HQ.out.trans h255),hlst]
        rw [e]
        refine ⟨rfl,_,⟨_,H',rfl,j1⟩,?_⟩
        simpa using M4
    case neg =>
      go_upto_region 4 with (go_at_call 72;refine LA.out.mono ?_;rintro e w' ⟨rfl,k,rfl⟩)
      have M2:=(K1.out.2.drewN k)
      have K2:Hid (RowB (.slice va l.length vc) l Hr∧Mv w _ (w1.drewN k) (⟨wb,148,#[.slice va l.length vc,.int .i64 ((8:Nat):Int)]⟩::Hr)):=Lib.hid (And.intro K1.out.1 M2)
      clear M2 LA
      go_upto_region 5 with (go_at_call 109;refine (PU.out 8 (w1.drewN k) _ ⟨_,_,rfl,K2.out.1⟩ K2.out.2.sat).mono ?_;rintro e w3 ⟨rfl,H3,h3,m3⟩;have K3:=Lib.hid (And.intro h3 (K2.out.2.trans m3));clear h3 m3 K2 K1)
      obtain ⟨h3,M3⟩:=K3.out
      clear K3
      obtain ⟨v3,Hr,rfl,hr⟩:=h3
      have hl0:0<(l++[0]).length:=by simp
      obtain ⟨g,c,rfl,-,-⟩:=hr.last (M3.sat.right (A:=[_])) hl0
      obtain ⟨n,hn⟩:∃ n,(l++[0]).length=n:=⟨_,rfl⟩
      have hn0:0<n:=by omega
      have hnl : n ≤ 80000001 := by have : (l ++ [0]).length = l.length + 1 := by simp
                                    omega
      rw [hn] at hr M3
      have hr1:1≤8:=by omega
      have c0:w3.cell? ⟨wb,0,none⟩=some (.slice (some ⟨g,0,none⟩) n c):=M3.cell 0 rfl 0
      have c1:w3.cell? ⟨wb,1,none⟩=some (.int .i64 (8:Int)):=M3.cell 0 rfl 1
      have f1:w3.frozen? ⟨wb,1,none⟩=false:=M3.frozen 0 rfl 1
      have d1:IntKind.i64.wrap ((8:Int) - 1)=7:=by rw [IntWalk.i64_in _ (by omega)];omega
      have d2:(n:Int) - 1=((n - 1:Nat):Int):=by omega
      have d3:(((n - 1:Nat):Int))<(n:Int):=by omega
      obtain ⟨lst,hlst⟩:∃ x,((l++[0])).getLastD 0=x:=⟨_,rfl⟩
      have M2:=M3.set 1 (.int .i64 7)
      obtain ⟨k1,k2⟩:=hr.at_last (M2.sat.right (A:=[_])) hn hn0
      rw [hlst] at k1
      have K:=Lib.hid (And.intro hr (And.intro M2 (And.intro hn hlst)))
      clear hn hlst hr M2 M3
      go_upto_region 6 with fail
      obtain ⟨w2,hw2⟩:∃ w2,w2=w3.setCell ⟨wb,1,none⟩ (.int .i64 7):=⟨_,rfl⟩
      obtain ⟨hr,M2,hn,hlst⟩:=K.out
      rw [← hw2] at M2 k1 k2
      have e0:w2.cell? ⟨wb,0,none⟩=some (.slice (some ⟨g,0,none⟩) n c):=M2.cell 0 rfl 0
      have e1:w2.cell? ⟨wb,1,none⟩=some (.int .i64 7):=M2.cell 0 rfl 1
      simp only [← hw2]
      have K2:=Lib.hid (And.intro hr (And.intro M2 (And.intro hn hlst)))
      clear K c0 c1 f1 hw2 d1 hr M2 hn hlst
      go_region
      all_goals
        go_wp2_with fail
        go_end0
        obtain ⟨hr,M2,hn,hlst⟩:=K2.out
        have bb:=byte_bit lst b 7 (by decide)
        rw [show (2:Int) ^ 7=128 from by decide] at bb
        rw [bb]
        obtain ⟨H',j1,j2⟩:=RowB.set_last (by rw [hn];exact hr) (M2.sat.right (A:=[_])) (by omega) (lst ||| (if decide (b % 2=1)=true then (1:UInt8) <<< UInt8.ofNat 7 else 0))
        rw [hn] at j1 j2
        have M3:=Mv.call (Mv.mv1 (A:=[_]) (B:=Hr) (R:=[]) (by simpa using M2)) j2
        have M4:=(Mv.mv1 (A:=H') (B:=[_]) (R:=[]) M3).drew
        have e:wbit (l,0) (decide (b % 2=1))=(((l++[0])).dropLast++[lst ||| (if decide (b % 2=1)=true then (1:UInt8) <<< UInt8.ofNat 7 else 0)],7):=by
          simp only [wbit,if_true,getLast_no255 (fun e=>h255 (HQ.out.symm.trans e)),if_false,hlst]
        rw [e]
        refine ⟨rfl,_,⟨_,H',rfl,j1⟩,?_⟩
        simpa using M4
end
section
open Go.RowKit
theorem clone_any (v:Value) (l:List UInt8) (w:World) (hv:BV w v l) (hn:l.length≤100000000) :
  Calls Tryz.prog 31 #[v] w fun e w'=>∃ v' H',e=.returned v'∧RowB v' l H'∧Mv w [] w' H':=by
 obtain ⟨A,c,rfl,h1,h2,hr⟩:=hv
 have HV:=Lib.hid hr
 have hq:∀ W,(binOp .eql 30 (.slice A l.length c) (.slice none 0 0)).run Tryz.prog W=.ok (.bool A.isNone) W:=fun W=>Lib.run_eql_slice_nil W 30 5 A l.length c 0 0 Tryz.underlying30
 rcases A with _ | ad
 ·have h0:l.length=0:=by
   rcases Nat.eq_zero_or_pos l.length with h | h
   ·exact h
   ·obtain ⟨_,h,_⟩:=hr.2 h;cases h
  have hl:l=[]:=List.eq_nil_of_length_eq_zero h0
  subst hl
  clear hr HV hn h1 h0
  simp only [List.length_nil] at hq ⊢
  go_enter Tryz.func31,Tryz.ntmps31
  go_wp2
  go_ret
  exact ⟨_,[],rfl,RowH.nil _ _,Mv.refl (Sat.nil w)⟩
 ·have M0:=mv_alloc w 5 #[]
  have B0:BV (w.alloc (.cells #[] 5)) (.slice (some ad) l.length c) l:=⟨some ad,c,rfl,h1,h2,(hr.alloc (Nat.le_refl _) _).more (by simp)⟩
  have R0:RowB (.slice (some ⟨w.heap.size,0,none⟩) 0 0) [] [⟨w.heap.size,5,#[]⟩]:=RowB.lit w.heap.size [] 0 rfl (by decide)
  have K:=Lib.hid (And.intro M0 (And.intro B0 R0))
  obtain ⟨n,hnn⟩:∃ n,l.length=n:=⟨_,rfl⟩
  have HN:=Lib.hid hnn
  rw [hnn] at hq hn h1 K
  rw [hnn]
  clear hr HV M0 B0 R0 hnn
  go_enter Tryz.func31,Tryz.ntmps31
  go_wp2_with (at_builtin;go_must (refine wpList_appB rfl (.tmp 5) (.tmp 6) rfl _ _ [] l _ rfl rfl K.out.2.2 K.out.1.sat K.out.2.1 (by rw [HN.out];simp;omega) ?_;intro v' w1 H1 hr1 m1;obtain ⟨a1,c1,rfl⟩:=hr1.slice;have K1:=Lib.hid (And.intro hr1 m1);clear hr1 m1))
  go_ret
  exact ⟨_,H1,rfl,by simpa using K1.out.1,K.out.1.trans K1.out.2⟩
theorem wbits_inv (bs:List Bool):(wbits bs).2≤8∧((wbits bs).2≠0→(wbits bs).1≠[])∧(wbits bs).1.length≤bs.length:=by
 have h:=wr_bits bs
 refine ⟨?_,?_,?_⟩
 ·rcases h with ⟨h1,-⟩ | ⟨-,h2,-⟩
  ·omega
  ·split at h2 <;> omega
 ·rcases h with ⟨h1,-⟩ | ⟨-,-,h3,-⟩
  ·intro e;exact absurd h1 e
  ·intro _;rw [h3];simp
 ·clear h
  have key:∀ (l:List Bool) (s:List UInt8 × Nat),(l.foldl wbit s).1.length≤s.1.length+l.length:=by
   intro l
   induction l with
   | nil=>intro s;simp
   | cons b l ih =>
    intro s
    have h1:=ih (wbit s b)
    have h2:(wbit s b).1.length≤s.1.length+1:=by
     simp only [wbit]
     split <;> simp <;> omega
    simp only [List.foldl_cons,List.length_cons]
    omega
  simpa [wbits] using key bs ([],0)
def WrB (wb:Nat) (bs:List Bool) (H:List HB):Prop:=WrH wb (wbits bs).1 (wbits bs).2 H
def bitI (n:Int) (k:Nat):Bool:=decide (n / 2 ^ k % 2=1)
def bitsN (n:Int) (size:Nat):List Bool:=(List.range size).map fun i=>bitI n (size - 1 - i)
def bitsG (n size:Int):List Bool:=if 1≤size∧size≤32 then bitsN n size.toNat else []
theorem bitsN_length (n:Int) (size:Nat):(bitsN n size).length=size:=by simp [bitsN]
theorem bitsG_length (n size:Int):(bitsG n size).length≤32:=by
 unfold bitsG
 split
 ·rw [bitsN_length];omega
 ·simp
theorem bit_any (wb:Nat) (bs:List Bool) (b:Int) (w:World) (H:List HB) (h:WrB wb bs H) (hs:Sat w H) (hl:bs.length≤80000000) :
  Calls Tryz.prog 71 #[.pointer (some ⟨wb,0,none⟩),.int .i64 b] w fun e w'=>e=.returned (.tuple #[])∧∃ H',WrB wb (bs++[decide (b % 2=1)]) H'∧Mv w H w' H':=by
 obtain ⟨i1,i2,i3⟩:=wbits_inv bs
 have:=bit_wr wb (wbits bs).1 (wbits bs).2 b w H h hs (by omega) i1 i2
 unfold WrB
 rw [wbits_snoc]
 exact this
theorem new_writer (w:World):Calls Tryz.prog 25 #[] w fun e w'=>∃ wb H',e=.returned (.pointer (some ⟨wb,0,none⟩))∧WrB wb [] H'∧Mv w [] w' H':=by
 go_enter Tryz.func25,Tryz.ntmps25
 go_wp2_with fail
 go_ret
 exact ⟨_,_,rfl,⟨_,[],rfl,RowH.nil _ _⟩,mv_alloc w _ _⟩
theorem bits_any (wb:Nat) (bs:List Bool) (n size:Int) (w:World) (H:List HB) (h:WrB wb bs H) (hs:Sat w H) (hl:bs.length≤70000000) :
  Calls Tryz.prog 26 #[.pointer (some ⟨wb,0,none⟩),.int .i64 n,.int .i64 size] w fun e w'=>e=.returned (.tuple #[])∧∃ H',WrB wb (bs++bitsG n size) H'∧Mv w H w' H':=by
 by_cases hz:1≤size∧size≤32
 ·obtain ⟨z,rfl⟩:=Int.eq_ofNat_of_zero_le (a:=size) (by omega)
  have d1:decide ((z:Int)<1)=false:=by simp;omega
  have d2:decide ((32:Int)<(z:Int))=false:=by simp;omega
  have K:=Lib.hid (And.intro h (And.intro hs hz))
  have hz2:1≤z∧z≤32:=by omega
  have HG:Hid (bs++bitsG n (z:Int)=bs++bitsN n z):=Lib.hid (by unfold bitsG;rw [if_pos hz];simp)
  rw [HG.out]
  clear h hs hz HG
  go_enter Tryz.func26,Tryz.ntmps26
  go_wp2_with fail
  go_loopg [6] z (fun g s6 wx=>∃ i:Nat,i≤z∧g=z - i∧s6=.int .i64 ((z:Int) - 1 - i)∧∃ H',WrB wb (bs++(List.range i).map fun j=>bitI n (z - 1 - j)) H'∧Mv w H wx H')
  case atStart=>exact ⟨0,Nat.zero_le _,rfl,by go_num,H,by simpa using K.out.1,Mv.refl K.out.2.1⟩
  case round =>
   obtain ⟨wa,rfl⟩:∃ wa:World,wa=wr:=⟨_,rfl⟩
   obtain ⟨i,hik,rfl,rfl,H1,h1,m1⟩:=hrel
   by_cases hlt:i<z
   ·have d3:decide ((0:Int)≤(z:Int) - 1 - i)=true:=by simp;omega
    obtain ⟨q,hq⟩:∃ q,z - 1 - i=q:=⟨_,rfl⟩
    have hq2:(z:Int) - 1 - i=(q:Int):=by omega
    rw [hq2] at d3
    simp only [hq2]
    have hq3:q≤31:=by omega
    have HQ:=Lib.hid (And.intro hq hq2)
    have B1:=Lib.hid (bit_any wb _ (n / 2 ^ q) wa H1 h1 m1.sat (by simp;omega))
    have M1:=Lib.hid m1
    clear hq hq2 h1 m1
    go_wp2_with (go_at_call 71;refine B1.out.mono ?_;rintro e w2 ⟨rfl,H2,h2,m2⟩;have K2:=Lib.hid (And.intro h2 (M1.out.trans m2));clear h2 m2)
    go_roundg (z - (i+1))
    case measure=>omega
    case rel =>
     refine ⟨i+1,hlt,rfl,?_,_,?_,K2.out.2⟩
     ·have:=HQ.out.2
      have h9:(q:Int) - 1=(z:Int) - 1 - ((i+1:Nat):Int):=by omega
      first | rw [h9] | go_num
     ·have:=K2.out.1
      rw [List.range_succ,List.map_append,← List.append_assoc]
      simpa [bitI,HQ.out.1] using this
   ·obtain rfl:i=z:=by omega
    have d3:decide ((0:Int)≤(i:Int) - 1 - i)=false:=by simp;omega
    go_wp2_with fail
    go_end0
    exact ⟨rfl,H1,h1,m1⟩
 ·have hG:bs++bitsG n size=bs:=by unfold bitsG;rw [if_neg hz];simp
  rw [hG]
  by_cases h1:size<1
  ·have d1:decide (size<1)=true:=by simpa using h1
   have K:=Lib.hid (And.intro h hs)
   clear h hs hz h1
   go_enter Tryz.func26,Tryz.ntmps26
   go_wp2_with fail
   exact bodyPost_ret (results_none rfl _ _ _) rfl ⟨rfl,H,K.out.1,Mv.refl K.out.2⟩
  ·have d1:decide (size<1)=false:=by simpa using h1
   have d2:decide (32<size)=true:=by simp;omega
   have K:=Lib.hid (And.intro h hs)
   clear h hs hz h1
   go_enter Tryz.func26,Tryz.ntmps26
   go_wp2_with fail
   exact bodyPost_ret (results_none rfl _ _ _) rfl ⟨rfl,H,K.out.1,Mv.refl K.out.2⟩
end
section
open Go.RowKit
theorem bytes_any (wb:Nat) (bs:List Bool) (w:World) (H:List HB) (h:WrB wb bs H) (hs:Sat w H) (hl:bs.length≤70000000) :
  Calls Tryz.prog 28 #[.pointer (some ⟨wb,0,none⟩)] w fun e w'=>∃ v' Hn,e=.returned v'∧RowB v' (wout (wbits bs)) Hn∧Mv w H w' (Hn++H):=by
 obtain ⟨v,Hr,rfl,hr⟩:=h
 have i3:=(wbits_inv bs).2.2
 unfold wout
 generalize (wbits bs).1=l at *
 generalize (wbits bs).2=r at *
 have hll:l.length≤70000000:=by omega
 clear i3 hl
 have c0:w.cell? ⟨wb,0,none⟩=some v:=(hs.at_ 0 rfl).cell 0
 have C1:=Lib.hid (clone_any v l w (hr.bv (hs.right (A:=[_]))) (by omega))
 have K0:=Lib.hid (And.intro hr hs)
 obtain ⟨va,vc,rfl⟩:=hr.slice
 clear hr hs
 obtain ⟨out,hout⟩:∃ o,(if l.getLast?=some 255 then l++[0] else l)=o:=⟨_,rfl⟩
 rw [hout]
 have HO:=Lib.hid hout
 obtain ⟨q,hq⟩:∃ q,l.getLastD 0=q:=⟨_,rfl⟩
 have HQ:=Lib.hid hq
 have LA:=Lib.hid fun w3 c0 hs=>last_any wb (.slice va l.length vc) l Hr w3 c0 K0.out.1 hs (by omega)
 rw [hq] at LA
 clear hq hout
 go_enter Tryz.func28,Tryz.ntmps28
 go_upto_region 2 with (go_at_call 31;refine C1.out.mono ?_;rintro e w3 ⟨v3,H3,rfl,h3,m3⟩;have K3:=Lib.hid (And.intro h3 (Mv.call (H:=[]) (Mv.refl K0.out.2) m3));clear h3 m3)
 have c3:w3.cell? ⟨wb,0,none⟩=some (.slice va l.length vc):=(Mv.mv1 (A:=H3) (B:=_::Hr) (R:=[]) (by simpa using K3.out.2)).cell 0 rfl 0
 have L3:=Lib.hid (LA.out w3 c3 ((Mv.sub K3.out.2 (fun g=>by simp only [cnt_append,cnt_cons];omega) (fun b hb=>by simp [hb])).sat))
 clear LA C1 c0
 by_cases h255:q=255
 ·have d0:((q.toNat:Int) == 255)=true:=by rw [h255];rfl
  have e1:Hid (out=l++[0]):=Lib.hid (by rw [← HO.out,if_pos (of_eq_true (getLast_255 (HQ.out.trans h255)))])
  go_upto_region 3 with (go_at_call 72;refine L3.out.mono ?_;rintro e w4 ⟨rfl,k,rfl⟩)
  obtain ⟨a3,n3,rfl⟩:=K3.out.1.slice
  have M4:=(K3.out.2.drewN k).alloc 5 #[.int .u8 ((0:UInt8).toNat:Int)]
  have A4:=Lib.hid (bv_one (w3.drewN k) 0 w3.heap.size rfl)
  have S4:Hid (Sat ((w3.drewN k).alloc (.cells #[.int .u8 ((0:UInt8).toNat:Int)] 5)) H3):=Lib.hid (Mv.sub M4 (fun g=>by simp only [cnt_append,cnt_cons];omega) (fun b hb=>by simp [hb])).sat
  have M4':=Lib.hid M4
  clear M4 L3
  go_upto_region 4 with (at_builtin;go_must (refine wpList_appB rfl (.tmp 15) (.tmp 16) rfl _ _ l [0] H3 rfl rfl K3.out.1 S4.out A4.out (by simp;omega) ?_;intro v5 w5 H5 hr5 m5;obtain ⟨a5,c5,rfl⟩:=hr5.slice;have K5:=Lib.hid (And.intro hr5 (Mv.call (Mv.mv1 (A:=[_]) (B:=H3) (R:=_) M4'.out) m5));clear hr5 m5))
  have C5:=Lib.hid (clone_any _ (l++[0]) w5 (K5.out.1.bv K5.out.2.sat.left) (by simp;omega))
  simp only [List.length_append,List.length_cons,List.length_nil,Nat.zero_add] at C5
  go_wp2_with (go_at_call 31;refine C5.out.mono ?_;rintro e w6 ⟨v6,H6,rfl,h6,m6⟩;have K6:=Lib.hid (And.intro h6 (Mv.call (H:=[]) (K5.out.2) m6));clear h6 m6)
  go_ret
  exact ⟨_,H6,rfl,by rw [e1.out];exact K6.out.1,Mv.drop2 (B:=[_]) (Mv.drop2 (B:=H5) K6.out.2)⟩
 ·have d0:((q.toNat:Int) == 255)=false:=by
   have:q.toNat≠255:=fun e=>h255 (UInt8.toNat_inj.1 (by rw [e];rfl))
   exact beq_eq_false_iff_ne.2 (by omega)
  have e1:Hid (out=l):=Lib.hid (by rw [← HO.out,if_neg (of_eq_false (getLast_no255 (fun e=>h255 (HQ.out.symm.trans e))))])
  go_upto_region 4 with (go_at_call 72;refine L3.out.mono ?_;rintro e w4 ⟨rfl,k,rfl⟩)
  obtain ⟨a3,n3,rfl⟩:=K3.out.1.slice
  have C5:=Lib.hid (clone_any _ l (w3.drewN k) (K3.out.1.bv (K3.out.2.drewN k).sat.left) (by omega))
  go_wp2_with (go_at_call 31;refine C5.out.mono ?_;rintro e w6 ⟨v6,H6,rfl,h6,m6⟩;have K6:=Lib.hid (And.intro h6 (Mv.call (H:=[]) (K3.out.2.drewN k) m6));clear h6 m6)
  go_ret
  exact ⟨_,H6,rfl,by rw [e1.out];exact K6.out.1,Mv.drop2 (B:=H3) K6.out.2⟩
structure RdM where
 begun:Nat
 left:Nat
 bad:Bool
end
end Go.Proofs.YtjngfhgakokejaaGreat
