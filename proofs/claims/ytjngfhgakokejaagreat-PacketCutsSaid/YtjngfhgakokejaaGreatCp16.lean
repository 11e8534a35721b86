/- layers: Segments. packet: log, tell. A tree's levels when bounds are said: the plain model. packet: what a head says of a block: the trees. -/
import Derived.Test.YtjngfhgakokejaaGreatCp15
import Derived.Test.YtjngfhgakokejaaGreatCp12
import Derived.Sort.CutIn
import Derived.Sort.QuietIn
import Derived.Test.YtjngfhgakokejaaGreatCp01
import Derived.Test.YtjngfhgakokejaaGreatCp04
set_option maxRecDepth 100000
set_option maxHeartbeats 8000000
set_option linter.all false
namespace Go.Proofs.YtjngfhgakokejaaGreat
section
open Go.RowKit Go.Shelf
attribute [local go_sem] Oper.semAt_some
def sizesM (ends:List Int):Int→List (Nat × Nat)→List Int
 | _,[]=>[]
 | was,p::r=>(ends.getD (p.2 - 1) 0 - was)::sizesM ends (ends.getD (p.2 - 1) 0) r
def wasM (ends:List Int):Int→List (Nat × Nat)→Int
 | was,[]=>was
 | _,p::r=>wasM ends (ends.getD (p.2 - 1) 0) r
theorem sizesM_snoc (ends:List Int) (p:Nat × Nat):∀ (was:Int) (l:List (Nat × Nat)),sizesM ends was (l++[p])=sizesM ends was l++[ends.getD (p.2 - 1) 0 - wasM ends was l]
 | was,[]=>rfl
 | was,q::l=>by simp only[List.cons_append,sizesM,wasM,sizesM_snoc ends p]
theorem wasM_snoc (ends:List Int) (p:Nat × Nat):∀ (was:Int) (l:List (Nat × Nat)),wasM ends was (l++[p])=ends.getD (p.2 - 1) 0
 | was,[]=>rfl
 | was,q::l=>by simp only[List.cons_append,wasM,wasM_snoc ends p]
def was0 (ends:List Int) (from_:Nat):Int:=if from_=0 then 0 else ends.getD (from_ - 1) 0
def lensM (l:List (Nat × Nat)):List Int:=l.map fun p=>(p.2:Int) - (p.1:Int)
theorem pcs_le (style to_:Nat):∀ (f k b:Nat),b≤k→f=to_ - k→∀ p∈pcs style to_ f k b,b≤p.1∧p.1<p.2∧p.2≤to_
 | 0,k,b,_,_,p,h=>by cases h
 | f+1,k,b,hb,hf,p,h=>by
  rw[pcs] at h
  split at h
  ·rcases List.mem_cons.1 h with rfl | h
   ·exact⟨Nat.le_refl _,by simp only;omega,by simp only;omega⟩
   ·have:=pcs_le style to_ f (k+1) (k+1) (Nat.le_refl _) (by omega) p h
    omega
  ·have:=pcs_le style to_ f (k+1) b (by omega) (by omega) p h
   omega
theorem pieces_in (style from_ to_:Nat) (p:Nat × Nat) (h:p∈piecesM style from_ to_):from_≤p.1∧p.1<p.2∧p.2≤to_:=pcs_le style to_ _ _ _ (Nat.le_refl _) rfl p h
theorem pcs_length (style to_:Nat):∀ (f k b:Nat),(pcs style to_ f k b).length≤f
 | 0,_,_=>Nat.le_refl _
 | f+1,k,b=>by
  rw[pcs]
  split
  ·have:=pcs_length style to_ f (k+1) (k+1)
   rw[List.length_cons]
   omega
  ·have:=pcs_length style to_ f (k+1) b
   omega
theorem pieces_any (style from_ to_:Nat) (w:World):Calls Tryz.prog 110 #[.int .i64 (style:Int),.int .i64 (from_:Int),.int .i64 (to_:Int)] w fun e w' =>
  ∃ sb fb tb,e=.returned (.func (.func 128) #[] #[.pointer (some ⟨fb,0,none⟩),.pointer (some ⟨tb,0,none⟩),.pointer (some ⟨sb,0,none⟩)])∧Mv w [] w' [⟨tb,3,#[.int .i64 (to_:Int)]⟩,⟨fb,3,#[.int .i64 (from_:Int)]⟩,⟨sb,3,#[.int .i64 (style:Int)]⟩]:=by
 have M:=((mv_alloc w 3 #[.int .i64 (style:Int)]).alloc 3 #[.int .i64 (from_:Int)]).alloc 3 #[.int .i64 (to_:Int)]
 simp only[World.size_alloc] at M
 have K:=Lib.hid M
 clear M
 go_enter Tryz.func110,Tryz.ntmps110
 go_wp2_with fail
 go_ret
 exact⟨_,_,_,rfl,K.out⟩
theorem sizesM_length (ends:List Int):∀ (was:Int) (l:List (Nat × Nat)),(sizesM ends was l).length=l.length
 | _,[]=>rfl
 | _,_::l=>by simp only[sizesM,List.length_cons,sizesM_length ends _ l]
theorem wasM_bd (ends:List Int) (h:∀ i,0≤ends.getD i 0∧ends.getD i 0≤100000000):∀ (was:Int) (l:List (Nat × Nat)),(0≤was∧was≤100000000)→0≤wasM ends was l∧wasM ends was l≤100000000
 | _,[],hw=>hw
 | _,_p::l,_=>wasM_bd ends h _ l (h _)
theorem getD_bd (ends:List Int) (h:∀ e∈ends,0≤e∧e≤100000000) (i:Nat):0≤ends.getD i 0∧ends.getD i 0≤100000000:=by
 rw[List.getD_eq_getElem?_getD]
 cases hx:ends[i]? with
 | none=>exact⟨by simp,by simp⟩
 | some x=>exact h x (List.mem_of_getElem? hx)
theorem was0_bd (ends:List Int) (h:∀ e∈ends,0≤e∧e≤100000000) (from_:Nat):0≤was0 ends from_∧was0 ends from_≤100000000:=by
 unfold was0
 split
 ·exact⟨by omega,by omega⟩
 ·exact getD_bd ends h _
theorem range_pieces2 {n:Nat} (hn:3≤n) {g:Operand} {p q:Tmp} (p' q':Tmp) {assign body:Code} {Q:Exit→Act→World→Prop} {a:Act} {w:World} (w0:World) (H0:List HB) (hsz:w0.heap.size≤w.heap.size)
  {fb tb sb style from_ to_:Nat} (hs:style≤63) (hft:from_≤to_) (ht:to_≤1000) (hg:a.eval g=.func (.func 128) #[] #[.pointer (some ⟨fb,0,none⟩),.pointer (some ⟨tb,0,none⟩),.pointer (some ⟨sb,0,none⟩)])
  (P:List (PieceIn style from_ to_)→List HB→Prop) (hP:∀ pre H W,P pre H→Sat W H→PcR W fb tb sb style from_ to_)
  (h0:∃ H,P [] H∧Mv w0 H0 w H)
  (hassign:∀ (l:Nat) (x y:Nat) (W:World) (K:Act→World→Prop),K { tmps:=(((a.tmps.setIfInBounds p (.int .i64 (x:Int))).setIfInBounds q (.int .i64 (y:Int))).setIfInBounds p' (.int .i64 (x:Int))).setIfInBounds q' (.int .i64 (y:Int)),defers:=[] } W →
   assign.wpIn (Fence.wide.inRound l) (n - 1 - 1) Tryz.prog (Exit.then K (fun _ _ _=>False)) { tmps:=(a.tmps.setIfInBounds p (.int .i64 (x:Int))).setIfInBounds q (.int .i64 (y:Int)),defers:=[] } W)
  (hbody:∀ (l:Nat) (pre:List (PieceIn style from_ to_)) (x:Nat × Nat) (hx:x∈piecesM style from_ to_) (W:World) (H:List HB),(∃ r,W.heap[l]?=some (.loop r))→P pre H→Sat W H→pre.length<(piecesM style from_ to_).length →
   body.wpIn (Fence.wide.inRound l) (n - 1 - 1) Tryz.prog (pcPost W H P (pre++[⟨x,hx⟩])) { tmps:=(((a.tmps.setIfInBounds p (.int .i64 (x.1:Int))).setIfInBounds q (.int .i64 (x.2:Int))).setIfInBounds p' (.int .i64 (x.1:Int))).setIfInBounds q' (.int .i64 (x.2:Int)),defers:=[] } W)
  (hdone:∀ (K:Nat) (ys:List (PieceIn style from_ to_)) (W:World) (H:List HB),w0.heap.size≤K→ys.map (·.1)=piecesM style from_ to_→P ys H→Mv w0 H0 W H→W.heap[K]?=some (.deferred (some []))→Q .normal { a with defers:={ target:=.collected K,args:=#[] }::a.defers } W) :
  (Code.rangeFunc g #[p,q] assign body).wpIn Fence.wide n Tryz.prog Q a w :=
 range_pieces hn w0 H0 hsz hs hft ht hg rfl P hP h0 (fun x=>{ tmps:=(((a.tmps.setIfInBounds p (.int .i64 (x.1.1:Int))).setIfInBounds q (.int .i64 (x.1.2:Int))).setIfInBounds p' (.int .i64 (x.1.1:Int))).setIfInBounds q' (.int .i64 (x.1.2:Int)),defers:=[] })
  (fun l x W K hK=>by
   have:=hassign l x.1.1 x.1.2 W K hK
   simpa using this)
  (fun l pre x W H hr h1 h2 h3=>hbody l pre x.1 x.2 W H hr h1 h2 h3) hdone
theorem results_cell2 {P:Program} {fn:Func} {p q:Tmp} {tp tq:TypeId} (h:fn.results=#[.cell p tp,.cell q tq]) (tmps:Array Value) (w:World) :
  (results fn tmps).run P w=((asAddr (tmps.getD p undef)).run P w).andThen fun a w₁=>((loadVar tp a).run P w₁).andThen fun u w₂=>((asAddr (tmps.getD q undef)).run P w₂).andThen fun b w₃=>((loadVar tq b).run P w₃).andThen fun v w₄=>.ok (.tuple #[u,v]) w₄:=by
 simp only[results,h]
 simp[Sem.run_bind,Result.andThen]
theorem seg_results (tmps:Array Value) (w:World) (g1 g2:Nat) (a1 a2:Option Addr) (n1 c1 n2 c2:Nat) (h8:tmps.getD 8 undef=.pointer (some ⟨g1,0,none⟩)) (h9:tmps.getD 9 undef=.pointer (some ⟨g2,0,none⟩)) (b1:w.cell? ⟨g1,0,none⟩=some (.slice a1 n1 c1)) (b2:w.cell? ⟨g2,0,none⟩=some (.slice a2 n2 c2)) :
  (results Tryz.f75 tmps).run Tryz.prog w=.ok (.tuple #[.slice a1 n1 c1,.slice a2 n2 c2]) w:=by
 rw[results_cell2 (p:=8) (q:=9) (tp:=38) (tq:=38) rfl,h8,h9]
 simp only[asAddr]
 go_simp
def segX (g0 g3 _n:Nat) (ev:Value) (was:Int) (tb fb sb style from_ to_:Nat) (He:List HB):List HB :=
 ⟨g3,3,#[.int .i64 was]⟩::⟨g0,38,#[ev]⟩::⟨tb,3,#[.int .i64 (to_:Int)]⟩::⟨fb,3,#[.int .i64 (from_:Int)]⟩::⟨sb,3,#[.int .i64 (style:Int)]⟩::He
def segP (g0 g3 n:Nat) (ev:Value) (ends:List Int) (tb fb sb style from_ to_:Nat) (He:List HB) (pre:List (PieceIn style from_ to_)) (H:List HB):Prop :=
 ∃ a1 c1 H1 a2 c2 H2,RowI (.slice a1 pre.length c1) (lensM (pre.map (·.1))) H1∧RowI (.slice a2 pre.length c2) (sizesM ends (was0 ends from_) (pre.map (·.1))) H2 ∧
  H=H1++(⟨g0+1,38,#[.slice a1 pre.length c1]⟩::(H2++(⟨g0+2,38,#[.slice a2 pre.length c2]⟩::segX g0 g3 n ev (wasM ends (was0 ends from_) (pre.map (·.1))) tb fb sb style from_ to_ He)))
theorem seg_r3 (K:Act→World→Prop) (from_ n ec g0:Nat) (ea:Option Addr) (w:World) (s0 s2 s3 s4 s5 s6 s8 s9 s10 s11 s12 s13 s14 s15 s16 s17 s18 s19 s20 s21 s22 s23 s24 s25 s26 s27 s28 s29 s30 s31 s32 s33 s34 s35 s36 s37 s38 s39 s40 s41 s42 s43 s44 s45 s46 s47 s48 s49 s50 s51 s52 s53 s54 s55 s56 s57 s58 s59 s60 s61 s62:Value) (hfn:from_≤n) (hc:w.cell? ⟨g0,0,none⟩=some (.slice ea n ec))
  (hK:∀ (t19 t20 t21 t22 t23 t24 t25:Value),K ⟨List.toArray (s0::(.int .i64 (from_:Int))::s2::s3::s4::s5::s6::(.pointer (some ⟨g0,0,none⟩))::s8::s9::s10::s11::s12::s13::s14::s15::s16::s17::s18::t19::t20::t21::t22::t23::t24::t25::(.bool (decide (0<from_)))::s27::s28::s29::s30::s31::s32::s33::s34::s35::s36::s37::s38::s39::s40::s41::s42::s43::s44::s45::s46::s47::s48::s49::s50::s51::s52::s53::s54::s55::s56::s57::s58::s59::s60::s61::s62::[]),[]⟩ w) :
  (regionOf 3 Tryz.f75).wp Tryz.prog (Exit.then K noQ) ⟨List.toArray (s0::(.int .i64 (from_:Int))::s2::s3::s4::s5::s6::(.pointer (some ⟨g0,0,none⟩))::s8::s9::s10::s11::s12::s13::s14::s15::s16::s17::s18::s19::s20::s21::s22::s23::s24::s25::s26::s27::s28::s29::s30::s31::s32::s33::s34::s35::s36::s37::s38::s39::s40::s41::s42::s43::s44::s45::s46::s47::s48::s49::s50::s51::s52::s53::s54::s55::s56::s57::s58::s59::s60::s61::s62::[]),[]⟩ w:=by
 conv in (regionOf _ _)=>whnf
 unfold noQ
 have HK:=Lib.hid hK
 clear hK
 by_cases h1:0<from_
 ·have d1:decide ((0:Int)<(from_:Int))=true:=by simp;omega
  have d2:decide ((from_:Int)≤(n:Int))=true:=by simp;omega
  rw[decide_eq_true h1] at HK
  go_wp2_with fail
  exact HK.out _ _ _ _ _ _ _
 ·have d1:decide ((0:Int)<(from_:Int))=false:=by simp;omega
  rw[decide_eq_false h1] at HK
  go_wp2_with fail
  exact HK.out _ _ _ _ _ _ _
theorem segments_any (style from_ to_:Nat) (ends:List Int) (ev:Value) (He:List HB) (w:World) (hs:style≤63) (hft:from_≤to_) (hto:to_≤ends.length) (hl:ends.length≤1000) (he:∀ e∈ends,0≤e∧e≤100000000) (hev:RowI ev ends He) (hsat:Sat w He) :
  Calls Tryz.prog 75 #[.int .i64 (style:Int),.int .i64 (from_:Int),.int .i64 (to_:Int),ev] w fun e w'=>∃ v1 v2 H1 H2,e=.returned (.tuple #[v1,v2])∧RowI v1 (lensM (piecesM style from_ to_)) H1∧RowI v2 (sizesM ends (was0 ends from_) (piecesM style from_ to_)) H2∧Mv w He w' (H1++(H2++He)):=by
 obtain⟨ea,ec,rfl⟩:=hev.slice
 obtain⟨n,hn⟩:∃ n,ends.length=n:=⟨_,rfl⟩
 rw[hn] at hev hto hl ⊢
 obtain⟨F1,hF1⟩:∃ L,lensM (piecesM style from_ to_)=L:=⟨_,rfl⟩
 obtain⟨F2,hF2⟩:∃ L,sizesM ends (was0 ends from_) (piecesM style from_ to_)=L:=⟨_,rfl⟩
 rw[hF1,hF2]
 have HF1:=Lib.hid hF1
 have HF2:=Lib.hid hF2
 clear hF1 hF2
 refine(callsIn_wide (n:=8)).1 ?_
 refine callsIn_of_wp_marks Tryz.func75 rfl trivial ?_ rfl
 simp only[Tryz.ntmps75,List.size_toArray,List.length_cons,List.length_nil,Nat.reduceAdd,Nat.reduceSub,Array.replicate_succ,Array.replicate_zero,List.push_toArray,List.append_toArray,List.nil_append,List.cons_append]
 have M1:=(((Mv.refl hsat).alloc 38 #[.slice ea n ec]).alloc 38 #[.slice none 0 0]).alloc 38 #[.slice none 0 0]
 simp only[World.size_alloc] at M1
 have KE:=Lib.hid (And.intro hev (And.intro he hn))
 have m1:(if (0:Int)<(from_:Int) then (from_:Int) else 0)=(from_:Int):=by split <;> omega
 have m2:(if (n:Int)<(to_:Int) then (n:Int) else (to_:Int))=(to_:Int):=by split <;> omega
 have K1:=Lib.hid M1
 clear M1 hev he hn hsat
 refine wpIn_wide.2 ?_
 go_upto_region 1 with fail
 go_quiet (fail)
 have M3:=K1.out.drewN nq
 clear K1 m1 m2
 obtain⟨g0,hg0⟩:∃ g,w.heap.size=g:=⟨_,rfl⟩
 rw[hg0] at M3 ⊢
 have HG0:=Lib.hid hg0
 clear hg0
 generalize (((w.alloc (.cells #[.slice ea n ec] 38)).alloc (.cells #[.slice none 0 0] 38)).alloc (.cells #[.slice none 0 0] 38)).drewN nq=w1 at *
 have M4:=M3.alloc 3 #[.int .i64 0]
 have c0:(w1.alloc (.cells #[.int .i64 0] 3)).cell? ⟨g0,0,none⟩=some (.slice ea n ec):=M4.cell 3 rfl 0
 obtain⟨g3,hg3⟩:∃ g,w1.heap.size=g:=⟨_,rfl⟩
 rw[hg3] at M4
 have KM:=Lib.hid M4
 have HG3:=Lib.hid hg3
 clear M3 M4
 go_upto_region 3 with fail
 clear hg3
 generalize w1.alloc (.cells #[.int .i64 0] 3)=w2 at *
 refine wp_piece (seg_r3 _ from_ n ec g0 ea w2 _ _ _ _ _ _ _ _ _ _ _ _ _ _ _ _ _ _ _ _ _ _ _ _ _ _ _ _ _ _ _ _ _ _ _ _ _ _ _ _ _ _ _ _ _ _ _ _ _ _ _ _ _ _ _ _ _ _ _ _ _ (by omega) c0 ?_)
 rintro _ _ _ _ _ _ _
 have GE:Hid (∀ i,i<n→ends[i]?=some (ends.getD i 0)∧0≤ends.getD i 0∧ends.getD i 0≤100000000):=Lib.hid (by
  intro i hi
  obtain⟨x,h⟩:∃ x,ends[i]?=some x:=⟨_,List.getElem?_eq_getElem (by rw[KE.out.2.2];exact hi)⟩
  have e:ends.getD i 0=x:=by rw[List.getD_eq_getElem?_getD,h];rfl
  rw[e]
  exact⟨h,KE.out.2.1 _ (List.mem_of_getElem? h)⟩)
 go_upto_if 26 with fail
 go_cut [26] from 27 (fun _ wx=>Mv w He wx (⟨g3,3,#[.int .i64 (was0 ends from_)]⟩::⟨g0+2,38,#[.slice none 0 0]⟩::⟨g0+1,38,#[.slice none 0 0]⟩::⟨g0,38,#[.slice ea n ec]⟩::He))
 case first =>
  by_cases h1:from_=0
  ·have d:decide (0<from_)=false:=by simp;omega
   have e:was0 ends from_=0:=by unfold was0;rw[if_pos h1]
   have E:=Lib.hid e
   rw[d]
   clear d e h1
   go_wp2_with fail
   go_meet
   rw[E.out]
   exact KM.out
  ·have d:decide (0<from_)=true:=by simp;omega
   obtain⟨q1,q2,q3⟩:=GE.out (from_ - 1) (by omega)
   have e:was0 ends from_=ends.getD (from_ - 1) 0:=by unfold was0;rw[if_neg h1]
   obtain⟨eg,rfl⟩:=KE.out.1.form (by omega)
   have c1:=KE.out.1.at_ (Sat.right (A:=[_,_,_,_]) KM.out.sat) q1
   have c3:w2.cell? ⟨g3,0,none⟩=some (.int .i64 0):=KM.out.cell 0 rfl 0
   have f3:w2.frozen? ⟨g3,0,none⟩=false:=KM.out.frozen 0 rfl 0
   have M5:=Lib.hid (KM.out.set 0 (.int .i64 (ends.getD (from_ - 1) 0)))
   have e1:(from_:Int) - 1=((from_ - 1:Nat):Int):=by omega
   have e2:((from_ - 1:Nat):Int)<(n:Int):=by omega
   have E:=Lib.hid e
   rw[d]
   clear q1 h1 d e
   generalize ends.getD (from_ - 1) 0=eb at *
   go_wp2_with fail
   go_meet
   rw[E.out]
   exact M5.out
 case rest =>
  have KM5:=Lib.hid hcut
  clear hcut KM c0
  go_wp2_with (go_at_call 110;refine(pieces_any style from_ to_ _).mono ?_;rintro e w6 ⟨sb,fb,tb,rfl,m6⟩;have K6:=Lib.hid (Mv.call (H:=[]) KM5.out m6);clear m6)
  have m6:Mv w He w6 ([]++(⟨g0+1,38,#[.slice none 0 0]⟩::([]++(⟨g0+2,38,#[.slice none 0 0]⟩::segX g0 g3 n (.slice ea n ec) (was0 ends from_) tb fb sb style from_ to_ He)))):=K6.out.sub (fun g=>by simp only[segX,cnt_append,cnt_cons,cnt_nil];omega) (fun b hb=>by
   simp only[segX,List.mem_append,List.mem_cons,List.not_mem_nil,or_false,false_or] at hb ⊢
   rcases hb with h | h | h | h | h | h | h | h
   ·exact .inr (.inr (.inr (.inl h)))
   ·exact .inr (.inr (.inl h))
   ·exact .inr (.inl h)
   ·exact .inr (.inr (.inr (.inr (.inl h))))
   ·exact .inl (.inl h)
   ·exact .inl (.inr (.inl h))
   ·exact .inl (.inr (.inr h))
   ·exact .inr (.inr (.inr (.inr (.inr h)))))
  have hsz:=m6.only.size
  refine(wpIn_wide (n:=8)).1 ?_
  refine range_pieces2 (n:=8) (by omega) 11 12 w He hsz hs hft (by omega) rfl (segP g0 g3 n (.slice ea n ec) ends tb fb sb style from_ to_ He) ?pc ⟨_,⟨none,0,[],none,0,[],RowH.nil _ _,RowH.nil _ _,rfl⟩,m6⟩ ?assign ?body ?done
  case pc =>
   rintro pre H W ⟨a1,c1,H1,a2,c2,H2,-,-,rfl⟩ hs
   have s1:=Sat.right (A:=H1) hs
   have s2:Sat W (segX g0 g3 n (.slice ea n ec) (wasM ends (was0 ends from_) (pre.map (·.1))) tb fb sb style from_ to_ He):=Sat.right (A:=[_]) (Sat.right (A:=H2) (Sat.right (A:=[_]) s1))
   exact⟨(s2.at_ 3 rfl).cell 0,(s2.at_ 2 rfl).cell 0,(s2.at_ 4 rfl).cell 0⟩
  case assign =>
   intro l x y W K hK
   simp only[List.setIfInBounds_toArray,List.set_cons_succ,List.set_cons_zero] at hK ⊢
   gi_wp2
   exact hK
  case body =>
   intro l pre x hx W H hr hP hs hlen
   simp only[List.setIfInBounds_toArray,List.set_cons_succ,List.set_cons_zero]
   obtain⟨a1,c1,H1,a2,c2,H2,r1,r2,rfl⟩:=hP
   obtain⟨p1,p2,p3⟩:=pieces_in style from_ to_ x hx
   obtain⟨a,b⟩:=x
   simp only at p1 p2 p3
   obtain⟨k,hk⟩:∃ k,pre.length=k:=⟨_,rfl⟩
   obtain⟨L,hL⟩:∃ L,pre.map (·.1)=L:=⟨_,rfl⟩
   have hLk:L.length=k:=by rw[← hL,List.length_map,hk]
   have hk1:k≤1000:=by
    have:=pcs_length style to_ (to_ - from_) from_ from_
    have h2:pre.length<(pcs style to_ (to_ - from_) from_ from_).length:=hlen
    omega
   rw[hk,hL] at r1 r2 hs ⊢
   obtain⟨was,hwas⟩:∃ was,wasM ends (was0 ends from_) L=was:=⟨_,rfl⟩
   have hwb:0≤was∧was≤100000000:=by rw[← hwas];exact wasM_bd ends (getD_bd ends KE.out.2.1) _ _ (was0_bd ends KE.out.2.1 _)
   rw[hwas] at hs ⊢
   obtain⟨HH,hHH⟩:∃ HH,H1++(⟨g0+1,38,#[.slice a1 k c1]⟩::(H2++(⟨g0+2,38,#[.slice a2 k c2]⟩::segX g0 g3 n (.slice ea n ec) was tb fb sb style from_ to_ He)))=HH:=⟨_,rfl⟩
   rw[hHH] at hs ⊢
   obtain⟨PS,hPS⟩:∃ PS,pcPost W HH (segP g0 g3 n (.slice ea n ec) ends tb fb sb style from_ to_ He) (pre++[⟨(a,b),hx⟩])=PS:=⟨_,rfl⟩
   have LP:Hid (¬LetsOut PS):=Lib.hid (by rw[← hPS];rintro⟨a,w,h⟩;exact h)
   rw[hPS]
   have M0:=Mv.refl hs
   have M0':Mv W HH W (H1++(⟨g0+1,38,#[.slice a1 k c1]⟩::(H2++(⟨g0+2,38,#[.slice a2 k c2]⟩::segX g0 g3 n (.slice ea n ec) was tb fb sb style from_ to_ He)))):=by rw[hHH];exact M0
   have MA:=(M0'.alloc 3 #[.int .i64 ((b:Int) - (a:Int))]).drop1
   have z1:W.cell? ⟨g0+1,0,none⟩=some (.slice a1 k c1):=M0'.drop.cell 0 rfl 0
   have IVA:=Lib.hid (iv_one W ((b:Int) - (a:Int)) _ rfl)
   have KA:=Lib.hid (And.intro r1 MA)
   have KR2:=Lib.hid r2
   have hb1000:b≤1000:=by omega
   have hsl:(lensM L).length+[(b:Int) - (a:Int)].length≤100000000:=by simp only[lensM,List.length_map,List.length_cons,List.length_nil];omega
   obtain⟨L1,hL1⟩:∃ L1,lensM L++[(b:Int) - (a:Int)]=L1:=⟨_,rfl⟩
   have HL1:=Lib.hid hL1
   have hL1k:L1.length=k+1:=by rw[← hL1,List.length_append];simp only[lensM,List.length_map,List.length_cons,List.length_nil];omega
   have KK:=Lib.hid (And.intro hHH (And.intro hPS (And.intro hk (And.intro hL (And.intro hwas hr)))))
   clear r1 r2 M0 M0' MA hL1 hHH hPS hk hL hwas hr hs hlen m6 K6 hsz
   gi_upto_region 8 with fail
   refine round_lit (by kernel_rfl) (fun ⟨a,w,h⟩=>LP.out ⟨a,w,h⟩) ?_
   go_wp2_with (at_builtin;go_must (refine wpList_appI rfl (.tmp 38) (.tmp 42) rfl _ _ (lensM L) [(b:Int) - (a:Int)] H1 rfl rfl KA.out.1 KA.out.2.sat.left IVA.out hsl ?_;intro v8 w8 H8 hr8 m8;rw[HL1.out] at hr8;obtain⟨a8,c8,rfl⟩:=hr8.slice;have K8:=Lib.hid (And.intro hr8 (Mv.call KA.out.2 m8));(have y1:w8.cell? ⟨g0+1,0,none⟩=some (.slice a1 k c1):=(by first | exact K8.out.2.drop.cell 0 rfl 0));(have y2:w8.frozen? ⟨g0+1,0,none⟩=false:=(by first | exact K8.out.2.drop.frozen 0 rfl 0));clear hr8 m8))
   have M9:Hid (RowI (.slice a8 (k+1) c8) L1 H8∧Mv W HH (w8.setCell ⟨g0+1,0,none⟩ (.slice a8 (k+1) c8)) (H8++(⟨g0+1,38,#[.slice a8 (k+1) c8]⟩::(H2++(⟨g0+2,38,#[.slice a2 k c2]⟩::segX g0 g3 n (.slice ea n ec) was tb fb sb style from_ to_ He))))):=Lib.hid ⟨by (have:=K8.out.1;rw[hL1k] at this;exact this),Mv.setAt (A:=H8) (g:=g0+1) (t:=38) (cs:=#[.slice a1 k c1]) K8.out.2 0 (.slice a8 (k+1) c8)⟩
   clear K8 y1 y2 z1 IVA KA hsl
   gi_upto_region 9 with fail
   generalize w8.setCell ⟨g0+1,0,none⟩ (.slice a8 (k+1) c8)=w9 at *
   obtain⟨eg,rfl⟩:=KE.out.1.form (by omega)
   obtain⟨q1,q2,q3⟩:=GE.out (b - 1) (by omega)
   obtain⟨eb,heb⟩:∃ eb,ends.getD (b - 1) 0=eb:=⟨_,rfl⟩
   rw[heb] at q1 q2 q3
   have h2l:=sizesM_length ends (was0 ends from_) L
   obtain⟨l2,hl2⟩:∃ l2,sizesM ends (was0 ends from_) L=l2:=⟨_,rfl⟩
   rw[hl2] at KR2 h2l
   have hlk:l2.length=k:=h2l.trans hLk
   obtain⟨X9,hX9⟩:∃ X9,segX g0 g3 n (.slice (some ⟨eg,0,none⟩) n ec) was tb fb sb style from_ to_ He++(H8++[⟨g0+1,38,#[.slice a8 (k+1) c8]⟩])=X9:=⟨_,rfl⟩
   have HX9:=Lib.hid hX9
   have m9:Mv W HH w9 (H2++(⟨g0+2,38,#[.slice a2 l2.length c2]⟩::X9)):=by
    rw[← hX9,hlk]
    exact M9.out.2.sub (fun g=>by simp only[cnt_append,cnt_cons,cnt_nil];omega) (fun b hb=>by simp only[List.mem_append,List.mem_cons,List.not_mem_nil,or_false] at hb ⊢;grind)
   have sE:∀ W',Sat W' X9→W'.cell? ⟨eg,b - 1,none⟩=some (.int .i64 eb):=by
    intro W' h
    rw[← hX9] at h
    exact KE.out.1.at_ (Sat.right (A:=[_,_,_,_,_]) h.left) q1
   refine round_any (by kernel_rfl) (by kernel_rfl) (fun ⟨a,w,h⟩=>LP.out ⟨a,w,h⟩) (seg_r9 _ _ (by kernel_rfl) g0 (g0+2) g3 eg n ec b eb was a2 c2 l2 H2 X9 HH W w9 _ _ _ _ _ _ _ _ _ _ _ _ _ _ _ _ _ _ _ _ _ _ _ _ _ _ _ _ _ _ _ _ _ _ _ _ _ _ _ _ _ _ _ _ _ _ _ _ _ _ _ _ _ _ _ _ _ _ _ (by rw[hlk];exact KR2.out) (by omega) (by omega) (by omega) hl ⟨q2,q3⟩ hwb (by rw[← hX9];simp[segX]) (by rw[← hX9];simp[segX]) sE m9 ?_)
   rintro _ _ _ _ _ _ _ _ _ _ g8 HB9 vv w10 ⟨m10,-⟩ r10 ⟨-,rfl⟩
   obtain⟨a10,c10,rfl⟩:=r10.slice
   have hl10:(l2++[eb - was]).length=k+1:=by rw[List.length_append,hlk];rfl
   rw[hl10] at r10 m10
   rw[← HX9.out] at m10
   have m11:Mv W HH w10 (⟨g3,3,#[.int .i64 was]⟩::(⟨g0,38,#[.slice (some ⟨eg,0,none⟩) n ec]⟩::(HB9++(⟨g0+2,38,#[.slice a10 (k+1) c10]⟩::(H8++(⟨g0+1,38,#[.slice a8 (k+1) c8]⟩::(⟨tb,3,#[.int .i64 (to_:Int)]⟩::⟨fb,3,#[.int .i64 (from_:Int)]⟩::⟨sb,3,#[.int .i64 (style:Int)]⟩::He))))))) :=
    m10.sub (fun g=>by simp only[segX,oh_true,cnt_append,cnt_cons,cnt_nil];omega) (fun b hb=>by simp only[segX,oh_true,List.mem_append,List.mem_cons,List.not_mem_nil,or_false] at hb ⊢;grind)
   have x0:w10.cell? ⟨g0,0,none⟩=some (.slice (some ⟨eg,0,none⟩) n ec):=m11.cell 1 rfl 0
   have x3:w10.cell? ⟨g3,0,none⟩=some (.int .i64 was):=m11.cell 0 rfl 0
   have f3:w10.frozen? ⟨g3,0,none⟩=false:=m11.frozen 0 rfl 0
   have sHe:Sat w10 He:=by
    have h1:=m11.drop1.drop1.drop.drop1.drop.sat
    exact Sat.right (A:=[_,_,_,_]) h1
   have xe:=KE.out.1.at_ sHe q1
   have e1:(b:Int) - 1=((b - 1:Nat):Int):=by omega
   have e2:((b - 1:Nat):Int)<(n:Int):=by omega
   have FIN:Hid (∀ a':Act,PS .normal a' (w10.setCell ⟨g3,0,none⟩ (.int .i64 eb))):=Lib.hid (by
    intro a'
    rw[← KK.out.2.1]
    have m12:=m11.set 0 (.int .i64 eb)
    have eP:(pre++[(⟨(a,b),hx⟩:PieceIn style from_ to_)]).map (·.1)=L++[(a,b)]:=by rw[List.map_append,KK.out.2.2.2.1];rfl
    have eN:(pre++[(⟨(a,b),hx⟩:PieceIn style from_ to_)]).length=k+1:=by rw[List.length_append,KK.out.2.2.1];rfl
    refine⟨_,⟨a8,c8,H8,a10,c10,HB9,?_,?_,rfl⟩,?_⟩
    ·rw[eN,eP]
     have:lensM (L++[(a,b)])=L1:=by rw[← HL1.out];simp[lensM]
     rw[this]
     exact M9.out.1
    ·rw[eN,eP,sizesM_snoc,hl2,KK.out.2.2.2.2.1]
     simp only[heb]
     exact r10
    ·rw[eN,eP,wasM_snoc]
     simp only[heb]
     exact m12.sub (fun g=>by simp only[segX,cnt_append,cnt_cons];omega) (fun b hb=>by simp only[segX,List.mem_append,List.mem_cons] at hb ⊢;grind))
   clear m10 m11 r10 hl10 sHe q1 heb hl2
   gi_upto_region 10 with fail
   refine round_lit (by kernel_rfl) (fun ⟨a,w,h⟩=>LP.out ⟨a,w,h⟩) ?_
   go_wp2_with fail
   exact FIN.out _
  case done =>
   intro K ys W H hK hy hP hM hd
   obtain⟨a1,c1,H1,a2,c2,H2,r1,r2,rfl⟩:=hP
   rw[hy] at r1 r2 hM
   obtain⟨k,hk⟩:∃ k,ys.length=k:=⟨_,rfl⟩
   rw[hk] at r1 r2 hM
   have hkL:(piecesM style from_ to_).length=k:=by rw[← hy,List.length_map,hk]
   have hk1:k≤1000:=by
    have:=pcs_length style to_ (to_ - from_) from_ from_
    have h2:(piecesM style from_ to_).length=(pcs style to_ (to_ - from_) from_ from_).length:=rfl
    omega
   have hl1:F1.length=k:=by rw[← HF1.out,lensM,List.length_map,hkL]
   have hl2:F2.length=k:=by rw[← HF2.out,sizesM_length,hkL]
   rw[HF1.out] at r1
   rw[HF2.out] at r2
   obtain⟨HH,hHH⟩:∃ HH,H1++(⟨g0+1,38,#[.slice a1 k c1]⟩::(H2++(⟨g0+2,38,#[.slice a2 k c2]⟩::segX g0 g3 n (.slice ea n ec) (wasM ends (was0 ends from_) (piecesM style from_ to_)) tb fb sb style from_ to_ He)))=HH:=⟨_,rfl⟩
   rw[hHH] at hM
   have CE:Hid (∀ (W':World) (A:List YtjngfhgakokejaaGreat.HB),Mv w He W' (A++HH)→W'.cell? ⟨g0+1,0,none⟩=some (.slice a1 k c1)∧W'.cell? ⟨g0+2,0,none⟩=some (.slice a2 k c2)∧W'.frozen? ⟨g0+1,0,none⟩=false∧W'.frozen? ⟨g0+2,0,none⟩=false∧Sat W' H1∧Sat W' H2):=Lib.hid (by
    intro W' A m
    have s1:Sat W' HH:=m.drop.sat
    rw[← hHH] at s1
    have b1:=(s1.right).at_ 0 rfl
    have s2:=Sat.right (A:=[_]) s1.right
    have b2:=(s2.right).at_ 0 rfl
    exact⟨b1.cell 0,b2.cell 0,b1.frozen 0,b2.frozen 0,s1.left,s2.left⟩)
   have hHe:Hid (∀ (W':World) (A:List YtjngfhgakokejaaGreat.HB),Mv w He W' (A++HH)→Mv w He W' (A++He)):=Lib.hid (by
    intro W' A m
    refine m.sub (fun g=>?_) (fun b hb=>?_)
    ·rw[← hHH]
     simp only[segX,cnt_append,cnt_cons]
     omega
    ·rw[← hHH]
     simp only[segX,List.mem_append,List.mem_cons] at hb ⊢
     rcases hb with h | h
     ·exact .inl h
     ·exact .inr (.inr (.inr (.inr (.inr (.inr (.inr (.inr (.inr (.inr h))))))))))
   have KD:=Lib.hid (And.intro r1 (And.intro r2 (And.intro hM hd)))
   have HLL:=Lib.hid (And.intro hl1 hl2)
   have HHH:=Lib.hid hHH
   clear r1 r2 hM hd hy hk hHH hkL m6 K6 hsz hl1 hl2
   go_upto_region 11 with fail
   obtain⟨x1,x2,f1,f2,t1,t2⟩:=CE.out W.drew [] KD.out.2.2.1.drew
   have T1:=Lib.hid t1
   clear t1 t2
   have HS1:Hid (([]:List Int).length+F1.length≤100000000∧([]:List Int).length+F2.length≤100000000):=Lib.hid ⟨by rw[HLL.out.1,List.length_nil];omega,by rw[HLL.out.2,List.length_nil];omega⟩
   have RN:RowI (.slice none 0 0) [] []:=RowH.nil _ _
   have V1:=Lib.hid (KD.out.1.iv T1.out)
   go_region_law (first
    | ((with_reducible refine step_appI (o:=⟨some 60,_,_,_,_,_⟩) (v:=.slice none 0 0) (u:=.slice a1 k c1) (l:=[]) (r:=F1) (H:=[]) rfl (.const (.slice none 0 0)) (.tmp 59) rfl ?_ ?_ RN (Sat.nil _) V1.out HS1.out.1 ?_);simp[Act.eval];simp[Act.eval];intro v6 w6 H6 hr6 m6;replace hr6:RowI v6 F1 H6:=hr6;obtain⟨a6,c6,rfl⟩:=hr6.slice;have K6:=Lib.hid (And.intro hr6 (And.intro (Mv.call (H:=[]) KD.out.2.2.1.drew m6) (m6.others (Sat.nil _) K _ KD.out.2.2.2 (fun c t f e=>by cases e))));(have u2:w6.cell? ⟨g0+2,0,none⟩=some (.slice a2 k c2):=(by first | exact(CE.out w6 H6 K6.out.2.1).2.1));clear hr6 m6)
    | ((with_reducible refine step_appI (o:=⟨some 62,_,_,_,_,_⟩) (v:=.slice none 0 0) (u:=.slice a2 k c2) (l:=[]) (r:=F2) (H:=[]) rfl (.const (.slice none 0 0)) (.tmp 61) rfl ?_ ?_ RN (Sat.nil _) (KD.out.2.1.iv (CE.out w6 H6 K6.out.2.1).2.2.2.2.2) HS1.out.2 ?_);simp[Act.eval];simp[Act.eval];intro v7 w7 H7 hr7 m7;replace hr7:RowI v7 F2 H7:=hr7;obtain⟨a7,c7,rfl⟩:=hr7.slice;have K7:=Lib.hid (And.intro hr7 (And.intro (Mv.call (H:=[]) K6.out.2.1 m7) (m7.others (Sat.nil _) K _ K6.out.2.2 (fun c t f e=>by cases e))));(have y1:w7.cell? ⟨g0+1,0,none⟩=some (.slice a1 k c1):=(by first | exact(CE.out w7 (H7++H6) (by rw[List.append_assoc];exact K7.out.2.1)).1));(have y2:w7.cell? ⟨g0+2,0,none⟩=some (.slice a2 k c2):=(by first | exact(CE.out w7 (H7++H6) (by rw[List.append_assoc];exact K7.out.2.1)).2.1));(have y3:w7.frozen? ⟨g0+1,0,none⟩=false:=(by first | exact(CE.out w7 (H7++H6) (by rw[List.append_assoc];exact K7.out.2.1)).2.2.1));(have y4:w7.frozen? ⟨g0+2,0,none⟩=false:=(by first | exact(CE.out w7 (H7++H6) (by rw[List.append_assoc];exact K7.out.2.1)).2.2.2.1));clear hr7 m7))
   all_goals
    obtain⟨SX,hSX⟩:∃ SX,segX g0 g3 n (.slice ea n ec) (wasM ends (was0 ends from_) (piecesM style from_ to_)) tb fb sb style from_ to_ He=SX:=⟨_,rfl⟩
    have HSX:=Lib.hid hSX
    have m9:Mv w He w7 ((H7++(H6++H1))++⟨g0+1,38,#[.slice a1 k c1]⟩::(H2++(⟨g0+2,38,#[.slice a2 k c2]⟩::SX))):=by
     have h:Mv w He w7 (H7++(H6++HH)):=K7.out.2.1
     rw[← HHH.out,hSX] at h
     simpa only[List.append_assoc] using h
    have m10:Mv w He (w7.setCell ⟨g0+1,0,none⟩ (.slice a6 F1.length c6)) ((H7++(H6++H1))++⟨g0+1,38,#[.slice a6 F1.length c6]⟩::(H2++(⟨g0+2,38,#[.slice a2 k c2]⟩::SX))):=Mv.setAt m9 0 (.slice a6 F1.length c6)
    have m11:Mv w He (w7.setCell ⟨g0+1,0,none⟩ (.slice a6 F1.length c6)) (((H7++(H6++H1))++(⟨g0+1,38,#[.slice a6 F1.length c6]⟩::H2))++⟨g0+2,38,#[.slice a2 k c2]⟩::SX):=by
     simpa only[List.append_assoc,List.cons_append] using m10
    have m12:Mv w He ((w7.setCell ⟨g0+1,0,none⟩ (.slice a6 F1.length c6)).setCell ⟨g0+2,0,none⟩ (.slice a7 F2.length c7)) (((H7++(H6++H1))++(⟨g0+1,38,#[.slice a6 F1.length c6]⟩::H2))++⟨g0+2,38,#[.slice a7 F2.length c7]⟩::SX):=Mv.setAt m11 0 (.slice a7 F2.length c7)
    have hk:((w7.setCell ⟨g0+1,0,none⟩ (.slice a6 F1.length c6)).setCell ⟨g0+2,0,none⟩ (.slice a7 F2.length c7)).heap[K]?=some (.deferred (some [])):=(KeepsOthers.setCell _ ⟨g0+2,0,none⟩ _).same K _ ((KeepsOthers.setCell w7 ⟨g0+1,0,none⟩ _).same K _ K7.out.2.2 rfl) rfl
    have KF:=Lib.hid (And.intro m12 hk)
    clear m9 m10 m11 m12 hk hSX
    obtain⟨w8,hw8⟩:∃ w8,w8=(w7.setCell ⟨g0+1,0,none⟩ (.slice a6 F1.length c6)).setCell ⟨g0+2,0,none⟩ (.slice a7 F2.length c7):=⟨_,rfl⟩
    rw[← hw8] at KF
    have e12:(w7.setCell ⟨g0+1,0,none⟩ (.slice a6 F1.length c6)).setCell ⟨g0+1+1,0,none⟩ (.slice a7 F2.length c7)=w8:=hw8.symm
    rw[e12]
    clear e12 hw8
    go_wp2_with fail
    have m13:=KF.out.1.putObj (.deferred none) hK KF.out.2 rfl
    have b1:=(m13.blkm (x:=⟨g0+1,38,#[.slice a6 F1.length c6]⟩) (List.mem_append_left _ (List.mem_append_right _ List.mem_cons_self))).cell 0
    have b2:=(m13.blkm (x:=⟨g0+2,38,#[.slice a7 F2.length c7]⟩) (List.mem_append_right _ List.mem_cons_self)).cell 0
    refine⟨by simp,.inl ⟨_,_,rfl,run_takeDeferred KF.out.2,?_⟩⟩
    refine⟨_,seg_results _ _ (g0+1) (g0+2) a6 a7 _ c6 _ c7 rfl rfl b1 b2,_,_,H6,H7,rfl,K6.out.1,K7.out.1,?_⟩
    rw[← HSX.out] at m13
    exact m13.sub (fun g=>by simp only[segX,cnt_append,cnt_cons];omega) (fun c hc=>by
     simp only[segX,List.mem_append,List.mem_cons] at hc ⊢
     rcases hc with h | h | h
     ·exact .inl (.inl (.inr (.inl h)))
     ·exact .inl (.inl (.inl h))
     ·exact .inr (.inr (.inr (.inr (.inr (.inr (.inr h)))))))
end
section
open Go.RowKit
theorem log_more {n k:Nat} (h:0<n / 2 ^ (k+1)):k+1≤n.log2:=by
 have h1:2 ^ (k+1)≤n:=by
  rcases Nat.lt_or_ge n (2 ^ (k+1)) with h2 | h2
  ·rw[Nat.div_eq_of_lt h2] at h
   exact absurd h (by decide)
  ·exact h2
 have h0:n≠0:=by have:=Nat.two_pow_pos (k+1);omega
 exact(Nat.le_log2 h0).2 h1
theorem log_done {n k:Nat} (h:¬ 0<n / 2 ^ (k+1)) (hk:k≤n.log2):k=n.log2:=by
 have h1:n<2 ^ (k+1):=by
  rcases Nat.lt_or_ge n (2 ^ (k+1)) with h2 | h2
  ·exact h2
  ·exact absurd (Nat.div_pos h2 (Nat.two_pow_pos _)) h
 by_cases h0:n=0
 ·subst h0
  have:Nat.log2 0=0:=by decide
  omega
 ·have:=(Nat.log2_lt h0 (k:=k+1)).2 h1
  omega
theorem log_le {n:Nat} (h:n≤1000000000000):n.log2≤40:=by
 by_cases h0:n=0
 ·subst h0;decide
 ·have:=(Nat.log2_lt h0 (k:=41)).2 (by have:(2:Nat) ^ 41=2199023255552:=rfl;omega)
  omega
theorem div_pos_dec {m q:Nat} (h:0<m / 2 ^ q):decide ((0:Int)<(m:Int) / 2 ^ q)=true:=by
 have e:(m:Int) / 2 ^ q=((m / 2 ^ q:Nat):Int):=by push_cast;rfl
 rw[e]
 exact decide_eq_true (Int.natCast_pos.2 h)
theorem div_not_dec {m q:Nat} (h:¬ 0<m / 2 ^ q):decide ((0:Int)<(m:Int) / 2 ^ q)=false:=by
 have e:(m:Int) / 2 ^ q=((m / 2 ^ q:Nat):Int):=by push_cast;rfl
 rw[e]
 exact decide_eq_false (fun hh=>h (Int.natCast_pos.1 hh))
theorem log_any (n:Nat) (w:World) (hn:n≤1000000000000):Calls Tryz.prog 77 #[.int .i64 (n:Int)] w fun e w'=>e=.returned (.int .i64 ((n.log2:Nat):Int))∧w'=w:=by
 have hl:=log_le hn
 go_enter Tryz.func77,Tryz.ntmps77
 go_wp2_with fail
 go_loopg [3] n.log2 (fun m s3 wx=>∃ k:Nat,k≤n.log2∧m=n.log2 - k∧s3=.int .i64 (k:Int)∧wx=w)
 case atStart=>exact⟨0,Nat.zero_le _,rfl,rfl,rfl⟩
 case round =>
  obtain⟨k,hk,rfl,rfl,rfl⟩:=hrel
  have hk40:k+1≤41:=by omega
  by_cases h:0<n / 2 ^ (k+1)
  ·have d1:=div_pos_dec h
   have h2:=log_more h
   clear h
   go_wp2_with fail
   go_roundg (n.log2 - (k+1))
   case measure=>omega
   case rel=>exact⟨k+1,h2,rfl,by push_cast;rfl,rfl⟩
  ·have d1:=div_not_dec h
   have h2:=Lib.hid (log_done h hk)
   clear h
   go_wp2_with fail
   go_ret
   exact⟨by rw[← h2.out];rfl,rfl⟩
def tellM (n:Nat):List Bool:=if n<2 then [false] else if n<3 then bitsG 2 2 else if n<6 then bitsG 3 2++bitsG (n - 3:Int) 2 else if n<37 then bitsG 15 4++bitsG (n - 6:Int) 5 else bitsG 511 9++bitsG (n - 37:Int) 7
theorem tellM_length (n:Nat):(tellM n).length≤64:=by
 have h:=bitsG_length
 unfold tellM
 split
 ·decide
 ·split
  ·have:=h 2 2;omega
  ·split
   ·have h1:=h 3 2;have h2:=h (n - 3:Int) 2;rw[List.length_append];omega
   ·split
    ·have h1:=h 15 4;have h2:=h (n - 6:Int) 5;rw[List.length_append];omega
    ·have h1:=h 511 9;have h2:=h (n - 37:Int) 7;rw[List.length_append];omega
theorem tell_any (wb:Nat) (bs:List Bool) (n:Nat) (w:World) (H:List HB) (h:WrB wb bs H) (hs:Sat w H) (hl:bs.length≤60000000) (hn:n≤1000) :
  Calls Tryz.prog 74 #[.pointer (some ⟨wb,0,none⟩),.int .i64 (n:Int)] w fun e w'=>e=.returned (.tuple #[])∧∃ H',WrB wb (bs++tellM n) H'∧Mv w H w' H':=by
 have BI:=Lib.hid (bit_any wb bs 0 w H h hs (by omega))
 have BS:=Lib.hid (fun (a b:Int)=>bits_any wb bs a b w H h hs (by omega))
 have BT:=Lib.hid (fun (l:List Bool) (a b:Int) (W:World) (H1:List HB) (h1:WrB wb (bs++l) H1) (s1:Sat W H1) (hll:l.length≤32)=>bits_any wb (bs++l) a b W H1 h1 s1 (by rw[List.length_append];omega))
 have HL:=Lib.hid bitsG_length
 obtain⟨R,hR⟩:∃ R,tellM n=R:=⟨_,rfl⟩
 rw[hR]
 unfold tellM at hR
 have HR:=Lib.hid hR
 clear h hs hR
 by_cases c1:n<2
 ·have e:=Lib.hid (HR.out.symm.trans (if_pos c1))
  have d1:decide ((n:Int)<2)=true:=by simp;omega
  clear c1
  go_enter Tryz.func74,Tryz.ntmps74
  go_wp2_with (go_at_call 71;refine BI.out.mono ?_;rintro e w1 ⟨rfl,H1,h1,m1⟩;have K1:=Lib.hid (And.intro h1 m1);clear h1 m1)
  exact bodyPost_end (results_none rfl _ _ _) rfl ⟨rfl,H1,by rw[e.out];exact K1.out.1,K1.out.2⟩
 have HR2:=Lib.hid (HR.out.symm.trans (if_neg c1))
 have d1:decide ((n:Int)<2)=false:=by simp;omega
 by_cases c2:n<3
 ·have e:=Lib.hid (HR2.out.trans (if_pos c2))
  have d2:decide ((n:Int)<3)=true:=by simp;omega
  clear c1 c2
  go_enter Tryz.func74,Tryz.ntmps74
  go_wp2_with (go_at_call 26;refine(BS.out _ _).mono ?_;rintro e w1 ⟨rfl,H1,h1,m1⟩;have K1:=Lib.hid (And.intro h1 m1);clear h1 m1)
  exact bodyPost_end (results_none rfl _ _ _) rfl ⟨rfl,H1,by rw[e.out];exact K1.out.1,K1.out.2⟩
 have HR3:=Lib.hid (HR2.out.trans (if_neg c2))
 have d2:decide ((n:Int)<3)=false:=by simp;omega
 by_cases c3:n<6
 ·have e:=Lib.hid (HR3.out.trans (if_pos c3))
  have d3:decide ((n:Int)<6)=true:=by simp;omega
  clear c1 c2 c3
  go_enter Tryz.func74,Tryz.ntmps74
  go_wp2_with (first
   | (go_at_call 26;(with_reducible refine(BS.out 3 2).mono ?_);rintro e w1 ⟨rfl,H1,h1,m1⟩;have K1:=Lib.hid (And.intro h1 m1);clear h1 m1)
   | (go_at_call 26;(with_reducible refine(BT.out _ _ _ _ _ K1.out.1 K1.out.2.sat (HL.out _ _)).mono ?_);rintro e w2 ⟨rfl,H2,h2,m2⟩;have K2:=Lib.hid (And.intro h2 (K1.out.2.trans m2));clear h2 m2))
  exact bodyPost_end (results_none rfl _ _ _) rfl ⟨rfl,H2,by rw[e.out,← List.append_assoc];exact K2.out.1,K2.out.2⟩
 have HR4:=Lib.hid (HR3.out.trans (if_neg c3))
 have d3:decide ((n:Int)<6)=false:=by simp;omega
 by_cases c4:n<37
 ·have e:=Lib.hid (HR4.out.trans (if_pos c4))
  have d4:decide ((n:Int)<37)=true:=by simp;omega
  clear c1 c2 c3 c4
  go_enter Tryz.func74,Tryz.ntmps74
  go_wp2_with (first
   | (go_at_call 26;(with_reducible refine(BS.out 15 4).mono ?_);rintro e w1 ⟨rfl,H1,h1,m1⟩;have K1:=Lib.hid (And.intro h1 m1);clear h1 m1)
   | (go_at_call 26;(with_reducible refine(BT.out _ _ _ _ _ K1.out.1 K1.out.2.sat (HL.out _ _)).mono ?_);rintro e w2 ⟨rfl,H2,h2,m2⟩;have K2:=Lib.hid (And.intro h2 (K1.out.2.trans m2));clear h2 m2))
  exact bodyPost_end (results_none rfl _ _ _) rfl ⟨rfl,H2,by rw[e.out,← List.append_assoc];exact K2.out.1,K2.out.2⟩
 ·have e:=Lib.hid (HR4.out.trans (if_neg c4))
  have d4:decide ((n:Int)<37)=false:=by simp;omega
  clear c1 c2 c3 c4
  go_enter Tryz.func74,Tryz.ntmps74
  go_wp2_with (first
   | (go_at_call 26;(with_reducible refine(BS.out 511 9).mono ?_);rintro e w1 ⟨rfl,H1,h1,m1⟩;have K1:=Lib.hid (And.intro h1 m1);clear h1 m1)
   | (go_at_call 26;(with_reducible refine(BT.out _ _ _ _ _ K1.out.1 K1.out.2.sat (HL.out _ _)).mono ?_);rintro e w2 ⟨rfl,H2,h2,m2⟩;have K2:=Lib.hid (And.intro h2 (K1.out.2.trans m2));clear h2 m2))
  exact bodyPost_end (results_none rfl _ _ _) rfl ⟨rfl,H2,by rw[e.out,← List.append_assoc];exact K2.out.1,K2.out.2⟩
end
section
open Go.RowKit
def encT:List LevM→Nat→Nat→Int→List LevM × Int × List Bool
 | [],_,_,_=>([],0,[])
 | L::R,x,y,b =>
  let r:=encT R (x / 2) (y / 2) b
  let e:=encNode (L.at_ x y) r.2.1 b
  (L.set_ x y e.1::r.1,e.1.low,r.2.2++e.2)
theorem encP_map (P:List LvG) (x y:Nat) (b:Int):encT (P.map (·.2)) x y b=((encP P x y b).t.map (·.2),(encP P x y b).low,(encP P x y b).bs):=by
 induction P generalizing x y with
 | nil=>rfl
 | cons p R ih=>simp only[List.map_cons,encT,encP,ih]
def encAt (T:List LevM) (k:Nat) (b:Int):List LevM × List Bool :=
 match T with
 | []=>([],[])
 | L::R=>((encT (L::R) (k % L.w) (k / L.w) b).1,(encT (L::R) (k % L.w) (k / L.w) b).2.2)
theorem encAt_map (P:List LvG) (k:Nat) (b:Int) (p0:LvG) (h:P[0]?=some p0):encAt (P.map (·.2)) k b=((encP P (k % p0.2.w) (k / p0.2.w) b).t.map (·.2),(encP P (k % p0.2.w) (k / p0.2.w) b).bs):=by
 cases P with
 | nil=>simp at h
 | cons p R =>
  simp only[List.getElem?_cons_zero,Option.some.injEq] at h
  subst h
  show ((encT ((p::R).map (·.2)) (k % p.2.w) (k / p.2.w) b).1,(encT ((p::R).map (·.2)) (k % p.2.w) (k / p.2.w) b).2.2)=_
  rw[encP_map]
theorem encT_length (T:List LevM) (x y:Nat) (b:Int):(encT T x y b).1.length=T.length∧0≤(encT T x y b).2.1∧(encT T x y b).2.2.length≤T.length * b.toNat:=by
 have e:=encP_map (T.map fun L=>(0,L)) x y b
 have h:=encP_inv (T.map fun L=>(0,L)) x y b
 have s:=(encP_shape (T.map fun L=>(0,L)) x y b).2
 rw[List.map_map,show ((fun p:LvG=>p.2) ∘ fun L:LevM=>((0:Nat),L))=id from rfl,List.map_id] at e
 rw[e]
 rw[List.length_map] at h
 have s2:=congrArg List.length s
 simp only[List.length_map] at s2 ⊢
 exact⟨s2,h.1,h.2⟩
theorem encAt_length (T:List LevM) (k:Nat) (b:Int):(encAt T k b).1.length=T.length∧(encAt T k b).2.length≤T.length * b.toNat:=by
 cases T with
 | nil=>exact⟨rfl,Nat.zero_le _⟩
 | cons L R=>exact⟨(encT_length _ _ _ _).1,(encT_length _ _ _ _).2.2⟩
def zerosE (T:List LevM) (k:Nat):Nat→List LevM × List Bool
 | 0=>(T,[])
 | n+1=>((encAt (zerosE T k n).1 k ((n+1:Nat):Int)).1,(zerosE T k n).2++(encAt (zerosE T k n).1 k ((n+1:Nat):Int)).2)
theorem zerosE_length (T:List LevM) (k:Nat) (hT:T.length≤20):∀ n,n≤64→(zerosE T k n).1.length=T.length∧(zerosE T k n).2.length≤n * 1280
 | 0,_=>⟨rfl,Nat.zero_le _⟩
 | n+1,h=>by
  obtain⟨h1,h2⟩:=zerosE_length T k hT n (by omega)
  obtain⟨h3,h4⟩:=encAt_length (zerosE T k n).1 k ((n+1:Nat):Int)
  refine⟨h3.trans h1,?_⟩
  show ((zerosE T k n).2++(encAt (zerosE T k n).1 k ((n+1:Nat):Int)).2).length≤_
  rw[List.length_append]
  rw[h1,Int.toNat_natCast] at h4
  have h5:T.length * (n+1)≤20 * 64:=Nat.mul_le_mul hT h
  rw[Nat.succ_mul]
  omega
end
section
open Go.RowKit
theorem band_encF {d:BandA} {b:BandG} {w0 w:World} {H0 X HW:List HB} {wb:Nat} {bs:List Bool} (ok:b.ok d) (hw:WrB wb bs HW) (m:Mv w0 H0 w (HW++(X++b.heap d))) (k:Nat) (hk:k<d.n) (bd:Int) (hb:bd≤1000) (hbs:bs.length≤60000000) :
  Calls Tryz.prog 73 #[.pointer (some ⟨b.ft,0,none⟩),.pointer (some ⟨wb,0,none⟩),.int .i64 (k:Int),.int .i64 bd] w fun e w2=>e=.returned (.tuple #[]) ∧
   ∃ (b':BandG) (HW':List HB),b'.ok d∧b'.model={ b.model with first:=(encAt b.model.first k bd).1 }∧b'.G=b.G∧WrB wb (bs++(encAt b.model.first k bd).2) HW'∧Mv w0 H0 w2 (HW'++(X++b'.heap d)):=by
 have hkw:k<b.w * b.h:=by rw[← ok.n];exact hk
 obtain⟨p0,h0,hw1,hh⟩:=ok.kf.2.2 (by omega)
 have m1:Mv w0 H0 w ((HW++b.Hf)++(X++bandB b d::statesB b d::(b.Hz++b.G.flatMap StG.heap))) :=
  m.sub (fun g=>by simp only[BandG.heap,cnt_append,cnt_cons];omega) (fun c hc=>by simp only[BandG.heap,List.mem_append,List.mem_cons] at hc ⊢;grind)
 refine(enc_tree b.ft wb b.Pf bs k bd p0 w b.Hf HW ok.tf hw m1.sat.left ok.kf.1 ok.kf.2.1 h0 (by rw[hw1,hh];exact hkw) hb hbs).mono ?_
 rintro e w2 ⟨rfl,H',HW',hT,hW,hM⟩
 have sh:=encP_shape b.Pf (k % p0.2.w) (k / p0.2.w) bd
 have em:=encAt_map b.Pf k bd p0 h0
 refine⟨rfl,{ b with Pf:=(encP b.Pf (k % p0.2.w) (k / p0.2.w) bd).t,Hf:=H' },HW',⟨hT,ok.tz,ok.kf.congr sh.1,ok.kz,ok.st,ok.len,ok.n,ok.pl,ok.hw,ok.hh⟩,?_,rfl,?_,?_⟩
 ·simp only[BandG.model,em]
 ·rw[show b.model.first=b.Pf.map (·.2) from rfl,em];exact hW
 ·exact(Mv.call m1 hM).sub (fun g=>by simp only[BandG.heap,cnt_append,cnt_cons,bandB,statesB];omega) (fun c hc=>by simp only[BandG.heap,List.mem_append,List.mem_cons,bandB,statesB] at hc ⊢;grind)
theorem band_encZ {d:BandA} {b:BandG} {w0 w:World} {H0 X HW:List HB} {wb:Nat} {bs:List Bool} (ok:b.ok d) (hw:WrB wb bs HW) (m:Mv w0 H0 w (HW++(X++b.heap d))) (k:Nat) (hk:k<d.n) (bd:Int) (hb:bd≤1000) (hbs:bs.length≤60000000) :
  Calls Tryz.prog 73 #[.pointer (some ⟨b.zt,0,none⟩),.pointer (some ⟨wb,0,none⟩),.int .i64 (k:Int),.int .i64 bd] w fun e w2=>e=.returned (.tuple #[]) ∧
   ∃ (b':BandG) (HW':List HB),b'.ok d∧b'.model={ b.model with zeros:=(encAt b.model.zeros k bd).1 }∧b'.G=b.G∧WrB wb (bs++(encAt b.model.zeros k bd).2) HW'∧Mv w0 H0 w2 (HW'++(X++b'.heap d)):=by
 have hkw:k<b.w * b.h:=by rw[← ok.n];exact hk
 obtain⟨p0,h0,hw1,hh⟩:=ok.kz.2.2 (by omega)
 have m1:Mv w0 H0 w ((HW++b.Hz)++(X++bandB b d::statesB b d::(b.Hf++b.G.flatMap StG.heap))) :=
  m.sub (fun g=>by simp only[BandG.heap,cnt_append,cnt_cons];omega) (fun c hc=>by simp only[BandG.heap,List.mem_append,List.mem_cons] at hc ⊢;grind)
 refine(enc_tree b.zt wb b.Pz bs k bd p0 w b.Hz HW ok.tz hw m1.sat.left ok.kz.1 ok.kz.2.1 h0 (by rw[hw1,hh];exact hkw) hb hbs).mono ?_
 rintro e w2 ⟨rfl,H',HW',hT,hW,hM⟩
 have sh:=encP_shape b.Pz (k % p0.2.w) (k / p0.2.w) bd
 have em:=encAt_map b.Pz k bd p0 h0
 refine⟨rfl,{ b with Pz:=(encP b.Pz (k % p0.2.w) (k / p0.2.w) bd).t,Hz:=H' },HW',⟨ok.tf,hT,ok.kf,ok.kz.congr sh.1,ok.st,ok.len,ok.n,ok.pl,ok.hw,ok.hh⟩,?_,rfl,?_,?_⟩
 ·simp only[BandG.model,em]
 ·rw[show b.model.zeros=b.Pz.map (·.2) from rfl,em];exact hW
 ·exact(Mv.call m1 hM).sub (fun g=>by simp only[BandG.heap,cnt_append,cnt_cons,bandB,statesB];omega) (fun c hc=>by simp only[BandG.heap,List.mem_append,List.mem_cons,bandB,statesB] at hc ⊢;grind)
theorem hd_cells {d:BandA} {b:BandG} {w0 w:World} {H0 X HW:List HB} {g k:Nat} {st:StG} (m:Mv w0 H0 w (HW++(X++b.heap d))) (hx:⟨g,66,SpotX.cells ⟨d,k⟩⟩∈X) (hst:b.G[k]?=some st) :
  (w.cell? ⟨g,0,none⟩=some (.pointer (some ⟨d.lb,k * 5,none⟩))∧w.cell? ⟨g,1,none⟩=some (.pointer (some ⟨d.bb,0,none⟩))∧w.cell? ⟨g,2,none⟩=some (.int .i64 (k:Int))) ∧
  (w.cell? ⟨d.bb,1,none⟩=some (.int .i64 b.planes)∧w.cell? ⟨d.bb,2,none⟩=some (.pointer (some ⟨b.ft,0,none⟩))∧w.cell? ⟨d.bb,3,none⟩=some (.pointer (some ⟨b.zt,0,none⟩))) ∧
  (w.cell? ⟨d.lb,k * 5,none⟩=some (.int .i64 st.m.pl)∧w.cell? ⟨d.lb,k * 5+1,none⟩=some st.vp∧w.cell? ⟨d.lb,k * 5+2,none⟩=some st.vb∧w.cell? ⟨d.lb,k * 5+3,none⟩=some (.int .i64 st.m.said)∧w.cell? ⟨d.lb,k * 5+4,none⟩=some (.int .i64 st.m.lb)∧∀ i,w.frozen? ⟨d.lb,i,none⟩=false):=by
 have a1:=Mv.blkm m (List.mem_append_right _ (List.mem_append_left _ hx))
 have a2:=Mv.blkm m (List.mem_append_right _ (List.mem_append_right _ (b.mem_band d)))
 have a3:=Mv.blkm m (List.mem_append_right _ (List.mem_append_right _ (b.mem_states d)))
 exact⟨⟨a1.cell 0,a1.cell 1,a1.cell 2⟩,⟨a2.cell 1,a2.cell 2,a2.cell 3⟩,state_cells a3 hst⟩
theorem hd_p0 (K:Act→World→Prop) (d:BandA) (b:BandG) (k g wb nz:Nat) (st:StG) (bs:List Bool) (HW X H0:List HB) (w0 w:World) (s0 s2 s3 s4 s6 s7 s8 s9 s11 s12 s13 s14 s15 s16 s17 s18 s19 s20 s21 s22 s23 s24 s25 s26 s27 s28 s29 s30 s31 s32 s33 s34 s35 s36 s37 s38 s39 s40 s41 s42 s43 s44 s45 s46 s47 s48 s49 s50 s51 s52 s53 s54 s55 s56 s57 s58 s59 s60 s61 s62 s63 s64 s65 s66 s67 s68 s69 s70 s71 s72 s73 s74 s75 s76 s77 s78 s79 s80 s81 s82 s83 s84 s85 s86 s87 s88 s89 s90 s91 s92 s93 s94 s95 s96 s97 s98 s99 s100 s101 s102 s103 s104 s105 s106 s107 s108 s109 s110 s111 s112 s113 s114 s115 s116 s117 s118 s119 s120 s121 s122 s123 s124 s125 s126 s127 s128 s129 s130 s131 s132 s133 s134 s135 s136 s137 s138 s139 s140 s141 s142 s143 s144 s145 s146 s147 s148 s149 s150 s151 s152 s153 s154 s155 s156 s157 s158 s159 s160 s161 s162 s163 s164 s165 s166 s167 s168 s169 s170 s171 s172 s173 s174:Value)
  (ok:b.ok d) (hkn:k<d.n) (hst:b.G[k]?=some st) (hx:⟨g,66,SpotX.cells ⟨d,k⟩⟩∈X) (hw:WrB wb bs HW) (M:Mv w0 H0 w (HW++(X++b.heap d))) (hnz:(nz:Int)=max (b.planes - st.m.pl) 0+1) (hn64:nz≤64) (hpl:0≤b.planes∧b.planes≤100) (hsp:0≤st.m.pl∧st.m.pl≤100) (hbs:bs.length≤50000000)
  (hk:∀ (t10 t58 t59 t60 t61 t62 t63 t64 t65 t66 t67 t68 t69 t70 t71 t72 t73 t74 t75 t76 t77 t78 t79 t80 t81 t82 t83 t84 t85:Value) (wx:World) (b':BandG) (HW':List HB),b'.ok d→b'.model={ b.model with zeros:=(zerosE b.model.zeros k nz).1 }→b'.G=b.G→WrB wb (bs++(zerosE b.model.zeros k nz).2) HW'→Mv w0 H0 wx (HW'++(X++b'.heap d)) →
   K ⟨List.toArray (s0::(ptr0 wb)::s2::s3::s4::(ptr0 g)::s6::s7::s8::s9::t10::s11::s12::s13::s14::s15::s16::s17::s18::s19::s20::s21::s22::s23::s24::s25::s26::s27::s28::s29::s30::s31::s32::s33::s34::s35::s36::s37::s38::s39::s40::s41::s42::s43::s44::s45::s46::s47::s48::s49::s50::s51::s52::s53::s54::s55::s56::s57::t58::t59::t60::t61::t62::t63::t64::t65::t66::t67::t68::t69::t70::t71::t72::t73::t74::t75::t76::t77::t78::t79::t80::t81::t82::t83::t84::t85::s86::s87::s88::s89::s90::s91::s92::s93::s94::s95::s96::s97::s98::s99::s100::s101::s102::s103::s104::s105::s106::s107::s108::s109::s110::s111::s112::s113::s114::s115::s116::s117::s118::s119::s120::s121::s122::s123::s124::s125::s126::s127::s128::s129::s130::s131::s132::s133::s134::s135::s136::s137::s138::s139::s140::s141::s142::s143::s144::s145::s146::s147::s148::s149::s150::s151::s152::s153::s154::s155::s156::s157::s158::s159::s160::s161::s162::s163::s164::s165::s166::s167::s168::s169::s170::s171::s172::s173::s174::[]),[]⟩ wx) :
  (blockOf 0 Tryz.f29).wp Tryz.prog (Exit.then K noQ) ⟨List.toArray (s0::(ptr0 wb)::s2::s3::s4::(ptr0 g)::s6::s7::s8::s9::(.int .i64 1)::s11::s12::s13::s14::s15::s16::s17::s18::s19::s20::s21::s22::s23::s24::s25::s26::s27::s28::s29::s30::s31::s32::s33::s34::s35::s36::s37::s38::s39::s40::s41::s42::s43::s44::s45::s46::s47::s48::s49::s50::s51::s52::s53::s54::s55::s56::s57::s58::s59::s60::s61::s62::s63::s64::s65::s66::s67::s68::s69::s70::s71::s72::s73::s74::s75::s76::s77::s78::s79::s80::s81::s82::s83::s84::s85::s86::s87::s88::s89::s90::s91::s92::s93::s94::s95::s96::s97::s98::s99::s100::s101::s102::s103::s104::s105::s106::s107::s108::s109::s110::s111::s112::s113::s114::s115::s116::s117::s118::s119::s120::s121::s122::s123::s124::s125::s126::s127::s128::s129::s130::s131::s132::s133::s134::s135::s136::s137::s138::s139::s140::s141::s142::s143::s144::s145::s146::s147::s148::s149::s150::s151::s152::s153::s154::s155::s156::s157::s158::s159::s160::s161::s162::s163::s164::s165::s166::s167::s168::s169::s170::s171::s172::s173::s174::[]),[]⟩ w:=by
 conv in (blockOf _ _)=>whnf
 unfold noQ
 have HK:=Lib.hid hk
 clear hk
 unfold ptr0
 have hzl:b.model.zeros.length≤20:=by have:=ok.kz.1;simpa [BandG.model] using this
 obtain⟨T,hT⟩:∃ T,b.model.zeros=T:=⟨_,rfl⟩
 rw[hT] at HK hzl
 have BD:=Lib.hid (fun j hj=>(zerosE_length T k hzl j hj).2)
 obtain⟨pls,hpls⟩:∃ pls,b.planes=pls:=⟨_,rfl⟩
 obtain⟨spl,hspl⟩:∃ spl,st.m.pl=spl:=⟨_,rfl⟩
 rw[hpls] at hpl hnz
 rw[hspl] at hsp hnz
 have emx:(if pls - spl<0 then 0 else pls - spl)+1=(nz:Int):=by rw[hnz];split <;> omega
 have emx2:(if 0<pls - spl then pls - spl else 0)+1=(nz:Int):=by rw[hnz];split <;> omega
 obtain⟨mz,hmz⟩:∃ mz:Nat,nz=mz+1:=⟨nz - 1,by omega⟩
 subst hmz
 have emy:(if pls - spl<0 then 0 else pls - spl)=(mz:Int):=by push_cast at emx;omega
 have emy2:(if 0<pls - spl then pls - spl else 0)=(mz:Int):=by push_cast at emx2;omega
 have hkk:k<4096:=Nat.lt_of_lt_of_le hkn ok.small
 have ST0:=Lib.hid (And.intro ok (And.intro hw M))
 have FX:=Lib.hid (And.intro hst (And.intro hx (And.intro hpls (And.intro hT hspl))))
 clear ok hw M hst hx hpls hspl emx emx2 hnz hT
 go_wp2_with fail
 go_loopg [10] (mz+1) (fun mm s10 wx=>∃ (j:Nat) (b':BandG) (HW':List HB),j≤mz+1∧mm=mz+1 - j∧s10=.int .i64 ((j+1:Nat):Int)∧b'.ok d∧b'.model={ b.model with zeros:=(zerosE T k j).1 }∧b'.G=b.G∧WrB wb (bs++(zerosE T k j).2) HW'∧Mv w0 H0 wx (HW'++(X++b'.heap d)))
 case atStart=>exact⟨0,b,HW,Nat.zero_le _,rfl,rfl,ST0.out.1,by rw[← FX.out.2.2.2.1];rfl,rfl,by simpa [zerosE] using ST0.out.2.1,ST0.out.2.2⟩
 case round =>
  obtain⟨j,b1,HW1,hj,rfl,rfl,ok1,hm1,hG1,hw1,M1⟩:=hrel
  have hp1:b1.planes=pls:=(congrArg BandM.planes hm1).trans FX.out.2.2.1
  obtain⟨⟨x0,x1,x2⟩,⟨y1,y2,y3⟩,z0,z1,z2,z3,z4,z5⟩:=hd_cells M1 FX.out.2.1 (by rw[hG1];exact FX.out.1)
  rw[hp1] at y1
  rw[FX.out.2.2.2.2] at z0
  clear z1 z2 z3 z4 z5 y2 y3 x2
  have KS:=Lib.hid (And.intro ok1 (And.intro hm1 (And.intro hG1 (And.intro hw1 M1))))
  clear ok1 hm1 hG1 hw1 M1 hp1
  by_cases hlt:j<mz+1
  ·have d1:decide (((j+1:Nat):Int)≤(mz:Int)+1)=true:=by simp;omega
   go_upto_region 7 with fail
   go_quiet (fail)
   have K2:Hid (b1.ok d∧WrB wb (bs++(zerosE T k j).2) HW1∧Mv w0 H0 ((wr.drewN nq).drew) (HW1++(X++b1.heap d))):=Lib.hid ⟨KS.out.1,KS.out.2.2.2.1,(KS.out.2.2.2.2.drewN nq).drew⟩
   obtain⟨w2,hw2⟩:∃ w2,w2=wr.drewN nq:=⟨_,rfl⟩
   rw[← hw2] at K2
   have HW2:=Lib.hid hw2
   clear hw2 x0 x1 y1 z0 d1
   obtain⟨⟨x0,x1,x2⟩,⟨y1,y2,y3⟩,-⟩:=hd_cells K2.out.2.2 FX.out.2.1 (by rw[KS.out.2.2.1];exact FX.out.1)
   clear x0 y1 y2
   have hbl:(bs++(zerosE T k j).2).length≤60000000:=by rw[List.length_append];have:=BD.out j (by omega);omega
   have CZ:=Lib.hid (band_encZ K2.out.1 K2.out.2.1 K2.out.2.2 k hkn ((j:Int)+1) (by omega) hbl)
   have ez:b1.model.zeros=(zerosE T k j).1:=by rw[KS.out.2.1]
   rw[ez] at CZ
   have em:=KS.out.2.1
   have NXT:Hid (∀ (b2:BandG) (HW2':List HB) (W2:World),b2.ok d→b2.model={ b1.model with zeros:=(encAt (zerosE T k j).1 k ((j:Int)+1)).1 }→b2.G=b1.G→WrB wb ((bs++(zerosE T k j).2)++(encAt (zerosE T k j).1 k ((j:Int)+1)).2) HW2'→Mv w0 H0 W2 (HW2'++(X++b2.heap d)) →
     b2.ok d∧b2.model={ b.model with zeros:=(zerosE T k (j+1)).1 }∧b2.G=b.G∧WrB wb (bs++(zerosE T k (j+1)).2) HW2'∧Mv w0 H0 W2 (HW2'++(X++b2.heap d))):=Lib.hid (by
    intro b2 HW2' W2 q1 q2 q3 q4 q5
    refine⟨q1,?_,q3.trans KS.out.2.2.1,?_,q5⟩
    ·rw[q2,em];rfl
    ·rw[List.append_assoc] at q4;exact q4)
   clear em ez hbl
   go_upto_region 9 with fail
   rw[← HW2.out]
   go_still_tail 9,(by kernel_rfl)
   change wpList _ _ _ _ _ w2.drew
   go_wp2_with (go_at_call 73;(with_reducible refine CZ.out.mono ?_);rintro e w3 ⟨rfl,b2,HW2',q1,q2,q3,q4,q5⟩;have K3:=Lib.hid (NXT.out b2 HW2' w3 q1 q2 q3 q4 q5);clear q1 q2 q3 q4 q5)
   go_roundg (mz+1 - (j+1))
   case measure=>omega
   case rel=>exact⟨j+1,b2,HW2',by omega,rfl,by push_cast;rfl,K3.out⟩
  ·have d1:decide (((j+1:Nat):Int)≤(mz:Int)+1)=false:=by simp;omega
   obtain rfl:j=mz+1:=by omega
   go_upto_region 7 with fail
   go_quiet (fail)
   go_wp2_with fail
   exact HK.out _ _ _ _ _ _ _ _ _ _ _ _ _ _ _ _ _ _ _ _ _ _ _ _ _ _ _ _ _ _ b1 HW1 KS.out.1 KS.out.2.1 KS.out.2.2.1 KS.out.2.2.2.1 (KS.out.2.2.2.2.drewN nq)
end
end Go.Proofs.YtjngfhgakokejaaGreat
