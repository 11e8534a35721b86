/- layers: Segments. waveletref14.Segments: its drawn region. waveletref14: Ends, Segments. -/
import Derived.Test.YtjngfhgakokejaaGreatZp15
import Derived.Test.YtjngfhgakokejaaGreatZp11
import Derived.Sort.CutIn
import Derived.Sort.QuietIn
import Derived.Test.YtjngfhgakokejaaGreatZp12
import Derived.Test.YtjngfhgakokejaaGreatZp05
set_option maxRecDepth 100000
set_option maxHeartbeats 8000000
namespace Go.Proofs.YtjngfhgakokejaaGreat
section
open Go.RowKit Go.Shelf
attribute [local go_sem] Oper.semAt_some
def sizesM (ends:List Int):Int→List (Nat × Nat)→List Int
 | _,[]=>[]
 | was,p::r=>(ends.getD (p.2 - 1) 0 - was)::sizesM ends (ends.getD (p.2 - 1) 0) r
def wasM (ends:List Int):Int→List (Nat × Nat)→Int
 | was,[]=>was
 | _,p::r=>wasM ends (ends.getD (p.2 - 1) 0) r
theorem sizesM_snoc (ends:List Int) (p:Nat × Nat):∀ (was:Int) (l:List (Nat × Nat)),sizesM ends was (l++[p])=sizesM ends was l++[ends.getD (p.2 - 1) 0 - wasM ends was l]
 | was,[]=>rfl
 | was,q::l=>by simp only [List.cons_append,sizesM,wasM,sizesM_snoc ends p]
theorem wasM_snoc (ends:List Int) (p:Nat × Nat):∀ (was:Int) (l:List (Nat × Nat)),wasM ends was (l++[p])=ends.getD (p.2 - 1) 0
 | was,[]=>rfl
 | was,q::l=>by simp only [List.cons_append,wasM,wasM_snoc ends p]
def was0 (ends:List Int) (from_:Nat):Int:=if from_=0 then 0 else ends.getD (from_ - 1) 0
def lensM (l:List (Nat × Nat)):List Int:=l.map fun p=>(p.2:Int) - (p.1:Int)
theorem pcs_le (style to_:Nat):∀ (f k b:Nat),b≤k→f=to_ - k→∀ p∈pcs style to_ f k b,b≤p.1∧p.1<p.2∧p.2≤to_
 | 0,k,b,_,_,p,h=>by cases h
 | f+1,k,b,hb,hf,p,h=>by
  rw [pcs] at h
  split at h
  ·rcases List.mem_cons.1 h with rfl | h
   ·exact ⟨Nat.le_refl _,by simp only;omega,by simp only;omega⟩
   ·have:=pcs_le style to_ f (k+1) (k+1) (Nat.le_refl _) (by omega) p h
    omega
  ·have:=pcs_le style to_ f (k+1) b (by omega) (by omega) p h
   omega
theorem pieces_in (style from_ to_:Nat) (p:Nat × Nat) (h:p∈piecesM style from_ to_):from_≤p.1∧p.1<p.2∧p.2≤to_:=pcs_le style to_ _ _ _ (Nat.le_refl _) rfl p h
theorem pcs_length (style to_:Nat):∀ (f k b:Nat),(pcs style to_ f k b).length≤f
 | 0,_,_=>Nat.le_refl _
 | f+1,k,b=>by
  rw [pcs]
  split
  ·have:=pcs_length style to_ f (k+1) (k+1)
   rw [List.length_cons]
   omega
  ·have:=pcs_length style to_ f (k+1) b
   omega
theorem pieces_any (style from_ to_:Nat) (w:World):Calls Tryz.prog 110 #[.int .i64 (style:Int),.int .i64 (from_:Int),.int .i64 (to_:Int)] w fun e w' =>
  ∃ sb fb tb,e=.returned (.func (.func 128) #[] #[.pointer (some ⟨fb,0,none⟩),.pointer (some ⟨tb,0,none⟩),.pointer (some ⟨sb,0,none⟩)])∧Mv w [] w' [⟨tb,3,#[.int .i64 (to_:Int)]⟩,⟨fb,3,#[.int .i64 (from_:Int)]⟩,⟨sb,3,#[.int .i64 (style:Int)]⟩]:=by
 have M:=((mv_alloc w 3 #[.int .i64 (style:Int)]).alloc 3 #[.int .i64 (from_:Int)]).alloc 3 #[.int .i64 (to_:Int)]
 simp only [World.size_alloc] at M
 have K:=Lib.hid M
 clear M
 go_enter Tryz.func110,Tryz.ntmps110
 go_wp2_with fail
 go_ret
 exact ⟨_,_,_,rfl,K.out⟩
theorem sizesM_length (ends:List Int):∀ (was:Int) (l:List (Nat × Nat)),(sizesM ends was l).length=l.length
 | _,[]=>rfl
 | _,_::l=>by simp only [sizesM,List.length_cons,sizesM_length ends _ l]
theorem wasM_bd (ends:List Int) (h:∀ i,0≤ends.getD i 0∧ends.getD i 0≤100000000):∀ (was:Int) (l:List (Nat × Nat)),(0≤was∧was≤100000000)→0≤wasM ends was l∧wasM ends was l≤100000000
 | _,[],hw=>hw
 | _,_p::l,_=>wasM_bd ends h _ l (h _)
theorem getD_bd (ends:List Int) (h:∀ e∈ends,0≤e∧e≤100000000) (i:Nat):0≤ends.getD i 0∧ends.getD i 0≤100000000:=by
 rw [List.getD_eq_getElem?_getD]
 cases hx:ends[i]? with
 | none=>exact ⟨by simp,by simp⟩
 | some x=>exact h x (List.mem_of_getElem? hx)
theorem was0_bd (ends:List Int) (h:∀ e∈ends,0≤e∧e≤100000000) (from_:Nat):0≤was0 ends from_∧was0 ends from_≤100000000:=by
 unfold was0
 split
 ·exact ⟨by omega,by omega⟩
 ·exact getD_bd ends h _
theorem range_pieces2 {n:Nat} (hn:3≤n) {g:Operand} {p q:Tmp} (p' q':Tmp) {assign body:Code} {Q:Exit→Act→World→Prop} {a:Act} {w:World} (w0:World) (H0:List HB) (hsz:w0.heap.size≤w.heap.size)
  {fb tb sb style from_ to_:Nat} (hs:style≤63) (hft:from_≤to_) (ht:to_≤1000) (hg:a.eval g=.func (.func 128) #[] #[.pointer (some ⟨fb,0,none⟩),.pointer (some ⟨tb,0,none⟩),.pointer (some ⟨sb,0,none⟩)])
  (P:List (PieceIn style from_ to_)→List HB→Prop) (hP:∀ pre H W,P pre H→Sat W H→PcR W fb tb sb style from_ to_)
  (h0:∃ H,P [] H∧Mv w0 H0 w H)
  (hassign:∀ (l:Nat) (x y:Nat) (W:World) (K:Act→World→Prop),K { tmps:=(((a.tmps.setIfInBounds p (.int .i64 (x:Int))).setIfInBounds q (.int .i64 (y:Int))).setIfInBounds p' (.int .i64 (x:Int))).setIfInBounds q' (.int .i64 (y:Int)),defers:=[] } W →
   assign.wpIn (Fence.wide.inRound l) (n - 1 - 1) Tryz.prog (Exit.then K (fun _ _ _=>False)) { tmps:=(a.tmps.setIfInBounds p (.int .i64 (x:Int))).setIfInBounds q (.int .i64 (y:Int)),defers:=[] } W)
  (hbody:∀ (l:Nat) (pre:List (PieceIn style from_ to_)) (x:Nat × Nat) (hx:x∈piecesM style from_ to_) (W:World) (H:List HB),(∃ r,W.heap[l]?=some (.loop r))→P pre H→Sat W H→pre.length<(piecesM style from_ to_).length →
   body.wpIn (Fence.wide.inRound l) (n - 1 - 1) Tryz.prog (pcPost W H P (pre++[⟨x,hx⟩])) { tmps:=(((a.tmps.setIfInBounds p (.int .i64 (x.1:Int))).setIfInBounds q (.int .i64 (x.2:Int))).setIfInBounds p' (.int .i64 (x.1:Int))).setIfInBounds q' (.int .i64 (x.2:Int)),defers:=[] } W)
  (hdone:∀ (K:Nat) (ys:List (PieceIn style from_ to_)) (W:World) (H:List HB),w0.heap.size≤K→ys.map (·.1)=piecesM style from_ to_→P ys H→Mv w0 H0 W H→W.heap[K]?=some (.deferred (some []))→Q .normal { a with defers:={ target:=.collected K,args:=#[] }::a.defers } W) :
  (Code.rangeFunc g #[p,q] assign body).wpIn Fence.wide n Tryz.prog Q a w :=
 range_pieces hn w0 H0 hsz hs hft ht hg rfl P hP h0 (fun x=>{ tmps:=(((a.tmps.setIfInBounds p (.int .i64 (x.1.1:Int))).setIfInBounds q (.int .i64 (x.1.2:Int))).setIfInBounds p' (.int .i64 (x.1.1:Int))).setIfInBounds q' (.int .i64 (x.1.2:Int)),defers:=[] })
  (fun l x W K hK=>by
   have:=hassign l x.1.1 x.1.2 W K hK
   simpa using this)
  (fun l pre x W H hr h1 h2 h3=>hbody l pre x.1 x.2 W H hr h1 h2 h3) hdone
theorem results_cell2 {P:Program} {fn:Func} {p q:Tmp} {tp tq:TypeId} (h:fn.results=#[.cell p tp,.cell q tq]) (tmps:Array Value) (w:World) :
  (results fn tmps).run P w=((asAddr (tmps.getD p undef)).run P w).andThen fun a w₁=>((loadVar tp a).run P w₁).andThen fun u w₂=>((asAddr (tmps.getD q undef)).run P w₂).andThen fun b w₃=>((loadVar tq b).run P w₃).andThen fun v w₄=>.ok (.tuple #[u,v]) w₄:=by
 simp only [results,h]
 simp [Sem.run_bind,Result.andThen]
theorem seg_results (tmps:Array Value) (w:World) (g1 g2:Nat) (a1 a2:Option Addr) (n1 c1 n2 c2:Nat) (h8:tmps.getD 8 undef=.pointer (some ⟨g1,0,none⟩)) (h9:tmps.getD 9 undef=.pointer (some ⟨g2,0,none⟩)) (b1:w.cell? ⟨g1,0,none⟩=some (.slice a1 n1 c1)) (b2:w.cell? ⟨g2,0,none⟩=some (.slice a2 n2 c2)) :
  (results Tryz.f75 tmps).run Tryz.prog w=.ok (.tuple #[.slice a1 n1 c1,.slice a2 n2 c2]) w:=by
 rw [results_cell2 (p:=8) (q:=9) (tp:=38) (tq:=38) rfl,h8,h9]
 simp only [asAddr]
 go_simp
def segX (g0 g3 _n:Nat) (ev:Value) (was:Int) (tb fb sb style from_ to_:Nat) (He:List HB):List HB :=
 ⟨g3,3,#[.int .i64 was]⟩::⟨g0,38,#[ev]⟩::⟨tb,3,#[.int .i64 (to_:Int)]⟩::⟨fb,3,#[.int .i64 (from_:Int)]⟩::⟨sb,3,#[.int .i64 (style:Int)]⟩::He
def segP (g0 g3 n:Nat) (ev:Value) (ends:List Int) (tb fb sb style from_ to_:Nat) (He:List HB) (pre:List (PieceIn style from_ to_)) (H:List HB):Prop :=
 ∃ a1 c1 H1 a2 c2 H2,RowI (.slice a1 pre.length c1) (lensM (pre.map (·.1))) H1∧RowI (.slice a2 pre.length c2) (sizesM ends (was0 ends from_) (pre.map (·.1))) H2 ∧
  H=H1++(⟨g0+1,38,#[.slice a1 pre.length c1]⟩::(H2++(⟨g0+2,38,#[.slice a2 pre.length c2]⟩::segX g0 g3 n ev (wasM ends (was0 ends from_) (pre.map (·.1))) tb fb sb style from_ to_ He)))
theorem seg_r3 (K:Act→World→Prop) (from_ n ec g0:Nat) (ea:Option Addr) (w:World) (s0 s2 s3 s4 s5 s6 s8 s9 s10 s11 s12 s13 s14 s15 s16 s17 s18 s19 s20 s21 s22 s23 s24 s25 s26 s27 s28 s29 s30 s31 s32 s33 s34 s35 s36 s37 s38 s39 s40 s41 s42 s43 s44 s45 s46 s47 s48 s49 s50 s51 s52 s53 s54 s55 s56 s57 s58 s59 s60 s61 s62:Value) (hfn:from_≤n) (hc:w.cell? ⟨g0,0,none⟩=some (.slice ea n ec))
  (hK:∀ (t19 t20 t21 t22 t23 t24 t25:Value),K ⟨List.toArray (s0::(.int .i64 (from_:Int))::s2::s3::s4::s5::s6::(.pointer (some ⟨g0,0,none⟩))::s8::s9::s10::s11::s12::s13::s14::s15::s16::s17::s18::t19::t20::t21::t22::t23::t24::t25::(.bool (decide (0<from_)))::s27::s28::s29::s30::s31::s32::s33::s34::s35::s36::s37::s38::s39::s40::s41::s42::s43::s44::s45::s46::s47::s48::s49::s50::s51::s52::s53::s54::s55::s56::s57::s58::s59::s60::s61::s62::[]),[]⟩ w) :
  (regionOf 3 Tryz.f75).wp Tryz.prog (Exit.then K noQ) ⟨List.toArray (s0::(.int .i64 (from_:Int))::s2::s3::s4::s5::s6::(.pointer (some ⟨g0,0,none⟩))::s8::s9::s10::s11::s12::s13::s14::s15::s16::s17::s18::s19::s20::s21::s22::s23::s24::s25::s26::s27::s28::s29::s30::s31::s32::s33::s34::s35::s36::s37::s38::s39::s40::s41::s42::s43::s44::s45::s46::s47::s48::s49::s50::s51::s52::s53::s54::s55::s56::s57::s58::s59::s60::s61::s62::[]),[]⟩ w:=by
 conv in (regionOf _ _)=>whnf
 unfold noQ
 have HK:=Lib.hid hK
 clear hK
 by_cases h1:0<from_
 ·have d1:decide ((0:Int)<(from_:Int))=true:=by simp;omega
  have d2:decide ((from_:Int)≤(n:Int))=true:=by simp;omega
  rw [decide_eq_true h1] at HK
  go_wp2_with fail
  exact HK.out _ _ _ _ _ _ _
 ·have d1:decide ((0:Int)<(from_:Int))=false:=by simp;omega
  rw [decide_eq_false h1] at HK
  go_wp2_with fail
  exact HK.out _ _ _ _ _ _ _
theorem segments_any (style from_ to_:Nat) (ends:List Int) (ev:Value) (He:List HB) (w:World) (hs:style≤63) (hft:from_≤to_) (hto:to_≤ends.length) (hl:ends.length≤1000) (he:∀ e∈ends,0≤e∧e≤100000000) (hev:RowI ev ends He) (hsat:Sat w He) :
  Calls Tryz.prog 75 #[.int .i64 (style:Int),.int .i64 (from_:Int),.int .i64 (to_:Int),ev] w fun e w'=>∃ v1 v2 H1 H2,e=.returned (.tuple #[v1,v2])∧RowI v1 (lensM (piecesM style from_ to_)) H1∧RowI v2 (sizesM ends (was0 ends from_) (piecesM style from_ to_)) H2∧Mv w He w' (H1++(H2++He)):=by
 obtain ⟨ea,ec,rfl⟩:=hev.slice
 obtain ⟨n,hn⟩:∃ n,ends.length=n:=⟨_,rfl⟩
 rw [hn] at hev hto hl ⊢
 obtain ⟨F1,hF1⟩:∃ L,lensM (piecesM style from_ to_)=L:=⟨_,rfl⟩
 obtain ⟨F2,hF2⟩:∃ L,sizesM ends (was0 ends from_) (piecesM style from_ to_)=L:=⟨_,rfl⟩
 rw [hF1,hF2]
 have HF1:=Lib.hid hF1
 have HF2:=Lib.hid hF2
 clear hF1 hF2
 refine (callsIn_wide (n:=8)).1 ?_
 refine callsIn_of_wp_marks Tryz.func75 rfl trivial ?_ rfl
 simp only [Tryz.ntmps75,List.size_toArray,List.length_cons,List.length_nil,Nat.reduceAdd,Nat.reduceSub,Array.replicate_succ,Array.replicate_zero,List.push_toArray,List.append_toArray,List.nil_append,List.cons_append]
 have M1:=(((Mv.refl hsat).alloc 38 #[.slice ea n ec]).alloc 38 #[.slice none 0 0]).alloc 38 #[.slice none 0 0]
 simp only [World.size_alloc] at M1
 have KE:=Lib.hid (And.intro hev (And.intro he hn))
 have m1:(if (0:Int)<(from_:Int) then (from_:Int) else 0)=(from_:Int):=by split <;> omega
 have m2:(if (n:Int)<(to_:Int) then (n:Int) else (to_:Int))=(to_:Int):=by split <;> omega
 have K1:=Lib.hid M1
 clear M1 hev he hn hsat
 refine wpIn_wide.2 ?_
 go_upto_region 1 with fail
 go_quiet (fail)
 have M3:=K1.out.drewN nq
 clear K1 m1 m2
 obtain ⟨g0,hg0⟩:∃ g,w.heap.size=g:=⟨_,rfl⟩
 rw [hg0] at M3 ⊢
 have HG0:=Lib.hid hg0
 clear hg0
 generalize (((w.alloc (.cells #[.slice ea n ec] 38)).alloc (.cells #[.slice none 0 0] 38)).alloc (.cells #[.slice none 0 0] 38)).drewN nq=w1 at *
 have M4:=M3.alloc 3 #[.int .i64 0]
 have c0:(w1.alloc (.cells #[.int .i64 0] 3)).cell? ⟨g0,0,none⟩=some (.slice ea n ec):=M4.cell 3 rfl 0
 obtain ⟨g3,hg3⟩:∃ g,w1.heap.size=g:=⟨_,rfl⟩
 rw [hg3] at M4
 have KM:=Lib.hid M4
 have HG3:=Lib.hid hg3
 clear M3 M4
 go_upto_region 3 with fail
 clear hg3
 generalize w1.alloc (.cells #[.int .i64 0] 3)=w2 at *
 refine wp_piece (seg_r3 _ from_ n ec g0 ea w2 _ _ _ _ _ _ _ _ _ _ _ _ _ _ _ _ _ _ _ _ _ _ _ _ _ _ _ _ _ _ _ _ _ _ _ _ _ _ _ _ _ _ _ _ _ _ _ _ _ _ _ _ _ _ _ _ _ _ _ _ _ (by omega) c0 ?_)
 rintro _ _ _ _ _ _ _
 have GE:Hid (∀ i,i<n→ends[i]?=some (ends.getD i 0)∧0≤ends.getD i 0∧ends.getD i 0≤100000000):=Lib.hid (by
  intro i hi
  obtain ⟨x,h⟩:∃ x,ends[i]?=some x:=⟨_,List.getElem?_eq_getElem (by rw [KE.out.2.2];exact hi)⟩
  have e:ends.getD i 0=x:=by rw [List.getD_eq_getElem?_getD,h];rfl
  rw [e]
  exact ⟨h,KE.out.2.1 _ (List.mem_of_getElem? h)⟩)
 go_upto_if 26 with fail
 go_cut [26] from 27 (fun _ wx=>Mv w He wx (⟨g3,3,#[.int .i64 (was0 ends from_)]⟩::⟨g0+2,38,#[.slice none 0 0]⟩::⟨g0+1,38,#[.slice none 0 0]⟩::⟨g0,38,#[.slice ea n ec]⟩::He))
 case first =>
  by_cases h1:from_=0
  ·have d:decide (0<from_)=false:=by simp;omega
   have e:was0 ends from_=0:=by unfold was0;rw [if_pos h1]
   have E:=Lib.hid e
   rw [d]
   clear d e h1
   go_wp2_with fail
   go_meet
   rw [E.out]
   exact KM.out
  ·have d:decide (0<from_)=true:=by simp;omega
   obtain ⟨q1,q2,q3⟩:=GE.out (from_ - 1) (by omega)
   have e:was0 ends from_=ends.getD (from_ - 1) 0:=by unfold was0;rw [if_neg h1]
   obtain ⟨eg,rfl⟩:=KE.out.1.form (by omega)
   have c1:=KE.out.1.at_ (Sat.right (A:=[_,_,_,_]) KM.out.sat) q1
   have c3:w2.cell? ⟨g3,0,none⟩=some (.int .i64 0):=KM.out.cell 0 rfl 0
   have f3:w2.frozen? ⟨g3,0,none⟩=false:=KM.out.frozen 0 rfl 0
   have M5:=Lib.hid (KM.out.set 0 (.int .i64 (ends.getD (from_ - 1) 0)))
   have e1:(from_:Int) - 1=((from_ - 1:Nat):Int):=by omega
   have e2:((from_ - 1:Nat):Int)<(n:Int):=by omega
   have E:=Lib.hid e
   rw [d]
   clear q1 h1 d e
   generalize ends.getD (from_ - 1) 0=eb at *
   go_wp2_with fail
   go_meet
   rw [E.out]
   exact M5.out
 case rest =>
  have KM5:=Lib.hid hcut
  clear hcut KM c0
  go_wp2_with (go_at_call 110;refine (pieces_any style from_ to_ _).mono ?_;rintro e w6 ⟨sb,fb,tb,rfl,m6⟩;have K6:=Lib.hid (Mv.call (H:=[]) KM5.out m6);clear m6)
  have m6:Mv w He w6 ([]++(⟨g0+1,38,#[.slice none 0 0]⟩::([]++(⟨g0+2,38,#[.slice none 0 0]⟩::segX g0 g3 n (.slice ea n ec) (was0 ends from_) tb fb sb style from_ to_ He)))):=K6.out.sub (fun g=>by simp only [segX,cnt_append,cnt_cons,cnt_nil];omega) (fun b hb=>by
   simp only [segX,List.mem_append,List.mem_cons,List.not_mem_nil,or_false,false_or] at hb ⊢
   rcases hb with h | h | h | h | h | h | h | h
   ·exact .inr (.inr (.inr (.inl h)))
   ·exact .inr (.inr (.inl h))
   ·exact .inr (.inl h)
   ·exact .inr (.inr (.inr (.inr (.inl h))))
   ·exact .inl (.inl h)
   ·exact .inl (.inr (.inl h))
   ·exact .inl (.inr (.inr h))
   ·exact .inr (.inr (.inr (.inr (.inr h)))))
  have hsz:=m6.only.size
  refine (wpIn_wide (n:=8)).1 ?_
  refine range_pieces2 (n:=8) (by omega) 11 12 w He hsz hs hft (by omega) rfl (segP g0 g3 n (.slice ea n ec) ends tb fb sb style from_ to_ He) ?pc ⟨_,⟨none,0,[],none,0,[],RowH.nil _ _,RowH.nil _ _,rfl⟩,m6⟩ ?assign ?body ?done
  case pc =>
   rintro pre H W ⟨a1,c1,H1,a2,c2,H2,-,-,rfl⟩ hs
   have s1:=Sat.right (A:=H1) hs
   have s2:Sat W (segX g0 g3 n (.slice ea n ec) (wasM ends (was0 ends from_) (pre.map (·.1))) tb fb sb style from_ to_ He):=Sat.right (A:=[_]) (Sat.right (A:=H2) (Sat.right (A:=[_]) s1))
   exact ⟨(s2.at_ 3 rfl).cell 0,(s2.at_ 2 rfl).cell 0,(s2.at_ 4 rfl).cell 0⟩
  case assign =>
   intro l x y W K hK
   simp only [List.setIfInBounds_toArray,List.set_cons_succ,List.set_cons_zero] at hK ⊢
   gi_wp2
   exact hK
  case body =>
   intro l pre x hx W H hr hP hs hlen
   simp only [List.setIfInBounds_toArray,List.set_cons_succ,List.set_cons_zero]
   obtain ⟨a1,c1,H1,a2,c2,H2,r1,r2,rfl⟩:=hP
   obtain ⟨p1,p2,p3⟩:=pieces_in style from_ to_ x hx
   obtain ⟨a,b⟩:=x
   simp only at p1 p2 p3
   obtain ⟨k,hk⟩:∃ k,pre.length=k:=⟨_,rfl⟩
   obtain ⟨L,hL⟩:∃ L,pre.map (·.1)=L:=⟨_,rfl⟩
   have hLk:L.length=k:=by rw [← hL,List.length_map,hk]
   have hk1:k≤1000:=by
    have:=pcs_length style to_ (to_ - from_) from_ from_
    have h2:pre.length<(pcs style to_ (to_ - from_) from_ from_).length:=hlen
    omega
   rw [hk,hL] at r1 r2 hs ⊢
   obtain ⟨was,hwas⟩:∃ was,wasM ends (was0 ends from_) L=was:=⟨_,rfl⟩
   have hwb:0≤was∧was≤100000000:=by rw [← hwas];exact wasM_bd ends (getD_bd ends KE.out.2.1) _ _ (was0_bd ends KE.out.2.1 _)
   rw [hwas] at hs ⊢
   obtain ⟨HH,hHH⟩:∃ HH,H1++(⟨g0+1,38,#[.slice a1 k c1]⟩::(H2++(⟨g0+2,38,#[.slice a2 k c2]⟩::segX g0 g3 n (.slice ea n ec) was tb fb sb style from_ to_ He)))=HH:=⟨_,rfl⟩
   rw [hHH] at hs ⊢
   obtain ⟨PS,hPS⟩:∃ PS,pcPost W HH (segP g0 g3 n (.slice ea n ec) ends tb fb sb style from_ to_ He) (pre++[⟨(a,b),hx⟩])=PS:=⟨_,rfl⟩
   have LP:Hid (¬LetsOut PS):=Lib.hid (by rw [← hPS];rintro ⟨a,w,h⟩;exact h)
   rw [hPS]
   have M0:=Mv.refl hs
   have M0':Mv W HH W (H1++(⟨g0+1,38,#[.slice a1 k c1]⟩::(H2++(⟨g0+2,38,#[.slice a2 k c2]⟩::segX g0 g3 n (.slice ea n ec) was tb fb sb style from_ to_ He)))):=by rw [hHH];exact M0
   have MA:=(M0'.alloc 3 #[.int .i64 ((b:Int) - (a:Int))]).drop1
   have z1:W.cell? ⟨g0+1,0,none⟩=some (.slice a1 k c1):=M0'.drop.cell 0 rfl 0
   have IVA:=Lib.hid (iv_one W ((b:Int) - (a:Int)) _ rfl)
   have KA:=Lib.hid (And.intro r1 MA)
   have KR2:=Lib.hid r2
   have hb1000:b≤1000:=by omega
   have hsl:(lensM L).length+[(b:Int) - (a:Int)].length≤100000000:=by simp only [lensM,List.length_map,List.length_cons,List.length_nil];omega
   obtain ⟨L1,hL1⟩:∃ L1,lensM L++[(b:Int) - (a:Int)]=L1:=⟨_,rfl⟩
   have HL1:=Lib.hid hL1
   have hL1k:L1.length=k+1:=by rw [← hL1,List.length_append];simp only [lensM,List.length_map,List.length_cons,List.length_nil];omega
   have KK:=Lib.hid (And.intro hHH (And.intro hPS (And.intro hk (And.intro hL (And.intro hwas hr)))))
   clear r1 r2 M0 M0' MA hL1 hHH hPS hk hL hwas hr hs hlen m6 K6 hsz
   gi_upto_region 8 with fail
   refine round_lit (by kernel_rfl) (fun ⟨a,w,h⟩=>LP.out ⟨a,w,h⟩) ?_
   go_wp2_with (at_builtin;go_must (refine wpList_appI rfl (.tmp 38) (.tmp 42) rfl _ _ (lensM L) [(b:Int) - (a:Int)] H1 rfl rfl KA.out.1 KA.out.2.sat.left IVA.out hsl ?_;intro v8 w8 H8 hr8 m8;rw [HL1.out] at hr8;obtain ⟨a8,c8,rfl⟩:=hr8.slice;have K8:=Lib.hid (And.intro hr8 (Mv.call KA.out.2 m8));(have y1:w8.cell? ⟨g0+1,0,none⟩=some (.slice a1 k c1):=(by first | exact K8.out.2.drop.cell 0 rfl 0));(have y2:w8.frozen? ⟨g0+1,0,none⟩=false:=(by first | exact K8.out.2.drop.frozen 0 rfl 0));clear hr8 m8))
   have M9:Hid (RowI (.slice a8 (k+1) c8) L1 H8∧Mv W HH (w8.setCell ⟨g0+1,0,none⟩ (.slice a8 (k+1) c8)) (H8++(⟨g0+1,38,#[.slice a8 (k+1) c8]⟩::(H2++(⟨g0+2,38,#[.slice a2 k c2]⟩::segX g0 g3 n (.slice ea n ec) was tb fb sb style from_ to_ He))))):=Lib.hid ⟨by (have:=K8.out.1;rw [hL1k] at this;exact this),Mv.setAt (A:=H8) (g:=g0+1) (t:=38) (cs:=#[.slice a1 k c1]) K8.out.2 0 (.slice a8 (k+1) c8)⟩
   clear K8 y1 y2 z1 IVA KA hsl
   gi_upto_region 9 with fail
   generalize w8.setCell ⟨g0+1,0,none⟩ (.slice a8 (k+1) c8)=w9 at *
   obtain ⟨eg,rfl⟩:=KE.out.1.form (by omega)
   obtain ⟨q1,q2,q3⟩:=GE.out (b - 1) (by omega)
   obtain ⟨eb,heb⟩:∃ eb,ends.getD (b - 1) 0=eb:=⟨_,rfl⟩
   rw [heb] at q1 q2 q3
   have h2l:=sizesM_length ends (was0 ends from_) L
   obtain ⟨l2,hl2⟩:∃ l2,sizesM ends (was0 ends from_) L=l2:=⟨_,rfl⟩
   rw [hl2] at KR2 h2l
   have hlk:l2.length=k:=h2l.trans hLk
   obtain ⟨X9,hX9⟩:∃ X9,segX g0 g3 n (.slice (some ⟨eg,0,none⟩) n ec) was tb fb sb style from_ to_ He++(H8++[⟨g0+1,38,#[.slice a8 (k+1) c8]⟩])=X9:=⟨_,rfl⟩
   have HX9:=Lib.hid hX9
   have m9:Mv W HH w9 (H2++(⟨g0+2,38,#[.slice a2 l2.length c2]⟩::X9)):=by
    rw [← hX9,hlk]
    exact M9.out.2.sub (fun g=>by simp only [cnt_append,cnt_cons,cnt_nil];omega) (fun b hb=>by simp only [List.mem_append,List.mem_cons,List.not_mem_nil,or_false] at hb ⊢;grind)
   have sE:∀ W',Sat W' X9→W'.cell? ⟨eg,b - 1,none⟩=some (.int .i64 eb):=by
    intro W' h
    rw [← hX9] at h
    exact KE.out.1.at_ (Sat.right (A:=[_,_,_,_,_]) h.left) q1
   refine round_any (by kernel_rfl) (by kernel_rfl) (fun ⟨a,w,h⟩=>LP.out ⟨a,w,h⟩) (seg_r9 _ _ (by kernel_rfl) g0 (g0+2) g3 eg n ec b eb was a2 c2 l2 H2 X9 HH W w9 _ _ _ _ _ _ _ _ _ _ _ _ _ _ _ _ _ _ _ _ _ _ _ _ _ _ _ _ _ _ _ _ _ _ _ _ _ _ _ _ _ _ _ _ _ _ _ _ _ _ _ _ _ _ _ _ _ _ _ (by rw [hlk];exact KR2.out) (by omega) (by omega) (by omega) hl ⟨q2,q3⟩ hwb (by rw [← hX9];simp [segX]) (by rw [← hX9];simp [segX]) sE m9 ?_)
   rintro _ _ _ _ _ _ _ _ _ _ g8 HB9 vv w10 ⟨m10,-⟩ r10 ⟨-,rfl⟩
   obtain ⟨a10,c10,rfl⟩:=r10.slice
   have hl10:(l2++[eb - was]).length=k+1:=by rw [List.length_append,hlk];rfl
   rw [hl10] at r10 m10
   rw [← HX9.out] at m10
   have m11:Mv W HH w10 (⟨g3,3,#[.int .i64 was]⟩::(⟨g0,38,#[.slice (some ⟨eg,0,none⟩) n ec]⟩::(HB9++(⟨g0+2,38,#[.slice a10 (k+1) c10]⟩::(H8++(⟨g0+1,38,#[.slice a8 (k+1) c8]⟩::(⟨tb,3,#[.int .i64 (to_:Int)]⟩::⟨fb,3,#[.int .i64 (from_:Int)]⟩::⟨sb,3,#[.int .i64 (style:Int)]⟩::He))))))) :=
    m10.sub (fun g=>by simp only [segX,oh_true,cnt_append,cnt_cons,cnt_nil];omega) (fun b hb=>by simp only [segX,oh_true,List.mem_append,List.mem_cons,List.not_mem_nil,or_false] at hb ⊢;grind)
   have x0:w10.cell? ⟨g0,0,none⟩=some (.slice (some ⟨eg,0,none⟩) n ec):=m11.cell 1 rfl 0
   have x3:w10.cell? ⟨g3,0,none⟩=some (.int .i64 was):=m11.cell 0 rfl 0
   have f3:w10.frozen? ⟨g3,0,none⟩=false:=m11.frozen 0 rfl 0
   have sHe:Sat w10 He:=by
    have h1:=m11.drop1.drop1.drop.drop1.drop.sat
    exact Sat.right (A:=[_,_,_,_]) h1
   have xe:=KE.out.1.at_ sHe q1
   have e1:(b:Int) - 1=((b - 1:Nat):Int):=by omega
   have e2:((b - 1:Nat):Int)<(n:Int):=by omega
   have FIN:Hid (∀ a':Act,PS .normal a' (w10.setCell ⟨g3,0,none⟩ (.int .i64 eb))):=Lib.hid (by
    intro a'
    rw [← KK.out.2.1]
    have m12:=m11.set 0 (.int .i64 eb)
    have eP:(pre++[(⟨(a,b),hx⟩:PieceIn style from_ to_)]).map (·.1)=L++[(a,b)]:=by rw [List.map_append,KK.out.2.2.2.1];rfl
    have eN:(pre++[(⟨(a,b),hx⟩:PieceIn style from_ to_)]).length=k+1:=by rw [List.length_append,KK.out.2.2.1];rfl
    refine ⟨_,⟨a8,c8,H8,a10,c10,HB9,?_,?_,rfl⟩,?_⟩
    ·rw [eN,eP]
     have:lensM (L++[(a,b)])=L1:=by rw [← HL1.out];simp [lensM]
     rw [this]
     exact M9.out.1
    ·rw [eN,eP,sizesM_snoc,hl2,KK.out.2.2.2.2.1]
     simp only [heb]
     exact r10
    ·rw [eN,eP,wasM_snoc]
     simp only [heb]
     exact m12.sub (fun g=>by simp only [segX,cnt_append,cnt_cons];omega) (fun b hb=>by simp only [segX,List.mem_append,List.mem_cons] at hb ⊢;grind))
   clear m10 m11 r10 hl10 sHe q1 heb hl2
   gi_upto_region 10 with fail
   refine round_lit (by kernel_rfl) (fun ⟨a,w,h⟩=>LP.out ⟨a,w,h⟩) ?_
   go_wp2_with fail
   exact FIN.out _
  case done =>
   intro K ys W H hK hy hP hM hd
   obtain ⟨a1,c1,H1,a2,c2,H2,r1,r2,rfl⟩:=hP
   rw [hy] at r1 r2 hM
   obtain ⟨k,hk⟩:∃ k,ys.length=k:=⟨_,rfl⟩
   rw [hk] at r1 r2 hM
   have hkL:(piecesM style from_ to_).length=k:=by rw [← hy,List.length_map,hk]
   have hk1:k≤1000:=by
    have:=pcs_length style to_ (to_ - from_) from_ from_
    have h2:(piecesM style from_ to_).length=(pcs style to_ (to_ - from_) from_ from_).length:=rfl
    omega
   have hl1:F1.length=k:=by rw [← HF1.out,lensM,List.length_map,hkL]
   have hl2:F2.length=k:=by rw [← HF2.out,sizesM_length,hkL]
   rw [HF1.out] at r1
   rw [HF2.out] at r2
   obtain ⟨HH,hHH⟩:∃ HH,H1++(⟨g0+1,38,#[.slice a1 k c1]⟩::(H2++(⟨g0+2,38,#[.slice a2 k c2]⟩::segX g0 g3 n (.slice ea n ec) (wasM ends (was0 ends from_) (piecesM style from_ to_)) tb fb sb style from_ to_ He)))=HH:=⟨_,rfl⟩
   rw [hHH] at hM
   have CE:Hid (∀ (W':World) (A:List YtjngfhgakokejaaGreat.HB),Mv w He W' (A++HH)→W'.cell? ⟨g0+1,0,none⟩=some (.slice a1 k c1)∧W'.cell? ⟨g0+2,0,none⟩=some (.slice a2 k c2)∧W'.frozen? ⟨g0+1,0,none⟩=false∧W'.frozen? ⟨g0+2,0,none⟩=false∧Sat W' H1∧Sat W' H2):=Lib.hid (by
    intro W' A m
    have s1:Sat W' HH:=m.drop.sat
    rw [← hHH] at s1
    have b1:=(s1.right).at_ 0 rfl
    have s2:=Sat.right (A:=[_]) s1.right
    have b2:=(s2.right).at_ 0 rfl
    exact ⟨b1.cell 0,b2.cell 0,b1.frozen 0,b2.frozen 0,s1.left,s2.left⟩)
   have hHe:Hid (∀ (W':World) (A:List YtjngfhgakokejaaGreat.HB),Mv w He W' (A++HH)→Mv w He W' (A++He)):=Lib.hid (by
    intro W' A m
    refine m.sub (fun g=>?_) (fun b hb=>?_)
    ·rw [← hHH]
     simp only [segX,cnt_append,cnt_cons]
     omega
    ·rw [← hHH]
     simp only [segX,List.mem_append,List.mem_cons] at hb ⊢
     rcases hb with h | h
     ·exact .inl h
     ·exact .inr (.inr (.inr (.inr (.inr (.inr (.inr (.inr (.inr (.inr h))))))))))
   have KD:=Lib.hid (And.intro r1 (And.intro r2 (And.intro hM hd)))
   have HLL:=Lib.hid (And.intro hl1 hl2)
   have HHH:=Lib.hid hHH
   clear r1 r2 hM hd hy hk hHH hkL m6 K6 hsz hl1 hl2
   go_upto_region 11 with fail
   obtain ⟨x1,x2,f1,f2,t1,t2⟩:=CE.out W.drew [] KD.out.2.2.1.drew
   have T1:=Lib.hid t1
   clear t1 t2
   have HS1:Hid (([]:List Int).length+F1.length≤100000000∧([]:List Int).length+F2.length≤100000000):=Lib.hid ⟨by rw [HLL.out.1,List.length_nil];omega,by rw [HLL.out.2,List.length_nil];omega⟩
   have RN:RowI (.slice none 0 0) [] []:=RowH.nil _ _
   have V1:=Lib.hid (KD.out.1.iv T1.out)
   go_region_law (first
    | ((with_reducible refine step_appI (o:=⟨some 60,_,_,_,_,_⟩) (v:=.slice none 0 0) (u:=.slice a1 k c1) (l:=[]) (r:=F1) (H:=[]) rfl (.const (.slice none 0 0)) (.tmp 59) rfl ?_ ?_ RN (Sat.nil _) V1.out HS1.out.1 ?_);simp [Act.eval];simp [Act.eval];intro v6 w6 H6 hr6 m6;replace hr6:RowI v6 F1 H6:=hr6;obtain ⟨a6,c6,rfl⟩:=hr6.slice;have K6:=Lib.hid (And.intro hr6 (And.intro (Mv.call (H:=[]) KD.out.2.2.1.drew m6) (m6.others (Sat.nil _) K _ KD.out.2.2.2 (fun c t f e=>by cases e))));(have u2:w6.cell? ⟨g0+2,0,none⟩=some (.slice a2 k c2):=(by first | exact (CE.out w6 H6 K6.out.2.1).2.1));clear hr6 m6)
    | ((with_reducible refine step_appI (o:=⟨some 62,_,_,_,_,_⟩) (v:=.slice none 0 0) (u:=.slice a2 k c2) (l:=[]) (r:=F2) (H:=[]) rfl (.const (.slice none 0 0)) (.tmp 61) rfl ?_ ?_ RN (Sat.nil _) (KD.out.2.1.iv (CE.out w6 H6 K6.out.2.1).2.2.2.2.2) HS1.out.2 ?_);simp [Act.eval];simp [Act.eval];intro v7 w7 H7 hr7 m7;replace hr7:RowI v7 F2 H7:=hr7;obtain ⟨a7,c7,rfl⟩:=hr7.slice;have K7:=Lib.hid (And.intro hr7 (And.intro (Mv.call (H:=[]) K6.out.2.1 m7) (m7.others (Sat.nil _) K _ K6.out.2.2 (fun c t f e=>by cases e))));(have y1:w7.cell? ⟨g0+1,0,none⟩=some (.slice a1 k c1):=(by first | exact (CE.out w7 (H7++H6) (by rw [List.append_assoc];exact K7.out.2.1)).1));(have y2:w7.cell? ⟨g0+2,0,none⟩=some (.slice a2 k c2):=(by first | exact (CE.out w7 (H7++H6) (by rw [List.append_assoc];exact K7.out.2.1)).2.1));(have y3:w7.frozen? ⟨g0+1,0,none⟩=false:=(by first | exact (CE.out w7 (H7++H6) (by rw [List.append_assoc];exact K7.out.2.1)).2.2.1));(have y4:w7.frozen? ⟨g0+2,0,none⟩=false:=(by first | exact (CE.out w7 (H7++H6) (by rw [List.append_assoc];exact K7.out.2.1)).2.2.2.1));clear hr7 m7))
   all_goals
    obtain ⟨SX,hSX⟩:∃ SX,segX g0 g3 n (.slice ea n ec) (wasM ends (was0 ends from_) (piecesM style from_ to_)) tb fb sb style from_ to_ He=SX:=⟨_,rfl⟩
    have HSX:=Lib.hid hSX
    have m9:Mv w He w7 ((H7++(H6++H1))++⟨g0+1,38,#[.slice a1 k c1]⟩::(H2++(⟨g0+2,38,#[.slice a2 k c2]⟩::SX))):=by
     have h:Mv w He w7 (H7++(H6++HH)):=K7.out.2.1
     rw [← HHH.out,hSX] at h
     simpa only [List.append_assoc] using h
    have m10:Mv w He (w7.setCell ⟨g0+1,0,none⟩ (.slice a6 F1.length c6)) ((H7++(H6++H1))++⟨g0+1,38,#[.slice a6 F1.length c6]⟩::(H2++(⟨g0+2,38,#[.slice a2 k c2]⟩::SX))):=Mv.setAt m9 0 (.slice a6 F1.length c6)
    have m11:Mv w He (w7.setCell ⟨g0+1,0,none⟩ (.slice a6 F1.length c6)) (((H7++(H6++H1))++(⟨g0+1,38,#[.slice a6 F1.length c6]⟩::H2))++⟨g0+2,38,#[.slice a2 k c2]⟩::SX):=by
     simpa only [List.append_assoc,List.cons_append] using m10
    have m12:Mv w He ((w7.setCell ⟨g0+1,0,none⟩ (.slice a6 F1.length c6)).setCell ⟨g0+2,0,none⟩ (.slice a7 F2.length c7)) (((H7++(H6++H1))++(⟨g0+1,38,#[.slice a6 F1.length c6]⟩::H2))++⟨g0+2,38,#[.slice a7 F2.length c7]⟩::SX):=Mv.setAt m11 0 (.slice a7 F2.length c7)
    have hk:((w7.setCell ⟨g0+1,0,none⟩ (.slice a6 F1.length c6)).setCell ⟨g0+2,0,none⟩ (.slice a7 F2.length c7)).heap[K]?=some (.deferred (some [])):=(KeepsOthers.setCell _ ⟨g0+2,0,none⟩ _).same K _ ((KeepsOthers.setCell w7 ⟨g0+1,0,none⟩ _).same K _ K7.out.2.2 rfl) rfl
    have KF:=Lib.hid (And.intro m12 hk)
    clear m9 m10 m11 m12 hk hSX
    obtain ⟨w8,hw8⟩:∃ w8,w8=(w7.setCell ⟨g0+1,0,none⟩ (.slice a6 F1.length c6)).setCell ⟨g0+2,0,none⟩ (.slice a7 F2.length c7):=⟨_,rfl⟩
    rw [← hw8] at KF
    have e12:(w7.setCell ⟨g0+1,0,none⟩ (.slice a6 F1.length c6)).setCell ⟨g0+1+1,0,none⟩ (.slice a7 F2.length c7)=w8:=hw8.symm
    rw [e12]
    clear e12 hw8
    go_wp2_with fail
    have m13:=KF.out.1.putObj (.deferred none) hK KF.out.2 rfl
    have b1:=(m13.blkm (x:=⟨g0+1,38,#[.slice a6 F1.length c6]⟩) (List.mem_append_left _ (List.mem_append_right _ List.mem_cons_self))).cell 0
    have b2:=(m13.blkm (x:=⟨g0+2,38,#[.slice a7 F2.length c7]⟩) (List.mem_append_right _ List.mem_cons_self)).cell 0
    refine ⟨by simp,.inl ⟨_,_,rfl,run_takeDeferred KF.out.2,?_⟩⟩
    refine ⟨_,seg_results _ _ (g0+1) (g0+2) a6 a7 _ c6 _ c7 rfl rfl b1 b2,_,_,H6,H7,rfl,K6.out.1,K7.out.1,?_⟩
    rw [← HSX.out] at m13
    exact m13.sub (fun g=>by simp only [segX,cnt_append,cnt_cons];omega) (fun c hc=>by
     simp only [segX,List.mem_append,List.mem_cons] at hc ⊢
     rcases hc with h | h | h
     ·exact .inl (.inl (.inr (.inl h)))
     ·exact .inl (.inl (.inl h))
     ·exact .inr (.inr (.inr (.inr (.inr (.inr (.inr h)))))))
end
section
open Go.RowKit
inductive sgz_r10_S (eg n ec k:Nat) (run eb was:Int) (a1 a2:Option Addr) (c1 c2:Nat) (l1 l2:List Int) (H1 H2 R H0:List YtjngfhgakokejaaGreat.HB) (w0:World) (w:World) (s0 s1 s2 s4 s5 s6 s7 s8 s9 s10 s11 s15 s16 s17 s18 s19 s20 s21 s22 s23 s24 s25 s26 s27 s28 s29 s30 s31 s32 s33 s34 s35 s36 s37 s38 s39 s40 s41 s42 s43 s44 s45 s46 s47 s48 s49 s50 s51 s52 s53 s54 s55 s56 s57:Value) (listed:Array Bool) (a:Act) (W:World):Prop
 | mk (b0 b1 b2 b3 b4 b5 b6 b7 b8 b9 b10 b11 b12 b13 b14:Bool) (u39 u40 u41 u42 u43 u44 u45 u46 u47 u48 u49 u50 u51 u10 u11:Value) (g2:Nat) (HA:List YtjngfhgakokejaaGreat.HB) (g5:Nat) (HB:List YtjngfhgakokejaaGreat.HB) (hl:listed=#[b0,b1,b2,b3,b4,b5,b6,b7,b8,b9,b10,b11,b12,b13,b14]) (ha:a=⟨List.toArray (s0::s1::s2::(.slice (some ⟨eg,0,none⟩) n ec)::s4::s5::s6::s7::s8::s9::u10::u11::(.int .i64 (run))::(.int .i64 (was))::(.int .i64 ((k:Int)))::s15::s16::s17::s18::s19::s20::s21::s22::s23::s24::s25::s26::s27::s28::s29::s30::s31::s32::s33::s34::s35::s36::s37::s38::u39::u40::u41::u42::u43::u44::u45::u46::u47::u48::u49::u50::u51::s52::s53::s54::s55::s56::s57::[]),[]⟩) (HW:(Mv w0 H0 W (oh b2 ⟨g2,3,#[.int .i64 run]⟩++(oh b11 ⟨g5,3,#[.int .i64 (eb - was)]⟩++(HA++(HB++R))))∧(b3=false→HA=H1)∧(b12=false→HB=H2)∧(b3=true→b2=true)∧(b12=true→b11=true)∧(b13=false→u10=.slice a1 l1.length c1)∧(b14=false→u11=.slice a2 l2.length c2))) (h0:Hid (b0=true→u39=.slice a1 l1.length c1)) (h1:Hid (b1=true→u40=.int .i64 (run))) (h2:Hid (b2=true→u41=.slice (some ⟨g2,0,none⟩) 1 1)) (h3:Hid (b3=true→RowI u42 (l1++[run]) HA)) (h4:Hid (b4=true→u43=.slice a2 l2.length c2)) (h5:Hid (b5=true→u44=.slice (some ⟨eg,0,none⟩) n ec)) (h6:Hid (b6=true→u45=.int .i64 ((k:Int)))) (h7:Hid (b7=true→u46=.pointer (some ⟨eg,k,none⟩))) (h8:Hid (b8=true→u47=.int .i64 (eb))) (h9:Hid (b9=true→u48=.int .i64 (was))) (h10:Hid (b10=true→u49=.int .i64 (eb - was))) (h11:Hid (b11=true→u50=.slice (some ⟨g5,0,none⟩) 1 1)) (h12:Hid (b12=true→RowI u51 (l2++[eb - was]) HB)) (h13:Hid (b13=true→(b3=true∧b0=true)∧u10=u42)) (h14:Hid (b14=true→(b12=true∧b4=true)∧u11=u51)):sgz_r10_S eg n ec k run eb was a1 a2 c1 c2 l1 l2 H1 H2 R H0 w0 w s0 s1 s2 s4 s5 s6 s7 s8 s9 s10 s11 s15 s16 s17 s18 s19 s20 s21 s22 s23 s24 s25 s26 s27 s28 s29 s30 s31 s32 s33 s34 s35 s36 s37 s38 s39 s40 s41 s42 s43 s44 s45 s46 s47 s48 s49 s50 s51 s52 s53 s54 s55 s56 s57 listed a W
theorem sgz_r10 (K:Act→World→Prop) (eg n ec k:Nat) (run eb was:Int) (a1 a2:Option Addr) (c1 c2:Nat) (l1 l2:List Int) (H1 H2 R H0:List YtjngfhgakokejaaGreat.HB) (w0:World) (w:World) (s0 s1 s2 s4 s5 s6 s7 s8 s9 s10 s11 s15 s16 s17 s18 s19 s20 s21 s22 s23 s24 s25 s26 s27 s28 s29 s30 s31 s32 s33 s34 s35 s36 s37 s38 s39 s40 s41 s42 s43 s44 s45 s46 s47 s48 s49 s50 s51 s52 s53 s54 s55 s56 s57:Value) (e10:s10=.slice a1 l1.length c1) (e11:s11=.slice a2 l2.length c2) (hrow1:RowI (.slice a1 l1.length c1) l1 H1) (hl1:l1.length≤1000) (hrow2:RowI (.slice a2 l2.length c2) l2 H2) (hl2:l2.length≤1000) (hkn:k<n) (_hn:n≤1000) (heb:0≤eb∧eb≤100000000) (hwas:0≤was∧was≤100000000) (hRe:∀ W,Sat W R→W.cell? ⟨eg,k,none⟩=some (.int .i64 eb)) (hM:Mv w0 H0 w (H1++(H2++R)))
  (hk:∀ (u39 u40 u41 u42 u43 u44 u45 u46 u47 u48 u49 u50 u51 u10 u11:Value) (g2:Nat) (HA:List YtjngfhgakokejaaGreat.HB) (g5:Nat) (HB:List YtjngfhgakokejaaGreat.HB) (W:World),(Mv w0 H0 W (oh true ⟨g2,3,#[.int .i64 run]⟩++(oh true ⟨g5,3,#[.int .i64 (eb - was)]⟩++(HA++(HB++R))))∧(true=false→HA=H1)∧(true=false→HB=H2)∧(true=true→true=true)∧(true=true→true=true)∧(true=false→u10=.slice a1 l1.length c1)∧(true=false→u11=.slice a2 l2.length c2))→(RowI u42 (l1++[run]) HA)→(RowI u51 (l2++[eb - was]) HB)→((true=true∧true=true)∧u10=u42)→((true=true∧true=true)∧u11=u51) →  K ⟨List.toArray (s0::s1::s2::(.slice (some ⟨eg,0,none⟩) n ec)::s4::s5::s6::s7::s8::s9::u10::u11::(.int .i64 (run))::(.int .i64 (was))::(.int .i64 ((k:Int)))::s15::s16::s17::s18::s19::s20::s21::s22::s23::s24::s25::s26::s27::s28::s29::s30::s31::s32::s33::s34::s35::s36::s37::s38::u39::u40::u41::u42::u43::u44::u45::u46::u47::u48::u49::u50::u51::s52::s53::s54::s55::s56::s57::[]),[]⟩ W) :
  (regionOf 10 Tryz.f83).wp Tryz.prog (Exit.then K noQ) ⟨List.toArray (s0::s1::s2::(.slice (some ⟨eg,0,none⟩) n ec)::s4::s5::s6::s7::s8::s9::s10::s11::(.int .i64 (run))::(.int .i64 (was))::(.int .i64 ((k:Int)))::s15::s16::s17::s18::s19::s20::s21::s22::s23::s24::s25::s26::s27::s28::s29::s30::s31::s32::s33::s34::s35::s36::s37::s38::s39::s40::s41::s42::s43::s44::s45::s46::s47::s48::s49::s50::s51::s52::s53::s54::s55::s56::s57::[]),[]⟩ w:=by
 conv in (regionOf _ _)=>whnf
 unfold noQ
 have HK:=Lib.hid hk
 clear hk
 refine wp_region_inv (by kernel_rfl) (sgz_r10_S eg n ec k run eb was a1 a2 c1 c2 l1 l2 H1 H2 R H0 w0 w s0 s1 s2 s4 s5 s6 s7 s8 s9 s10 s11 s15 s16 s17 s18 s19 s20 s21 s22 s23 s24 s25 s26 s27 s28 s29 s30 s31 s32 s33 s34 s35 s36 s37 s38 s39 s40 s41 s42 s43 s44 s45 s46 s47 s48 s49 s50 s51 s52 s53 s54 s55 s56 s57) ?_ ?_ ?_
 ·exact ⟨false,false,false,false,false,false,false,false,false,false,false,false,false,false,false,s39,s40,s41,s42,s43,s44,s45,s46,s47,s48,s49,s50,s51,s10,s11,0,H1,0,H2,rfl,rfl,⟨by simpa [oh_false] using hM.drew,fun _=>rfl,fun _=>rfl,(fun e=>nomatch e),(fun e=>nomatch e),fun _=>e10,fun _=>e11⟩,Lib.hid nofun,Lib.hid nofun,Lib.hid nofun,Lib.hid nofun,Lib.hid nofun,Lib.hid nofun,Lib.hid nofun,Lib.hid nofun,Lib.hid nofun,Lib.hid nofun,Lib.hid nofun,Lib.hid nofun,Lib.hid nofun,Lib.hid nofun,Lib.hid nofun⟩
 ·rintro listed a W ⟨b0,b1,b2,b3,b4,b5,b6,b7,b8,b9,b10,b11,b12,b13,b14,u39,u40,u41,u42,u43,u44,u45,u46,u47,u48,u49,u50,u51,u10,u11,g2,HA,g5,HB,rfl,rfl,HW,h0,h1,h2,h3,h4,h5,h6,h7,h8,h9,h10,h11,h12,h13,h14⟩ hr
  obtain rfl:b0=true:=by cases b0;exact (not_ready2 hr 0 _ rfl rfl (by simp [Region.binds])).elim;rfl
  obtain rfl:b1=true:=by cases b1;exact (not_ready2 hr 1 _ rfl rfl (by simp [Region.binds])).elim;rfl
  obtain rfl:b2=true:=by cases b2;exact (not_ready2 hr 2 _ rfl rfl (by simp [Region.binds])).elim;rfl
  obtain rfl:b3=true:=by cases b3;exact (not_ready2 hr 3 _ rfl rfl (by simp [Region.binds])).elim;rfl
  obtain rfl:b4=true:=by cases b4;exact (not_ready2 hr 4 _ rfl rfl (by simp [Region.binds])).elim;rfl
  obtain rfl:b5=true:=by cases b5;exact (not_ready2 hr 5 _ rfl rfl (by simp [Region.binds])).elim;rfl
  obtain rfl:b6=true:=by cases b6;exact (not_ready2 hr 6 _ rfl rfl (by simp [Region.binds])).elim;rfl
  obtain rfl:b7=true:=by cases b7;exact (not_ready2 hr 7 _ rfl rfl (by simp [Region.binds])).elim;rfl
  obtain rfl:b8=true:=by cases b8;exact (not_ready2 hr 8 _ rfl rfl (by simp [Region.binds])).elim;rfl
  obtain rfl:b9=true:=by cases b9;exact (not_ready2 hr 9 _ rfl rfl (by simp [Region.binds])).elim;rfl
  obtain rfl:b10=true:=by cases b10;exact (not_ready2 hr 10 _ rfl rfl (by simp [Region.binds])).elim;rfl
  obtain rfl:b11=true:=by cases b11;exact (not_ready2 hr 11 _ rfl rfl (by simp [Region.binds])).elim;rfl
  obtain rfl:b12=true:=by cases b12;exact (not_ready2 hr 12 _ rfl rfl (by simp [Region.binds])).elim;rfl
  obtain rfl:b13=true:=by cases b13;exact (not_ready2 hr 13 _ rfl rfl (by simp [Region.binds])).elim;rfl
  obtain rfl:b14=true:=by cases b14;exact (not_ready2 hr 14 _ rfl rfl (by simp [Region.binds])).elim;rfl
  exact HK.out u39 u40 u41 u42 u43 u44 u45 u46 u47 u48 u49 u50 u51 u10 u11 g2 HA g5 HB W HW (h3.out rfl) (h12.out rfl) (h13.out rfl) (h14.out rfl)
 ·rintro listed a W i ⟨b0,b1,b2,b3,b4,b5,b6,b7,b8,b9,b10,b11,b12,b13,b14,u39,u40,u41,u42,u43,u44,u45,u46,u47,u48,u49,u50,u51,u10,u11,g2,HA,g5,HB,rfl,rfl,HW,h0,h1,h2,h3,h4,h5,h6,h7,h8,h9,h10,h11,h12,h13,h14⟩ hi
  obtain ⟨hi1,hi2,hi3⟩:=mem_ready hi
  clear hi
  have hi4:i=0∨i=1∨i=2∨i=3∨i=4∨i=5∨i=6∨i=7∨i=8∨i=9∨i=10∨i=11∨i=12∨i=13∨i=14:=by
   have:i<15:=hi1
   omega
  clear hi1
  rcases hi4 with rfl | rfl | rfl | rfl | rfl | rfl | rfl | rfl | rfl | rfl | rfl | rfl | rfl | rfl | rfl
  ·obtain rfl:b0=false:=hi2
   clear hi3
   have hb13:b13=false:=by cases b13;rfl;exact absurd (h13.out rfl).1.2 (by simp)
   have hv:u10=.slice a1 l1.length c1:=HW.2.2.2.2.2.1 hb13
   subst hv
   refine wpOp_step rfl (fun K hK=>?_)
   go_simp
   refine hK _ _ ⟨true,_,_,_,_,_,_,_,_,_,_,_,_,_,_,(.slice a1 l1.length c1),_,_,_,_,_,_,_,_,_,_,_,_,_,_,_,_,_,_,rfl,rfl,HW,Lib.hid (fun _=>rfl),h1,h2,h3,h4,h5,h6,h7,h8,h9,h10,h11,h12,Lib.hid (fun e=>nomatch (h13.out e).1.2),h14⟩
  ·obtain rfl:b1=false:=hi2
   clear hi3
   refine wpOp_step rfl (fun K hK=>?_)
   go_simp
   refine hK _ _ ⟨_,true,_,_,_,_,_,_,_,_,_,_,_,_,_,_,(.int .i64 (run)),_,_,_,_,_,_,_,_,_,_,_,_,_,_,_,_,_,rfl,rfl,HW,h0,Lib.hid (fun _=>rfl),h2,h3,h4,h5,h6,h7,h8,h9,h10,h11,h12,h13,h14⟩
  ·obtain rfl:b2=false:=hi2
   obtain rfl:b1=true:=hi3 _ rfl ⟨1,.data⟩ (by simp) rfl
   obtain rfl:=h1.out rfl
   clear hi3
   have hb3:b3=false:=by cases b3;rfl;exact absurd (HW.2.2.2.1 rfl) (by simp)
   have M9:=HW.1.alloc 3 #[.int .i64 run]
   refine wpOp_step rfl (fun K hK=>?_)
   go_simp
   refine hK _ _ ⟨_,_,true,_,_,_,_,_,_,_,_,_,_,_,_,_,_,(.slice (some ⟨W.heap.size,0,none⟩) 1 1),_,_,_,_,_,_,_,_,_,_,_,_,W.heap.size,HA,g5,HB,rfl,rfl,⟨M9.sub (fun g=>by simp only [oh_true,oh_false,cnt_append,cnt_cons,cnt_nil];omega) (fun c hc=>by simp only [oh_true,oh_false,List.mem_append,List.mem_cons,List.not_mem_nil,or_false,false_or] at hc ⊢;grind),HW.2.1,HW.2.2.1,fun e=>rfl,HW.2.2.2.2.1,HW.2.2.2.2.2.1,HW.2.2.2.2.2.2⟩,h0,h1,Lib.hid (fun _=>rfl),h3,h4,h5,h6,h7,h8,h9,h10,h11,h12,h13,h14⟩
  ·obtain rfl:b3=false:=hi2
   obtain rfl:b0=true:=hi3 _ rfl ⟨0,.data⟩ (by simp) rfl
   obtain rfl:b2=true:=hi3 _ rfl ⟨2,.data⟩ (by simp) rfl
   obtain rfl:=h0.out rfl
   obtain rfl:=h2.out rfl
   clear hi3
   obtain rfl:=HW.2.1 rfl
   have hb13:b13=false:=by cases b13;rfl;exact absurd (h13.out rfl).1.1 (by simp)
   have hrow:=hrow1
   have M9:Mv w0 H0 W (HA++(⟨g2,3,#[.int .i64 run]⟩::((oh b11 ⟨g5,3,#[.int .i64 (eb - was)]⟩++HB)++R))):=HW.1.sub (fun g=>by simp only [oh_true,cnt_append,cnt_cons,cnt_nil];omega) (fun c hc=>by simp only [oh_true,List.mem_append,List.mem_cons,List.not_mem_nil,or_false] at hc ⊢;grind)
   have IV9:IV W (.slice (some ⟨g2,0,none⟩) 1 1) [run]:=RowI.iv (H:=[⟨g2,3,#[.int .i64 run]⟩]) (RowH.new 3 g2 1 #[.int .i64 (run)] rfl (by decide)) (M9.sat.sub (fun g=>by simp only [cnt_append,cnt_cons,cnt_nil];omega) (fun c hc=>by simp only [List.mem_append,List.mem_cons,List.not_mem_nil,or_false] at hc ⊢;exact .inr (.inl hc)))
   refine wpOp_step rfl (fun K hK=>?_)
   refine step_appI rfl (.tmp 39) (.tmp 41) rfl (.slice a1 l1.length c1) (.slice (some ⟨g2,0,none⟩) 1 1) l1 [run] HA (by simp [Act.eval]) (by simp [Act.eval]) hrow M9.sat.left IV9 (by simp only [List.length_cons,List.length_nil];omega) ?_
   intro v9 w9 H9 r9 m9
   have N9:=Mv.call M9 m9
   refine hK _ _ ⟨_,_,_,true,_,_,_,_,_,_,_,_,_,_,_,_,_,_,v9,_,_,_,_,_,_,_,_,_,_,_,g2,H9,g5,HB,rfl,rfl,⟨N9.sub (fun g=>by simp only [oh_true,cnt_append,cnt_cons,cnt_nil];omega) (fun c hc=>by simp only [oh_true,List.mem_append,List.mem_cons,List.not_mem_nil,or_false] at hc ⊢;grind),(fun e=>nomatch e),HW.2.2.1,fun e=>rfl,HW.2.2.2.2.1,HW.2.2.2.2.2.1,HW.2.2.2.2.2.2⟩,h0,h1,h2,Lib.hid (fun _=>r9),h4,h5,h6,h7,h8,h9,h10,h11,h12,Lib.hid (fun e=>by rw [hb13] at e;cases e),h14⟩
  ·obtain rfl:b4=false:=hi2
   clear hi3
   have hb14:b14=false:=by cases b14;rfl;exact absurd (h14.out rfl).1.2 (by simp)
   have hv:u11=.slice a2 l2.length c2:=HW.2.2.2.2.2.2 hb14
   subst hv
   refine wpOp_step rfl (fun K hK=>?_)
   go_simp
   refine hK _ _ ⟨_,_,_,_,true,_,_,_,_,_,_,_,_,_,_,_,_,_,_,(.slice a2 l2.length c2),_,_,_,_,_,_,_,_,_,_,_,_,_,_,rfl,rfl,HW,h0,h1,h2,h3,Lib.hid (fun _=>rfl),h5,h6,h7,h8,h9,h10,h11,h12,h13,Lib.hid (fun e=>nomatch (h14.out e).1.2)⟩
  ·obtain rfl:b5=false:=hi2
   clear hi3
   refine wpOp_step rfl (fun K hK=>?_)
   go_simp
   refine hK _ _ ⟨_,_,_,_,_,true,_,_,_,_,_,_,_,_,_,_,_,_,_,_,(.slice (some ⟨eg,0,none⟩) n ec),_,_,_,_,_,_,_,_,_,_,_,_,_,rfl,rfl,HW,h0,h1,h2,h3,h4,Lib.hid (fun _=>rfl),h6,h7,h8,h9,h10,h11,h12,h13,h14⟩
  ·obtain rfl:b6=false:=hi2
   clear hi3
   refine wpOp_step rfl (fun K hK=>?_)
   go_simp
   refine hK _ _ ⟨_,_,_,_,_,_,true,_,_,_,_,_,_,_,_,_,_,_,_,_,_,(.int .i64 ((k:Int))),_,_,_,_,_,_,_,_,_,_,_,_,rfl,rfl,HW,h0,h1,h2,h3,h4,h5,Lib.hid (fun _=>rfl),h7,h8,h9,h10,h11,h12,h13,h14⟩
  ·obtain rfl:b7=false:=hi2
   obtain rfl:b5=true:=hi3 _ rfl ⟨5,.data⟩ (by simp) rfl
   obtain rfl:b6=true:=hi3 _ rfl ⟨6,.data⟩ (by simp) rfl
   obtain rfl:=h5.out rfl
   obtain rfl:=h6.out rfl
   clear hi3
   have e:(k:Int)<(n:Int):=by omega
   refine wpOp_step rfl (fun K hK=>?_)
   go_simp
   refine hK _ _ ⟨_,_,_,_,_,_,_,true,_,_,_,_,_,_,_,_,_,_,_,_,_,_,(.pointer (some ⟨eg,k,none⟩)),_,_,_,_,_,_,_,_,_,_,_,rfl,rfl,HW,h0,h1,h2,h3,h4,h5,h6,Lib.hid (fun _=>rfl),h8,h9,h10,h11,h12,h13,h14⟩
  ·obtain rfl:b8=false:=hi2
   obtain rfl:b7=true:=hi3 _ rfl ⟨7,.data⟩ (by simp) rfl
   obtain rfl:=h7.out rfl
   clear hi3
   have e:=hRe W HW.1.sat.right.right.right.right
   refine wpOp_step rfl (fun K hK=>?_)
   go_simp
   refine hK _ _ ⟨_,_,_,_,_,_,_,_,true,_,_,_,_,_,_,_,_,_,_,_,_,_,_,(.int .i64 (eb)),_,_,_,_,_,_,_,_,_,_,rfl,rfl,HW,h0,h1,h2,h3,h4,h5,h6,h7,Lib.hid (fun _=>rfl),h9,h10,h11,h12,h13,h14⟩
  ·obtain rfl:b9=false:=hi2
   clear hi3
   refine wpOp_step rfl (fun K hK=>?_)
   go_simp
   refine hK _ _ ⟨_,_,_,_,_,_,_,_,_,true,_,_,_,_,_,_,_,_,_,_,_,_,_,_,(.int .i64 (was)),_,_,_,_,_,_,_,_,_,rfl,rfl,HW,h0,h1,h2,h3,h4,h5,h6,h7,h8,Lib.hid (fun _=>rfl),h10,h11,h12,h13,h14⟩
  ·obtain rfl:b10=false:=hi2
   obtain rfl:b8=true:=hi3 _ rfl ⟨8,.data⟩ (by simp) rfl
   obtain rfl:b9=true:=hi3 _ rfl ⟨9,.data⟩ (by simp) rfl
   obtain rfl:=h8.out rfl
   obtain rfl:=h9.out rfl
   clear hi3
   have e:IntKind.i64.wrap (eb - was)=eb - was:=IntWalk.i64_in _ (by omega)
   refine wpOp_step rfl (fun K hK=>?_)
   go_simp
   refine hK _ _ ⟨_,_,_,_,_,_,_,_,_,_,true,_,_,_,_,_,_,_,_,_,_,_,_,_,_,(.int .i64 (eb - was)),_,_,_,_,_,_,_,_,rfl,rfl,HW,h0,h1,h2,h3,h4,h5,h6,h7,h8,h9,Lib.hid (fun _=>rfl),h11,h12,h13,h14⟩
  ·obtain rfl:b11=false:=hi2
   obtain rfl:b10=true:=hi3 _ rfl ⟨10,.data⟩ (by simp) rfl
   obtain rfl:=h10.out rfl
   clear hi3
   have hb12:b12=false:=by cases b12;rfl;exact absurd (HW.2.2.2.2.1 rfl) (by simp)
   have M9:=HW.1.alloc 3 #[.int .i64 (eb - was)]
   refine wpOp_step rfl (fun K hK=>?_)
   go_simp
   refine hK _ _ ⟨_,_,_,_,_,_,_,_,_,_,_,true,_,_,_,_,_,_,_,_,_,_,_,_,_,_,(.slice (some ⟨W.heap.size,0,none⟩) 1 1),_,_,_,g2,HA,W.heap.size,HB,rfl,rfl,⟨M9.sub (fun g=>by simp only [oh_true,oh_false,cnt_append,cnt_cons,cnt_nil];omega) (fun c hc=>by simp only [oh_true,oh_false,List.mem_append,List.mem_cons,List.not_mem_nil,or_false,false_or] at hc ⊢;grind),HW.2.1,HW.2.2.1,HW.2.2.2.1,fun e=>rfl,HW.2.2.2.2.2.1,HW.2.2.2.2.2.2⟩,h0,h1,h2,h3,h4,h5,h6,h7,h8,h9,h10,Lib.hid (fun _=>rfl),h12,h13,h14⟩
  ·obtain rfl:b12=false:=hi2
   obtain rfl:b4=true:=hi3 _ rfl ⟨4,.data⟩ (by simp) rfl
   obtain rfl:b11=true:=hi3 _ rfl ⟨11,.data⟩ (by simp) rfl
   obtain rfl:b3=true:=hi3 _ rfl ⟨3,.chain⟩ (by simp) rfl
   obtain rfl:=h4.out rfl
   obtain rfl:=h11.out rfl
   clear hi3
   obtain rfl:=HW.2.2.1 rfl
   have hb14:b14=false:=by cases b14;rfl;exact absurd (h14.out rfl).1.1 (by simp)
   have hrow:=hrow2
   have M9:Mv w0 H0 W (HB++(⟨g5,3,#[.int .i64 (eb - was)]⟩::((oh b2 ⟨g2,3,#[.int .i64 run]⟩++HA)++R))):=HW.1.sub (fun g=>by simp only [oh_true,cnt_append,cnt_cons,cnt_nil];omega) (fun c hc=>by simp only [oh_true,List.mem_append,List.mem_cons,List.not_mem_nil,or_false] at hc ⊢;grind)
   have IV9:IV W (.slice (some ⟨g5,0,none⟩) 1 1) [eb - was]:=RowI.iv (H:=[⟨g5,3,#[.int .i64 (eb - was)]⟩]) (RowH.new 3 g5 1 #[.int .i64 (eb - was)] rfl (by decide)) (M9.sat.sub (fun g=>by simp only [cnt_append,cnt_cons,cnt_nil];omega) (fun c hc=>by simp only [List.mem_append,List.mem_cons,List.not_mem_nil,or_false] at hc ⊢;exact .inr (.inl hc)))
   refine wpOp_step rfl (fun K hK=>?_)
   refine step_appI rfl (.tmp 43) (.tmp 50) rfl (.slice a2 l2.length c2) (.slice (some ⟨g5,0,none⟩) 1 1) l2 [eb - was] HB (by simp [Act.eval]) (by simp [Act.eval]) hrow M9.sat.left IV9 (by simp only [List.length_cons,List.length_nil];omega) ?_
   intro v9 w9 H9 r9 m9
   have N9:=Mv.call M9 m9
   refine hK _ _ ⟨_,_,_,_,_,_,_,_,_,_,_,_,true,_,_,_,_,_,_,_,_,_,_,_,_,_,_,v9,_,_,g2,HA,g5,H9,rfl,rfl,⟨N9.sub (fun g=>by simp only [oh_true,cnt_append,cnt_cons,cnt_nil];omega) (fun c hc=>by simp only [oh_true,List.mem_append,List.mem_cons,List.not_mem_nil,or_false] at hc ⊢;grind),HW.2.1,(fun e=>nomatch e),HW.2.2.2.1,fun e=>rfl,HW.2.2.2.2.2.1,HW.2.2.2.2.2.2⟩,h0,h1,h2,h3,h4,h5,h6,h7,h8,h9,h10,h11,Lib.hid (fun _=>r9),h13,Lib.hid (fun e=>by rw [hb14] at e;cases e)⟩
  ·obtain rfl:b13=false:=hi2
   obtain rfl:b3=true:=hi3 _ rfl ⟨3,.data⟩ (by simp) rfl
   obtain rfl:b12=true:=hi3 _ rfl ⟨12,.chain⟩ (by simp) rfl
   obtain rfl:b0=true:=hi3 _ rfl ⟨0,.phase⟩ (by simp) rfl
   obtain rfl:b1=true:=hi3 _ rfl ⟨1,.phase⟩ (by simp) rfl
   obtain rfl:b2=true:=hi3 _ rfl ⟨2,.phase⟩ (by simp) rfl
   obtain rfl:=h0.out rfl
   obtain rfl:=h1.out rfl
   obtain rfl:=h2.out rfl
   clear hi3
   refine wpOp_step rfl (fun K hK=>?_)
   go_simp
   refine hK _ _ ⟨_,_,_,_,_,_,_,_,_,_,_,_,_,true,_,_,_,_,_,_,_,_,_,_,_,_,_,_,_,_,_,_,_,_,rfl,rfl,⟨HW.1,HW.2.1,HW.2.2.1,HW.2.2.2.1,HW.2.2.2.2.1,(fun e=>nomatch e),HW.2.2.2.2.2.2⟩,h0,h1,h2,h3,h4,h5,h6,h7,h8,h9,h10,h11,h12,Lib.hid (fun _=>⟨⟨rfl,rfl⟩,rfl⟩),h14⟩
  ·obtain rfl:b14=false:=hi2
   obtain rfl:b12=true:=hi3 _ rfl ⟨12,.data⟩ (by simp) rfl
   obtain rfl:b13=true:=hi3 _ rfl ⟨13,.chain⟩ (by simp) rfl
   obtain rfl:b0=true:=hi3 _ rfl ⟨0,.phase⟩ (by simp) rfl
   obtain rfl:b1=true:=hi3 _ rfl ⟨1,.phase⟩ (by simp) rfl
   obtain rfl:b2=true:=hi3 _ rfl ⟨2,.phase⟩ (by simp) rfl
   obtain rfl:b3=true:=hi3 _ rfl ⟨3,.phase⟩ (by simp) rfl
   obtain rfl:b4=true:=hi3 _ rfl ⟨4,.phase⟩ (by simp) rfl
   obtain rfl:b5=true:=hi3 _ rfl ⟨5,.phase⟩ (by simp) rfl
   obtain rfl:b6=true:=hi3 _ rfl ⟨6,.phase⟩ (by simp) rfl
   obtain rfl:b7=true:=hi3 _ rfl ⟨7,.phase⟩ (by simp) rfl
   obtain rfl:b8=true:=hi3 _ rfl ⟨8,.phase⟩ (by simp) rfl
   obtain rfl:b9=true:=hi3 _ rfl ⟨9,.phase⟩ (by simp) rfl
   obtain rfl:b10=true:=hi3 _ rfl ⟨10,.phase⟩ (by simp) rfl
   obtain rfl:b11=true:=hi3 _ rfl ⟨11,.phase⟩ (by simp) rfl
   obtain rfl:=h0.out rfl
   obtain rfl:=h1.out rfl
   obtain rfl:=h2.out rfl
   obtain rfl:=h4.out rfl
   obtain rfl:=h5.out rfl
   obtain rfl:=h6.out rfl
   obtain rfl:=h7.out rfl
   obtain rfl:=h8.out rfl
   obtain rfl:=h9.out rfl
   obtain rfl:=h10.out rfl
   obtain rfl:=h11.out rfl
   clear hi3
   refine wpOp_step rfl (fun K hK=>?_)
   go_simp
   refine hK _ _ ⟨_,_,_,_,_,_,_,_,_,_,_,_,_,_,true,_,_,_,_,_,_,_,_,_,_,_,_,_,_,_,_,_,_,_,rfl,rfl,⟨HW.1,HW.2.1,HW.2.2.1,HW.2.2.2.1,HW.2.2.2.2.1,HW.2.2.2.2.2.1,(fun e=>nomatch e)⟩,h0,h1,h2,h3,h4,h5,h6,h7,h8,h9,h10,h11,h12,h13,Lib.hid (fun _=>⟨⟨rfl,rfl⟩,rfl⟩)⟩
end
section
open Go.RowKit
theorem ends14_any (s k:Nat) (w:World) (hs:s≤63) (hk:k≤1000) :
  Calls Tryz.prog 97 #[.int .i64 (s:Int),.int .i64 (k:Int)] w fun e w'=>e=.returned (.bool (endsM s k))∧w'=w:=by
 have E:=Lib.hid (ends_any s k w hs hk)
 go_enter Tryz.func97,Tryz.ntmps97
 go_wp2_with (go_at_call 62;(with_reducible refine E.out.mono ?_);rintro e w' ⟨rfl,rfl⟩)
 go_ret
 exact ⟨rfl,rfl⟩
theorem pcs_yes {style to_ k b:Nat} (hk:k<to_) (h:(endsM style k || decide (k+1=to_))=true):pcs style to_ (to_ - k) k b=(b,k+1)::pcs style to_ (to_ - (k+1)) (k+1) (k+1):=by
 rw [show to_ - k=(to_ - (k+1))+1 by omega,pcs,if_pos h]
theorem pcs_no {style to_ k b:Nat} (hk:k<to_) (h:(endsM style k || decide (k+1=to_))=false):pcs style to_ (to_ - k) k b=pcs style to_ (to_ - (k+1)) (k+1) b:=by
 rw [show to_ - k=(to_ - (k+1))+1 by omega,pcs,if_neg (by rw [h];exact Bool.false_ne_true)]
theorem rsegs_any (style from_ to_:Nat) (ends:List Int) (ev:Value) (He:List HB) (W:World) (hs:style≤63) (hft:from_≤to_) (hto:to_≤ends.length) (hl:ends.length≤1000) (he:∀ e∈ends,0≤e∧e≤100000000) (hev:RowI ev ends He) (hsat:Sat W He) :
  Calls Tryz.prog 83 #[.int .i64 (style:Int),.int .i64 (from_:Int),.int .i64 (to_:Int),ev] W fun e w'=>∃ v1 v2 H1 H2,e=.returned (.tuple #[v1,v2])∧RowI v1 (lensM (piecesM style from_ to_)) H1∧RowI v2 (sizesM ends (was0 ends from_) (piecesM style from_ to_)) H2∧Mv W He w' (H1++(H2++He)):=by
 obtain ⟨ea,ec,rfl⟩:=hev.slice
 obtain ⟨n,hn⟩:∃ n,ends.length=n:=⟨_,rfl⟩
 rw [hn] at hev hto hl ⊢
 have GE:Hid (∀ i,i<n→ends[i]?=some (ends.getD i 0)∧0≤ends.getD i 0∧ends.getD i 0≤100000000):=Lib.hid (by
  intro i hi
  obtain ⟨x,h⟩:∃ x,ends[i]?=some x:=⟨_,List.getElem?_eq_getElem (by rw [hn];exact hi)⟩
  have e:ends.getD i 0=x:=by rw [List.getD_eq_getElem?_getD,h];rfl
  rw [e]
  exact ⟨h,he _ (List.mem_of_getElem? h)⟩)
 have KE:=Lib.hid (And.intro hev (And.intro he hsat))
 obtain ⟨F,hF⟩:∃ L,piecesM style from_ to_=L:=⟨_,rfl⟩
 have HP:=Lib.hid hF
 have hF0:Hid (pcs style to_ (to_ - from_) from_ (from_ - 0)=F):=Lib.hid hF
 rw [hF]
 have HL:Hid (F.length≤1000):=Lib.hid (by rw [← hF];exact Nat.le_trans (pcs_length style to_ _ _ _) (by omega))
 clear hF hn he hev hsat
 go_enter Tryz.func83,Tryz.ntmps83
 go_upto_if 16 with fail
 go_cut [13,16] from 17 (fun s13 _ wx=>s13=.int .i64 (was0 ends from_)∧wx=W)
 case first =>
  by_cases h1:from_=0
  ·have d:decide (0<from_)=false:=by simp;omega
   have E:Hid (was0 ends from_=0):=Lib.hid (by unfold was0;rw [if_pos h1])
   rw [d]
   clear d h1
   go_wp2_with fail
   go_meet
   rw [E.out]
   exact ⟨rfl,rfl⟩
  ·have d:decide (0<from_)=true:=by simp;omega
   obtain ⟨q1,q2,q3⟩:=GE.out (from_ - 1) (by omega)
   have E:Hid (was0 ends from_=ends.getD (from_ - 1) 0):=Lib.hid (by unfold was0;rw [if_neg h1])
   obtain ⟨eg,rfl⟩:=KE.out.1.form (by omega)
   have c1:=KE.out.1.at_ KE.out.2.2 q1
   have e1:(from_:Int) - 1=((from_ - 1:Nat):Int):=by omega
   have e2:((from_ - 1:Nat):Int)<(n:Int):=by omega
   rw [d]
   clear q1 h1 d
   generalize ends.getD (from_ - 1) 0=eb at *
   go_wp2_with fail
   go_meet
   rw [E.out]
   exact ⟨rfl,rfl⟩
 case rest =>
  obtain ⟨h13,rfl⟩:=hcut
  subst h13
  go_wp2_with fail
  go_loopg [10,11,12,13,14] (to_ - from_) (fun mm v10 v11 v12 v13 v14 wx=>∃ (k r:Nat) (L:List (Nat × Nat)) (H1 H2:List YtjngfhgakokejaaGreat.HB),from_≤k∧k≤to_∧mm=to_ - k∧v14=.int .i64 (k:Int)∧r≤k∧v12=.int .i64 (r:Int)∧v13=.int .i64 (wasM ends (was0 ends from_) L)∧L++pcs style to_ (to_ - k) k (k - r)=F∧RowI v10 (lensM L) H1∧RowI v11 (sizesM ends (was0 ends from_) L) H2∧Mv wc He wx (H1++(H2++He)))
  case atStart=>exact ⟨from_,0,[],[],[],Nat.le_refl _,hft,rfl,rfl,Nat.zero_le _,rfl,rfl,hF0.out,RowH.nil _ _,RowH.nil _ _,Mv.refl KE.out.2.2⟩
  case round =>
   obtain ⟨k,r,L,H1,H2,hk0,hk1,rfl,rfl,hrk,rfl,rfl,hL,r1,r2,m⟩:=hrel
   by_cases hlt:k<to_
   ·have d1:decide ((k:Int)<(to_:Int))=true:=by simp;omega
    have hlL:L.length≤1000:=by have:=HL.out;rw [← hL,List.length_append] at this;omega
    have hkn:k<n:=by omega
    obtain ⟨q1,q2,q3⟩:=GE.out k hkn
    obtain ⟨eg,rfl⟩:=KE.out.1.form (by omega)
    have hRe:Hid (∀ W',Sat W' He→W'.cell? ⟨eg,k,none⟩=some (.int .i64 (ends.getD k 0))):=Lib.hid fun W' h=>KE.out.1.at_ h q1
    have hwb:Hid (0≤wasM ends (was0 ends from_) L∧wasM ends (was0 ends from_) L≤100000000):=Lib.hid (wasM_bd ends (getD_bd ends KE.out.2.1) _ _ (was0_bd ends KE.out.2.1 _))
    have EN:=Lib.hid (fun w=>ends14_any style k w hs (by omega))
    have hzL:=sizesM_length ends (was0 ends from_) L
    have hsn:=sizesM_snoc ends (k - r,k+1) (was0 ends from_) L
    have hwn:=wasM_snoc ends (k - r,k+1) (was0 ends from_) L
    simp only [Nat.add_sub_cancel] at hsn hwn
    obtain ⟨was,hwas⟩:∃ was,wasM ends (was0 ends from_) L=was:=⟨_,rfl⟩
    obtain ⟨eb,heb⟩:∃ eb,ends.getD k 0=eb:=⟨_,rfl⟩
    rw [hwas,heb] at hsn
    rw [heb] at hwn q2 q3 hRe
    rw [hwas] at hwb ⊢
    have hnp:Hid ((endsM style k || decide (k+1=to_))=true→∀ p,p=L++[(k - r,k+1)]→p++pcs style to_ (to_ - (k+1)) (k+1) (k+1)=F):=Lib.hid (by
     intro h p hp
     rw [hp,← hL,pcs_yes hlt h,List.append_assoc];rfl)
    have hnn:Hid ((endsM style k || decide (k+1=to_))=false→L++pcs style to_ (to_ - (k+1)) (k+1) (k+1 - (r+1))=F):=Lib.hid (by
     intro h
     rw [← hL,pcs_no hlt h,show k+1 - (r+1)=k - r by omega])
    have hln:Hid (lensM (L++[(k - r,k+1)])=lensM L++[(r:Int)+1]):=Lib.hid (by
     simp only [lensM,List.map_append,List.map_cons,List.map_nil]
     congr 2;omega)
    have hll:(lensM L).length=L.length:=by simp [lensM]
    obtain ⟨a1,c1,e10⟩:=r1.slice
    obtain ⟨a2,c2,e11⟩:=r2.slice
    have KK:=Lib.hid (And.intro e10 (And.intro e11 (And.intro (e10 ▸ r1) (And.intro hll (And.intro (e11 ▸ r2) (And.intro hzL (And.intro m (And.intro hsn (And.intro hwn hwas)))))))))
    have hr1000:r≤1000:=by omega
    have hto2:to_≤1000:=by omega
    have R12:=Lib.hid (And.intro r1 r2)
    clear hsn hwn hwas hzL hll r1 r2 m heb q1 hL e10 e11
    have x1:1≤to_:=by omega
    obtain ⟨b,hb⟩:∃ b,endsM style k=b:=⟨_,rfl⟩
    rw [hb] at hnp hnn EN
    clear hb
    by_cases hk2:k+1=to_
    ·have d3:((k:Int) == (to_:Int) - 1)=true:=by simp;omega
     rw [decide_eq_true hk2,Bool.or_true] at hnp
     clear hk2 hnn EN
     go_upto_region 10 with fail
     refine wp_piece (sgz_r10 _ eg n ec k ((r:Int)+1) eb was a1 a2 c1 c2 (lensM L) (sizesM ends (was0 ends from_) L) H1 H2 He He wc _ _ _ _ _ _ _ _ _ _ _ _ _ _ _ _ _ _ _ _ _ _ _ _ _ _ _ _ _ _ _ _ _ _ _ _ _ _ _ _ _ _ _ _ _ _ _ _ _ _ _ _ _ _ _ KK.out.1 KK.out.2.1 KK.out.2.2.1 (by rw [KK.out.2.2.2.1];exact hlL) KK.out.2.2.2.2.1 (by rw [KK.out.2.2.2.2.2.1];exact hlL) hkn hl ⟨q2,q3⟩ hwb.out hRe.out KK.out.2.2.2.2.2.2.1 ?_)
     rintro _ _ _ _ _ _ _ _ _ _ _ _ _ _ _ g2 HA g5 HB w10 ⟨m10,-⟩ r42 r51 ⟨-,rfl⟩ ⟨-,rfl⟩
     have M10:Mv wc He w10 (HA++(HB++He)):=m10.sub (fun g=>by simp only [oh_true,cnt_append,cnt_cons,cnt_nil];omega) (fun c hc=>by simp only [oh_true,List.mem_append,List.mem_cons,List.not_mem_nil,or_false] at hc ⊢;grind)
     have c10:=hRe.out w10 M10.sat.right.right
     have K10:=Lib.hid (And.intro r42 (And.intro r51 M10))
     have hkI:(k:Int)<(n:Int):=by omega
     clear m10 r42 r51 M10
     go_upto_region 11 with fail
     go_quiet (fail)
     have M11:=Lib.hid (K10.out.2.2.drewN nq)
     go_wp2_with fail
     go_roundg (to_ - (k+1))
     case measure=>omega
     case rel=>exact ⟨k+1,0,L++[(k - r,k+1)],HA,HB,by omega,hlt,rfl,by push_cast;rfl,Nat.zero_le _,rfl,by rw [KK.out.2.2.2.2.2.2.2.2.1],hnp.out (by first | rfl | trivial) _ rfl,by rw [hln.out];exact K10.out.1,by rw [KK.out.2.2.2.2.2.2.2.1];exact K10.out.2.1,M11.out⟩
    ·have d3:((k:Int) == (to_:Int) - 1)=false:=by simp;omega
     rw [decide_eq_false hk2,Bool.or_false] at hnp hnn
     clear hk2
     rcases b with _ | _
     ·clear hnp
      go_wp2_with (go_at_call 97;(with_reducible refine (EN.out _).mono ?_);rintro e w' ⟨rfl,rfl⟩)
      go_roundg (to_ - (k+1))
      case measure=>omega
      case rel=>exact ⟨k+1,r+1,L,H1,H2,by omega,hlt,rfl,by push_cast;rfl,by omega,by push_cast;rfl,by rw [KK.out.2.2.2.2.2.2.2.2.2],hnn.out (by first | rfl | trivial),R12.out.1,R12.out.2,KK.out.2.2.2.2.2.2.1⟩
     ·clear hnn
      go_upto_region 10 with (go_at_call 97;(with_reducible refine (EN.out _).mono ?_);rintro e w' ⟨rfl,rfl⟩)
      refine wp_piece (sgz_r10 _ eg n ec k ((r:Int)+1) eb was a1 a2 c1 c2 (lensM L) (sizesM ends (was0 ends from_) L) H1 H2 He He wc _ _ _ _ _ _ _ _ _ _ _ _ _ _ _ _ _ _ _ _ _ _ _ _ _ _ _ _ _ _ _ _ _ _ _ _ _ _ _ _ _ _ _ _ _ _ _ _ _ _ _ _ _ _ _ KK.out.1 KK.out.2.1 KK.out.2.2.1 (by rw [KK.out.2.2.2.1];exact hlL) KK.out.2.2.2.2.1 (by rw [KK.out.2.2.2.2.2.1];exact hlL) hkn hl ⟨q2,q3⟩ hwb.out hRe.out KK.out.2.2.2.2.2.2.1 ?_)
      rintro _ _ _ _ _ _ _ _ _ _ _ _ _ _ _ g2 HA g5 HB w10 ⟨m10,-⟩ r42 r51 ⟨-,rfl⟩ ⟨-,rfl⟩
      have M10:Mv wc He w10 (HA++(HB++He)):=m10.sub (fun g=>by simp only [oh_true,cnt_append,cnt_cons,cnt_nil];omega) (fun c hc=>by simp only [oh_true,List.mem_append,List.mem_cons,List.not_mem_nil,or_false] at hc ⊢;grind)
      have c10:=hRe.out w10 M10.sat.right.right
      have K10:=Lib.hid (And.intro r42 (And.intro r51 M10))
      have hkI:(k:Int)<(n:Int):=by omega
      clear m10 r42 r51 M10
      go_upto_region 11 with fail
      go_quiet (fail)
      have M11:=Lib.hid (K10.out.2.2.drewN nq)
      go_wp2_with fail
      go_roundg (to_ - (k+1))
      case measure=>omega
      case rel=>exact ⟨k+1,0,L++[(k - r,k+1)],HA,HB,by omega,hlt,rfl,by push_cast;rfl,Nat.zero_le _,rfl,by rw [KK.out.2.2.2.2.2.2.2.2.1],hnp.out (by first | rfl | trivial) _ rfl,by rw [hln.out];exact K10.out.1,by rw [KK.out.2.2.2.2.2.2.2.1];exact K10.out.2.1,M11.out⟩
   ·obtain rfl:k=to_:=by omega
    have d1:decide ((k:Int)<(k:Int))=false:=by simp
    have hL2:L=F:=by rw [Nat.sub_self,pcs,List.append_nil] at hL;exact hL
    have K:=Lib.hid (And.intro r1 (And.intro r2 (And.intro m hL2)))
    clear r1 r2 m hL hL2 hlt
    go_wp2_with fail
    go_ret2
    rw [← K.out.2.2.2]
    exact ⟨_,_,H1,H2,rfl,K.out.1,K.out.2.1,K.out.2.2.1⟩
end
end Go.Proofs.YtjngfhgakokejaaGreat
