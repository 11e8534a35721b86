/- waveletref13: Set. Rows of integers; append. waveletref13: way. The document's trees: the numbers above the leaves. Plain. waveletref13: fill. waveletref2: the document's writer of bits. -/
import Derived.Test.YtjngfhgakokejaaGreatZp03
import Derived.Test.YtjngfhgakokejaaGreatZp01
import Derived.Test.YtjngfhgakokejaaGreatZp02
set_option maxRecDepth 100000
set_option maxHeartbeats 8000000
namespace Go.Proofs.YtjngfhgakokejaaGreat
section
open Go.RowKit
theorem rnodesV_set {l:List (Int × NodeM)} {k:Nat} {p:Int × NodeM} (h:l[k]?=some p) (y:Int × NodeM) (j:Nat) (hj:j<4) (v:Value) (hv:rnodeV y=(rnodeV p).set j v):(rnodesV l).set (k * 4+j) v=rnodesV (l.set k y):=flat_set rnodeV 4 rnodeV_length l k p y h j hj v hv
def RTreeX (tb:Nat) (v:Value) (n:Int) (fr:Bool):HB:=⟨tb,159,#[v,.int .i64 n,.bool fr]⟩
theorem rset_any (tb:Nat) (T:List LevM) (fr:Bool) (H:List HB) (W:World) (k:Nat) (n:Int) (L:LevM) (x:NodeM) (h:RTreeH tb T fr H) (hs:Sat W H) (hT:T[0]?=some L) (hx:L.l[k]?=some x) (hN:offT T T.length≤100000) :
  Calls Tryz.prog 79 #[.pointer (some ⟨tb,0,none⟩),.int .i64 (k:Int),.int .i64 n] W fun e w'=>e=.returned (.tuple #[])∧∃ H',RTreeH tb (T.set 0 { L with l:=L.l.set k { x with n:=n } }) false H'∧Mv W H w' H':=by
 obtain ⟨v,Hl,rfl,hr⟩:=h
 have hk:=(List.getElem?_eq_some_iff.1 hx).1
 have hg:=rnodes_get 0 hT hx
 have hst:=rnodes_set 0 hT hk { x with n:=n }
 simp only [offT,Nat.zero_add,Nat.add_zero] at hg hst
 have hlen:=rnodes_length 0 T
 have hle:=offT_le hT
 simp only [offT,Nat.zero_add] at hle
 obtain ⟨N,hNN⟩:∃ N,(rnodes 0 T).length=N:=⟨_,rfl⟩
 rw [hNN] at hr
 have hkN:k<N:=by omega
 obtain ⟨g,cap,cur,rfl,-⟩:=hr.form (by omega)
 have hlv:leavesM T=L.l.length:=by
  cases T with
  | nil=>simp at hT
  | cons M T=>simp at hT;subst hT;rfl
 rw [hlv] at hs ⊢
 have M0:Mv W (RTreeX tb (.slice (some ⟨g,0,none⟩) N cap) (L.l.length:Int) fr::Hl) W (RTreeX tb (.slice (some ⟨g,0,none⟩) N cap) (L.l.length:Int) fr::Hl):=Mv.refl hs
 have c0:W.cell? ⟨tb,0,none⟩=some (.slice (some ⟨g,0,none⟩) N cap):=M0.cell 0 rfl 0
 have c1:W.cell? ⟨tb,1,none⟩=some (.int .i64 (L.l.length:Int)):=M0.cell 0 rfl 1
 obtain ⟨z0,zf⟩:=hr.cell (Sat.right (A:=[_]) hs) rfl (k * 4) (by omega)
 rw [(rnodesV_get hg).1] at z0
 have d1:decide ((k:Int)<0)=false:=by simp
 have d2:decide ((L.l.length:Int)≤(k:Int))=false:=by simp;omega
 have hkNi:(k:Int)<(N:Int):=by omega
 obtain ⟨H2,r2,m2⟩:=hr.set (Sat.right (A:=[_]) hs) rfl (k * 4) (.int .i64 n) (by omega)
 have M1:Mv W (RTreeX tb (.slice (some ⟨g,0,none⟩) N cap) (L.l.length:Int) fr::Hl) (W.setCell ⟨g,k * 4,none⟩ (.int .i64 n)) (RTreeX tb (.slice (some ⟨g,0,none⟩) N cap) (L.l.length:Int) fr::H2):=by
  have h1:Mv W (RTreeX tb (.slice (some ⟨g,0,none⟩) N cap) (L.l.length:Int) fr::Hl) W (Hl++[RTreeX tb (.slice (some ⟨g,0,none⟩) N cap) (L.l.length:Int) fr]):=M0.sub (fun g=>by simp only [cnt_append,cnt_cons,cnt_nil];omega) (fun c hc=>by simp only [List.mem_append,List.mem_cons,List.not_mem_nil,or_false] at hc ⊢;grind)
  exact (Mv.call h1 m2).sub (fun g=>by simp only [cnt_append,cnt_cons,cnt_nil];omega) (fun c hc=>by simp only [List.mem_append,List.mem_cons,List.not_mem_nil,or_false] at hc ⊢;grind)
 have r3:RowH 162 4 (.slice (some ⟨g,0,none⟩) N cap) N (rnodesV (rnodes 0 (T.set 0 { L with l:=L.l.set k { x with n:=n } }))) H2:=by
  rw [← hst]
  have e:=rnodesV_set hg (rUp 0 L.w L.h k,{ x with n:=n }) 0 (by omega) (.int .i64 n) rfl
  rw [Nat.add_zero] at e
  rw [← e]
  exact r2
 have hlen2:(rnodes 0 (T.set 0 { L with l:=L.l.set k { x with n:=n } })).length=N:=by rw [← hst,List.length_set];exact hNN
 have hlv2:leavesM (T.set 0 { L with l:=L.l.set k { x with n:=n } })=L.l.length:=by
  cases T with
  | nil=>simp at hT
  | cons M T=>simp [leavesM]
 have f2:(W.setCell ⟨g,k * 4,none⟩ (.int .i64 n)).frozen? ⟨tb,2,none⟩=false:=M1.frozen 0 rfl 2
 have c2:(W.setCell ⟨g,k * 4,none⟩ (.int .i64 n)).cell? ⟨tb,2,none⟩=some (.bool fr):=M1.cell 0 rfl 2
 have K:=Lib.hid (And.intro r3 (And.intro hlen2 (And.intro hlv2 (M1.set 2 (.bool false)))))
 have hk1:k<100000:=by omega
 have HLL:=Lib.hid hk
 generalize L.l.length=ln at *
 clear hr hg hst hlen hle hNN hlv M0 M1 r2 m2 r3 hlen2 hlv2 hs hN hT hx
 show Calls Tryz.prog _ _ W fun e w'=>e=.returned (.tuple #[])∧∃ H',RTreeH tb (T.set 0 { L with l:=L.l.set k { x with n:=n } }) false H'∧Mv W (RTreeX tb (.slice (some ⟨g,0,none⟩) N cap) (ln:Int) fr::Hl) w' H'
 go_enter Tryz.func79,Tryz.ntmps79
 go_wp2_with fail
 refine bodyPost_end (results_none rfl _ _ _) rfl ⟨rfl,_,⟨.slice (some ⟨g,0,none⟩) N cap,H2,?_,?_⟩,K.out.2.2.2⟩
 ·rw [K.out.2.2.1]
  rfl
 ·rw [K.out.2.1]
  exact K.out.1
end
section
open Go.RowKit
def RowI (v:Value) (l:List Int) (H:List HB):Prop:=RowH 3 1 v l.length (l.map (Value.int .i64)) H
theorem RowI.slice {v:Value} {l:List Int} {H:List HB} (h:RowI v l H):∃ a c,v=.slice a l.length c:=RowH.slice h
def midI (l:List Int) (k:Nat):List Int:=l.take k++List.replicate (l.length - k) 0
theorem midI_zero (l:List Int):midI l 0=List.replicate l.length 0:=by simp [midI]
theorem midI_all (l:List Int):midI l l.length=l:=by simp [midI]
theorem midI_len (l:List Int) (k:Nat) (h:k≤l.length):(midI l k).length=l.length:=by simp [midI];omega
theorem midI_set (l:List Int) (i:Nat) {m:Int} (h:l[i]?=some m):(midI l i).set i m=midI l (i+1):=by
 have hi:=(List.getElem?_eq_some_iff.1 h).1
 unfold midI
 rw [List.take_add_one,h,List.set_append_right _ _ (by rw [List.length_take];omega),List.length_take,show i - min i l.length=0 by omega,show l.length - i=(l.length - (i+1))+1 by omega,List.replicate_succ]
 simp
def rowI (g:Nat) (l:List Int):HB:=⟨g,3,(l.map (Value.int .i64)).toArray⟩
theorem rowI_row (g:Nat) (l:List Int) (n:Nat) (hn:l.length=n) (hl:n≤maxLen):RowI (.slice (some ⟨g,0,none⟩) n n) l [rowI g l]:=by
 subst hn
 have:=RowH.new (size:=1) 3 g l.length (l.map (Value.int .i64)).toArray (by simp) hl
 exact this
theorem rowI_set (g:Nat) (l:List Int) (i:Nat) (m:Int):(rowI g l).cs.setIfInBounds i (.int .i64 m)=(rowI g (l.set i m)).cs:=by simp [rowI]
theorem infoI:(Tryz.prog.info? 3).map (fun i=>(i.zero,i.size,i.bytes))=some (some (.int .i64 0),1,8):=by kernel_rfl
theorem flat_int (n:Nat):(List.replicate n (Value.int .i64 0).cells.toList).flatten=List.replicate n (Value.int .i64 0):=by
 induction n with
 | zero=>rfl
 | succ n ih=>rw [List.replicate_succ,List.replicate_succ,List.flatten_cons,ih];rfl
def IV (w:World) (v:Value) (l:List Int):Prop:=∃ A c,v=.slice A l.length c∧l.length≤c∧c≤maxLen∧Reads w w.heap.size 1 A l.length (l.map (Value.int .i64))
theorem intsV_one (l:List Int):∀ u:Value,u∈l.map (Value.int .i64)→u.oneCell'=true:=by
 intro u hu
 obtain ⟨e,-,rfl⟩:=List.mem_map.1 hu
 rfl
theorem RowI.iv {w:World} {v:Value} {l:List Int} {H:List HB} (h:RowI v l H) (hs:Sat w H):IV w v l:=by
 have ho:=RowH.owns h hs (B:=0) (fun _ _=>Nat.zero_le _)
 rcases h.2 with ⟨rfl,h2,h3⟩ | ⟨g,cap,cur,rfl,h1,h2,-⟩
 ·exact ⟨none,0,by rw [h2],by omega,by unfold maxLen;omega,Reads.of_own (by rw [h2] at ho ⊢;exact ho)⟩
 ·exact ⟨_,cap,rfl,h1,h2,Reads.of_own ho⟩
theorem run_appI {w:World} {v u:Value} {l r:List Int} {H:List HB} (h:RowI v l H) (hs:Sat w H) (hu:IV w u r) (hl:l.length+r.length≤100000000) (ty:TypeId) :
  ∃ v' w' H',(Builtin.append_ #[38,38] ty #[v,u]).run Tryz.prog w=.ok v' w'∧RowI v' (l++r) H'∧Mv w H w' H':=by
 obtain ⟨A,c,rfl,h1,h2,h3⟩:=hu
 obtain ⟨i0,hti,hz0,hz1,hz2⟩:=info_parts infoI
 obtain ⟨v',w',hrun,k1,k2,k3⟩:=run_append_any (P:=Tryz.prog) w 0 38 ty 3 i0 _ 1 8 Tryz.underlying38 hti hz0 hz1 hz2 rfl (by decide) v l.length (l.map (Value.int .i64)) (RowH.owns h hs (fun _ _=>Nat.zero_le _)) w.heap.size A r.length c (r.map (Value.int .i64)) h3 (intsV_one r) (by unfold maxLen;omega) (by omega) (Nat.zero_le _)
 obtain ⟨H',k4,k5⟩:=mv_owns_grown h k1 k2 k3
 refine ⟨v',w',H',hrun,?_,k5⟩
 unfold RowI
 rw [List.length_append,List.map_append]
 exact k4
section
variable {ops:Array Oper} {rest:List Oper} {o:Oper} {a:Act} {w:World} {K:Act→World→Prop} {Q:Exit→Act→World→Prop} {E:Prop}
theorem wp_appI (s x:Operand) (ho:o.op=.call { callee:=.builtin .append,args:=#[s,x],argTypes:=#[38,38] }) (v u:Value) (l r:List Int) (H:List HB)
  (hsv:a.eval s=v) (hxu:a.eval x=u) (h:RowI v l H) (hs:Sat w H) (hu:IV w u r) (hl:l.length+r.length≤100000000)
  (hK:∀ v' w' H',RowI v' (l++r) H'→Mv w H w' H'→K (a.put o.dst v') w'):o.wp Tryz.prog a w K Q:=by
 obtain ⟨v',w',H',hrun,h1,h2⟩:=run_appI h hs hu hl o.type
 unfold Oper.wp execOp
 simp only [ho,resolve,invoke,builtin,Sem.run_bind,Sem.run_pure,Result.andThen_ok,List.map_toArray,List.map_cons,List.map_nil,hsv,hxu,hrun]
 exact hK v' w' H' h1 h2
theorem wpList_appI (hgd:o.guard=none) (s x:Operand) (ho:o.op=.call { callee:=.builtin .append,args:=#[s,x],argTypes:=#[38,38] }) (v u:Value) (l r:List Int) (H:List HB)
  (hsv:a.eval s=v) (hxu:a.eval x=u) (h:RowI v l H) (hs:Sat w H) (hu:IV w u r) (hl:l.length+r.length≤100000000)
  (hK:∀ v' w' H',RowI v' (l++r) H'→Mv w H w' H'→wpList Tryz.prog ops Q rest (a.put o.dst v') w'):wpList Tryz.prog ops Q (o::rest) a w :=
 wpList_plain hgd fun _ hk=>wp_appI s x ho v u l r H hsv hxu h hs hu hl fun v' w' H' h1 h2=>hk _ _ (hK v' w' H' h1 h2)
theorem step_appI (hgd:o.guard=none) (s x:Operand) (ho:o.op=.call { callee:=.builtin .append,args:=#[s,x],argTypes:=#[38,38] }) (v u:Value) (l r:List Int) (H:List HB)
  (hsv:a.eval s=v) (hxu:a.eval x=u) (h:RowI v l H) (hs:Sat w H) (hu:IV w u r) (hl:l.length+r.length≤100000000)
  (hK:∀ v' w' H',RowI v' (l++r) H'→Mv w H w' H'→K (a.put o.dst v') w'):if Region.wanted o (yielded ops a.tmps)=true then Oper.wp Tryz.prog o a w K Q else E:=by
 have hw:Region.wanted o (yielded ops a.tmps)=true:=by simp [Region.wanted,hgd]
 rw [if_pos hw]
 exact wp_appI s x ho v u l r H hsv hxu h hs hu hl hK
end
theorem iv_one (w:World) (e:Int) (g:Nat) (hg:g=w.heap.size):IV (w.alloc (.cells #[.int .i64 e] 3)) (.slice (some ⟨g,0,none⟩) 1 1) [e]:=by
 subst hg
 have h:RowI (.slice (some ⟨w.heap.size,0,none⟩) 1 1) [e] [⟨w.heap.size,3,#[.int .i64 e]⟩]:=RowH.new 3 w.heap.size 1 #[.int .i64 e] rfl (by decide)
 exact h.iv (mv_alloc w 3 _).sat
theorem RowI.at_ {w:World} {g n c:Nat} {l:List Int} {H:List HB} (h:RowI (.slice (some ⟨g,0,none⟩) n c) l H) (hs:Sat w H) {i:Nat} {e:Int} (hi:l[i]?=some e):w.cell? ⟨g,i,none⟩=some (.int .i64 e):=by
 obtain ⟨a',c',e'⟩:=h.slice
 cases e'
 have h1:=(List.getElem?_eq_some_iff.1 hi).1
 rw [(RowH.cell h hs rfl i (by omega)).1,List.getElem?_map,hi]
 rfl
theorem RowI.form {a:Option Addr} {n c:Nat} {l:List Int} {H:List HB} (h:RowI (.slice a n c) l H) (hn:0<n):∃ g,a=some ⟨g,0,none⟩:=by
 obtain ⟨a',c',e⟩:=h.slice
 cases e
 obtain ⟨g,cp,cur,hv,-⟩:=RowH.form h hn
 injection hv with ha
 exact ⟨g,ha⟩
end
section
open Go.RowKit
def wayI:Nat→List LevM→Nat→Nat→List Nat
 | _,[],_,_=>[]
 | a,L::T,x,y=>wayI (a+L.l.length) T (x / 2) (y / 2)++[a+(y * L.w+x)]
theorem wayI_length (a:Nat) (T:List LevM) (x y:Nat):(wayI a T x y).length=T.length:=by
 induction T generalizing a x y with
 | nil=>rfl
 | cons L T ih=>simp [wayI,ih]
theorem up_place {a w h x y:Nat} (hx:x<w) (_hy:y<h):rUp a w h (y * w+x)=if 1<w * h then ((a+w * h+(y / 2 * ((w+1) / 2)+x / 2):Nat):Int) else -1:=by
 unfold rUp
 have e1:(y * w+x) / w=y:=by
  rw [Nat.mul_comm,Nat.mul_add_div (by omega),Nat.div_eq_of_lt hx,Nat.add_zero]
 have e2:(y * w+x) % w=x:=by
  rw [Nat.mul_comm,Nat.mul_add_mod]
  exact Nat.mod_eq_of_lt hx
 rw [e1,e2,Nat.add_assoc (a+w * h)]
theorem Dims.tail {L:LevM} {T:List LevM} (h:Dims (L::T)):Dims T:=by
 cases T with
 | nil=>trivial
 | cons M T=>exact h.2.2.2.2.2
theorem Dims.len0 {L:LevM} {T:List LevM} (h:Dims (L::T)):L.l.length=L.w * L.h:=h.len (i:=0) rfl
theorem Dims.pos0 {L:LevM} {T:List LevM} (h:Dims (L::T)):1≤L.w∧1≤L.h:=by
 cases T with
 | nil=>exact ⟨by rw [h.1];decide,by rw [h.2.1];decide⟩
 | cons M T=>exact ⟨h.1,h.2.1⟩
theorem Dims.next {L M:LevM} {T:List LevM} (h:Dims (L::M::T)) (_hne:1<L.w * L.h):M.w=(L.w+1) / 2∧M.h=(L.h+1) / 2:=⟨h.2.2.2.1,h.2.2.2.2.1⟩
theorem rway_any (tb:Nat) (T:List LevM) (fr:Bool) (H:List HB) (W:World) (L0:LevM) (x y:Nat) (h:RTreeH tb T fr H) (hs:Sat W H) (hT:T[0]?=some L0) (hd:Dims T) (h1:∀ L M T',L::M::T' <:+ T→1<L.w * L.h) (hx:x<L0.w) (hy:y<L0.h) (hN:offT T T.length≤100000) (hl:T.length≤20) :
  Calls Tryz.prog 81 #[.pointer (some ⟨tb,0,none⟩),.int .i64 ((y * L0.w+x:Nat):Int)] W fun e w'=>∃ v Hn,e=.returned v∧RowI v ((wayI 0 T x y).map fun (k:Nat)=>(k:Int)) Hn∧Mv W H w' (Hn++H):=by
 obtain ⟨v,Hl,rfl,hr⟩:=h
 have hlen:=rnodes_length 0 T
 obtain ⟨N,hNN⟩:∃ N,(rnodes 0 T).length=N:=⟨_,rfl⟩
 rw [hNN] at hr
 have hpl0:y * L0.w+x<L0.l.length:=by rw [hd.len hT];exact place_lt hx hy
 have hle0:=offT_le hT
 simp only [offT,Nat.zero_add] at hle0
 obtain ⟨g,vc,cur,rfl,-⟩:=hr.form (by omega)
 obtain ⟨va,hva⟩:∃ va:Option Addr,va=some ⟨g,0,none⟩:=⟨_,rfl⟩
 rw [← hva] at hr hs ⊢
 have hdr:=hd
 obtain ⟨X,hX⟩:∃ X:HB,X=⟨tb,159,#[.slice va N vc,.int .i64 (leavesM T:Int),.bool fr]⟩:=⟨_,rfl⟩
 rw [← hX] at hs ⊢
 have KT:=Lib.hid (And.intro hr (And.intro hX (And.intro hd (And.intro h1 (And.intro hT (And.intro hx (And.intro hy hNN)))))))
 have KS:=Lib.hid hs
 have hN2:N≤100000:=by omega
 obtain ⟨k0,hk0⟩:∃ k0,y * L0.w+x=k0:=⟨_,rfl⟩
 rw [hk0]
 have HK0:=Lib.hid hk0
 clear hr hX hd h1 hT hx hy hNN hs hlen hN hk0 hpl0 hle0 hdr
 subst hva
 go_enter Tryz.func81,Tryz.ntmps81
 go_wp2_with fail
 go_loopg [1,5] (T.length+1) (fun mm s1 s5 wx=>∃ (U:List LevM) (a xx yy:Nat) (l:List Nat) (Hn:List YtjngfhgakokejaaGreat.HB),U <:+ T∧mm=U.length+1∧a+offT U U.length=offT T T.length∧(∀ b p,(rnodes a U)[p]?=some b→(rnodes 0 T)[a+p]?=some b)∧(∀ L U',U=L::U'→xx<L.w∧yy<L.h∧s1=.int .i64 ((a+(yy * L.w+xx):Nat):Int))∧(U=[]→s1=.int .i64 (-1))∧wayI 0 T x y=wayI a U xx yy++l∧RowI s5 (l.map fun (k:Nat)=>(k:Int)) Hn∧Mv W (X::Hl) wx (Hn++(X::Hl)))
 case atStart =>
  refine ⟨T,0,x,y,[],[],List.suffix_refl _,rfl,by omega,fun b p hp=>by rw [Nat.zero_add];exact hp,?_,?_,by simp,RowH.nil _ _,Mv.refl KS.out⟩
  ·intro L U' e
   have hT:=KT.out.2.2.2.2.1
   rw [e] at hT
   simp at hT
   subst hT
   exact ⟨KT.out.2.2.2.2.2.1,KT.out.2.2.2.2.2.2.1,by rw [HK0.out,Nat.zero_add]⟩
  ·intro e
   have hT:=KT.out.2.2.2.2.1
   rw [e] at hT
   simp at hT
 case round =>
  obtain ⟨U,a,xx,yy,l,Hn,hU,rfl,ha,hnd,hc1,hc0,hw,hr5,m⟩:=hrel
  cases U with
  | nil =>
   obtain rfl:=hc0 rfl
   rw [wayI,List.nil_append] at hw
   have K:=Lib.hid (And.intro hw (And.intro hr5 m))
   clear ha hnd hc1 hc0 hw hr5 m
   go_wp2_with fail
   go_ret
   refine ⟨_,Hn,rfl,?_,K.out.2.2⟩
   rw [K.out.1]
   exact K.out.2.1
  | cons L U' =>
   obtain ⟨hxx,hyy,rfl⟩:=hc1 L U' rfl
   obtain ⟨kk,hkk⟩:∃ kk,yy * L.w+xx=kk:=⟨_,rfl⟩
   rw [hkk]
   obtain ⟨r1,r2,r3,r4,r5,r6,r7,r8⟩:=KT.out
   obtain ⟨A,hA⟩:=hU
   have hdU:Dims (L::U'):=by
    have:∀ (A:List LevM) (B:List LevM),Dims (A++B)→Dims B:=by
     intro A
     induction A with
     | nil=>intro B h;exact h
     | cons M A ih=>intro B h;exact ih B (Dims.tail h)
    exact this A _ (by rw [hA];exact r3)
   have hLlen:=hdU.len0
   have hkl:kk<L.l.length:=by rw [← hkk,hLlen];exact place_lt hxx hyy
   obtain ⟨x0,hx0⟩:∃ x0,L.l[kk]?=some x0:=⟨_,List.getElem?_eq_getElem hkl⟩
   have hg0:(rnodes a (L::U'))[kk]?=some (rUp a L.w L.h kk,x0):=by
    have h:=rnodes_get (T:=L::U') (j:=0) a rfl hx0
    simpa [offT] using h
   have hg:=hnd _ _ hg0
   have hkN:a+kk<N:=by
    have:=(List.getElem?_eq_some_iff.1 hg).1
    omega
   have hup:=up_place (a:=a) hxx hyy
   rw [hkk] at hup
   have M4:=m.alloc 3 #[.int .i64 ((a+kk:Nat):Int)]
   have R4:RowI (.slice (some ⟨wr.heap.size,0,none⟩) 1 1) [((a+kk:Nat):Int)] [⟨wr.heap.size,3,#[.int .i64 ((a+kk:Nat):Int)]⟩]:=RowH.new 3 wr.heap.size 1 #[.int .i64 ((a+kk:Nat):Int)] rfl (by decide)
   have I5:=hr5.iv (M4.drop1.sat.left)
   have HL:Hid ([((a+kk:Nat):Int)].length+(l.map fun (k:Nat)=>(k:Int)).length≤100000000):=Lib.hid (by
    have h1:=congrArg List.length hw
    rw [wayI_length,List.length_append] at h1
    rw [List.length_map,List.length_singleton]
    omega)
   have K4:=Lib.hid (And.intro R4 (And.intro I5 (show Mv W (X::Hl) _ ([⟨wr.heap.size,3,#[.int .i64 ((a+kk:Nat):Int)]⟩]++(Hn++(X::Hl))) from M4)))
   have GC:Hid (∀ V,Sat V (X::Hl)→V.cell? ⟨tb,0,none⟩=some (.slice (some ⟨g,0,none⟩) N vc)∧V.cell? ⟨g,(a+kk) * 4+3,none⟩=some (.int .i64 (rUp a L.w L.h kk))):=Lib.hid (fun V hV=>by
    refine ⟨?_,?_⟩
    ·have hb:=hV.at_ 0 (g:=tb) (t:=X.t) (cs:=X.cs) (by rw [r2];rfl)
     rw [r2] at hb
     exact hb.cell 0
    ·rw [(r1.cell (Sat.right (A:=[_]) hV) rfl ((a+kk) * 4+3) (by omega)).1]
     exact (rnodesV_get hg).2.2.2)
   obtain ⟨va5,vc5,rfl⟩:=hr5.slice
   rw [List.length_map] at *
   obtain ⟨nl,hnl⟩:∃ nl,l.length=nl:=⟨_,rfl⟩
   rw [hnl] at K4 ⊢
   obtain ⟨ak,hak⟩:∃ ak,a+kk=ak:=⟨_,rfl⟩
   rw [hak] at K4 GC HL hkN ⊢
   obtain ⟨u,hu⟩:∃ u,rUp a L.w L.h kk=u:=⟨_,rfl⟩
   rw [hu] at GC hup
   have d1:decide (0≤(ak:Int))=true:=by simp
   have hakN:(ak:Int)<(N:Int):=by omega
   have REL:Hid (∀ (wx:World) (s5:Value) (H6:List YtjngfhgakokejaaGreat.HB),RowI s5 ([(ak:Int)]++l.map fun (k:Nat)=>(k:Int)) H6→Mv W (X::Hl) wx (H6++(X::Hl)) →
     ∃ (U:List LevM) (a' xx' yy':Nat) (l':List Nat) (Hn':List YtjngfhgakokejaaGreat.HB),U <:+ T∧U'.length+1=U.length+1∧a'+offT U U.length=offT T T.length∧(∀ b p,(rnodes a' U)[p]?=some b→(rnodes 0 T)[a'+p]?=some b)∧(∀ L2 U2,U=L2::U2→xx'<L2.w∧yy'<L2.h∧Value.int .i64 u=.int .i64 ((a'+(yy' * L2.w+xx'):Nat):Int))∧(U=[]→Value.int .i64 u=.int .i64 (-1))∧wayI 0 T x y=wayI a' U xx' yy'++l'∧RowI s5 (l'.map fun (k:Nat)=>(k:Int)) Hn'∧Mv W (X::Hl) wx (Hn'++(X::Hl))):=Lib.hid (by
    intro wx s5 H6 q1 q2
    refine ⟨U',a+L.l.length,xx / 2,yy / 2,ak::l,H6,⟨A++[L],by rw [← hA];simp⟩,rfl,?_,?_,?_,?_,?_,?_,q2⟩
    ·simp only [offT,List.length_cons] at ha
     omega
    ·intro b p hp
     rw [Nat.add_assoc]
     refine hnd b (L.l.length+p) ?_
     simp only [rnodes]
     rw [List.getElem?_append_right (by rw [rlev_length];omega),rlev_length,show L.l.length+p - L.l.length=p by omega]
     exact hp
    ·intro L2 U2 e
     subst e
     have hne:=r4 L L2 U2 ⟨A,hA⟩
     obtain ⟨hw2,hh2⟩:=hdU.next hne
     rw [if_pos hne] at hup
     refine ⟨by rw [hw2];omega,by rw [hh2];omega,?_⟩
     rw [hup,hLlen,hw2]
    ·intro e
     subst e
     obtain ⟨e1,e2,-⟩:=hdU
     rw [hup,e1,e2]
     rfl
    ·rw [hw]
     simp only [wayI,List.append_assoc]
     rw [hkk,hak]
     rfl
    ·exact q1)
   clear ha hnd hc1 hc0 hw hup hu hg hg0 hx0 hkl hLlen hdU hA r1 r2 r3 r4 r5 r6 r7 r8 m M4 R4 I5 hr5 hak hkk hxx hyy
   go_upto_region 4 with (at_builtin;refine wpList_appI rfl (.tmp 9) (.tmp 10) rfl _ _ [(ak:Int)] (l.map fun (k:Nat)=>(k:Int)) _ rfl rfl K4.out.1 K4.out.2.2.sat.left K4.out.2.1 (by rw [List.length_map];exact HL.out) ?_;intro v6 w6 H6 hr6 m6;have K6:=Lib.hid (And.intro hr6 (Mv.call K4.out.2.2 m6));clear hr6 m6)
   have hm6:Mv W (X::Hl) w6 (H6++(X::Hl)):=(show Mv W (X::Hl) w6 (H6++(Hn++(X::Hl))) from K6.out.2).sub (fun g=>by simp only [cnt_append,cnt_cons];omega) (fun c hc=>by simp only [List.mem_append,List.mem_cons] at hc ⊢;grind)
   obtain ⟨g0,g1⟩:=GC.out w6 hm6.sat.right
   have K7:=Lib.hid (And.intro K6.out.1 hm6)
   have hak1:ak * 4+3<1000000:=by omega
   clear hm6 K6
   go_wp2_with fail
   go_roundg (U'.length+1)
   case measure=>simp
   case rel=>exact REL.out _ _ _ K7.out.1 K7.out.2
end
section
open Go.RowKit
def Strict (T:List LevM):Prop:=∀ L M T',L::M::T' <:+ T→1<L.w * L.h
theorem Strict.tail {L:LevM} {T:List LevM} (h:Strict (L::T)):Strict T:=fun A B C hs=>h A B C (hs.trans (List.suffix_cons L T))
theorem Strict.head {L M:LevM} {T:List LevM} (h:Strict (L::M::T)):1<L.w * L.h:=h L M T (List.suffix_refl _)
def par (w k:Nat):Nat:=k / w / 2 * ((w+1) / 2)+k % w / 2
def minN (M:LevM) (p:Nat) (n:Int):LevM:={ M with l:=M.l.set p { M.l.getD p nodeD with n:=min (M.l.getD p nodeD).n n } }
def pullK (L M:LevM):Nat→LevM
 | 0=>M
 | k+1=>minN (pullK L M k) (par L.w k) (L.l.getD k nodeD).n
theorem pullK_shape (L M:LevM) (k:Nat):(pullK L M k).w=M.w∧(pullK L M k).h=M.h∧(pullK L M k).l.length=M.l.length:=by
 induction k with
 | zero=>exact ⟨rfl,rfl,rfl⟩
 | succ k ih=>exact ⟨ih.1,ih.2.1,by simp only [pullK,minN,List.length_set];exact ih.2.2⟩
def fillUp:LevM→List LevM→List LevM
 | _,[]=>[]
 | L,M::R=>pullK L M L.l.length::fillUp (pullK L M L.l.length) R
def big:Int:=4611686018427387904
def top62 (L:LevM):LevM:={ L with l:=L.l.map fun x=>{ x with n:=big } }
def fillT:List LevM→List LevM
 | []=>[]
 | L::R=>L::fillUp L (R.map top62)
def fstep (l:List (Int × NodeM)) (i:Nat):List (Int × NodeM) :=
 match l[i]? with
 | none=>l
 | some p=>if 0≤p.1 then (match l[p.1.toNat]? with
  | none=>l
  | some q=>l.set p.1.toNat (q.1,{ q.2 with n:=min q.2.n p.2.n })) else l
theorem par_lt {w h k:Nat} (hw:1≤w) (hk:k<w * h):par w k<(w+1) / 2 * ((h+1) / 2):=by
 have h1:k / w<h:=Nat.div_lt_of_lt_mul hk
 have h2:k % w<w:=Nat.mod_lt _ (by omega)
 unfold par
 rw [Nat.mul_comm (k / w / 2)]
 have h3:(w+1) / 2 * (k / w / 2+1)≤(w+1) / 2 * ((h+1) / 2):=Nat.mul_le_mul_left _ (by omega)
 rw [Nat.mul_add,Nat.mul_one] at h3
 have h4:k % w / 2<(w+1) / 2:=by omega
 omega
theorem fstep_one {pre rest:List (Int × NodeM)} {a:Nat} {L M:LevM} (ha:pre.length=a) (hL:L.l.length=L.w * L.h) (hM:M.l.length=M.w * M.h) (hw:1≤L.w) (hmw:M.w=(L.w+1) / 2) (hmh:M.h=(L.h+1) / 2) (hne:1<L.w * L.h) {k:Nat} (hk:k<L.l.length) (M1:LevM) (h1:M1.w=M.w∧M1.h=M.h∧M1.l.length=M.l.length) :
  fstep (pre++(rlev a L++(rlev (a+L.l.length) M1++rest))) (a+k)=pre++(rlev a L++(rlev (a+L.l.length) (minN M1 (par L.w k) (L.l.getD k nodeD).n)++rest)):=by
 obtain ⟨x,hx⟩:∃ x,L.l[k]?=some x:=⟨_,List.getElem?_eq_getElem hk⟩
 have hp:par L.w k<M1.l.length:=by
  rw [h1.2.2,hM,hmw,hmh]
  exact par_lt hw (by rw [← hL];exact hk)
 obtain ⟨q,hq⟩:∃ q,M1.l[par L.w k]?=some q:=⟨_,List.getElem?_eq_getElem hp⟩
 have e1:(pre++(rlev a L++(rlev (a+L.l.length) M1++rest)))[a+k]?=some (rUp a L.w L.h k,x):=by
  rw [List.getElem?_append_right (by omega),ha,Nat.add_sub_cancel_left,List.getElem?_append_left (by rw [rlev_length];exact hk)]
  exact rlev_get hx
 have eu:rUp a L.w L.h k=((a+L.l.length+par L.w k:Nat):Int):=by
  unfold rUp par
  rw [if_pos hne,hL]
  congr 1
  omega
 have e2:(pre++(rlev a L++(rlev (a+L.l.length) M1++rest)))[a+L.l.length+par L.w k]?=some (rUp (a+L.l.length) M1.w M1.h (par L.w k),q):=by
  rw [List.getElem?_append_right (by omega),ha,List.getElem?_append_right (by rw [rlev_length];omega),rlev_length,show a+L.l.length+par L.w k - a - L.l.length=par L.w k by omega,List.getElem?_append_left (by rw [rlev_length];exact hp)]
  exact rlev_get hq
 unfold fstep
 rw [e1]
 simp only
 rw [eu,if_pos (by omega),Int.toNat_natCast,e2]
 simp only
 rw [List.set_append_right _ _ (by omega),ha,List.set_append_right _ _ (by rw [rlev_length];omega),rlev_length,show a+L.l.length+par L.w k - a - L.l.length=par L.w k by omega,List.set_append_left _ _ (by rw [rlev_length];exact hp),rlev_set]
 have d1:L.l.getD k nodeD=x:=by rw [List.getD_eq_getElem?_getD,hx];rfl
 have d2:M1.l.getD (par L.w k) nodeD=q:=by rw [List.getD_eq_getElem?_getD,hq];rfl
 unfold minN
 rw [d1,d2]
theorem fstep_level {pre rest:List (Int × NodeM)} {a:Nat} {L M:LevM} (ha:pre.length=a) (hL:L.l.length=L.w * L.h) (hM:M.l.length=M.w * M.h) (hw:1≤L.w) (hmw:M.w=(L.w+1) / 2) (hmh:M.h=(L.h+1) / 2) (hne:1<L.w * L.h):∀ k≤L.l.length,
  ((List.range k).map (a+·)).foldl fstep (pre++(rlev a L++(rlev (a+L.l.length) M++rest)))=pre++(rlev a L++(rlev (a+L.l.length) (pullK L M k)++rest))
 | 0,_=>rfl
 | k+1,hk=>by
  rw [List.range_succ,List.map_append,List.foldl_append,fstep_level ha hL hM hw hmw hmh hne k (by omega)]
  exact fstep_one ha hL hM hw hmw hmh hne (by omega) _ (pullK_shape L M k)
theorem fold_none (a:Nat) (l:List (Int × NodeM)):∀ n,(∀ k,k<n→∀ p,l[a+k]?=some p→p.1 = -1)→((List.range n).map (a+·)).foldl fstep l=l
 | 0,_=>rfl
 | n+1,h=>by
  rw [List.range_succ,List.map_append,List.foldl_append,fold_none a l n fun k hk=>h k (by omega)]
  simp only [List.map_cons,List.map_nil,List.foldl_cons,List.foldl_nil]
  unfold fstep
  split
  ·rfl
  ·rename_i p hp
   have:=h n (by omega) p hp
   rw [if_neg (by omega)]
theorem fill_flat:∀ (R:List LevM) (L:LevM) (pre:List (Int × NodeM)) (a:Nat),pre.length=a→Dims (L::R)→Strict (L::R) →
  ((List.range (rnodes a (L::R)).length).map (a+·)).foldl fstep (pre++rnodes a (L::R))=pre++rnodes a (L::fillUp L R)
 | [],L,pre,a,ha,hd,hs=>by
  refine fold_none a _ _ fun k hk p hp=>?_
  rw [List.getElem?_append_right (by omega),ha,Nat.add_sub_cancel_left] at hp
  simp only [rnodes,List.append_nil] at hp hk
  rw [rlev_length] at hk
  obtain ⟨x,hx⟩:∃ x,L.l[k]?=some x:=⟨_,List.getElem?_eq_getElem hk⟩
  rw [rlev_get hx] at hp
  simp only [Option.some.injEq] at hp
  rw [← hp]
  obtain ⟨e1,e2,-⟩:=hd
  simp only [rUp,e1,e2]
  rfl
 | M::R,L,pre,a,ha,hd,hs=>by
  have hne:=hs.head
  have hL:=hd.len0
  have hp:=hd.pos0
  obtain ⟨hmw,hmh⟩:=hd.next hne
  have hM:=hd.tail.len0
  have hlen:(rnodes a (L::M::R)).length=L.l.length+(rnodes (a+L.l.length) (M::R)).length:=by
   simp only [rnodes,List.length_append,rlev_length]
  rw [hlen,List.range_add,List.map_append,List.foldl_append]
  have h1:=fstep_level (rest:=rnodes (a+L.l.length+M.l.length) R) ha hL hM hp.1 hmw hmh hne L.l.length (Nat.le_refl _)
  have e0:pre++rnodes a (L::M::R)=pre++(rlev a L++(rlev (a+L.l.length) M++rnodes (a+L.l.length+M.l.length) R)):=by simp only [rnodes]
  rw [e0,h1]
  have hsh:=pullK_shape L M L.l.length
  have hd2:Dims (pullK L M L.l.length::R):=by
   have:=hd.tail
   cases R with
   | nil=>exact ⟨hsh.1.trans this.1,hsh.2.1.trans this.2.1,by rw [hsh.2.2,hsh.1,hsh.2.1];exact this.2.2⟩
   | cons N R =>
    obtain ⟨k1,k2,k3,k4,k5,k6⟩:=this
    exact ⟨by rw [hsh.1];exact k1,by rw [hsh.2.1];exact k2,by rw [hsh.2.2,hsh.1,hsh.2.1];exact k3,by rw [hsh.1];exact k4,by rw [hsh.2.1];exact k5,k6⟩
  have hs2:Strict (pullK L M L.l.length::R):=by
   intro A B C hsuf
   rcases List.suffix_cons_iff.1 hsuf with e | e
   ·have e1:A=pullK L M L.l.length:=(List.cons.inj e).1
    have e2:B::C=R:=(List.cons.inj e).2
    rw [e1,hsh.1,hsh.2.1]
    exact hs.tail M B C (by rw [e2];exact List.suffix_refl _)
   ·exact hs.tail.tail A B C e
  have ih:=fill_flat R (pullK L M L.l.length) (pre++rlev a L) (a+L.l.length) (by rw [List.length_append,ha,rlev_length]) hd2 hs2
  have hl2:(rnodes (a+L.l.length) (pullK L M L.l.length::R)).length=(rnodes (a+L.l.length) (M::R)).length:=by
   simp only [rnodes,List.length_append,rlev_length,hsh.2.2]
  rw [hl2] at ih
  have e3:(((List.range (rnodes (a+L.l.length) (M::R)).length).map (L.l.length+·)).map (a+·))=(List.range (rnodes (a+L.l.length) (M::R)).length).map (a+L.l.length+·):=by
   rw [List.map_map]
   exact List.map_congr_left fun k _=>by simp only [Function.comp];omega
  rw [e3]
  have e4:pre++(rlev a L++(rlev (a+L.l.length) (pullK L M L.l.length)++rnodes (a+L.l.length+M.l.length) R))=pre++rlev a L++rnodes (a+L.l.length) (pullK L M L.l.length::R):=by
   simp only [rnodes,hsh.2.2,List.append_assoc]
  rw [e4,ih]
  simp only [rnodes,fillUp,List.append_assoc]
end
section
open Go.RowKit
def fbase (l:List (Int × NodeM)) (lv i:Nat):List (Int × NodeM):=l.mapIdx fun j p=>if lv≤j∧j<i then (p.1,{ p.2 with n:=big }) else p
theorem fbase_start (l:List (Int × NodeM)) (lv:Nat):fbase l lv lv=l:=by
 apply List.ext_getElem?
 intro j
 simp only [fbase,List.getElem?_mapIdx]
 cases l[j]? with
 | none=>rfl
 | some p =>
  simp only [Option.map_some,Option.some.injEq]
  rw [if_neg (by omega)]
theorem fbase_get {l:List (Int × NodeM)} {lv i:Nat} {p:Int × NodeM} (h:l[i]?=some p):(fbase l lv i)[i]?=some p:=by
 simp only [fbase,List.getElem?_mapIdx,h,Option.map_some]
 rw [if_neg (by omega)]
theorem fbase_step {l:List (Int × NodeM)} {lv i:Nat} {p:Int × NodeM} (h:l[i]?=some p) (hl:lv≤i):(fbase l lv i).set i (p.1,{ p.2 with n:=big })=fbase l lv (i+1):=by
 apply List.ext_getElem?
 intro j
 rw [List.getElem?_set]
 by_cases hj:i=j
 ·subst hj
  have hil:=(List.getElem?_eq_some_iff.1 h).1
  rw [if_pos rfl,if_pos (by simp only [fbase,List.length_mapIdx];exact hil)]
  simp only [fbase,List.getElem?_mapIdx,h,Option.map_some]
  rw [if_pos (by omega)]
 ·rw [if_neg hj]
  simp only [fbase,List.getElem?_mapIdx]
  cases l[j]? with
  | none=>rfl
  | some q =>
   simp only [Option.map_some,Option.some.injEq]
   by_cases h1:lv≤j∧j<i
   ·rw [if_pos h1,if_pos (by omega)]
   ·rw [if_neg h1,if_neg (by omega)]
theorem fbase_length (l:List (Int × NodeM)) (lv i:Nat):(fbase l lv i).length=l.length:=by simp [fbase]
theorem rlev_top (a:Nat) (L:LevM):rlev a (top62 L)=(rlev a L).map fun p=>(p.1,{ p.2 with n:=big }):=by
 apply List.ext_getElem?
 intro j
 simp only [rlev,top62,List.getElem?_mapIdx,List.getElem?_map,Option.map_map]
 rfl
theorem rnodes_top (a:Nat) (R:List LevM):rnodes a (R.map top62)=(rnodes a R).map fun p=>(p.1,{ p.2 with n:=big }):=by
 induction R generalizing a with
 | nil=>rfl
 | cons L R ih =>
  simp only [List.map_cons,rnodes,List.map_append,rlev_top]
  rw [show (top62 L).l.length=L.l.length by simp [top62],ih]
theorem fbase_all (L:LevM) (R:List LevM) (N:Nat) (hN:(rnodes 0 (L::R)).length=N):fbase (rnodes 0 (L::R)) L.l.length N=rnodes 0 (L::R.map top62):=by
 apply List.ext_getElem?
 intro j
 have e:rnodes 0 (L::R.map top62)=rlev 0 L++(rnodes (0+L.l.length) R).map fun (p:Int × NodeM)=>(p.1,{ p.2 with n:=big }):=by
  simp only [rnodes,rnodes_top]
 rw [e]
 simp only [fbase,List.getElem?_mapIdx]
 simp only [rnodes] at hN ⊢
 by_cases hj:j<L.l.length
 ·rw [List.getElem?_append_left (by rw [rlev_length];exact hj),List.getElem?_append_left (by rw [rlev_length];exact hj)]
  cases (rlev 0 L)[j]? with
  | none=>rfl
  | some p =>
   simp only [Option.map_some,Option.some.injEq]
   rw [if_neg (by omega)]
 ·rw [List.getElem?_append_right (by rw [rlev_length];omega),List.getElem?_append_right (by rw [rlev_length];omega),List.getElem?_map,rlev_length]
  cases hq:(rnodes (0+L.l.length) R)[j - L.l.length]? with
  | none=>rfl
  | some p =>
   have h2:=(List.getElem?_eq_some_iff.1 hq).1
   rw [List.length_append,rlev_length] at hN
   simp only [Option.map_some,Option.some.injEq]
   rw [if_pos (by omega)]
theorem up_lt:∀ (T:List LevM) (a:Nat),Dims T→Strict T→∀ (i:Nat) (p:Int × NodeM),(rnodes a T)[i]?=some p→p.1 = -1∨(0≤p.1∧p.1<((a+offT T T.length:Nat):Int))
 | [],a,_,_,i,p,h=>by simp [rnodes] at h
 | L::R,a,hd,hs,i,p,h=>by
  simp only [rnodes] at h
  by_cases hi:i<L.l.length
  ·rw [List.getElem?_append_left (by rw [rlev_length];exact hi)] at h
   obtain ⟨x,hx⟩:∃ x,L.l[i]?=some x:=⟨_,List.getElem?_eq_getElem hi⟩
   rw [rlev_get hx] at h
   simp only [Option.some.injEq] at h
   rw [← h]
   simp only
   by_cases hne:1<L.w * L.h
   ·right
    have hL:=hd.len0
    have hp:=par_lt hd.pos0.1 (h:=L.h) (k:=i) (by rw [← hL];exact hi)
    have e:rUp a L.w L.h i=((a+L.w * L.h+par L.w i:Nat):Int):=by
     unfold rUp par
     rw [if_pos hne]
     congr 1
     omega
    cases R with
    | nil =>
     obtain ⟨e1,e2,-⟩:=hd
     rw [e1,e2] at hne
     omega
    | cons M R =>
     obtain ⟨hw,hh⟩:=hd.next hne
     have hM:=hd.tail.len0
     rw [hw,hh] at hM
     rw [e]
     simp only [offT,List.length_cons]
     omega
   ·left
    unfold rUp
    rw [if_neg hne]
  ·rw [List.getElem?_append_right (by rw [rlev_length];omega),rlev_length] at h
   have:=up_lt R (a+L.l.length) hd.tail hs.tail _ p h
   simp only [offT,List.length_cons]
   rw [Nat.add_assoc] at this
   exact this
theorem set_self' {α:Type} {l:List α} {i:Nat} {x:α} (h:l[i]?=some x):l.set i x=l:=by
 apply List.ext_getElem?
 intro j
 rw [List.getElem?_set]
 split
 ·rename_i e
  subst e
  rw [if_pos (List.getElem?_eq_some_iff.1 h).1,h]
 ·rfl
theorem fstep_fst (l:List (Int × NodeM)) (i:Nat):(fstep l i).map (·.1)=l.map (·.1):=by
 unfold fstep
 split
 ·rfl
 ·split
  ·split
   ·rfl
   ·rename_i q hq
    rw [List.map_set]
    exact set_self' (by rw [List.getElem?_map,hq];rfl)
  ·rfl
theorem fold_fst (l:List (Int × NodeM)):∀ i,((List.range i).foldl fstep l).map (·.1)=l.map (·.1)
 | 0=>rfl
 | i+1=>by
  rw [List.range_succ,List.foldl_append]
  exact (fstep_fst _ i).trans (fold_fst l i)
theorem dims_top {L:LevM} {R:List LevM} (h:Dims (L::R)):Dims (L::R.map top62):=by
 induction R generalizing L with
 | nil=>exact h
 | cons M R ih =>
  obtain ⟨h1,h2,h3,h4,h5,h6⟩:=h
  refine ⟨h1,h2,h3,h4,h5,?_⟩
  have:=ih h6
  cases R with
  | nil=>exact ⟨this.1,this.2.1,by simp only [top62,List.length_map];exact this.2.2⟩
  | cons N R=>exact ⟨this.1,this.2.1,by simp only [top62,List.length_map];exact this.2.2.1,this.2.2.2.1,this.2.2.2.2.1,this.2.2.2.2.2⟩
theorem strict_map {T:List LevM} (f:LevM→LevM) (hf:∀ L,(f L).w=L.w∧(f L).h=L.h) (h:Strict T):Strict (T.map f):=by
 intro A B C ⟨P,hP⟩
 have e:=congrArg List.length hP
 obtain ⟨P',Q,e1,e2,e3⟩:=List.map_eq_append_iff.1 hP.symm
 obtain ⟨A',Q1,e4,e5,e6⟩:=List.map_eq_cons_iff.1 e3
 obtain ⟨B',Q2,e7,e8,e9⟩:=List.map_eq_cons_iff.1 e6
 rw [← e5,(hf A').1,(hf A').2]
 exact h A' B' Q2 ⟨P',by rw [e1,e4,e7]⟩
theorem strict_top {L:LevM} {R:List LevM} (h:Strict (L::R)):Strict (L::R.map top62):=by
 have h1:=strict_map top62 (fun _=>⟨rfl,rfl⟩) h
 intro A B C hs
 rcases List.suffix_cons_iff.1 hs with e | e
 ·obtain ⟨e1,e2⟩:=List.cons.inj e
  subst e1
  cases R with
  | nil=>simp at e2
  | cons M R=>exact h.head
 ·exact h1 A B C (e.trans (List.suffix_cons _ _))
theorem fill_mv {W w w':World} {H0 Hl Hl':List HB} {X:HB} (m:Mv W H0 w (X::Hl)) (m2:Mv w Hl w' Hl'):Mv W H0 w' (X::Hl'):=by
 have h1:Mv W H0 w (Hl++[X]):=m.sub (fun g=>by simp only [cnt_append,cnt_cons,cnt_nil];omega) (fun c hc=>by simp only [List.mem_append,List.mem_cons,List.not_mem_nil,or_false] at hc ⊢;grind)
 exact (Mv.call h1 m2).sub (fun g=>by simp only [cnt_append,cnt_cons,cnt_nil];omega) (fun c hc=>by simp only [List.mem_append,List.mem_cons,List.not_mem_nil,or_false] at hc ⊢;grind)
theorem rfill_any (tb:Nat) (L:LevM) (R:List LevM) (fr:Bool) (H:List HB) (W:World) (h:RTreeH tb (L::R) fr H) (hs:Sat W H) (hd:Dims (L::R)) (hst:Strict (L::R)) (hN:offT (L::R) (L::R).length≤100000) :
  Calls Tryz.prog 80 #[.pointer (some ⟨tb,0,none⟩)] W fun e w'=>e=.returned (.tuple #[])∧∃ H',RTreeH tb (if fr=true then L::R else fillT (L::R)) true H'∧Mv W H w' H':=by
 cases fr with
 | true =>
  rw [if_pos rfl]
  obtain ⟨v,Hl,rfl,hr⟩:=h
  have c2:W.cell? ⟨tb,2,none⟩=some (.bool true):=(Mv.refl hs).cell 0 rfl 2
  have K:=Lib.hid (And.intro hr (Mv.refl hs))
  clear hr hs hd hst hN
  go_enter Tryz.func80,Tryz.ntmps80
  go_wp2_with fail
  exact bodyPost_ret (results_none rfl _ _ _) rfl ⟨rfl,_,⟨v,Hl,rfl,K.out.1⟩,K.out.2⟩
 | false =>
  rw [if_neg (by simp)]
  obtain ⟨v,Hl,rfl,hr⟩:=h
  obtain ⟨N,hNN⟩:∃ N,(rnodes 0 (L::R)).length=N:=⟨_,rfl⟩
  have hlen:=rnodes_length 0 (L::R)
  rw [hNN] at hr hlen
  have hpos:=hd.pos0
  have hL0:=hd.len0
  have hlp:1≤L.l.length:=by rw [hL0];exact Nat.mul_pos hpos.1 hpos.2
  have hle:=offT_le (T:=L::R) (j:=0) rfl
  simp only [offT,Nat.zero_add] at hle hlen hN
  simp only [List.length_cons,offT] at hlen hN hle
  obtain ⟨g,vc,cur,rfl,-⟩:=hr.form (by omega)
  obtain ⟨ln,hln⟩:∃ ln,L.l.length=ln:=⟨_,rfl⟩
  obtain ⟨X,hX⟩:∃ X:HB,X=RTreeX tb (.slice (some ⟨g,0,none⟩) N vc) (ln:Int) true:=⟨_,rfl⟩
  have hlv:leavesM (L::R)=ln:=hln
  have M0:Mv W (RTreeX tb (.slice (some ⟨g,0,none⟩) N vc) (ln:Int) false::Hl) W (RTreeX tb (.slice (some ⟨g,0,none⟩) N vc) (ln:Int) false::Hl):=Mv.refl (by rw [hlv] at hs;exact hs)
  have hs2:(⟨tb,159,#[.slice (some ⟨g,0,none⟩) N vc,.int .i64 (leavesM (L::R):Int),.bool false]⟩:HB)=RTreeX tb (.slice (some ⟨g,0,none⟩) N vc) (ln:Int) false:=by rw [hlv];rfl
  rw [hs2]
  obtain ⟨H0,hH0⟩:∃ H0,RTreeX tb (.slice (some ⟨g,0,none⟩) N vc) (ln:Int) false::Hl=H0:=⟨_,rfl⟩
  have c2:W.cell? ⟨tb,2,none⟩=some (.bool false):=M0.cell 0 rfl 2
  have f2:W.frozen? ⟨tb,2,none⟩=false:=M0.frozen 0 rfl 2
  have M1:=M0.set 2 (.bool true)
  obtain ⟨w1,hw1⟩:∃ w1,w1=W.setCell ⟨tb,2,none⟩ (.bool true):=⟨_,rfl⟩
  rw [← hw1] at M1
  replace M1:Mv W H0 w1 (X::Hl):=by rw [← hH0,hX];exact M1
  rw [hH0]
  have K1:=Lib.hid (And.intro hr M1)
  have XC:Hid (∀ V Y,Sat V (X::Y)→V.cell? ⟨tb,0,none⟩=some (.slice (some ⟨g,0,none⟩) N vc)∧V.cell? ⟨tb,1,none⟩=some (.int .i64 (ln:Int))):=Lib.hid (fun V Y hV=>by
   have hb:=hV.at_ 0 (g:=tb) (t:=X.t) (cs:=X.cs) (by rw [hX];rfl)
   rw [hX] at hb
   exact ⟨hb.cell 0,hb.cell 1⟩)
  have UP:=up_lt (L::R) 0 hd hst
  have hoff:0+offT (L::R) (L::R).length=N:=by simp only [List.length_cons,offT];omega
  rw [hoff] at UP
  have FA:=fbase_all L R N hNN
  have FF:=fill_flat (R.map top62) L [] 0 rfl
  have HB1:=Lib.hid (And.intro hd (And.intro hst (And.intro hNN (And.intro UP (And.intro FA hX)))))
  rw [hln] at hlp hle
  have HLN:=Lib.hid hln
  have hN2:N≤100000:=by omega
  have hln2:ln≤N:=by omega
  clear M0 M1 hr hs hs2 hNN hlen hd hst hN hX hL0 hH0 UP FA FF hoff hlv hpos hlp hle hln
  go_enter Tryz.func80,Tryz.ntmps80
  go_upto_region 2 with fail
  rw [← hw1]
  clear hw1 c2 f2
  obtain ⟨c0,c1⟩:=XC.out w1 _ K1.out.2.sat
  go_wp2_with fail
  clear c0 c1
  go_loopg [2] (N - ln) (fun mm s2 wx=>∃ (i:Nat) (Hl':List YtjngfhgakokejaaGreat.HB),ln≤i∧i≤N∧mm=N - i∧s2=.int .i64 (i:Int)∧RowH 162 4 (.slice (some ⟨g,0,none⟩) N vc) N (rnodesV (fbase (rnodes 0 (L::R)) ln i)) Hl'∧Mv W H0 wx (X::Hl'))
  case atStart=>exact ⟨ln,Hl,Nat.le_refl _,hln2,rfl,rfl,by rw [fbase_start];exact K1.out.1,K1.out.2⟩
  case round =>
   clear K1
   obtain ⟨i,Hl1,hi1,hi2,rfl,rfl,hr,m⟩:=hrel
   obtain ⟨c0,c1⟩:=XC.out _ _ m.sat
   by_cases hlt:i<N
   ·have d1:decide ((i:Int)<(N:Int))=true:=by simp;omega
    have hiN:(i:Int)<(N:Int):=by omega
    obtain ⟨p,hp⟩:∃ p,(rnodes 0 (L::R))[i]?=some p:=⟨_,List.getElem?_eq_getElem (by rw [HB1.out.2.2.1];exact hlt)⟩
    have hg:=fbase_get (lv:=ln) (i:=i) hp
    obtain ⟨z0,zf⟩:=hr.cell (Sat.right (A:=[_]) m.sat) rfl (i * 4) (by omega)
    rw [(rnodesV_get hg).1] at z0
    obtain ⟨H2,r2,m2⟩:=hr.set (Sat.right (A:=[_]) m.sat) rfl (i * 4) (.int .i64 big) (by omega)
    have e:=rnodesV_set hg (p.1,{ p.2 with n:=big }) 0 (by omega) (.int .i64 big) rfl
    rw [Nat.add_zero] at e
    rw [e,fbase_step hp hi1] at r2
    have M2:Mv W H0 _ (X::H2):=fill_mv m m2
    have K:=Lib.hid (And.intro r2 M2)
    have hi4:i<100000:=by omega
    clear hr m hp hg e r2 m2 M2 c1
    go_wp2_with fail
    go_roundg (N - (i+1))
    case measure=>omega
    case rel=>exact ⟨i+1,H2,by omega,hlt,rfl,by push_cast;rfl,K.out.1,K.out.2⟩
   ·obtain rfl:i=N:=by omega
    have d1:decide ((i:Int)<(i:Int))=false:=by simp
    rw [show ln=L.l.length from HLN.out.symm,HB1.out.2.2.2.2.1] at hr
    obtain ⟨l0,hl0⟩:∃ l0,rnodes 0 (L::R.map top62)=l0:=⟨_,rfl⟩
    rw [hl0] at hr
    have hl0n:l0.length=i:=by rw [← hl0,← HB1.out.2.2.2.2.1,fbase_length,HB1.out.2.2.1]
    have hfst:l0.map (·.1)=(rnodes 0 (L::R)).map (·.1):=by
     rw [← hl0]
     simp only [rnodes,List.map_append,rnodes_top,List.map_map]
     rfl
    have K2:=Lib.hid (And.intro hr m)
    have HZ:=Lib.hid (And.intro hl0 (And.intro hl0n hfst))
    clear hr m hl0 hl0n hfst c1 hlt
    go_wp2_with fail
    go_loopg [3] i (fun mm s3 wx=>∃ (j:Nat) (Hl':List YtjngfhgakokejaaGreat.HB),j≤i∧mm=i - j∧s3=.int .i64 (j:Int)∧RowH 162 4 (.slice (some ⟨g,0,none⟩) i vc) i (rnodesV ((List.range j).foldl fstep l0)) Hl'∧Mv W H0 wx (X::Hl'))
    case atStart=>exact ⟨0,Hl1,Nat.zero_le _,rfl,rfl,K2.out.1,K2.out.2⟩
    case round =>
     clear K2 c0
     obtain ⟨j,Hl2,hj,rfl,rfl,hr,m⟩:=hrel
     obtain ⟨c0,c1⟩:=XC.out _ _ m.sat
     by_cases hlt:j<i
     ·have d2:decide ((j:Int)<(i:Int))=true:=by simp;omega
      have hjN:(j:Int)<(i:Int):=by omega
      obtain ⟨l1,hl1⟩:∃ l1,(List.range j).foldl fstep l0=l1:=⟨_,rfl⟩
      have hstep:(List.range (j+1)).foldl fstep l0=fstep l1 j:=by rw [List.range_succ,List.foldl_append,hl1];rfl
      have hf1:l1.map (·.1)=(rnodes 0 (L::R)).map (·.1):=by rw [← hl1,fold_fst,HZ.out.2.2]
      have hl1n:l1.length=i:=by
       have:=congrArg List.length hf1
       rw [List.length_map,List.length_map,HB1.out.2.2.1] at this
       exact this
      rw [hl1] at hr
      obtain ⟨p,hp⟩:∃ p,l1[j]?=some p:=⟨_,List.getElem?_eq_getElem (by omega)⟩
      have hup:p.1 = -1∨(0≤p.1∧p.1<(i:Int)):=by
       have h1:(l1.map (·.1))[j]?=some p.1:=by rw [List.getElem?_map,hp];rfl
       rw [hf1,List.getElem?_map] at h1
       obtain ⟨q,hq,hq2⟩:=Option.map_eq_some_iff.1 h1
       rw [← hq2]
       exact HB1.out.2.2.2.1 j q hq
      have z3:=(hr.cell (Sat.right (A:=[_]) m.sat) rfl (j * 4+3) (by omega)).1
      have z0:=(hr.cell (Sat.right (A:=[_]) m.sat) rfl (j * 4) (by omega)).1
      rw [(rnodesV_get hp).2.2.2] at z3
      rw [(rnodesV_get hp).1] at z0
      have hj4:j<100000:=by omega
      rcases hup with hu | ⟨hu1,hu2⟩
      ·rw [hu] at z3
       have hfs:fstep l1 j=l1:=by
        unfold fstep
        rw [hp]
        simp only
        rw [if_neg (by omega)]
       have K:=Lib.hid (And.intro hr (And.intro m (hstep.trans hfs)))
       clear hr m hl1 hstep hf1 hl1n hp hfs hu c1
       go_wp2_with fail
       go_roundg (i - (j+1))
       case measure=>omega
       case rel=>exact ⟨j+1,Hl2,hlt,rfl,by push_cast;rfl,by rw [K.out.2.2];exact K.out.1,K.out.2.1⟩
      ·obtain ⟨u,hu⟩:=Int.eq_ofNat_of_zero_le hu1
       rw [hu] at z3
       have hui:u<i:=by omega
       obtain ⟨q,hq⟩:∃ q,l1[u]?=some q:=⟨_,List.getElem?_eq_getElem (by omega)⟩
       obtain ⟨y0,yf⟩:=hr.cell (Sat.right (A:=[_]) m.sat) rfl (u * 4) (by omega)
       rw [(rnodesV_get hq).1] at y0
       have hfs:fstep l1 j=l1.set u (q.1,{ q.2 with n:=min q.2.n p.2.n }):=by
        unfold fstep
        rw [hp]
        simp only
        rw [hu,if_pos (by omega),Int.toNat_natCast,hq]
       obtain ⟨H2,r2,m2⟩:=hr.set (Sat.right (A:=[_]) m.sat) rfl (u * 4) (.int .i64 (min q.2.n p.2.n)) (by omega)
       have e:=rnodesV_set hq (q.1,{ q.2 with n:=min q.2.n p.2.n }) 0 (by omega) (.int .i64 (min q.2.n p.2.n)) rfl
       rw [Nat.add_zero] at e
       rw [e,← hfs,← hstep] at r2
       have M2:Mv W H0 _ (X::H2):=fill_mv m m2
       obtain ⟨nq,hnq⟩:∃ nq,q.2.n=nq:=⟨_,rfl⟩
       obtain ⟨np,hnp⟩:∃ np,p.2.n=np:=⟨_,rfl⟩
       rw [hnq] at y0 M2
       rw [hnp] at z0 M2
       have hmin:(if np<nq then np else nq)=min nq np:=by split <;> omega
       have K:=Lib.hid (And.intro r2 (And.intro M2 hmin))
       have hu4:u<100000:=by omega
       have huN:(u:Int)<(i:Int):=by omega
       have d3:decide (0≤(u:Int))=true:=by simp
       clear hr m hl1 hstep hf1 hl1n hp hfs hq e r2 m2 M2 hnq hnp hmin hu hu1 hu2 c1
       go_upto_region 11 with fail
       go_still_tail 24,(by kernel_rfl)
       go_wp2_with fail
       all_goals
        have M3:=K.out.2.1
        first
         | rw [show min nq np=np by omega] at M3
         | rw [show min nq np=nq by omega] at M3
        have KM:=Lib.hid M3
        clear M3
        go_roundg (i - (j+1))
        case measure=>omega
        case rel=>exact ⟨j+1,H2,hlt,rfl,by push_cast;rfl,K.out.1,KM.out.drew⟩
     ·obtain rfl:j=i:=by omega
      have d2:decide ((j:Int)<(j:Int))=false:=by simp
      have FF:=fill_flat (R.map top62) L [] 0 rfl (dims_top HB1.out.1) (strict_top HB1.out.2.1)
      rw [List.nil_append,List.nil_append,HZ.out.1,HZ.out.2.1,show (List.range j).map (0+·)=List.range j by simp] at FF
      rw [FF] at hr
      have K:=Lib.hid (And.intro hr m)
      have HR2:Hid ((rnodes 0 (fillT (L::R))).length=j∧leavesM (fillT (L::R))=ln∧X=RTreeX tb (.slice (some ⟨g,0,none⟩) j vc) (ln:Int) true):=Lib.hid ⟨by
       have h1:=congrArg List.length FF
       have h2:((List.range j).foldl fstep l0).length=j:=by
        have h3:=congrArg List.length (fold_fst l0 j)
        rw [List.length_map,List.length_map,HZ.out.2.1] at h3
        exact h3
       rw [h2] at h1
       exact h1.symm,HLN.out,HB1.out.2.2.2.2.2⟩
      clear FF hr m c1 hlt
      go_wp2_with fail
      refine bodyPost_end (results_none rfl _ _ _) rfl ⟨rfl,X::Hl2,⟨.slice (some ⟨g,0,none⟩) j vc,Hl2,?_,?_⟩,K.out.2⟩
      ·rw [HR2.out.2.2,HR2.out.2.1]
       rfl
      ·rw [HR2.out.1]
       exact K.out.1
end
section
open Go.RowKit
def RWrS (wb:Nat) (s:List UInt8 × UInt8 × Nat) (H:List HB):Prop :=
 ∃ v Hr,H=⟨wb,156,#[v,.int .i64 (s.2.1.toNat:Int),.int .i64 (s.2.2:Int)]⟩::Hr∧RowB v s.1 Hr
def RWrB (wb:Nat) (bs:List Bool) (H:List HB):Prop:=RWrS wb (rbits bs) H
theorem rbits_inv (bs:List Bool):1≤(rbits bs).2.2∧(rbits bs).2.2≤8∧(rbits bs).1.length≤bs.length:=by
 have h:∀ (l:List Bool) (s:List UInt8 × UInt8 × Nat),1≤s.2.2∧s.2.2≤8→(1≤(l.foldl rbit s).2.2∧(l.foldl rbit s).2.2≤8)∧(l.foldl rbit s).1.length≤s.1.length+l.length:=by
  intro l
  induction l with
  | nil=>intro s h;exact ⟨h,by simp⟩
  | cons b l ih =>
   intro s h
   have h2:(1≤(rbit s b).2.2∧(rbit s b).2.2≤8)∧(rbit s b).1.length≤s.1.length+1:=by
    by_cases hf:s.2.2=1
    ·have e:rbit s b=(s.1++[s.2.1 ||| (if b then (1:UInt8) <<< UInt8.ofNat (s.2.2 - 1) else 0)],0,if s.2.1 ||| (if b then (1:UInt8) <<< UInt8.ofNat (s.2.2 - 1) else 0)=255 then 7 else 8):=by unfold rbit;simp only [hf,if_true]
     rw [e]
     refine ⟨?_,by simp⟩
     generalize s.2.1 ||| (if b then (1:UInt8) <<< UInt8.ofNat (s.2.2 - 1) else 0)=q
     by_cases hq:q=255
     ·simp [hq]
     ·simp [hq]
    ·have e:rbit s b=(s.1,s.2.1 ||| (if b then (1:UInt8) <<< UInt8.ofNat (s.2.2 - 1) else 0),s.2.2 - 1):=by unfold rbit;simp only [hf,if_false]
     rw [e]
     exact ⟨by simp only;omega,by simp⟩
   obtain ⟨k1,k2⟩:=ih (rbit s b) h2.1
   refine ⟨k1,?_⟩
   have:=h2.2
   simp only [List.foldl_cons,List.length_cons]
   omega
 have:=h bs ([],0,8) ⟨by decide,by decide⟩
 exact ⟨this.1.1,this.1.2,by have h2:=this.2;rw [List.length_nil,Nat.zero_add] at h2;exact h2⟩
theorem or_bitw (c:UInt8) (k:Nat) (hk:k<8):bits .or .i64 (c.toNat:Int) ((2:Int) ^ k)=((c ||| (1:UInt8) <<< UInt8.ofNat k).toNat:Int):=by
 have key:∀ c<256,∀ k<8,bits .or .i64 ((c:Nat):Int) ((2:Int) ^ k)=(((UInt8.ofNat c) ||| (1:UInt8) <<< UInt8.ofNat k).toNat:Int):=by decide +kernel
 have h:=key c.toNat (UInt8.toNat_lt c) k hk
 rwa [UInt8.ofNat_toNat] at h
theorem or_zero (c:UInt8):bits .or .i64 (c.toNat:Int) 0=(c.toNat:Int):=by
 have key:∀ c<256,bits .or .i64 ((c:Nat):Int) 0=((c:Nat):Int):=by decide +kernel
 exact key c.toNat (UInt8.toNat_lt c)
theorem pow_k (k:Nat) (hk:k<8):wrap64 ((2:Int) ^ k)=(2:Int) ^ k:=by
 have key:∀ k<8,wrap64 ((2:Int) ^ k)=(2:Int) ^ k:=by decide +kernel
 exact key k hk
theorem cur_bit (c:UInt8) (b:Int) (k:Nat) (hk:k<8):bits .or .i64 (c.toNat:Int) (wrap64 (bits .and .i64 b 1 * 2 ^ k))=((c ||| (if decide (b % 2=1)=true then (1:UInt8) <<< UInt8.ofNat k else 0)).toNat:Int):=by
 rw [i64_and1]
 have h:b % 2=0∨b % 2=1:=by omega
 rcases h with h | h
 ·rw [h,Int.zero_mul,show wrap64 0=0 by unfold wrap64;omega,or_zero,if_neg (by simp)]
  simp
 ·rw [h,Int.one_mul,pow_k k hk,or_bitw c k hk,if_pos (by simp)]
theorem Mv.behindY {w0 w:World} {H0 B:List HB} {x y:HB} (h:Mv w0 H0 w (x::y::B)):Mv w0 H0 w (B++[x,y]) :=
 h.sub (fun g=>by simp only [cnt_append,cnt_cons,cnt_nil];omega) (fun c hc=>by simp only [List.mem_append,List.mem_cons] at hc ⊢;grind)
theorem Mv.secondY {w0 w:World} {H0 A:List HB} {x y:HB} (h:Mv w0 H0 w (A++[x,y])):Mv w0 H0 w (y::A) :=
 h.sub (fun g=>by simp only [cnt_append,cnt_cons,cnt_nil];omega) (fun c hc=>by simp only [List.mem_append,List.mem_cons] at hc ⊢;grind)
def rwB (wb:Nat) (v:Value) (c f:Int):HB:=⟨wb,156,#[v,.int .i64 c,.int .i64 f]⟩
theorem rbit_any (wb:Nat) (s:List UInt8 × UInt8 × Nat) (b:Int) (w:World) (H:List HB) (h:RWrS wb s H) (hs:Sat w H) (h1:1≤s.2.2) (h8:s.2.2≤8) (hl:s.1.length≤80000000) :
  Calls Tryz.prog 35 #[.pointer (some ⟨wb,0,none⟩),.int .i64 b] w fun e w'=>e=.returned (.tuple #[])∧∃ H',RWrS wb (rbit s (decide (b % 2=1))) H'∧Mv w H w' H':=by
 obtain ⟨l,c,f⟩:=s
 obtain ⟨v,Hr,rfl,hr⟩:=h
 simp only at hr h1 h8 hl hs ⊢
 obtain ⟨k,rfl⟩:∃ k,f=k+1:=⟨f - 1,by omega⟩
 have CB:=cur_bit c b k (by omega)
 have hm:rbit (l,c,k+1) (decide (b % 2=1))=if k=0 then (l++[c ||| (if decide (b % 2=1)=true then (1:UInt8) <<< UInt8.ofNat k else 0)],0,if c ||| (if decide (b % 2=1)=true then (1:UInt8) <<< UInt8.ofNat k else 0)=255 then 7 else 8) else (l,c ||| (if decide (b % 2=1)=true then (1:UInt8) <<< UInt8.ofNat k else 0),k):=by
  unfold rbit
  simp only [Nat.add_sub_cancel,Nat.add_eq_right]
 rw [hm]
 obtain ⟨x,hx⟩:∃ x,c ||| (if decide (b % 2=1)=true then (1:UInt8) <<< UInt8.ofNat k else 0)=x:=⟨_,rfl⟩
 rw [hx] at CB
 simp only [hx]
 obtain ⟨fr,hfr⟩:∃ fr:Nat,(if x=255 then 7 else 8)=fr:=⟨_,rfl⟩
 rw [hfr]
 have HF:=Lib.hid hfr
 obtain ⟨S,hS⟩:∃ S:List UInt8 × UInt8 × Nat,(if k=0 then (l++[x],0,fr) else (l,x,k))=S:=⟨_,rfl⟩
 rw [hS]
 have HS:=Lib.hid hS
 clear hfr hS
 have hk64:min k 64=k:=by omega
 rw [← hk64] at CB
 have VO:=Lib.hid CB
 have hk8:k<8:=by omega
 obtain ⟨n,hn⟩:∃ n,l.length=n:=⟨_,rfl⟩
 obtain ⟨va,vc,rfl⟩:=hr.slice
 have M0:=Mv.refl hs
 rw [hn] at hr M0 ⊢
 obtain ⟨ci,hci⟩:∃ ci:Int,(c.toNat:Int)=ci:=⟨_,rfl⟩
 rw [hci] at VO M0 ⊢
 rw [show ((k+1:Nat):Int)=(k:Int)+1 by push_cast;rfl] at M0 ⊢
 replace M0:Mv w (rwB wb (.slice va n vc) ci ((k:Int)+1)::Hr) w (rwB wb (.slice va n vc) ci ((k:Int)+1)::Hr):=M0
 have c2:w.cell? ⟨wb,2,none⟩=some (.int .i64 ((k:Int)+1)):=M0.cell 0 rfl 2
 have f2:w.frozen? ⟨wb,2,none⟩=false:=M0.frozen 0 rfl 2
 have M1:=M0.set 2 (.int .i64 (k:Int))
 obtain ⟨w1,hw1⟩:∃ w1,w1=w.setCell ⟨wb,2,none⟩ (.int .i64 (k:Int)):=⟨_,rfl⟩
 rw [← hw1] at M1
 replace M1:Mv w (rwB wb (.slice va n vc) ci ((k:Int)+1)::Hr) w1 (rwB wb (.slice va n vc) ci (k:Int)::Hr):=M1
 have HW:=Lib.hid hw1
 have K1:=Lib.hid (And.intro hr M1)
 have HL:=Lib.hid hn
 have hn8:n≤80000000:=by omega
 clear hw1 hr M0 M1 hs CB hm hk64 h1 h8 hl hx hci
 show Calls Tryz.prog _ _ w fun e w'=>e=.returned (.tuple #[])∧∃ H',RWrS wb S H'∧Mv w (rwB wb (.slice va n vc) ci ((k:Int)+1)::Hr) w' H'
 go_enter Tryz.func35,Tryz.ntmps35
 go_upto_region 1 with fail
 rw [← HW.out]
 clear HW c2 f2
 have e1:w1.drew.cell? ⟨wb,1,none⟩=some (.int .i64 ci):=K1.out.2.drew.cell 0 rfl 1
 have e2:w1.drew.cell? ⟨wb,2,none⟩=some (.int .i64 (k:Int)):=K1.out.2.drew.cell 0 rfl 2
 have g1:w1.drew.frozen? ⟨wb,1,none⟩=false:=K1.out.2.drew.frozen 0 rfl 1
 go_still_tail 16,(by kernel_rfl)
 change wpList _ _ _ _ _ w1.drew
 have K1d:=Lib.hid K1.out.2.drew
 generalize w1.drew=wd at *
 go_upto_region 2 with fail
 rw [VO.out]
 have M2:=K1d.out.set 1 (.int .i64 (x.toNat:Int))
 obtain ⟨w3,hw3⟩:∃ w3,w3=wd.setCell ⟨wb,1,none⟩ (.int .i64 (x.toNat:Int)):=⟨_,rfl⟩
 rw [← hw3] at M2 ⊢
 replace M2:Mv w (rwB wb (.slice va n vc) ci ((k:Int)+1)::Hr) w3 (rwB wb (.slice va n vc) (x.toNat:Int) (k:Int)::Hr):=M2
 have K2:=Lib.hid (And.intro K1.out.1 M2)
 have y2:w3.cell? ⟨wb,2,none⟩=some (.int .i64 (k:Int)):=M2.cell 0 rfl 2
 have hx256:=UInt8.toNat_lt x
 clear M2 K1 K1d VO hn hw3 e1 e2 g1
 by_cases hk:k=0
 case neg =>
  have d1:((k:Int) == 0)=false:=beq_eq_false_iff_ne.2 (by omega)
  have HK:=Lib.hid hk
  clear hk
  go_wp2_with fail
  refine bodyPost_end (results_none rfl _ _ _) rfl ⟨rfl,_,?_,K2.out.2⟩
  rw [← HS.out,if_neg HK.out]
  exact ⟨_,Hr,rfl,K2.out.1⟩
 case pos =>
  subst hk
  have z2:w3.frozen? ⟨wb,2,none⟩=false:=K2.out.2.frozen 0 rfl 2
  have z1:w3.cell? ⟨wb,1,none⟩=some (.int .i64 (x.toNat:Int)):=K2.out.2.cell 0 rfl 1
  have M3:=K2.out.2.set 2 (.int .i64 8)
  obtain ⟨w4,hw4⟩:∃ w4,w4=w3.setCell ⟨wb,2,none⟩ (.int .i64 8):=⟨_,rfl⟩
  rw [← hw4] at M3
  replace M3:Mv w (rwB wb (.slice va n vc) ci (((0:Nat):Int)+1)::Hr) w4 (rwB wb (.slice va n vc) (x.toNat:Int) 8::Hr):=M3
  go_upto_region 4 with fail
  rw [← hw4]
  have x1:w4.cell? ⟨wb,1,none⟩=some (.int .i64 (x.toNat:Int)):=M3.cell 0 rfl 1
  have x2:w4.cell? ⟨wb,2,none⟩=some (.int .i64 8):=M3.cell 0 rfl 2
  have xf:w4.frozen? ⟨wb,2,none⟩=false:=M3.frozen 0 rfl 2
  have K3:=Lib.hid (And.intro K2.out.1 M3)
  clear M3 hw4 y2 z2 z1 K2
  go_upto_if 39 with fail
  go_cut [39] from 40 (fun _ wx=>Mv w (rwB wb (.slice va n vc) ci (((0:Nat):Int)+1)::Hr) wx (rwB wb (.slice va n vc) (x.toNat:Int) (fr:Int)::Hr))
  case first =>
   by_cases h255:x=255
   ·have d3:((x.toNat:Int) == 255)=true:=by rw [h255];rfl
    have HF2:Hid (fr=7):=Lib.hid (by rw [← HF.out,if_pos h255])
    clear h255 HF
    go_wp2_with fail
    go_meet
    rw [HF2.out]
    exact K3.out.2.set 2 (.int .i64 7)
   ·have d3:((x.toNat:Int) == 255)=false:=beq_eq_false_iff_ne.2 (fun h=>h255 (UInt8.toNat_inj.1 (by show x.toNat=255;omega)))
    have HF2:Hid (fr=8):=Lib.hid (by rw [← HF.out,if_neg h255])
    clear h255 HF
    go_wp2_with fail
    go_meet
    rw [HF2.out]
    exact K3.out.2
  case rest =>
   have hx8:IntKind.u8.wrap (x.toNat:Int)=(x.toNat:Int):=by rw [IntKind.wrap_u8];omega
   have e0:wc.cell? ⟨wb,0,none⟩=some (.slice va n vc):=hcut.cell 0 rfl 0
   have e1:wc.cell? ⟨wb,1,none⟩=some (.int .i64 (x.toNat:Int)):=hcut.cell 0 rfl 1
   have M1':=hcut.alloc 5 #[.int .u8 (x.toNat:Int)]
   have y7:(wc.alloc (.cells #[.int .u8 (x.toNat:Int)] 5)).cell? ⟨wb,0,none⟩=some (.slice va n vc):=M1'.cell 1 rfl 0
   have A1:Hid (BV (wc.alloc (.cells #[.int .u8 (x.toNat:Int)] 5)).drew (.slice (some ⟨wc.heap.size,0,none⟩) 1 1) [x]):=Lib.hid (bv_one wc x _ rfl)
   have K4:=Lib.hid (Mv.behindY M1'.drew)
   have hr:=K3.out.1
   rw [← HL.out] at hr
   have KR:=Lib.hid hr
   clear M1' hcut hr x1 x2 xf
   go_upto_region 6 with fail
   go_region_law (first
    | ((with_reducible refine step_appB (o:=⟨some 54,_,_,_,_,_⟩) (v:=.slice va n vc) (u:=.slice (some ⟨wc.heap.size,0,none⟩) 1 1) (l:=l) (r:=[x]) (H:=Hr) rfl (.tmp 47) (.tmp 53) rfl ?_ ?_ K3.out.1 K4.out.sat.left A1.out ?_ ?_);simp [Act.eval];simp [Act.eval];(simp [HL.out];omega);intro v6 w6 H6 hr6 m6;obtain ⟨a6,c6,rfl⟩:=hr6.slice;have M6:=Mv.secondY (Mv.call K4.out m6);have y3:w6.cell? ⟨wb,0,none⟩=some (.slice va n vc):=(by first | exact M6.cell 0 rfl 0);have z3:w6.frozen? ⟨wb,0,none⟩=false:=(by first | exact M6.frozen 0 rfl 0);have K6:=Lib.hid (And.intro hr6 M6);clear hr6 m6 M6))
   all_goals
    have M7:=K6.out.2.set 0 (.slice a6 (l.length+1) c6)
    obtain ⟨w7,hw7⟩:∃ w7,w7=w6.setCell ⟨wb,0,none⟩ (.slice a6 (l.length+1) c6):=⟨_,rfl⟩
    rw [← hw7] at M7 ⊢
    replace M7:Mv w (rwB wb (.slice va n vc) ci (((0:Nat):Int)+1)::Hr) w7 (rwB wb (.slice a6 (l.length+1) c6) (x.toNat:Int) (fr:Int)::H6):=M7
    have n1:w7.frozen? ⟨wb,1,none⟩=false:=M7.frozen 0 rfl 1
    have n2:w7.cell? ⟨wb,1,none⟩=some (.int .i64 (x.toNat:Int)):=M7.cell 0 rfl 1
    have K7:=Lib.hid M7
    have h6:RowB (.slice a6 (l.length+1) c6) (l++[x]) H6:=by
     have:=K6.out.1
     simp only [List.length_append,List.length_cons,List.length_nil,Nat.zero_add] at this
     exact this
    have HR:=Lib.hid h6
    clear hw7 M7 y3 z3 e0 e1 y7 K6 h6 hx8
    go_wp2_with fail
    have M9:Mv w (rwB wb (.slice va n vc) ci (((0:Nat):Int)+1)::Hr) _ (rwB wb (.slice a6 (l.length+1) c6) 0 (fr:Int)::H6):=K7.out.set 1 (.int .i64 0)
    refine bodyPost_end (results_none rfl _ _ _) rfl ⟨rfl,_,?_,M9⟩
    rw [← HS.out]
    simp only [if_true]
    exact ⟨_,H6,rfl,HR.out⟩
theorem rbit_bs (wb:Nat) (bs:List Bool) (b:Int) (w:World) (H:List HB) (h:RWrB wb bs H) (hs:Sat w H) (hl:bs.length≤80000000) :
  Calls Tryz.prog 35 #[.pointer (some ⟨wb,0,none⟩),.int .i64 b] w fun e w'=>e=.returned (.tuple #[])∧∃ H',RWrB wb (bs++[decide (b % 2=1)]) H'∧Mv w H w' H':=by
 obtain ⟨h1,h2,h3⟩:=rbits_inv bs
 unfold RWrB
 rw [rbits_snoc]
 exact rbit_any wb (rbits bs) b w H h hs h1 h2 (by omega)
theorem rnew_writer (w:World):Calls Tryz.prog 32 #[] w fun e w'=>∃ wb H',e=.returned (.pointer (some ⟨wb,0,none⟩))∧RWrB wb [] H'∧Mv w [] w' H':=by
 have M:=mv_alloc w 156 #[.slice none 0 0,.int .i64 0,.int .i64 8]
 have R:RWrB w.heap.size [] [⟨w.heap.size,156,#[.slice none 0 0,.int .i64 0,.int .i64 8]⟩]:=⟨.slice none 0 0,[],rfl,RowH.nil _ _⟩
 have K:=Lib.hid (And.intro R M)
 clear R M
 go_enter Tryz.func32,Tryz.ntmps32
 go_wp2_with fail
 go_ret
 first
  | exact ⟨_,_,rfl,K.out.1,K.out.2⟩
  | exact ⟨_,rfl,_,K.out.1,K.out.2⟩
theorem rbits_any (wb:Nat) (bs:List Bool) (n size:Int) (w:World) (H:List HB) (h:RWrB wb bs H) (hs:Sat w H) (hl:bs.length≤70000000) :
  Calls Tryz.prog 86 #[.pointer (some ⟨wb,0,none⟩),.int .i64 n,.int .i64 size] w fun e w'=>e=.returned (.tuple #[])∧∃ H',RWrB wb (bs++bitsG n size) H'∧Mv w H w' H':=by
 by_cases hz:1≤size∧size≤32
 ·obtain ⟨z,rfl⟩:=Int.eq_ofNat_of_zero_le (a:=size) (by omega)
  have d1:decide ((z:Int)<1)=false:=by simp;omega
  have d2:decide ((32:Int)<(z:Int))=false:=by simp;omega
  have K:=Lib.hid (And.intro h (And.intro hs hz))
  have hz2:1≤z∧z≤32:=by omega
  have HG:Hid (bs++bitsG n (z:Int)=bs++bitsN n z):=Lib.hid (by unfold bitsG;rw [if_pos hz];simp)
  rw [HG.out]
  clear h hs hz HG
  go_enter Tryz.func86,Tryz.ntmps86
  go_wp2_with fail
  go_loopg [6] z (fun g s6 wx=>∃ i:Nat,i≤z∧g=z - i∧s6=.int .i64 ((z:Int) - 1 - i)∧∃ H',RWrB wb (bs++(List.range i).map fun j=>bitI n (z - 1 - j)) H'∧Mv w H wx H')
  case atStart=>exact ⟨0,Nat.zero_le _,rfl,by go_num,H,by simpa using K.out.1,Mv.refl K.out.2.1⟩
  case round =>
   obtain ⟨wa,rfl⟩:∃ wa:World,wa=wr:=⟨_,rfl⟩
   obtain ⟨i,hik,rfl,rfl,H1,h1,m1⟩:=hrel
   by_cases hlt:i<z
   ·have d3:decide ((0:Int)≤(z:Int) - 1 - i)=true:=by simp;omega
    obtain ⟨q,hq⟩:∃ q,z - 1 - i=q:=⟨_,rfl⟩
    have hq2:(z:Int) - 1 - i=(q:Int):=by omega
    rw [hq2] at d3
    simp only [hq2]
    have hq3:q≤31:=by omega
    have HQ:=Lib.hid (And.intro hq hq2)
    have B1:=Lib.hid (rbit_bs wb _ (n / 2 ^ q) wa H1 h1 m1.sat (by simp;omega))
    have M1:=Lib.hid m1
    clear hq hq2 h1 m1
    go_wp2_with (go_at_call 35;refine B1.out.mono ?_;rintro e w2 ⟨rfl,H2,h2,m2⟩;have K2:=Lib.hid (And.intro h2 (M1.out.trans m2));clear h2 m2)
    go_roundg (z - (i+1))
    case measure=>omega
    case rel =>
     refine ⟨i+1,hlt,rfl,?_,_,?_,K2.out.2⟩
     ·have:=HQ.out.2
      have h9:(q:Int) - 1=(z:Int) - 1 - ((i+1:Nat):Int):=by omega
      first | rw [h9] | go_num
     ·have:=K2.out.1
      rw [List.range_succ,List.map_append,← List.append_assoc]
      simpa [bitI,HQ.out.1] using this
   ·obtain rfl:i=z:=by omega
    have d3:decide ((0:Int)≤(i:Int) - 1 - i)=false:=by simp;omega
    go_wp2_with fail
    go_end0
    exact ⟨rfl,H1,h1,m1⟩
 ·have hG:bs++bitsG n size=bs:=by unfold bitsG;rw [if_neg hz];simp
  rw [hG]
  by_cases h1:size<1
  ·have d1:decide (size<1)=true:=by simpa using h1
   have K:=Lib.hid (And.intro h hs)
   clear h hs hz h1
   go_enter Tryz.func86,Tryz.ntmps86
   go_wp2_with fail
   exact bodyPost_ret (results_none rfl _ _ _) rfl ⟨rfl,H,K.out.1,Mv.refl K.out.2⟩
  ·have d1:decide (size<1)=false:=by simpa using h1
   have d2:decide (32<size)=true:=by simp;omega
   have K:=Lib.hid (And.intro h hs)
   clear h hs hz h1
   go_enter Tryz.func86,Tryz.ntmps86
   go_wp2_with fail
   exact bodyPost_ret (results_none rfl _ _ _) rfl ⟨rfl,H,K.out.1,Mv.refl K.out.2⟩
end
end Go.Proofs.YtjngfhgakokejaaGreat
