/- waveletref8: a new coder. A region in a round of a loop over a function: what the plain laws of regions say holds there too. No program in sight. A region that draws its order, its callees moving the world within a class, its end a forced row: one walk serves every order; in a round too. No program in sight. The walk of a region in a class of worlds: its steps. No program in sight. -/
import Derived.Test.YtjngfhgakokejaaGreatCp10
import Derived.Laws.OwnMore
import Derived.Test.YtjngfhgakokejaaGreatCp04
import Derived.StillTailTactics
import Derived.OrdersIn
import Derived.Deep.Quiet
import Derived.Deep.QuietTactic
set_option maxRecDepth 100000
set_option maxHeartbeats 8000000
set_option linter.all false
namespace Go.Proofs.YtjngfhgakokejaaGreat
section
open Go.RowKit
/- a region that draws its order: what each operation keeps,the region keeps -/
section
variable {P:Program} {ops:Array Oper} {Q:Exit→Act→World→Prop} {md:Region.Mode}
theorem mem_ready {listed:Array Bool} {i:Nat} (h:i∈Region.ready md ops listed) :
  i<ops.size∧listed.getD i true=false∧∀ o,ops[i]?=some o→∀ e∈o.after.toList,Region.binds md e=true→listed.getD e.on false=true:=by
 unfold Region.ready at h
 obtain⟨h1,h2⟩:=List.mem_filter.1 h
 have hl:=List.mem_range.1 h1
 simp only[Bool.and_eq_true,Bool.not_eq_true'] at h2
 refine⟨hl,h2.1,fun o ho e he hb=>?_⟩
 have h3:=h2.2
 rw[ho] at h3
 simp only[Option.map_some,Option.getD_some,Array.all_eq_true_iff_forall_mem] at h3
 have h4:=h3 e (Array.mem_toList_iff.1 he)
 simpa [hb] using h4
theorem count_set:∀ (l:List Bool) (i:Nat),l[i]?=some false→(l.set i true).countP (fun b=>!b)+1=l.countP (fun b=>!b)
 | [],i,h=>by simp at h
 | b::l,0,h=>by
  simp at h
  subst h
  simp
 | b::l,i+1,h=>by
  have ih:=count_set l i (by simpa using h)
  rw[List.set_cons_succ,List.countP_cons,List.countP_cons]
  omega
theorem wpAny_inv (I:Array Bool→Act→World→Prop) (hd:∀ listed a w,I listed a w→Region.ready md ops listed=[]→Q .normal a w)
  (hs:∀ listed a w i,I listed a w→i∈Region.ready md ops listed→wpOp P ops Q i (I (listed.setIfInBounds i true)) a w) :
  ∀ (fuel:Nat) (listed:Array Bool) (a:Act) (w:World),listed.toList.countP (fun b=>!b)≤fuel→listed.size=ops.size→I listed a w→wpAny P md ops Q fuel listed a w:=by
 intro fuel
 induction fuel with
 | zero =>
  intro listed a w hc hz hI
  have hr:Region.ready md ops listed=[]:=by
   refine List.eq_nil_iff_forall_not_mem.2 fun i hi=>?_
   obtain⟨h1,h2,-⟩:=mem_ready hi
   have hl:i<listed.size:=by omega
   have h3:listed.toList[i]?=some false:=by
    rw[Array.getElem?_toList,Array.getElem?_eq_getElem hl]
    rw[Array.getD_eq_getD_getElem?,Array.getElem?_eq_getElem hl] at h2
    simpa using h2
   have:=count_set _ _ h3
   omega
  exact⟨hr,hd _ _ _ hI hr⟩
 | succ n ih =>
  intro listed a w hc hz hI
  refine⟨hd _ _ _ hI,fun i hi=>wpOp_mono (fun a w hI=>ih _ _ _ ?_ (by simpa using hz) hI) (hs _ _ _ i hI hi)⟩
  obtain⟨h1,h2,-⟩:=mem_ready hi
  have hl:i<listed.size:=by omega
  have h3:listed.toList[i]?=some false:=by
   rw[Array.getElem?_toList,Array.getElem?_eq_getElem hl]
   rw[Array.getD_eq_getD_getElem?,Array.getElem?_eq_getElem hl] at h2
   simpa using h2
  have:=count_set _ _ h3
  rw[Array.toList_setIfInBounds]
  omega
theorem wp_region_inv {id:Nat} {a:Act} {w:World} (hm:P.follows .mixedOrders=true) (I:Array Bool→Act→World→Prop) (h0:I (Array.replicate ops.size false) a w.drew)
  (hd:∀ listed a w,I listed a w→Region.ready .any ops listed=[]→Q .normal a w)
  (hs:∀ listed a w i,I listed a w→i∈Region.ready .any ops listed→wpOp P ops Q i (I (listed.setIfInBounds i true)) a w):(Code.region id ops true).wp P Q a w :=
 wp_region_any hm (wpAny_inv I hd hs _ _ _ _ (by have:=List.countP_le_length (p:=fun b:Bool=>!b) (l:=(Array.replicate ops.size false).toList);simpa using this) (by simp) h0)
end
theorem not_ready2 {ops:Array Oper} {md:Region.Mode} {listed:Array Bool} (h:Region.ready md ops listed=[]) (i:Nat) (o:Oper) (ho:ops[i]?=some o) (hi:listed.getD i true=false)
  (ha:∀ e∈o.after.toList,Region.binds md e=true→listed.getD e.on false=true):False:=by
 have hl:i<ops.size:=(Array.getElem?_eq_some_iff.1 ho).1
 have:i∈Region.ready md ops listed:=by
  unfold Region.ready
  refine List.mem_filter.2 ⟨List.mem_range.2 hl,?_⟩
  rw[hi,ho]
  simp only[Bool.not_false,Bool.true_and,Option.map_some,Option.getD_some,Array.all_eq_true_iff_forall_mem]
  intro e he
  have hb:=ha e (Array.mem_toList_iff.2 he)
  cases hbe:Region.binds md e
  ·simp
  ·rw[hb hbe]
   simp
 rw[h] at this
 cases this
section
variable {P:Program} {w:World} {ops:Array Oper} {o:Oper} {a:Act} {K:Act→World→Prop} {Q:Exit→Act→World→Prop} {E:Prop}
theorem step_make_to (hg:o.guard=none) (l c:Operand) (t:TypeId) (hop:o.op=Op.makeSlice t l c) (e:TypeId) (z:Value) (n by_:Nat) (h1:P.underlying t=some (.slice e)) (hi:(P.info? e).map (fun i=>(i.zero,i.size,i.bytes))=some (some z,1,by_)) (hby:by_≤16) (hn:n≤4096)
  (hl:a.eval l=.int .i64 (n:Int)) (hc:a.eval c=.int .i64 (n:Int)) (hz:z.cells=#[z])
  (hK:K (a.put o.dst (.slice (some ⟨w.heap.size,0,none⟩) n n)) (w.alloc (.cells (List.replicate n z).toArray e))) :
  if Region.wanted o (yielded ops a.tmps)=true then Oper.wp P o a w K Q else E:=by
 have hw:Region.wanted o (yielded ops a.tmps)=true:=by simp[Region.wanted,hg]
 rw[if_pos hw]
 cases hie:P.info? e with
 | none=>rw[hie] at hi;cases hi
 | some i =>
  rw[hie] at hi
  simp only[Option.map_some,Option.some.injEq,Prod.mk.injEq] at hi
  obtain⟨h3,h4,h5⟩:=hi
  subst h5
  have hb:(i.bytes:Int) * (n:Int)≤281474976710656:=by
   have h:i.bytes * n≤16 * 4096:=Nat.mul_le_mul hby hn
   have h':((i.bytes * n:Nat):Int)≤281474976710656:=by omega
   rwa [Int.natCast_mul] at h'
  have hrun:=run_make (P:=P) w t e i z h1 hie h3 .i64 .i64 (n:Int) (n:Int) (by omega) (Int.le_refl _) hb (by omega)
  simp only[Int.toNat_natCast] at hrun
  have hm:madeCells z.cells (n * i.size)=(List.replicate n z).toArray:=by
   rw[h4,hz,Nat.mul_one]
   unfold madeCells
   apply Array.ext'
   apply List.ext_getElem?
   intro k
   by_cases hk:k<n
   ·simp[hk,Nat.mod_one]
   ·simp[hk]
  rw[hm] at hrun
  unfold Oper.wp
  simp[execOp,hop,hl,hc,hrun,Result.andThen]
  exact hK
theorem step_build_to (hg:o.guard=none) (t:TypeId) (parts:Array (Nat × Operand)) (ho:o.op=.build t parts) (cells:Array Value)
  (hf:P.built t (parts.map fun (i,x)=>(i,a.eval x)).toList=some cells) (hK:K (a.put o.dst (.agg cells)) w) :
  if Region.wanted o (yielded ops a.tmps)=true then Oper.wp P o a w K Q else E:=by
 have hw:Region.wanted o (yielded ops a.tmps)=true:=by simp[Region.wanted,hg]
 rw[if_pos hw]
 exact wp_build t parts ho (by rw[hf];rfl) (by rw[hf];exact hK)
end
def oh (b:Bool) (x:HB):List HB:=if b then [x] else []
theorem oh_true (x:HB):oh true x=[x]:=rfl
theorem oh_false (x:HB):oh false x=[]:=rfl
def zN (g n:Nat):HB:=⟨g,3,(List.replicate n (Value.int .i64 0)).toArray⟩
def zL (g n:Nat):HB:=⟨g,4,(List.replicate n (Value.bool false)).toArray⟩
def codI (G:GeoM) (gm gn gs ge ga:Nat):List Value :=
 [.int .i64 (G.w:Int),.int .i64 (G.h:Int),.int .i64 (G.band:Int),.int .i64 (G.style:Int),slV gm (G.w * G.h),slV gn (G.w * G.h),slV gs (G.w * G.h),slV ge (G.w * G.h),slV ga (G.w * G.h)] ++
  (cxV cxFresh++[.bool false,.bool false,.pointer none,.pointer none,.pointer none,.pointer none])
inductive begin_r2_S (G:GeoM) (w:World) (s4 s5 s6 s7 s8 s10 s11 s12 s13 s14 s15 s16 s17 s18 s19 s20 s21 s22 s23 s24 s25 s26 s27 s28 s29:Value) (listed:Array Bool) (a:Act) (W:World):Prop
 | mk (b0 b1 b2 b3 b4 b5 b6 b7 b8 b9 b10 b11 b12 b13 b14 b15 b16 b17:Bool) (u13 u14 u15 u16 u17 u18 u19 u20 u21 u22 u23 u24 u25 u26 u27 u28 u29 u8:Value) (g5:Nat) (g7:Nat) (g9:Nat) (g11:Nat) (g13:Nat) (g16:Nat) (A16:Array Value) (hl:listed=#[b0,b1,b2,b3,b4,b5,b6,b7,b8,b9,b10,b11,b12,b13,b14,b15,b16,b17]) (ha:a=⟨#[(.int .i64 (G.w:Int)),(.int .i64 (G.h:Int)),(.int .i64 (G.band:Int)),(.int .i64 (G.style:Int)),s4,s5,s6,s7,u8,(.int .i64 ((G.w:Int) * (G.h:Int))),s10,s11,s12,u13,u14,u15,u16,u17,u18,u19,u20,u21,u22,u23,u24,u25,u26,u27,u28,u29],[]⟩) (HW:Mv w [] W (oh b5 (zN g5 (G.w * G.h))++(oh b7 (zN g7 (G.w * G.h))++(oh b9 (zL g9 (G.w * G.h))++(oh b11 (zL g11 (G.w * G.h))++(oh b13 (zL g13 (G.w * G.h))++oh b16 ⟨g16,133,A16⟩)))))) (h0:Hid (b0=true→u13=.int .i64 (G.w:Int))) (h1:Hid (b1=true→u14=.int .i64 (G.h:Int))) (h2:Hid (b2=true→u15=.int .i64 (G.band:Int))) (h3:Hid (b3=true→u16=.int .i64 (G.style:Int))) (h4:Hid (b4=true→u17=.int .i64 ((G.w:Int) * (G.h:Int)))) (h5:Hid (b5=true→u18=slV g5 (G.w * G.h))) (h6:Hid (b6=true→u19=.int .i64 ((G.w:Int) * (G.h:Int)))) (h7:Hid (b7=true→u20=slV g7 (G.w * G.h))) (h8:Hid (b8=true→u21=.int .i64 ((G.w:Int) * (G.h:Int)))) (h9:Hid (b9=true→u22=slV g9 (G.w * G.h))) (h10:Hid (b10=true→u23=.int .i64 ((G.w:Int) * (G.h:Int)))) (h11:Hid (b11=true→u24=slV g11 (G.w * G.h))) (h12:Hid (b12=true→u25=.int .i64 ((G.w:Int) * (G.h:Int)))) (h13:Hid (b13=true→u26=slV g13 (G.w * G.h))) (h14:Hid (b14=true→u27=.agg (cxV cxFresh).toArray)) (h15:Hid (b15=true→u28=.agg (codI G g5 g7 g9 g11 g13).toArray∧(b5=true∧b7=true∧b9=true∧b11=true∧b13=true))) (h16:Hid (b16=true→u29=.pointer (some ⟨g16,0,none⟩)∧A16=(codI G g5 g7 g9 g11 g13).toArray∧b15=true)) (h17:Hid (b17=true→u8=.pointer (some ⟨g16,0,none⟩)∧b16=true)):begin_r2_S G w s4 s5 s6 s7 s8 s10 s11 s12 s13 s14 s15 s16 s17 s18 s19 s20 s21 s22 s23 s24 s25 s26 s27 s28 s29 listed a W
theorem begin_r2 (K:Act→World→Prop) (G:GeoM) (w:World) (s4 s5 s6 s7 s8 s10 s11 s12 s13 s14 s15 s16 s17 s18 s19 s20 s21 s22 s23 s24 s25 s26 s27 s28 s29:Value) (hn:G.w * G.h≤4096)
  (hk:∀ (u13 u14 u15 u16 u17 u18 u19 u20 u21 u22 u23 u24 u25 u26 u27 u28 u29 u8:Value) (g5:Nat) (g7:Nat) (g9:Nat) (g11:Nat) (g13:Nat) (g16:Nat) (A16:Array Value) (W:World),Mv w [] W (oh true (zN g5 (G.w * G.h))++(oh true (zN g7 (G.w * G.h))++(oh true (zL g9 (G.w * G.h))++(oh true (zL g11 (G.w * G.h))++(oh true (zL g13 (G.w * G.h))++oh true ⟨g16,133,A16⟩)))))→(u29=.pointer (some ⟨g16,0,none⟩)∧A16=(codI G g5 g7 g9 g11 g13).toArray∧true=true)→(u8=.pointer (some ⟨g16,0,none⟩)∧true=true) →  K ⟨#[(.int .i64 (G.w:Int)),(.int .i64 (G.h:Int)),(.int .i64 (G.band:Int)),(.int .i64 (G.style:Int)),s4,s5,s6,s7,u8,(.int .i64 ((G.w:Int) * (G.h:Int))),s10,s11,s12,u13,u14,u15,u16,u17,u18,u19,u20,u21,u22,u23,u24,u25,u26,u27,u28,u29],[]⟩ W) :
  (regionOf 2 Tryz.f53).wp Tryz.prog (Exit.then K noQ) ⟨#[(.int .i64 (G.w:Int)),(.int .i64 (G.h:Int)),(.int .i64 (G.band:Int)),(.int .i64 (G.style:Int)),s4,s5,s6,s7,s8,(.int .i64 ((G.w:Int) * (G.h:Int))),s10,s11,s12,s13,s14,s15,s16,s17,s18,s19,s20,s21,s22,s23,s24,s25,s26,s27,s28,s29],[]⟩ w:=by
 conv in (regionOf _ _)=>whnf
 unfold noQ
 have HK:=Lib.hid hk
 clear hk
 refine wp_region_inv (by kernel_rfl) (begin_r2_S G w s4 s5 s6 s7 s8 s10 s11 s12 s13 s14 s15 s16 s17 s18 s19 s20 s21 s22 s23 s24 s25 s26 s27 s28 s29) ?_ ?_ ?_
 ·exact⟨false,false,false,false,false,false,false,false,false,false,false,false,false,false,false,false,false,false,s13,s14,s15,s16,s17,s18,s19,s20,s21,s22,s23,s24,s25,s26,s27,s28,s29,s8,0,0,0,0,0,0,#[],rfl,rfl,(by simpa [oh_false] using (Mv.refl (Sat.nil w)).drew),Lib.hid nofun,Lib.hid nofun,Lib.hid nofun,Lib.hid nofun,Lib.hid nofun,Lib.hid nofun,Lib.hid nofun,Lib.hid nofun,Lib.hid nofun,Lib.hid nofun,Lib.hid nofun,Lib.hid nofun,Lib.hid nofun,Lib.hid nofun,Lib.hid nofun,Lib.hid nofun,Lib.hid nofun,Lib.hid nofun⟩
 ·rintro listed a W ⟨b0,b1,b2,b3,b4,b5,b6,b7,b8,b9,b10,b11,b12,b13,b14,b15,b16,b17,u13,u14,u15,u16,u17,u18,u19,u20,u21,u22,u23,u24,u25,u26,u27,u28,u29,u8,g5,g7,g9,g11,g13,g16,A16,rfl,rfl,HW,h0,h1,h2,h3,h4,h5,h6,h7,h8,h9,h10,h11,h12,h13,h14,h15,h16,h17⟩ hr
  obtain rfl:b0=true:=by cases b0;exact(not_ready2 hr 0 _ rfl rfl (by simp[Region.binds])).elim;rfl
  obtain rfl:b1=true:=by cases b1;exact(not_ready2 hr 1 _ rfl rfl (by simp[Region.binds])).elim;rfl
  obtain rfl:b2=true:=by cases b2;exact(not_ready2 hr 2 _ rfl rfl (by simp[Region.binds])).elim;rfl
  obtain rfl:b3=true:=by cases b3;exact(not_ready2 hr 3 _ rfl rfl (by simp[Region.binds])).elim;rfl
  obtain rfl:b4=true:=by cases b4;exact(not_ready2 hr 4 _ rfl rfl (by simp[Region.binds])).elim;rfl
  obtain rfl:b5=true:=by cases b5;exact(not_ready2 hr 5 _ rfl rfl (by simp[Region.binds])).elim;rfl
  obtain rfl:b6=true:=by cases b6;exact(not_ready2 hr 6 _ rfl rfl (by simp[Region.binds])).elim;rfl
  obtain rfl:b7=true:=by cases b7;exact(not_ready2 hr 7 _ rfl rfl (by simp[Region.binds])).elim;rfl
  obtain rfl:b8=true:=by cases b8;exact(not_ready2 hr 8 _ rfl rfl (by simp[Region.binds])).elim;rfl
  obtain rfl:b9=true:=by cases b9;exact(not_ready2 hr 9 _ rfl rfl (by simp[Region.binds])).elim;rfl
  obtain rfl:b10=true:=by cases b10;exact(not_ready2 hr 10 _ rfl rfl (by simp[Region.binds])).elim;rfl
  obtain rfl:b11=true:=by cases b11;exact(not_ready2 hr 11 _ rfl rfl (by simp[Region.binds])).elim;rfl
  obtain rfl:b12=true:=by cases b12;exact(not_ready2 hr 12 _ rfl rfl (by simp[Region.binds])).elim;rfl
  obtain rfl:b13=true:=by cases b13;exact(not_ready2 hr 13 _ rfl rfl (by simp[Region.binds])).elim;rfl
  obtain rfl:b14=true:=by cases b14;exact(not_ready2 hr 14 _ rfl rfl (by simp[Region.binds])).elim;rfl
  obtain rfl:b15=true:=by cases b15;exact(not_ready2 hr 15 _ rfl rfl (by simp[Region.binds])).elim;rfl
  obtain rfl:b16=true:=by cases b16;exact(not_ready2 hr 16 _ rfl rfl (by simp[Region.binds])).elim;rfl
  obtain rfl:b17=true:=by cases b17;exact(not_ready2 hr 17 _ rfl rfl (by simp[Region.binds])).elim;rfl
  exact HK.out u13 u14 u15 u16 u17 u18 u19 u20 u21 u22 u23 u24 u25 u26 u27 u28 u29 u8 g5 g7 g9 g11 g13 g16 A16 W HW (h16.out rfl) (h17.out rfl)
 ·rintro listed a W i ⟨b0,b1,b2,b3,b4,b5,b6,b7,b8,b9,b10,b11,b12,b13,b14,b15,b16,b17,u13,u14,u15,u16,u17,u18,u19,u20,u21,u22,u23,u24,u25,u26,u27,u28,u29,u8,g5,g7,g9,g11,g13,g16,A16,rfl,rfl,HW,h0,h1,h2,h3,h4,h5,h6,h7,h8,h9,h10,h11,h12,h13,h14,h15,h16,h17⟩ hi
  obtain⟨hi1,hi2,hi3⟩:=mem_ready hi
  clear hi
  have hi4:i=0∨i=1∨i=2∨i=3∨i=4∨i=5∨i=6∨i=7∨i=8∨i=9∨i=10∨i=11∨i=12∨i=13∨i=14∨i=15∨i=16∨i=17:=by
   have:i<18:=hi1
   omega
  clear hi1
  rcases hi4 with rfl | rfl | rfl | rfl | rfl | rfl | rfl | rfl | rfl | rfl | rfl | rfl | rfl | rfl | rfl | rfl | rfl | rfl
  ·obtain rfl:b0=false:=hi2
   clear hi3
   refine wpOp_step rfl (fun K hK=>?_)
   go_simp
   refine hK _ _ ⟨true,_,_,_,_,_,_,_,_,_,_,_,_,_,_,_,_,_,(.int .i64 (G.w:Int)),_,_,_,_,_,_,_,_,_,_,_,_,_,_,_,_,_,_,_,_,_,_,_,_,rfl,rfl,HW,Lib.hid (fun _=>rfl),h1,h2,h3,h4,h5,h6,h7,h8,h9,h10,h11,h12,h13,h14,h15,h16,h17⟩
  ·obtain rfl:b1=false:=hi2
   clear hi3
   refine wpOp_step rfl (fun K hK=>?_)
   go_simp
   refine hK _ _ ⟨_,true,_,_,_,_,_,_,_,_,_,_,_,_,_,_,_,_,_,(.int .i64 (G.h:Int)),_,_,_,_,_,_,_,_,_,_,_,_,_,_,_,_,_,_,_,_,_,_,_,rfl,rfl,HW,h0,Lib.hid (fun _=>rfl),h2,h3,h4,h5,h6,h7,h8,h9,h10,h11,h12,h13,h14,h15,h16,h17⟩
  ·obtain rfl:b2=false:=hi2
   clear hi3
   refine wpOp_step rfl (fun K hK=>?_)
   go_simp
   refine hK _ _ ⟨_,_,true,_,_,_,_,_,_,_,_,_,_,_,_,_,_,_,_,_,(.int .i64 (G.band:Int)),_,_,_,_,_,_,_,_,_,_,_,_,_,_,_,_,_,_,_,_,_,_,rfl,rfl,HW,h0,h1,Lib.hid (fun _=>rfl),h3,h4,h5,h6,h7,h8,h9,h10,h11,h12,h13,h14,h15,h16,h17⟩
  ·obtain rfl:b3=false:=hi2
   clear hi3
   refine wpOp_step rfl (fun K hK=>?_)
   go_simp
   refine hK _ _ ⟨_,_,_,true,_,_,_,_,_,_,_,_,_,_,_,_,_,_,_,_,_,(.int .i64 (G.style:Int)),_,_,_,_,_,_,_,_,_,_,_,_,_,_,_,_,_,_,_,_,_,rfl,rfl,HW,h0,h1,h2,Lib.hid (fun _=>rfl),h4,h5,h6,h7,h8,h9,h10,h11,h12,h13,h14,h15,h16,h17⟩
  ·obtain rfl:b4=false:=hi2
   clear hi3
   refine wpOp_step rfl (fun K hK=>?_)
   go_simp
   refine hK _ _ ⟨_,_,_,_,true,_,_,_,_,_,_,_,_,_,_,_,_,_,_,_,_,_,(.int .i64 ((G.w:Int) * (G.h:Int))),_,_,_,_,_,_,_,_,_,_,_,_,_,_,_,_,_,_,_,_,rfl,rfl,HW,h0,h1,h2,h3,Lib.hid (fun _=>rfl),h5,h6,h7,h8,h9,h10,h11,h12,h13,h14,h15,h16,h17⟩
  ·obtain rfl:b5=false:=hi2
   obtain rfl:b4=true:=hi3 _ rfl ⟨4,.data⟩ (by simp) rfl
   obtain rfl:=h4.out rfl
   clear hi3
   have M9:=HW.alloc 3 (zN W.heap.size (G.w * G.h)).cs
   refine wpOp_step rfl (fun K hK=>?_)
   refine step_make_to rfl (.tmp 17) (.tmp 17) 38 rfl 3 (.int .i64 0) (G.w * G.h) 8 Tryz.underlying38 (by kernel_rfl) (by decide) hn (by simp[Act.eval]) (by simp[Act.eval]) rfl ?_
   refine hK _ _ ⟨_,_,_,_,_,true,_,_,_,_,_,_,_,_,_,_,_,_,_,_,_,_,_,(slV W.heap.size (G.w * G.h)),_,_,_,_,_,_,_,_,_,_,_,_,W.heap.size,g7,g9,g11,g13,g16,A16,rfl,rfl,M9.sub (fun g=>by simp only[zN,zL,oh_true,oh_false,cnt_append,cnt_cons,cnt_nil];omega) (fun c hc=>by simp only[zN,zL,oh_true,oh_false,List.mem_append,List.mem_cons] at hc ⊢;grind),h0,h1,h2,h3,h4,Lib.hid (fun _=>rfl),h6,h7,h8,h9,h10,h11,h12,h13,h14,Lib.hid (fun e=>nomatch (h15.out e).2.1),Lib.hid (fun e=>nomatch (h15.out (h16.out e).2.2).2.1),Lib.hid (fun e=>nomatch (h15.out (h16.out (h17.out e).2).2.2).2.1)⟩
  ·obtain rfl:b6=false:=hi2
   clear hi3
   refine wpOp_step rfl (fun K hK=>?_)
   go_simp
   refine hK _ _ ⟨_,_,_,_,_,_,true,_,_,_,_,_,_,_,_,_,_,_,_,_,_,_,_,_,(.int .i64 ((G.w:Int) * (G.h:Int))),_,_,_,_,_,_,_,_,_,_,_,_,_,_,_,_,_,_,rfl,rfl,HW,h0,h1,h2,h3,h4,h5,Lib.hid (fun _=>rfl),h7,h8,h9,h10,h11,h12,h13,h14,h15,h16,h17⟩
  ·obtain rfl:b7=false:=hi2
   obtain rfl:b6=true:=hi3 _ rfl ⟨6,.data⟩ (by simp) rfl
   obtain rfl:=h6.out rfl
   clear hi3
   have M9:=HW.alloc 3 (zN W.heap.size (G.w * G.h)).cs
   refine wpOp_step rfl (fun K hK=>?_)
   refine step_make_to rfl (.tmp 19) (.tmp 19) 38 rfl 3 (.int .i64 0) (G.w * G.h) 8 Tryz.underlying38 (by kernel_rfl) (by decide) hn (by simp[Act.eval]) (by simp[Act.eval]) rfl ?_
   refine hK _ _ ⟨_,_,_,_,_,_,_,true,_,_,_,_,_,_,_,_,_,_,_,_,_,_,_,_,_,(slV W.heap.size (G.w * G.h)),_,_,_,_,_,_,_,_,_,_,g5,W.heap.size,g9,g11,g13,g16,A16,rfl,rfl,M9.sub (fun g=>by simp only[zN,zL,oh_true,oh_false,cnt_append,cnt_cons,cnt_nil];omega) (fun c hc=>by simp only[zN,zL,oh_true,oh_false,List.mem_append,List.mem_cons] at hc ⊢;grind),h0,h1,h2,h3,h4,h5,h6,Lib.hid (fun _=>rfl),h8,h9,h10,h11,h12,h13,h14,Lib.hid (fun e=>nomatch (h15.out e).2.2.1),Lib.hid (fun e=>nomatch (h15.out (h16.out e).2.2).2.2.1),Lib.hid (fun e=>nomatch (h15.out (h16.out (h17.out e).2).2.2).2.2.1)⟩
  ·obtain rfl:b8=false:=hi2
   clear hi3
   refine wpOp_step rfl (fun K hK=>?_)
   go_simp
   refine hK _ _ ⟨_,_,_,_,_,_,_,_,true,_,_,_,_,_,_,_,_,_,_,_,_,_,_,_,_,_,(.int .i64 ((G.w:Int) * (G.h:Int))),_,_,_,_,_,_,_,_,_,_,_,_,_,_,_,_,rfl,rfl,HW,h0,h1,h2,h3,h4,h5,h6,h7,Lib.hid (fun _=>rfl),h9,h10,h11,h12,h13,h14,h15,h16,h17⟩
  ·obtain rfl:b9=false:=hi2
   obtain rfl:b8=true:=hi3 _ rfl ⟨8,.data⟩ (by simp) rfl
   obtain rfl:=h8.out rfl
   clear hi3
   have M9:=HW.alloc 4 (zL W.heap.size (G.w * G.h)).cs
   refine wpOp_step rfl (fun K hK=>?_)
   refine step_make_to rfl (.tmp 21) (.tmp 21) 123 rfl 4 (.bool false) (G.w * G.h) 1 Tryz.underlying123 (by kernel_rfl) (by decide) hn (by simp[Act.eval]) (by simp[Act.eval]) rfl ?_
   refine hK _ _ ⟨_,_,_,_,_,_,_,_,_,true,_,_,_,_,_,_,_,_,_,_,_,_,_,_,_,_,_,(slV W.heap.size (G.w * G.h)),_,_,_,_,_,_,_,_,g5,g7,W.heap.size,g11,g13,g16,A16,rfl,rfl,M9.sub (fun g=>by simp only[zN,zL,oh_true,oh_false,cnt_append,cnt_cons,cnt_nil];omega) (fun c hc=>by simp only[zN,zL,oh_true,oh_false,List.mem_append,List.mem_cons] at hc ⊢;grind),h0,h1,h2,h3,h4,h5,h6,h7,h8,Lib.hid (fun _=>rfl),h10,h11,h12,h13,h14,Lib.hid (fun e=>nomatch (h15.out e).2.2.2.1),Lib.hid (fun e=>nomatch (h15.out (h16.out e).2.2).2.2.2.1),Lib.hid (fun e=>nomatch (h15.out (h16.out (h17.out e).2).2.2).2.2.2.1)⟩
  ·obtain rfl:b10=false:=hi2
   clear hi3
   refine wpOp_step rfl (fun K hK=>?_)
   go_simp
   refine hK _ _ ⟨_,_,_,_,_,_,_,_,_,_,true,_,_,_,_,_,_,_,_,_,_,_,_,_,_,_,_,_,(.int .i64 ((G.w:Int) * (G.h:Int))),_,_,_,_,_,_,_,_,_,_,_,_,_,_,rfl,rfl,HW,h0,h1,h2,h3,h4,h5,h6,h7,h8,h9,Lib.hid (fun _=>rfl),h11,h12,h13,h14,h15,h16,h17⟩
  ·obtain rfl:b11=false:=hi2
   obtain rfl:b10=true:=hi3 _ rfl ⟨10,.data⟩ (by simp) rfl
   obtain rfl:=h10.out rfl
   clear hi3
   have M9:=HW.alloc 4 (zL W.heap.size (G.w * G.h)).cs
   refine wpOp_step rfl (fun K hK=>?_)
   refine step_make_to rfl (.tmp 23) (.tmp 23) 123 rfl 4 (.bool false) (G.w * G.h) 1 Tryz.underlying123 (by kernel_rfl) (by decide) hn (by simp[Act.eval]) (by simp[Act.eval]) rfl ?_
   refine hK _ _ ⟨_,_,_,_,_,_,_,_,_,_,_,true,_,_,_,_,_,_,_,_,_,_,_,_,_,_,_,_,_,(slV W.heap.size (G.w * G.h)),_,_,_,_,_,_,g5,g7,g9,W.heap.size,g13,g16,A16,rfl,rfl,M9.sub (fun g=>by simp only[zN,zL,oh_true,oh_false,cnt_append,cnt_cons,cnt_nil];omega) (fun c hc=>by simp only[zN,zL,oh_true,oh_false,List.mem_append,List.mem_cons] at hc ⊢;grind),h0,h1,h2,h3,h4,h5,h6,h7,h8,h9,h10,Lib.hid (fun _=>rfl),h12,h13,h14,Lib.hid (fun e=>nomatch (h15.out e).2.2.2.2.1),Lib.hid (fun e=>nomatch (h15.out (h16.out e).2.2).2.2.2.2.1),Lib.hid (fun e=>nomatch (h15.out (h16.out (h17.out e).2).2.2).2.2.2.2.1)⟩
  ·obtain rfl:b12=false:=hi2
   clear hi3
   refine wpOp_step rfl (fun K hK=>?_)
   go_simp
   refine hK _ _ ⟨_,_,_,_,_,_,_,_,_,_,_,_,true,_,_,_,_,_,_,_,_,_,_,_,_,_,_,_,_,_,(.int .i64 ((G.w:Int) * (G.h:Int))),_,_,_,_,_,_,_,_,_,_,_,_,rfl,rfl,HW,h0,h1,h2,h3,h4,h5,h6,h7,h8,h9,h10,h11,Lib.hid (fun _=>rfl),h13,h14,h15,h16,h17⟩
  ·obtain rfl:b13=false:=hi2
   obtain rfl:b12=true:=hi3 _ rfl ⟨12,.data⟩ (by simp) rfl
   obtain rfl:=h12.out rfl
   clear hi3
   have M9:=HW.alloc 4 (zL W.heap.size (G.w * G.h)).cs
   refine wpOp_step rfl (fun K hK=>?_)
   refine step_make_to rfl (.tmp 25) (.tmp 25) 123 rfl 4 (.bool false) (G.w * G.h) 1 Tryz.underlying123 (by kernel_rfl) (by decide) hn (by simp[Act.eval]) (by simp[Act.eval]) rfl ?_
   refine hK _ _ ⟨_,_,_,_,_,_,_,_,_,_,_,_,_,true,_,_,_,_,_,_,_,_,_,_,_,_,_,_,_,_,_,(slV W.heap.size (G.w * G.h)),_,_,_,_,g5,g7,g9,g11,W.heap.size,g16,A16,rfl,rfl,M9.sub (fun g=>by simp only[zN,zL,oh_true,oh_false,cnt_append,cnt_cons,cnt_nil];omega) (fun c hc=>by simp only[zN,zL,oh_true,oh_false,List.mem_append,List.mem_cons] at hc ⊢;grind),h0,h1,h2,h3,h4,h5,h6,h7,h8,h9,h10,h11,h12,Lib.hid (fun _=>rfl),h14,Lib.hid (fun e=>nomatch (h15.out e).2.2.2.2.2),Lib.hid (fun e=>nomatch (h15.out (h16.out e).2.2).2.2.2.2.2),Lib.hid (fun e=>nomatch (h15.out (h16.out (h17.out e).2).2.2).2.2.2.2.2)⟩
  ·obtain rfl:b14=false:=hi2
   clear hi3
   refine wpOp_step rfl (fun K hK=>?_)
   go_simp
   go_at_call 99
   refine(fresh4_any W).mono ?_
   rintro e W2 ⟨rfl,m9⟩
   have M9:=Mv.call (H:=[]) HW m9
   try simp only[]
   refine hK _ _ ⟨_,_,_,_,_,_,_,_,_,_,_,_,_,_,true,_,_,_,_,_,_,_,_,_,_,_,_,_,_,_,_,_,(.agg (cxV cxFresh).toArray),_,_,_,_,_,_,_,_,_,_,rfl,rfl,M9,h0,h1,h2,h3,h4,h5,h6,h7,h8,h9,h10,h11,h12,h13,Lib.hid (fun _=>rfl),h15,h16,h17⟩
  ·obtain rfl:b15=false:=hi2
   obtain rfl:b0=true:=hi3 _ rfl ⟨0,.data⟩ (by simp) rfl
   obtain rfl:b1=true:=hi3 _ rfl ⟨1,.data⟩ (by simp) rfl
   obtain rfl:b2=true:=hi3 _ rfl ⟨2,.data⟩ (by simp) rfl
   obtain rfl:b3=true:=hi3 _ rfl ⟨3,.data⟩ (by simp) rfl
   obtain rfl:b5=true:=hi3 _ rfl ⟨5,.data⟩ (by simp) rfl
   obtain rfl:b7=true:=hi3 _ rfl ⟨7,.data⟩ (by simp) rfl
   obtain rfl:b9=true:=hi3 _ rfl ⟨9,.data⟩ (by simp) rfl
   obtain rfl:b11=true:=hi3 _ rfl ⟨11,.data⟩ (by simp) rfl
   obtain rfl:b13=true:=hi3 _ rfl ⟨13,.data⟩ (by simp) rfl
   obtain rfl:b14=true:=hi3 _ rfl ⟨14,.data⟩ (by simp) rfl
   obtain rfl:=h0.out rfl
   obtain rfl:=h1.out rfl
   obtain rfl:=h2.out rfl
   obtain rfl:=h3.out rfl
   obtain rfl:=h5.out rfl
   obtain rfl:=h7.out rfl
   obtain rfl:=h9.out rfl
   obtain rfl:=h11.out rfl
   obtain rfl:=h13.out rfl
   obtain rfl:=h14.out rfl
   clear hi3
   refine wpOp_step rfl (fun K hK=>?_)
   refine step_build_to rfl 133 _ rfl (codI G g5 g7 g9 g11 g13).toArray (by kernel_rfl) ?_
   refine hK _ _ ⟨_,_,_,_,_,_,_,_,_,_,_,_,_,_,_,true,_,_,_,_,_,_,_,_,_,_,_,_,_,_,_,_,_,(.agg (codI G g5 g7 g9 g11 g13).toArray),_,_,_,_,_,_,_,_,_,rfl,rfl,HW,h0,h1,h2,h3,h4,h5,h6,h7,h8,h9,h10,h11,h12,h13,h14,Lib.hid (fun _=>⟨rfl,rfl,rfl,rfl,rfl,rfl⟩),Lib.hid (fun e=>nomatch (h16.out e).2.2),Lib.hid (fun e=>nomatch (h16.out (h17.out e).2).2.2)⟩
  ·obtain rfl:b16=false:=hi2
   obtain rfl:b15=true:=hi3 _ rfl ⟨15,.data⟩ (by simp) rfl
   clear hi3
   obtain⟨rfl,k5,k7,k9,k11,k13⟩:=h15.out rfl
   have M9:=HW.alloc 133 (codI G g5 g7 g9 g11 g13).toArray
   refine wpOp_step rfl (fun K hK=>?_)
   go_simp
   refine hK _ _ ⟨_,_,_,_,_,_,_,_,_,_,_,_,_,_,_,_,true,_,_,_,_,_,_,_,_,_,_,_,_,_,_,_,_,_,(.pointer (some ⟨W.heap.size,0,none⟩)),_,g5,g7,g9,g11,g13,W.heap.size,(codI G g5 g7 g9 g11 g13).toArray,rfl,rfl,M9.sub (fun g=>by simp only[zN,zL,oh_true,oh_false,cnt_append,cnt_cons,cnt_nil];omega) (fun c hc=>by simp only[zN,zL,oh_true,oh_false,List.mem_append,List.mem_cons] at hc ⊢;grind),h0,h1,h2,h3,h4,h5,h6,h7,h8,h9,h10,h11,h12,h13,h14,Lib.hid (fun _=>⟨rfl,k5,k7,k9,k11,k13⟩),Lib.hid (fun _=>⟨rfl,rfl,rfl⟩),Lib.hid (fun e=>nomatch (h17.out e).2)⟩
  ·obtain rfl:b17=false:=hi2
   obtain rfl:b16=true:=hi3 _ rfl ⟨16,.data⟩ (by simp) rfl
   obtain rfl:b14=true:=hi3 _ rfl ⟨14,.chain⟩ (by simp) rfl
   obtain rfl:b0=true:=hi3 _ rfl ⟨0,.phase⟩ (by simp) rfl
   obtain rfl:b1=true:=hi3 _ rfl ⟨1,.phase⟩ (by simp) rfl
   obtain rfl:b2=true:=hi3 _ rfl ⟨2,.phase⟩ (by simp) rfl
   obtain rfl:b3=true:=hi3 _ rfl ⟨3,.phase⟩ (by simp) rfl
   obtain rfl:b4=true:=hi3 _ rfl ⟨4,.phase⟩ (by simp) rfl
   obtain rfl:b5=true:=hi3 _ rfl ⟨5,.phase⟩ (by simp) rfl
   obtain rfl:b6=true:=hi3 _ rfl ⟨6,.phase⟩ (by simp) rfl
   obtain rfl:b7=true:=hi3 _ rfl ⟨7,.phase⟩ (by simp) rfl
   obtain rfl:b8=true:=hi3 _ rfl ⟨8,.phase⟩ (by simp) rfl
   obtain rfl:b9=true:=hi3 _ rfl ⟨9,.phase⟩ (by simp) rfl
   obtain rfl:b10=true:=hi3 _ rfl ⟨10,.phase⟩ (by simp) rfl
   obtain rfl:b11=true:=hi3 _ rfl ⟨11,.phase⟩ (by simp) rfl
   obtain rfl:b12=true:=hi3 _ rfl ⟨12,.phase⟩ (by simp) rfl
   obtain rfl:b13=true:=hi3 _ rfl ⟨13,.phase⟩ (by simp) rfl
   obtain rfl:b15=true:=hi3 _ rfl ⟨15,.phase⟩ (by simp) rfl
   obtain rfl:=h0.out rfl
   obtain rfl:=h1.out rfl
   obtain rfl:=h2.out rfl
   obtain rfl:=h3.out rfl
   obtain rfl:=h4.out rfl
   obtain rfl:=h5.out rfl
   obtain rfl:=h6.out rfl
   obtain rfl:=h7.out rfl
   obtain rfl:=h8.out rfl
   obtain rfl:=h9.out rfl
   obtain rfl:=h10.out rfl
   obtain rfl:=h11.out rfl
   obtain rfl:=h12.out rfl
   obtain rfl:=h13.out rfl
   obtain rfl:=h14.out rfl
   clear hi3
   obtain⟨rfl,k16,k15⟩:=h16.out rfl
   refine wpOp_step rfl (fun K hK=>?_)
   go_simp
   refine hK _ _ ⟨_,_,_,_,_,_,_,_,_,_,_,_,_,_,_,_,_,true,_,_,_,_,_,_,_,_,_,_,_,_,_,_,_,_,_,_,_,_,_,_,_,_,_,rfl,rfl,HW,h0,h1,h2,h3,h4,h5,h6,h7,h8,h9,h10,h11,h12,h13,h14,h15,Lib.hid (fun _=>⟨rfl,k16,k15⟩),Lib.hid (fun _=>⟨rfl,rfl⟩)⟩
theorem begin_any (G:GeoM) (_hw1:1≤G.w) (hw2:G.w≤64) (_hh1:1≤G.h) (hh2:G.h≤64) (w:World) :
  Calls Tryz.prog 53 #[.int .i64 (G.w:Int),.int .i64 (G.h:Int),.int .i64 (G.band:Int),.int .i64 (G.style:Int)] w fun e w'=>∃ A:CodA,e=.returned (.pointer (some ⟨A.cb,0,none⟩)) ∧
   Mv w [] w' (⟨A.cb,133,(codI G A.gm A.gn A.gs A.ge A.ga).toArray⟩::zN A.gm (G.w * G.h)::zN A.gn (G.w * G.h)::zL A.gs (G.w * G.h)::zL A.ge (G.w * G.h)::zL A.ga (G.w * G.h)::[]):=by
 have hn:G.w * G.h≤4096:=Nat.mul_le_mul hw2 hh2
 go_enter Tryz.func53,Tryz.ntmps53
 go_upto_region 2 with fail
 refine wp_piece (begin_r2 _ G w _ _ _ _ _ _ _ _ _ _ _ _ _ _ _ _ _ _ _ _ _ _ _ _ _ hn ?_)
 rintro _ _ _ _ _ _ _ _ _ _ _ _ _ _ _ _ _ _ g5 g7 g9 g11 g13 g16 A16 W HW ⟨-,fA,-⟩ ⟨f17,-⟩
 subst f17 fA
 have K:=Lib.hid HW
 clear HW
 go_wp2_with fail
 go_ret
 refine⟨⟨g16,g5,g7,g9,g11,g13⟩,rfl,K.out.sub ?_ ?_⟩
 ·intro g
  simp only[oh_true,cnt_append,cnt_cons,cnt_nil]
  omega
 ·intro c hc
  simp only[oh_true,List.mem_append,List.mem_cons,List.not_mem_nil,or_false] at hc ⊢
  grind
end
section
open Go.RowKit
def noDefer (ops:Array Oper):Bool:=ops.all fun o=>match o.op with | .defer _=>false | _=>true
theorem noDefer_at {ops:Array Oper} (h:noDefer ops=true) {i:Nat} {o:Oper} (hi:ops[i]?=some o):∀ c,o.op≠.defer c:=by
 intro c hc
 unfold noDefer at h
 rw[Array.all_eq_true] at h
 obtain⟨h1,h2⟩:=Array.getElem?_eq_some_iff.1 hi
 have:=h i h1
 rw[h2,hc] at this
 cases this
theorem oper_round {P:Program} {o:Oper} {a:Act} {w:World} {K K':Act→World→Prop} {Q:Exit→Act→World→Prop} {l n:Nat} (hd:∀ c,o.op≠.defer c) (hK:∀ a w,K a w→K' a w) (h:o.wp P a w K Q):o.wpIn (Fence.wide.inRound l) n P a w K' Q:=by
 unfold Oper.wpIn
 refine⟨fun f _=>trivial,?_⟩
 rw[show (Fence.wide.inRound l).round=some l from rfl,Oper.semAt_some l _ _ hd]
 unfold Oper.wp at h
 generalize (execOp a.eval o).run P w=r at h ⊢
 cases r with
 | ok x w' =>
  cases x with
  | value v=>exact hK _ _ h
  | skip=>exact hK _ _ h
  | defer d=>exact hK _ _ h
  | enter f args =>
   refine⟨fun e=>(by simp[Fence.wide] at e),?_⟩
   refine CallsIn.inRound l (callsIn_wide.2 (Calls.mono h ?_))
   intro e w'' he
   cases e with
   | returned v=>exact hK _ _ he
   | panicked c=>exact he
   | outgrown=>exact he
  | row row args =>
   refine⟨fun e=>(by simp[Fence.wide] at e),?_⟩
   intro c cs _
   obtain⟨v,w2,hr,hs⟩:=h c cs
   exact⟨v,w2,hK _ _ hr,stepsIn_wide.2 hs⟩
  | round l f tmps assign body=>exact h.elim
  | _=>exact h.elim
 | halt x w' =>
  cases x with
  | panic v=>exact h
  | _=>exact h.elim
theorem any_round {P:Program} {md:Region.Mode} {ops:Array Oper} {Q:Exit→Act→World→Prop} (l n:Nat) (hd:noDefer ops=true) (hl:¬LetsOut Q):∀ (f:Nat) (listed:Array Bool) (a:Act) (w:World),wpAny P md ops Q f listed a w→wpAnyIn (Fence.wide.inRound l) n P md ops Q f listed a w
 | 0,_,_,_,h=>h
 | f+1,listed,a,w,h=>by
  refine⟨h.1,fun i hi=>?_⟩
  have h2:=h.2 i hi
  unfold wpOp at h2
  unfold wpOpIn
  cases ho:ops[i]? with
  | none =>
   rw[ho] at h2
   exact any_round l n hd hl f _ _ _ h2
  | some o =>
   rw[ho] at h2
   simp only at h2 ⊢
   split
   ·rename_i hw
    rw[if_pos hw] at h2
    rcases h2 with h2 | h2
    ·exact oper_round (noDefer_at hd ho) (fun a w k=>any_round l n hd hl f _ a w k) h2
    ·exact absurd h2.2 hl
   ·rename_i hw
    rw[if_neg hw] at h2
    exact⟨fun f _=>trivial,any_round l n hd hl f _ _ _ h2⟩
theorem round_still_tail {P:Program} {l k id:Nat} {Q:Exit→Act→World→Prop} {a:Act} {w:World} {ops:List Oper} (n:Nat) (hm:P.follows .mixedOrders=true) (hd:noDefer ops.toArray=true) (hl:¬LetsOut Q) (hB:Region.lexTailB .any ops.toArray n=true)
  (h:wpStill P ops.toArray { w with drawn:=w.drawn+1 } (fun a'=>wpList P ops.toArray Q (ops.drop n) a' { w with drawn:=w.drawn+1 }) (ops.take n) a):(Code.region id ops.toArray true).wpIn (Fence.wide.inRound l) k P Q a w:=by
 simp only[Region.lexTailB,Bool.and_eq_true,decide_eq_true_eq] at hB
 obtain⟨⟨⟨⟨hsel,hn⟩,hs⟩,hc⟩,hlex⟩:=hB
 have hn':n<ops.length:=by simpa using hn
 have htl:(ops.take n).length=n:=by simp;omega
 have hdl:(ops.drop n).length=ops.toArray.size - n:=by simp
 have inv0:HeadInv .any ops.toArray n (Array.replicate ops.toArray.size false) :=
  ⟨by simp,fun j oj _ hl=>(by rw[getD_replicate_false] at hl;cases hl),fun t _ ht=>getD_in (by simpa using ht) (getD_replicate_false _ _)⟩
 have H:=wpAnyL_lex (md:=.any) (g:=ops.toArray.size - n) hsel hs hc hn (ops.take n) 0 _ a (fun j hj=>by
  have hj':j<n:=by rw[htl] at hj;exact hj
  simp[hj']) (by simpa using htl) inv0 (by rw[htl];exact hlex) h
 refine wpIn_region_any hm (any_round l k hd hl _ _ _ _ ?_)
 have:=wpAny_of_head (Q':=Q) (g:=ops.toArray.size - n) (fun listed a' hL=>by
  have:=wpAny_of_seq (md:=.any) (Q':=Q) (ops.drop n) n listed a' { w with drawn:=w.drawn+1 } (fun j=>by simp[List.getElem?_drop]) (by rw[hdl];exact hL.1) hL.2
  rwa [hdl] at this) _ _ _ H
 rw[htl,show n+(ops.toArray.size - n)=ops.toArray.size by omega] at this
 exact this
end
section
open Go.RowKit
section
variable {P:Program} {ops:Array Oper} {md:Region.Mode} {C:World→Prop}
def hdAny (P:Program) (md:Region.Mode) (ops:Array Oper) (C:World→Prop) (n:Nat) (L:Array Bool→Act→Prop):Nat→Array Bool→Act→Prop
 | 0,listed,a=>L listed a
 | f+1,listed,a=>Region.ready md ops listed≠[]∧∀ i∈Region.ready md ops listed,i<n∧qOp P ops C i (hdAny P md ops C n L f (listed.setIfInBounds i true)) a
theorem any_of_hd {n g:Nat} {L:Array Bool→Act→Prop} {Q:Exit→Act→World→Prop} (hL:∀ listed a w,C w→L listed a→wpAny P md ops Q g listed a w) :
  ∀ (f:Nat) (listed:Array Bool) (a:Act) (w:World),C w→hdAny P md ops C n L f listed a→wpAny P md ops Q (f+g) listed a w
 | 0,listed,a,w,hw,h=>by rw[Nat.zero_add];exact hL _ _ _ hw h
 | f+1,listed,a,w,hw,h=>by
  rw[show f+1+g=(f+g)+1 by omega]
  exact⟨fun h0=>absurd h0 h.1,fun i hi=>wpOp_of_qOp hw (fun a' w' hw' h'=>any_of_hd hL f _ a' w' hw' h') (h.2 i hi).2⟩
theorem hd_first {n i:Nat} {oi:Oper} {v:Value} {L:Array Bool→Act→Prop} (hi:ops[i]?=some oi) (hsel:∀ (j:Nat) (o:Oper) cs b,ops[j]?=some o→o.op≠.select cs b)
  (hs:Region.sinkB md ops n=true) (hc:Region.chainB md ops n=true) (hn:n<ops.size) (hin:i<n) (hdone:∀ listed a,L listed a→∀ j∈Region.ready md ops listed,n≤j) :
  ∀ (f:Nat) (listed:Array Bool) (a:Act),HeadInv md ops n listed →
   (∀ j oj,ops[j]?=some oj→j≠i→listed.getD j true=false→(∀ e∈oj.after,Region.binds md e=true→e.on≠i)→oi.apart ops oj=true) →
   i∈Region.ready md ops listed→YieldsIn P ops C oi v a→hdAny P md ops C n L f (listed.setIfInBounds i true) (a.put oi.dst v)→hdAny P md ops C n L (f+1) listed a:=by
 intro f
 induction f with
 | zero =>
  intro listed a inv hfree hr hy H
  refine⟨fun e=>(by rw[e] at hr;cases hr),fun j hj=>?_⟩
  have hlt:j<n:=Nat.lt_of_not_le fun hge=>tail_waits hs hc hn inv _ i rfl hin (Go.mem_ready.1 hr).1 j hge hj
  by_cases e:j=i
  ·subst e
   exact⟨hlt,hy.qOp hi H⟩
  ·exact absurd (hdone _ _ H j (ready_mono hj e)) (by omega)
 | succ f ih =>
  intro listed a inv hfree hr hy H
  refine⟨fun e=>(by rw[e] at hr;cases hr),fun j hj=>?_⟩
  have hun:=(Go.mem_ready.1 hr).1
  have hlt:j<n:=Nat.lt_of_not_le fun hge=>tail_waits hs hc hn inv _ i rfl hin hun j hge hj
  by_cases e:j=i
  ·subst e
   exact⟨hlt,hy.qOp hi H⟩
  ·obtain⟨hjun,oj,hoj,hall⟩:=Go.mem_ready.1 hj
   have hnot:∀ d∈oj.after,Region.binds md d=true→d.on≠i:=by
    intro d hd hb h1
    have h2:=hall d hd hb
    rw[h1,getD_both hun] at h2
    cases h2
   refine⟨hlt,qOp_mono (fun a' h3=>?_) (qOp_put hoj (hfree j oj hoj e hjun hnot) (fun cs b=>hsel i oi cs b hi) (fun cs b=>hsel j oj cs b hoj) hy (H.2 j (ready_mono hj e)).2)⟩
   refine ih _ a' (inv.set hj hlt) (fun k ok hk hki hkun hno=>hfree k ok hk hki ?_ hno) (ready_mono hr fun h=>e h.symm) h3.1 ?_
   ·by_cases hjk:j=k
    ·subst hjk;exact hjun
    ·rwa [getD_set_ne true hjk] at hkun
   ·rw[Array.setIfInBounds_comm _ _ e]
    exact h3.2
theorem hd_lex {n g:Nat} {Lq:Act→Prop} (hsel:Region.noSelect ops=true) (hs:Region.sinkB md ops n=true) (hc:Region.chainB md ops n=true) (hn:n<ops.size) :
  ∀ (l:List Oper) (k:Nat) (listed:Array Bool) (a:Act),(∀ j,j<l.length→l[j]?=ops[k+j]?)→k+l.length=n→HeadInv md ops n listed →
  Region.lexHead md ops g l.length k listed=true→wpQuiet P ops C Lq l a→hdAny P md ops C n (fun listed' a'=>Region.seqB md ops g n listed'=true∧Lq a') l.length listed a
 | [],k,listed,a,_,hk,_,hB,h=>by
  have e:k=n:=by simpa using hk
  rw[← e]
  exact⟨by simpa [Region.lexHead] using hB,h⟩
 | o::l,k,listed,a,hl,hk,inv,hB,h=>by
  have h0:ops[k]?=some o:=by simpa using (hl 0 (by simp)).symm
  rw[List.length_cons] at hk
  have hkn:k<n:=by omega
  simp only[List.length_cons,Region.lexHead,Bool.and_eq_true] at hB
  have hr:k∈Region.ready md ops listed:=by simpa using hB.1.1
  have hq:qOp P ops C k (wpQuiet P ops C Lq l) a:=by
   unfold qOp
   simp only[h0]
   exact h
  obtain⟨v,hy,hK⟩:=yieldsIn_of_qOp h0 hq
  refine hd_first h0 (Region.noSelect_spec hsel) hs hc hn hkn (fun _ _ hL=>seqB_ready hL.1) l.length listed a inv (Region.free_spec h0 hB.1.2) hr hy ?_
  refine hd_lex hsel hs hc hn l (k+1) _ _ (fun j hj=>?_) (by omega) (inv.set hr hkn) hB.2 hK
  have:=hl (j+1) (by simp;omega)
  simpa [Nat.add_assoc,Nat.add_comm 1 j] using this
theorem any_quiet_tail {Q:Exit→Act→World→Prop} {a:Act} {w:World} {l:List Oper} (n:Nat) (hB:Region.lexTailB .any l.toArray n=true) (hC:C w)
  (h:wpQuiet P l.toArray C (fun a'=>∀ w',C w'→wpList P l.toArray Q (l.drop n) a' w') (l.take n) a):wpAny P .any l.toArray Q l.toArray.size (Array.replicate l.toArray.size false) a w:=by
 simp only[Region.lexTailB,Bool.and_eq_true,decide_eq_true_eq] at hB
 obtain⟨⟨⟨⟨hsel,hn⟩,hs⟩,hc⟩,hlex⟩:=hB
 have hn':n<l.length:=by simpa using hn
 have htl:(l.take n).length=n:=by simp;omega
 have hdl:(l.drop n).length=l.toArray.size - n:=by simp
 have inv0:HeadInv .any l.toArray n (Array.replicate l.toArray.size false) :=
  ⟨by simp,fun j oj _ hl=>(by rw[getD_replicate_false] at hl;cases hl),fun t _ ht=>getD_in (by simpa using ht) (getD_replicate_false _ _)⟩
 have H:=hd_lex (C:=C) (md:=.any) (g:=l.toArray.size - n) hsel hs hc hn (l.take n) 0 _ a (fun j hj=>by
  have hj':j<n:=by rw[htl] at hj;exact hj
  simp[hj']) (by simpa using htl) inv0 (by rw[htl];exact hlex) h
 have:=any_of_hd (Q:=Q) (g:=l.toArray.size - n) (fun listed a' w' hw' hL=>by
  have:=wpAny_of_seq (md:=.any) (Q':=Q) (l.drop n) n listed a' w' (fun j=>by simp[List.getElem?_drop]) (by rw[hdl];exact hL.1) (hL.2 w' hw')
  rwa [hdl] at this) _ _ _ w hC H
 rw[htl,show n+(l.toArray.size - n)=l.toArray.size by omega] at this
 exact this
theorem round_quiet_tail {l k id:Nat} {Q:Exit→Act→World→Prop} {a:Act} {w:World} {ops:List Oper} (n:Nat) (C:World→Prop) (hm:P.follows .mixedOrders=true) (hd:noDefer ops.toArray=true) (hl:¬LetsOut Q) (hC:C { w with drawn:=w.drawn+1 }) (hB:Region.lexTailB .any ops.toArray n=true)
  (h:wpQuiet P ops.toArray C (fun a'=>∀ w',C w'→wpList P ops.toArray Q (ops.drop n) a' w') (ops.take n) a):(Code.region id ops.toArray true).wpIn (Fence.wide.inRound l) k P Q a w :=
 wpIn_region_any hm (any_round l k hd hl _ _ _ _ (any_quiet_tail n hB hC h))
theorem plain_quiet_tail {id:Nat} {Q:Exit→Act→World→Prop} {a:Act} {w:World} {ops:List Oper} (n:Nat) (C:World→Prop) (hm:P.follows .mixedOrders=true) (hC:C { w with drawn:=w.drawn+1 }) (hB:Region.lexTailB .any ops.toArray n=true)
  (h:wpQuiet P ops.toArray C (fun a'=>∀ w',C w'→wpList P ops.toArray Q (ops.drop n) a' w') (ops.take n) a):(Code.region id ops.toArray true).wp P Q a w :=
 wp_region_any hm (any_quiet_tail n hB hC h)
end
end
section
open Go.RowKit
section
variable {P:Program} {ops:Array Oper} {C:World→Prop} {Q:Act→Prop} {a:Act} {o:Oper} {rest:List Oper}
theorem qc_pass (hw:Region.wanted o (yielded ops a.tmps)=false) (h:wpQuiet P ops C Q rest (a.put o.dst undef)):wpQuiet P ops C Q (o::rest) a:=by
 show if _ then _ else _
 rw[if_neg (by rw[hw];simp)]
 exact h
theorem qc_one (v:Value) (hw:Region.wanted o (yielded ops a.tmps)=true) (hv:∀ w,C w→o.quietAt P a C w v) (h:wpQuiet P ops C Q rest (a.put o.dst v)):wpQuiet P ops C Q (o::rest) a:=by
 show if _ then _ else _
 rw[if_pos hw]
 exact⟨v,hv,h⟩
theorem qc_val {w:World} {v:Value} (h:(execOp a.eval o).run P w=.ok (.value v) w):o.quietAt P a C w v:=by
 unfold Oper.quietAt
 rw[h]
 exact⟨rfl,rfl⟩
theorem qc_skip {w:World} (h:(execOp a.eval o).run P w=.ok .skip w):o.quietAt P a C w undef:=by
 unfold Oper.quietAt
 rw[h]
 exact⟨rfl,rfl⟩
theorem qc_call {w:World} {v:Value} {f:FuncId} {args:Array Value} (h:(execOp a.eval o).run P w=.ok (.enter f args) w) (hc:Calls P f args w fun e w''=>e=.returned v∧C w''):o.quietAt P a C w v:=by
 unfold Oper.quietAt
 rw[h]
 exact⟨rfl,hc⟩
end
end
end Go.Proofs.YtjngfhgakokejaaGreat
