/- A new band. A new band: the walk. Rows of passes: append, a copy. A copy of passes. A block of one's own: a copy. A band's k-th block: a copy of what is known of it. A band of which nothing is new: written; the law's example. waveletref8: rows of passes: append; one is changed. waveletref8: a block on its way: what is in memory. waveletref8.Encode: a value is laid into the coder. -/
import Derived.Test.YtnpoakabheeoeaaTw11
import Derived.Test.YtnpoakabheeoeaaTw03
import Derived.WalkLawsBesides
import Derived.Deep.RegionHeld3
import Derived.Test.YtnpoakabheeoeaaTw06
import Derived.Test.YtnpoakabheeoeaaTw10
import Derived.Test.YtnpoakabheeoeaaTw02
import Derived.Test.YtnpoakabheeoeaaTw09
set_option maxRecDepth 100000
namespace Go.Proofs.Ytnpoakabheeoeaa
section
open Go.RowKit
def stNew : StG := ⟨⟨0,[],[],0,3⟩,.slice none 0 0,.slice none 0 0,[],[]⟩
theorem stNew_ok : stNew.ok := ⟨RowH.nil _ _,RowH.nil _ _,⟨by simp [stNew],by simp [stNew],by simp [stNew],by simp [stNew],by simp [stNew],by simp [stNew]⟩⟩
theorem infoSt : (Try.prog.info? 70).map (fun i => (i.zero,i.size,i.bytes)) = some (some (.agg #[.int .i64 0,.slice none 0 0,.slice none 0 0,.int .i64 0,.int .i64 0]),5,72) := by kernel_rfl
def st0 : StG := ⟨⟨0,[],[],0,0⟩,.slice none 0 0,.slice none 0 0,[],[]⟩
def newBandM (w h : Nat) (planes : Int) : BandM := ⟨w,h,planes,treeOf w h,treeOf w h,false,List.replicate (w * h) stNew.m⟩
def stMid (n j : Nat) : List StG := List.replicate j stNew ++ List.replicate (n - j) st0
theorem stMid_get (n j : Nat) (h : j < n) : (stMid n j)[j]? = some st0 := by
 unfold stMid
 rw [List.getElem?_append_right (by simp),List.length_replicate,Nat.sub_self,List.getElem?_replicate,if_pos (by omega)]
theorem stMid_set (n j : Nat) (h : j < n) : (stMid n j).set j stNew = stMid n (j + 1) := by
 unfold stMid
 apply List.ext_getElem?
 intro i
 simp only [List.getElem?_set,List.length_append,List.length_replicate,List.getElem?_append,List.getElem?_replicate]
 grind
theorem stMid_step (n j : Nat) (h : j < n) : ((stMid n j).flatMap StG.v).set (j * 5 + 4) (.int .i64 3) = (stMid n (j + 1)).flatMap StG.v := by
 rw [← stMid_set n j h]
 exact flat_set StG.v 5 StG.v_length _ _ st0 stNew (stMid_get n j h) 4 (by omega) _ rfl
theorem stMid_made (n : Nat) : (List.replicate n (Value.agg #[.int .i64 0,.slice none 0 0,.slice none 0 0,.int .i64 0,.int .i64 0]).cells.toList).flatten = (stMid n 0).flatMap StG.v := by
 unfold stMid
 simp only [List.replicate_zero,List.nil_append,Nat.sub_zero]
 induction n with
 | zero => rfl
 | succ n ih => rw [List.replicate_succ,List.replicate_succ,List.flatten_cons,List.flatMap_cons,ih]; rfl
end
section
open Go.RowKit
set_option maxHeartbeats 1000000 in
theorem band_new (x y : Nat) (planes : Int) (W : World) (hx : x ≤ 64) (hy : y ≤ 64) (hp : -1000 ≤ planes ∧ planes ≤ 1000) :
  Calls Try.prog 12 #[.int .i64 (x : Int),.int .i64 (y : Int),.int .i64 planes] W fun e W' => ∃ d H,e = .returned (.pointer (some ⟨d.bb,0,none⟩)) ∧ d.n = x * y ∧ BandR d (newBandM x y planes) H ∧ Mv W [] W' H := by
 have T1 := Lib.hid (tree_new x y)
 obtain ⟨n,hn⟩ : ∃ n,x * y = n := ⟨_,rfl⟩
 have hn4 : n ≤ 4096 := by rw [← hn]; exact Nat.mul_le_mul hx hy
 have hmul : (x : Int) * (y : Int) = (n : Int) := by rw [← hn]; push_cast; rfl
 obtain ⟨i0,hi,hz0,hz1,hz2⟩ := info_parts infoSt
 have MK : ∀ V : World,(Instr.makeSlice 81 (.int .i64 ((x : Int) * (y : Int))) (.int .i64 ((x : Int) * (y : Int)))).run Try.prog V = .ok (.slice (some ⟨V.heap.size,0,none⟩) n n) (V.alloc (.cells ((stMid n 0).flatMap StG.v).toArray 70)) := by
  intro V
  rw [hmul,← stMid_made]
  exact run_made _ _ i0 _ 5 72 n Try.underlying81 hi hz0 hz1 hz2 rfl (by omega) (by omega) (by omega) V
 have ub : (x : Int) * (y : Int) ≤ 4096 := by rw [hmul]; omega
 have lb : 0 ≤ (x : Int) * (y : Int) := by rw [hmul]; omega
 have HN := Lib.hid (And.intro hn hmul)
 clear hn hmul hi hz0 hz1 hz2
 have b1 : decide ((x : Int) < 0) = false := by simp
 have b2 : decide ((y : Int) < 0) = false := by simp
 have b3 : decide (64 < (x : Int)) = false := by simp; omega
 have b4 : decide (64 < (y : Int)) = false := by simp; omega
 go_enter Try.func12,Try.ntmps12
 go_upto_region 4 with (go_at_call 32; refine (T1.out _).mono ?_; rintro e w2 ⟨tb,P,H,rfl,q1,q2,q3⟩; have KT := Lib.hid (And.intro q1 (And.intro q2 q3)); clear q1 q2 q3)
 rename_i w1 t1 P1 H1 KT1 kk1 kk2
 have M2 : Mv W [] w2 (H ++ H1) := Mv.call (H := []) (R := H1) KT1.out.2.2 KT.out.2.2
 obtain ⟨w3,hw3⟩ : ∃ w3,w3 = w2.alloc (.cells #[.slice none 0 0,.int .i64 planes,.pointer (some ⟨t1,0,none⟩),.pointer (some ⟨tb,0,none⟩),.bool false] 85) := ⟨_,rfl⟩
 have M3 : Mv W [] w3 (⟨w2.heap.size,85,#[.slice none 0 0,.int .i64 planes,.pointer (some ⟨t1,0,none⟩),.pointer (some ⟨tb,0,none⟩),.bool false]⟩ :: (H ++ H1)) := by rw [hw3]; exact M2.alloc _ _
 have M4 := M3.alloc 70 ((stMid n 0).flatMap StG.v).toArray
 have c0 := (Mv.blkm M4 (List.mem_cons_of_mem _ List.mem_cons_self)).cell 0
 have f0 := (Mv.blkm M4 (List.mem_cons_of_mem _ List.mem_cons_self)).frozen 0
 have M5 := Mv.setAt (A := [_]) M4 0 (.slice (some ⟨w3.heap.size,0,none⟩) n n)
 simp only [← hw3]
 have K5 := Lib.hid M5
 clear hw3 M2 M3 M4 M5
 go_wp2_with fail
 obtain ⟨lb,hlb⟩ : ∃ lb,w3.heap.size = lb := ⟨_,rfl⟩
 obtain ⟨bb,hbb⟩ : ∃ bb,w2.heap.size = bb := ⟨_,rfl⟩
 rw [hlb,hbb] at K5
 simp only [hlb,hbb]
 obtain ⟨BB,hBB⟩ : ∃ BB : HB,BB = ⟨bb,85,#[.slice (some ⟨lb,0,none⟩) n n,.int .i64 planes,.pointer (some ⟨t1,0,none⟩),.pointer (some ⟨tb,0,none⟩),.bool false]⟩ := ⟨_,rfl⟩
 have K6 : Hid (Mv W [] _ (⟨lb,70,((stMid n 0).flatMap StG.v).toArray⟩ :: BB :: (H ++ H1))) := Lib.hid (by rw [hBB]; exact K5.out)
 have FX : Hid (∀ wx j,j < n → Mv W [] wx (⟨lb,70,((stMid n j).flatMap StG.v).toArray⟩ :: BB :: (H ++ H1)) → wx.cell? ⟨bb,0,none⟩ = some (.slice (some ⟨lb,0,none⟩) n n) ∧ wx.cell? ⟨lb,j * 5 + 4,none⟩ = some (.int .i64 0) ∧ wx.frozen? ⟨lb,j * 5 + 4,none⟩ = false ∧
   Hid (Mv W [] (wx.setCell ⟨lb,j * 5 + 4,none⟩ (.int .i64 3)) (⟨lb,70,((stMid n (j + 1)).flatMap StG.v).toArray⟩ :: BB :: (H ++ H1)))) := Lib.hid (by
  intro wx j hj m
  have a1 := Mv.blkm m (x := BB) (List.mem_cons_of_mem _ List.mem_cons_self)
  rw [hBB] at a1
  have a2 := state_cells (Mv.blkm m List.mem_cons_self) (stMid_get n j hj)
  have m2 := m.set (j * 5 + 4) (.int .i64 3)
  rw [← stMid_step n j hj]
  refine ⟨a1.cell 0,a2.2.2.2.2.1,a2.2.2.2.2.2 _,Lib.hid ?_⟩
  simpa using m2)
 clear K5 c0 f0
 go_loopg [46] n (fun m s46 wx => ∃ j : Nat,j ≤ n ∧ m = n - j ∧ s46 = .int .i64 (j : Int) ∧ Mv W [] wx (⟨lb,70,((stMid n j).flatMap StG.v).toArray⟩ :: BB :: (H ++ H1)))
 case atStart => exact ⟨0,by omega,rfl,rfl,K6.out⟩
 case round =>
  obtain ⟨j,hj,rfl,rfl,m⟩ := hrel
  have KM := Lib.hid m
  clear m
  by_cases hlt : j < n
  ·have d1 : decide ((j : Int) < (n : Int)) = true := by simp; omega
   obtain ⟨e1,e2,e3,e4⟩ := FX.out wr j hlt KM.out
   go_wp2_with fail
   all_goals
    go_roundg (n - (j + 1))
    case measure => omega
    case rel => exact ⟨j + 1,by omega,rfl,by push_cast; rfl,e4.out⟩
  ·have d1 : decide ((j : Int) < (n : Int)) = false := by simp; omega
   go_wp2_with fail
   obtain rfl : j = n := by omega
   have e1 : stMid j j = List.replicate j stNew := by simp [stMid]
   have m := KM.out
   rw [e1,hBB] at m
   go_ret
   refine ⟨⟨bb,lb,j⟩,_,rfl,HN.out.1.symm,⟨⟨t1,tb,P1,P,H1,H,List.replicate j stNew,planes,false,x,y⟩,?_,?_,rfl⟩,?_⟩
   ·simp only [BandG.model,newBandM,KT.out.1,KT1.out.1,List.map_replicate,HN.out.1]
   ·exact ⟨KT1.out.2.1,KT.out.2.1,treeOk_new _ _ _ hx hy KT1.out.1,treeOk_new _ _ _ hx hy KT.out.1,fun s hs => by rw [List.eq_of_mem_replicate hs]; exact stNew_ok,by simp,HN.out.1.symm,hp,hx,hy⟩
   ·have e2 : (List.replicate j stNew).flatMap StG.heap = [] := by
     induction j with
     | zero => rfl
     | succ j ih => simp [StG.heap,stNew]
    refine m.sub (fun g => ?_) (fun c hc => ?_)
    ·simp only [BandG.heap,bandB,statesB,e2,cnt_append,cnt_cons,cnt_nil]
     omega
    ·simp only [BandG.heap,bandB,statesB,e2,List.mem_append,List.mem_cons,List.not_mem_nil,or_false] at hc ⊢
     grind
end
section
open Go.RowKit
theorem infoPs : (Try.prog.info? 108).map (fun i => (i.zero,i.size,i.bytes)) = some (some (.agg #[.int .i64 0,.bool false]),2,16) := by kernel_rfl
def RowP (v : Value) (l : List (Int × Bool)) (H : List HB) : Prop := RowH 108 2 v l.length (passesV l) H
def PV (w : World) (v : Value) (l : List (Int × Bool)) : Prop := ∃ A c,v = .slice A l.length c ∧ l.length ≤ c ∧ c ≤ maxLen ∧ Reads w w.heap.size 2 A l.length (passesV l)
theorem passesV_append (a b : List (Int × Bool)) : passesV (a ++ b) = passesV a ++ passesV b := by simp [passesV]
theorem passesV_one (l : List (Int × Bool)) : ∀ u : Value,u ∈ passesV l → u.oneCell' = true := by
 intro u hu
 simp only [passesV,passV,List.mem_flatMap,List.mem_cons,List.not_mem_nil,or_false] at hu
 obtain ⟨p,-,rfl | rfl⟩ := hu <;> rfl
theorem RowP.slice {v : Value} {l : List (Int × Bool)} {H : List HB} (h : RowP v l H) : ∃ a c,v = .slice a l.length c := RowH.slice h
theorem PV.keep {w w' : World} {v : Value} {l : List (Int × Bool)} (h : PV w v l) (hb : Below w.heap.size w w') : PV w' v l := by
 obtain ⟨A,c,h1,h2,h3,h4⟩ := h
 exact ⟨A,c,h1,h2,h3,(h4.below hb).more hb.size⟩
theorem RowP.pv {w : World} {v : Value} {l : List (Int × Bool)} {H : List HB} (h : RowP v l H) (hs : Sat w H) : PV w v l := by
 have ho := RowH.owns h hs (B := 0) (fun _ _ => Nat.zero_le _)
 rcases h.2 with ⟨rfl,h2,h3⟩ | ⟨g,cap,cur,rfl,h1,h2,-⟩
 ·exact ⟨none,0,by rw [h2],by omega,by unfold maxLen; omega,Reads.of_own (by rw [h2] at ho ⊢; exact ho)⟩
 ·exact ⟨_,cap,rfl,h1,h2,Reads.of_own ho⟩
theorem run_appP {w : World} {v u : Value} {l r : List (Int × Bool)} {H : List HB} (h : RowP v l H) (hs : Sat w H) (hu : PV w u r) (hl : l.length + r.length ≤ 100000000) (ty : TypeId) :
  ∃ v' w' H',(Builtin.append_ #[43,43] ty #[v,u]).run Try.prog w = .ok v' w' ∧ RowP v' (l ++ r) H' ∧ Mv w H w' H' := by
 obtain ⟨A,c,rfl,h1,h2,h3⟩ := hu
 obtain ⟨i0,hti,hz0,hz1,hz2⟩ := info_parts infoPs
 obtain ⟨v',w',hrun,k1,k2,k3⟩ := run_append_any (P := Try.prog) w 0 43 ty 108 i0 _ 2 16 Try.underlying43 hti hz0 hz1 hz2 rfl (by decide) v l.length (passesV l) (RowH.owns h hs (fun _ _ => Nat.zero_le _)) w.heap.size A r.length c (passesV r) h3 (passesV_one r) (by unfold maxLen; omega) (by omega) (Nat.zero_le _)
 obtain ⟨H',k4,k5⟩ := mv_owns_grown h k1 k2 k3
 refine ⟨v',w',H',hrun,?_,k5⟩
 unfold RowP
 rw [List.length_append,passesV_append]
 exact k4
section
variable {ops : Array Oper} {rest : List Oper} {o : Oper} {a : Act} {w : World} {K : Act → World → Prop} {Q : Exit → Act → World → Prop} {E : Prop}
theorem wp_appP (s x : Operand) (ho : o.op = .call { callee := .builtin .append,args := #[s,x],argTypes := #[43,43] }) (v u : Value) (l r : List (Int × Bool)) (H : List HB)
  (hsv : a.eval s = v) (hxu : a.eval x = u) (h : RowP v l H) (hs : Sat w H) (hu : PV w u r) (hl : l.length + r.length ≤ 100000000)
  (hK : ∀ v' w' H',RowP v' (l ++ r) H' → Mv w H w' H' → K (a.put o.dst v') w') : o.wp Try.prog a w K Q := by
 obtain ⟨v',w',H',hrun,h1,h2⟩ := run_appP h hs hu hl o.type
 unfold Oper.wp execOp
 simp only [ho,resolve,invoke,builtin,Sem.run_bind,Sem.run_pure,Result.andThen_ok,List.map_toArray,List.map_cons,List.map_nil,hsv,hxu,hrun]
 exact hK v' w' H' h1 h2
theorem wpList_appP (hgd : o.guard = none) (s x : Operand) (ho : o.op = .call { callee := .builtin .append,args := #[s,x],argTypes := #[43,43] }) (v u : Value) (l r : List (Int × Bool)) (H : List HB)
  (hsv : a.eval s = v) (hxu : a.eval x = u) (h : RowP v l H) (hs : Sat w H) (hu : PV w u r) (hl : l.length + r.length ≤ 100000000)
  (hK : ∀ v' w' H',RowP v' (l ++ r) H' → Mv w H w' H' → wpList Try.prog ops Q rest (a.put o.dst v') w') : wpList Try.prog ops Q (o :: rest) a w :=
 wpList_plain hgd fun _ hk => wp_appP s x ho v u l r H hsv hxu h hs hu hl fun v' w' H' h1 h2 => hk _ _ (hK v' w' H' h1 h2)
end
end
section
open Go.RowKit
theorem cloneP_any (v : Value) (l : List (Int × Bool)) (w : World) (hv : PV w v l) (hn : l.length ≤ 1000000) :
  Calls Try.prog 72 #[v] w fun e w' => ∃ v' H',e = .returned v' ∧ RowP v' l H' ∧ Mv w [] w' H' := by
 obtain ⟨A,c,rfl,h1,h2,hr⟩ := hv
 have HV := Lib.hid hr
 have hq : ∀ W,(binOp .eql 43 (.slice A l.length c) (.slice none 0 0)).run Try.prog W = .ok (.bool A.isNone) W := fun W => Lib.run_eql_slice_nil W 43 108 A l.length c 0 0 Try.underlying43
 rcases A with _ | ad
 ·have h0 : l.length = 0 := by
   rcases Nat.eq_zero_or_pos l.length with h | h
   ·exact h
   ·obtain ⟨_,h,_⟩ := hr.2 (by omega); cases h
  have hl : l = [] := List.eq_nil_of_length_eq_zero h0
  subst hl
  clear hr HV hn h1 h0
  simp only [List.length_nil] at hq ⊢
  go_enter Try.func72,Try.ntmps72
  go_wp2
  go_ret
  exact ⟨_,[],rfl,RowH.nil _ _,Mv.refl (Sat.nil w)⟩
 ·have M0 := mv_alloc w 108 #[]
  have B0 : PV (w.alloc (.cells #[] 108)) (.slice (some ad) l.length c) l := ⟨some ad,c,rfl,h1,h2,(hr.alloc (Nat.le_refl _) _).more (by simp)⟩
  have R0 : RowP (.slice (some ⟨w.heap.size,0,none⟩) 0 0) [] [⟨w.heap.size,108,#[]⟩] := RowH.new 108 w.heap.size 0 #[] (by simp) (by decide)
  have K := Lib.hid (And.intro M0 (And.intro B0 R0))
  obtain ⟨n,hnn⟩ : ∃ n,l.length = n := ⟨_,rfl⟩
  have HN := Lib.hid hnn
  rw [hnn] at hq hn h1 K
  rw [hnn]
  clear hr HV M0 B0 R0 hnn
  go_enter Try.func72,Try.ntmps72
  go_wp2_with (at_builtin; go_must (refine wpList_appP rfl (.tmp 5) (.tmp 6) rfl _ _ [] l _ rfl rfl K.out.2.2 K.out.1.sat K.out.2.1 (by rw [HN.out]; simp; omega) ?_; intro v' w1 H1 hr1 m1; obtain ⟨a1,c1,rfl⟩ := hr1.slice; have K1 := Lib.hid (And.intro hr1 m1); clear hr1 m1))
  go_ret
  exact ⟨_,H1,rfl,by simpa using K1.out.1,K.out.1.trans K1.out.2⟩
end
section
open Go.RowKit
set_option maxHeartbeats 1000000 in
theorem own_any (pl : Int) (vp vb : Value) (ps : List (Int × Bool)) (bs : List UInt8) (w : World) (hp : PV w vp ps) (hb : BV w vb bs) (hn : ps.length ≤ 1000000) (hm : bs.length ≤ 100000000) :
  Calls Try.prog 47 #[.agg #[.int .i64 pl,vp,vb]] w fun e w' => ∃ vp' vb' Hp Hb,e = .returned (.agg #[.int .i64 pl,vp',vb']) ∧ RowP vp' ps Hp ∧ RowB vb' bs Hb ∧ Mv w [] w' (Hp ++ Hb) := by
 have M1 := ((Mv.refl (Sat.nil w)).alloc 45 #[.int .i64 pl,vp,vb]).alloc 45 #[.int .i64 0,.slice none 0 0,.slice none 0 0]
 obtain ⟨w1,hw1⟩ : ∃ w1,w1 = (w.alloc (.cells #[.int .i64 pl,vp,vb] 45)).alloc (.cells #[.int .i64 0,.slice none 0 0,.slice none 0 0] 45) := ⟨_,rfl⟩
 rw [← hw1] at M1
 have hsz : (w.alloc (.cells #[.int .i64 pl,vp,vb] 45)).heap.size = w.heap.size + 1 := by simp
 rw [hsz] at M1
 have BX : Blk w1 w.heap.size 45 #[.int .i64 pl,vp,vb] := Mv.blkm M1 (x := ⟨w.heap.size,45,#[.int .i64 pl,vp,vb]⟩) (List.mem_cons_of_mem _ List.mem_cons_self)
 have F : Hid (∀ w' H,Mv w1.drew [] w' H → (w'.cell? ⟨w.heap.size,0,none⟩ = some (.int .i64 pl) ∧ w'.cell? ⟨w.heap.size,1,none⟩ = some vp ∧ w'.cell? ⟨w.heap.size,2,none⟩ = some vb) ∧ PV w' vp ps ∧ BV w' vb bs) := Lib.hid (by
  intro w' H m
  have hB : Below w1.heap.size w1 w' := ⟨m.only.os,m.only.tape,m.only.output,m.only.size,m.below0.block⟩
  have hB0 : Below w.heap.size w w' := (Mv.below0 M1).trans (hB.mono M1.only.size)
  have b1 := BX.below hB BX.lt
  exact ⟨⟨b1.cell 0,b1.cell 1,b1.cell 2⟩,hp.keep hB0,hb.keep hB0⟩)
 have BY : Blk w1 (w.heap.size + 1) 45 #[.int .i64 0,.slice none 0 0,.slice none 0 0] := Mv.blkm M1 (x := ⟨w.heap.size + 1,45,#[.int .i64 0,.slice none 0 0,.slice none 0 0]⟩) List.mem_cons_self
 have FY : Hid (∀ w' H,Mv w1.drew [] w' H → Blk w' (w.heap.size + 1) 45 #[.int .i64 0,.slice none 0 0,.slice none 0 0]) := Lib.hid (by
  intro w' H m
  have hB : Below w1.heap.size w1 w' := ⟨m.only.os,m.only.tape,m.only.output,m.only.size,m.below0.block⟩
  exact BY.below hB BY.lt)
 clear BX BY
 obtain ⟨A,c,rfl,-⟩ := hp
 obtain ⟨B,d,rfl,-⟩ := hb
 obtain ⟨np,hnp⟩ : ∃ np,ps.length = np := ⟨_,rfl⟩
 obtain ⟨nb,hnb⟩ : ∃ nb,bs.length = nb := ⟨_,rfl⟩
 rw [hnp] at F hn M1 hw1 ⊢
 rw [hnb] at F hm M1 hw1 ⊢
 have HN := Lib.hid (And.intro hnp hnb)
 have KM := Lib.hid M1
 clear hnp hnb M1
 go_enter Try.func47,Try.ntmps47
 go_upto_region 1 with fail
 rw [← hw1]
 have CP := Lib.hid fun W (h : PV W (.slice A np c) ps) => cloneP_any _ ps W h (by rw [HN.out.1]; exact hn)
 have CB := Lib.hid fun W (h : BV W (.slice B nb d) bs) => clone_any _ bs W h (by rw [HN.out.2]; exact hm)
 clear hw1
 have F0 := (F.out w1.drew [] (Mv.refl (Sat.nil _))).1
 go_region_held3 (fun w' => w'.cell? ⟨w.heap.size,0,none⟩ = some (.int .i64 pl) ∧ w'.cell? ⟨w.heap.size,1,none⟩ = some (.slice A np c) ∧ w'.cell? ⟨w.heap.size,2,none⟩ = some (.slice B nb d))
  (first | (with_reducible exact F0) | (with_reducible exact F1) | (with_reducible exact F2) | (exact ⟨(World.cell?_setCell_other _ _ _ _ (by simp)).trans ((World.cell?_setCell_other _ _ _ _ (by simp)).trans ((World.cell?_setCell_other _ _ _ _ (by simp)).trans F2.1)),(World.cell?_setCell_other _ _ _ _ (by simp)).trans ((World.cell?_setCell_other _ _ _ _ (by simp)).trans ((World.cell?_setCell_other _ _ _ _ (by simp)).trans F2.2.1)),(World.cell?_setCell_other _ _ _ _ (by simp)).trans ((World.cell?_setCell_other _ _ _ _ (by simp)).trans ((World.cell?_setCell_other _ _ _ _ (by simp)).trans F2.2.2))⟩))
  (first | (go_at_call 72; refine (CP.out _ (F.out _ _ (Mv.refl (Sat.nil _))).2.1).mono ?_; rintro e w2 ⟨vp',Hp,rfl,r1,m1⟩; obtain ⟨a1,c1,rfl⟩ := r1.slice; have F1 := (F.out w2 _ m1).1; have K1 := Lib.hid (And.intro r1 m1); clear r1 m1) | (go_at_call 31; refine (CB.out _ (F.out _ _ K1.out.2).2.2).mono ?_; rintro e w3 ⟨vb',Hb,rfl,r2,m2⟩; obtain ⟨a2,c2,rfl⟩ := RowH.slice r2; have K2 := Lib.hid (And.intro r2 m2); have F2 := (F.out w3 _ (Mv.call (H := []) K1.out.2 m2)).1; have Y3 := FY.out w3 _ (Mv.call (H := []) K1.out.2 m2); have y0 := Y3.cell 0; have y1 := Y3.cell 1; have y2 := Y3.cell 2; have z0 := Y3.frozen 0; have z1 := Y3.frozen 1; have z2 := Y3.frozen 2; have KY := Lib.hid Y3; clear r2 m2 Y3))
 go_wp2_with fail
 rw [HN.out.1,HN.out.2]
 have M3a : Mv w [] w2 (Hp ++ [_,_]) := Mv.call (H := []) (R := [_,_]) KM.out.drew K1.out.2
 have M3b : Mv w [] w3 (Hb ++ (Hp ++ [_,_])) := Mv.call (H := []) (R := Hp ++ [_,_]) M3a K2.out.2
 have M3 : Mv w [] w3 (⟨w.heap.size + 1,45,#[.int .i64 0,.slice none 0 0,.slice none 0 0]⟩ :: (Hp ++ Hb)) := M3b.sub (fun g => by simp only [cnt_append,cnt_cons]; omega) (fun c hc => by simp only [List.mem_append,List.mem_cons] at hc ⊢; grind)
 have M4 := ((M3.set 0 (.int .i64 pl)).set 1 (.slice a1 ps.length c1)).set 2 (.slice a2 bs.length c2)
 rw [HN.out.1,HN.out.2] at M4
 refine bodyPost_ret (v := .agg #[.int .i64 pl,.slice a1 np c1,.slice a2 nb c2]) (results_cell_row Try.results47 _ _ (w.heap.size + 1) 45 _ (0,0) _ rfl (Mv.blkm M4 List.mem_cons_self) Try.underlying45 rfl (by kernel_rfl)) rfl ?_
 have k1 := K1.out.1
 have k2 := K2.out.1
 rw [HN.out.1] at k1
 rw [HN.out.2] at k2
 exact ⟨_,_,Hp,Hb,rfl,k1,k2,M4.drop1⟩
end
section
open Go.RowKit
theorem cnt_flatMap_le {α : Type} (f : α → List HB) {l : List α} {x : α} (h : x ∈ l) (g : Nat) : cnt g (f x) ≤ cnt g (l.flatMap f) := by
 induction l with
 | nil => cases h
 | cons y l ih =>
  rw [List.flatMap_cons,cnt_append]
  rcases List.mem_cons.1 h with rfl | h
  ·omega
  ·have := ih h
   omega
def stNone : StM := ⟨0,[],[],0,3⟩
def stOf (m : BandM) (k : Int) : StM := if k < 0 ∨ (m.ss.length : Int) ≤ k then stNone else m.ss.getD k.toNat stNone
theorem StG.sat {b : BandG} {d : BandA} {w : World} (hs : Sat w (b.heap d)) {s : StG} (h : s ∈ b.G) : Sat w s.Hp ∧ Sat w s.Hb := by
 have h1 : Sat w (s.heap) := by
  refine hs.sub (fun g => ?_) (fun c hc => ?_)
  ·have := cnt_flatMap_le StG.heap h g
   simp only [BandG.heap,cnt_cons,cnt_append]
   omega
  ·have : c ∈ b.G.flatMap StG.heap := List.mem_flatMap.2 ⟨s,h,hc⟩
   simp only [BandG.heap,List.mem_cons,List.mem_append]
   exact .inr (.inr (.inr (.inr this)))
 exact ⟨h1.left,h1.right⟩
end
section
open Go.RowKit
def listB (g bb : Nat) : HB := ⟨g,34,#[.pointer (some ⟨bb,0,none⟩)]⟩
theorem enc_one (d : BandA) (m : BandM) (H0 : List HB) (g : Nat) (W : World) (style layer : Int) (count : Nat) (hB : BandR d m H0) (hs : Sat W (listB g d.bb :: H0)) (hct : count ≤ 100000) (hly : 0 ≤ layer ∧ layer ≤ 10000) (hno : ∀ s ∈ m.ss,passN s.ps.length count (layer + 1) ≤ s.said) :
  Calls Try.prog 11 #[.slice (some ⟨g,0,none⟩) 1 1,.int .i64 style,.int .i64 (count : Int),.int .i64 layer] W fun e W' =>
   ∃ a c H1 m' H',e = .returned (.tuple #[.slice (some ⟨a,0,none⟩) 1 c,.slice none 0 0]) ∧ RowB (.slice (some ⟨a,0,none⟩) 1 c) [0] H1 ∧ W'.cell? ⟨a,0,none⟩ = some (.int .u8 0) ∧ 1 ≤ c ∧ BandR d m' H' ∧ m'.ss = m.ss ∧ Mv W (listB g d.bb :: H0) W' (H1 ++ (listB g d.bb :: H')) := by
 have hL : ListH (.slice (some ⟨g,0,none⟩) 1 1) [d] [listB g d.bb] := RowH.new (size := 1) _ g 1 #[.pointer (some ⟨d.bb,0,none⟩)] rfl (by decide)
 refine (enc_none (some ⟨g,0,none⟩) 1 [d] (fun _ => m) style layer count [listB g d.bb] H0 W (by simp) hL ⟨H0,[],by simp,hB,rfl⟩ hs hct hly (fun d' hd s h => ?_)).mono ?_
 ·exact hno s h
 ·rintro e W' ⟨v,H1,HB',rfl,h1,⟨H2,H3,rfl,h2,rfl⟩,h3⟩
  obtain ⟨a,c,cur,rfl,hc,-⟩ := RowH.form h1 (by decide)
  have hcell := (RowH.cell h1 h3.sat.left rfl 0 (by decide)).1
  refine ⟨a,c,H1,_,H2,rfl,h1,by simpa [cellsB] using hcell,hc,h2,encM_ss count _ _ _,?_⟩
  simpa using h3
theorem new_none (w h : Nat) (planes : Int) (count : Nat) (layer : Int) : ∀ s ∈ (newBandM w h planes).ss,passN s.ps.length count (layer + 1) ≤ s.said := by
 intro s hs
 rw [List.eq_of_mem_replicate hs]
 exact Int.le_of_eq (passN_zero _ _)
set_option maxHeartbeats 1000000 in
theorem known_any (w : World) : Calls Try.prog 7 #[] w fun e w' => e = .returned (.bool true) ∧ Mv w [] w' [] := by
 have NB := Lib.hid (band_new 1 1 5 w (by decide) (by decide) (by decide))
 have NN := Lib.hid (new_none 1 1 5 1 0)
 go_enter Try.func7,Try.ntmps7
 go_wp2_with (first | (go_at_call 12; refine NB.out.mono ?_; rintro e w1 ⟨d,H,rfl,-,hB,m1⟩; have K1 := Lib.hid (And.intro hB m1); clear hB m1) | (go_at_call 11; refine (enc_one d _ H _ _ 0 0 1 K1.out.1 (K1.out.2.alloc _ _).sat (by decide) (by decide) NN.out).mono ?_; rintro e w2 ⟨a,c,H1,m',H',rfl,-,c0,hc,-,-,m2⟩; have M2 := (K1.out.2.alloc _ _).trans m2; have K2 := Lib.hid M2; clear m2 M2))
 go_ret
 exact ⟨rfl,Mv.drop (A := H1 ++ (_ :: H')) (H := []) (by simpa using K2.out)⟩
end
section
open Go.RowKit
theorem infoQs : (Try.prog.info? 104).map (fun i => (i.zero,i.size,i.bytes)) = some (some (.agg #[.int .i64 0,.bool false]),2,16) := by kernel_rfl
def RowQ (v : Value) (l : List (Int × Bool)) (H : List HB) : Prop := RowH 104 2 v l.length (passesV l) H
def QV (w : World) (v : Value) (l : List (Int × Bool)) : Prop := ∃ A c,v = .slice A l.length c ∧ l.length ≤ c ∧ c ≤ maxLen ∧ Reads w w.heap.size 2 A l.length (passesV l)
theorem RowQ.slice {v : Value} {l : List (Int × Bool)} {H : List HB} (h : RowQ v l H) : ∃ a c,v = .slice a l.length c := RowH.slice h
theorem RowQ.qv {w : World} {v : Value} {l : List (Int × Bool)} {H : List HB} (h : RowQ v l H) (hs : Sat w H) : QV w v l := by
 have ho := RowH.owns h hs (B := 0) (fun _ _ => Nat.zero_le _)
 rcases h.2 with ⟨rfl,h2,h3⟩ | ⟨g,cap,cur,rfl,h1,h2,-⟩
 ·exact ⟨none,0,by rw [h2],by omega,by unfold maxLen; omega,Reads.of_own (by rw [h2] at ho ⊢; exact ho)⟩
 ·exact ⟨_,cap,rfl,h1,h2,Reads.of_own ho⟩
theorem run_appQ {w : World} {v u : Value} {l r : List (Int × Bool)} {H : List HB} (h : RowQ v l H) (hs : Sat w H) (hu : QV w u r) (hl : l.length + r.length ≤ 100000000) (ty : TypeId) :
  ∃ v' w' H',(Builtin.append_ #[36,36] ty #[v,u]).run Try.prog w = .ok v' w' ∧ RowQ v' (l ++ r) H' ∧ Mv w H w' H' := by
 obtain ⟨A,c,rfl,h1,h2,h3⟩ := hu
 obtain ⟨i0,hti,hz0,hz1,hz2⟩ := info_parts infoQs
 obtain ⟨v',w',hrun,k1,k2,k3⟩ := run_append_any (P := Try.prog) w 0 36 ty 104 i0 _ 2 16 Try.underlying36 hti hz0 hz1 hz2 rfl (by decide) v l.length (passesV l) (RowH.owns h hs (fun _ _ => Nat.zero_le _)) w.heap.size A r.length c (passesV r) h3 (passesV_one r) (by unfold maxLen; omega) (by omega) (Nat.zero_le _)
 obtain ⟨H',k4,k5⟩ := mv_owns_grown h k1 k2 k3
 refine ⟨v',w',H',hrun,?_,k5⟩
 unfold RowQ
 rw [List.length_append,passesV_append]
 exact k4
section
variable {ops : Array Oper} {rest : List Oper} {o : Oper} {a : Act} {w : World} {K : Act → World → Prop} {Q : Exit → Act → World → Prop} {E : Prop}
theorem wp_appQ (s x : Operand) (ho : o.op = .call { callee := .builtin .append,args := #[s,x],argTypes := #[36,36] }) (v u : Value) (l r : List (Int × Bool)) (H : List HB)
  (hsv : a.eval s = v) (hxu : a.eval x = u) (h : RowQ v l H) (hs : Sat w H) (hu : QV w u r) (hl : l.length + r.length ≤ 100000000)
  (hK : ∀ v' w' H',RowQ v' (l ++ r) H' → Mv w H w' H' → K (a.put o.dst v') w') : o.wp Try.prog a w K Q := by
 obtain ⟨v',w',H',hrun,h1,h2⟩ := run_appQ h hs hu hl o.type
 unfold Oper.wp execOp
 simp only [ho,resolve,invoke,builtin,Sem.run_bind,Sem.run_pure,Result.andThen_ok,List.map_toArray,List.map_cons,List.map_nil,hsv,hxu,hrun]
 exact hK v' w' H' h1 h2
theorem wpList_appQ (hgd : o.guard = none) (s x : Operand) (ho : o.op = .call { callee := .builtin .append,args := #[s,x],argTypes := #[36,36] }) (v u : Value) (l r : List (Int × Bool)) (H : List HB)
  (hsv : a.eval s = v) (hxu : a.eval x = u) (h : RowQ v l H) (hs : Sat w H) (hu : QV w u r) (hl : l.length + r.length ≤ 100000000)
  (hK : ∀ v' w' H',RowQ v' (l ++ r) H' → Mv w H w' H' → wpList Try.prog ops Q rest (a.put o.dst v') w') : wpList Try.prog ops Q (o :: rest) a w :=
 wpList_plain hgd fun _ hk => wp_appQ s x ho v u l r H hsv hxu h hs hu hl fun v' w' H' h1 h2 => hk _ _ (hK v' w' H' h1 h2)
end
theorem passesV_get {l : List (Int × Bool)} {k : Nat} {p : Int × Bool} (h : l[k]? = some p) : (passesV l)[k * 2]? = some (.int .i64 p.1) ∧ (passesV l)[k * 2 + 1]? = some (.bool p.2) := by
 have g := fun j (hj : j < 2) => flat_get passV 2 passV_length l k p h j hj
 exact ⟨g 0 (by omega),g 1 (by omega)⟩
theorem passesV_set {l : List (Int × Bool)} {k : Nat} {p : Int × Bool} (h : l[k]? = some p) (e : Int) : (passesV l).set (k * 2) (.int .i64 e) = passesV (l.set k (e,p.2)) :=
 flat_set passV 2 passV_length l k p (e,p.2) h 0 (by omega) (.int .i64 e) rfl
theorem RowQ.form {a : Option Addr} {n c : Nat} {l : List (Int × Bool)} {H : List HB} (h : RowQ (.slice a n c) l H) (hn : 0 < n) : n = l.length ∧ ∃ g,a = some ⟨g,0,none⟩ := by
 obtain ⟨a',c',e⟩ := h.slice
 cases e
 obtain ⟨g,cp,cur,hv,-⟩ := RowH.form h hn
 injection hv with ha
 exact ⟨rfl,g,ha⟩
theorem RowQ.at_ {w : World} {g n c : Nat} {l : List (Int × Bool)} {H : List HB} (h : RowQ (.slice (some ⟨g,0,none⟩) n c) l H) (hs : Sat w H) {k : Nat} {p : Int × Bool} (hk : l[k]? = some p) : w.cell? ⟨g,k * 2,none⟩ = some (.int .i64 p.1) ∧ w.frozen? ⟨g,k * 2,none⟩ = false := by
 obtain ⟨a',c',e⟩ := h.slice
 cases e
 have hi := (List.getElem?_eq_some_iff.1 hk).1
 obtain ⟨h1,h2⟩ := RowH.cell h hs rfl (k * 2) (by omega)
 exact ⟨h1.trans (passesV_get hk).1,h2⟩
theorem RowQ.set_ {w : World} {g n c : Nat} {l : List (Int × Bool)} {H : List HB} (h : RowQ (.slice (some ⟨g,0,none⟩) n c) l H) (hs : Sat w H) {k : Nat} {p : Int × Bool} (hk : l[k]? = some p) (e : Int) :
  ∃ H',RowQ (.slice (some ⟨g,0,none⟩) n c) (l.set k (e,p.2)) H' ∧ Mv w H (w.setCell ⟨g,k * 2,none⟩ (.int .i64 e)) H' := by
 obtain ⟨a',c',e'⟩ := h.slice
 cases e'
 have hi := (List.getElem?_eq_some_iff.1 hk).1
 obtain ⟨H',h1,h2⟩ := RowH.set h hs rfl (k * 2) (.int .i64 e) (by omega)
 refine ⟨H',?_,h2⟩
 rw [passesV_set hk] at h1
 unfold RowQ
 rw [List.length_set]
 exact h1
theorem qv_one (w : World) (p : Int × Bool) (g : Nat) (hg : g = w.heap.size) : QV (w.alloc (.cells #[.int .i64 p.1,.bool p.2] 104)) (.slice (some ⟨g,0,none⟩) 1 1) [p] := by
 subst hg
 have h : RowQ (.slice (some ⟨w.heap.size,0,none⟩) 1 1) [p] [⟨w.heap.size,104,#[.int .i64 p.1,.bool p.2]⟩] := RowH.new 104 w.heap.size 1 #[.int .i64 p.1,.bool p.2] rfl (by decide)
 exact h.qv (mv_alloc w 104 _).sat
end
section
open Go.RowKit
theorem Mv.old {w0 w : World} {H : List HB} (h : Mv w0 [] w H) {a : Addr} {u : Value} (hc : w0.cell? a = some u) (hl : a.block < w0.heap.size) : w.cell? a = some u := (h.below0.cell (p := a) hl).trans hc
def codT (A : CodA) (G : GeoM) (cx : List CxM) (t : List Value) : List Value :=
 [.int .i64 (G.w : Int),.int .i64 (G.h : Int),.int .i64 (G.band : Int),.int .i64 (G.style : Int),slV A.gm (G.w * G.h),slV A.gn (G.w * G.h),slV A.gs (G.w * G.h),slV A.ge (G.w * G.h),slV A.ga (G.w * G.h)] ++ (cxV cx ++ t)
def tailP (wr raw : Bool) (pe pr : Value) : List Value := [.bool wr,.bool raw,pe,pr,.pointer none,.pointer none]
def ptr0 (g : Nat) : Value := .pointer (some ⟨g,0,none⟩)
def codH (A : CodA) (G : GeoM) (cx : List CxM) (t : List Value) : HB := ⟨A.cb,98,(codT A G cx t).toArray⟩
theorem codI_eq (A : CodA) (G : GeoM) : codI G A.gm A.gn A.gs A.ge A.ga = codT A G cxFresh (tailP false false (.pointer none) (.pointer none)) := rfl
theorem codT_set {A : CodA} {G : GeoM} {cx : List CxM} (hl : cx.length = 19) (t : List Value) (i : Nat) (v : Value) : (codT A G cx t).toArray.setIfInBounds (47 + i) v = (codT A G cx (t.set i v)).toArray := by
 have hc := cxV_length cx
 unfold codT
 rw [List.setIfInBounds_toArray,List.set_append_right _ _ (by simp only [List.length_cons,List.length_nil]; omega),List.set_append_right _ _ (by simp only [List.length_cons,List.length_nil]; omega)]
 congr 4
 simp only [List.length_cons,List.length_nil]
 omega
theorem codT_get {A : CodA} {G : GeoM} {cx : List CxM} (hl : cx.length = 19) (t : List Value) (i : Nat) : (codT A G cx t).toArray[47 + i]? = t[i]? := by
 have hc := cxV_length cx
 unfold codT
 rw [List.getElem?_toArray,List.getElem?_append_right (by simp only [List.length_cons,List.length_nil]; omega),List.getElem?_append_right (by simp only [List.length_cons,List.length_nil]; omega)]
 congr 1
 simp only [List.length_cons,List.length_nil]
 omega
theorem zN_eq (g n : Nat) : zN g n = rowN g (List.replicate n 0) := by simp [zN,rowN]
theorem zL_eq (g n : Nat) : zL g n = rowL g (List.replicate n false) := by simp [zL,rowL]
theorem rowN_set (g : Nat) (l : List Nat) (i m : Nat) : (rowN g l).cs.setIfInBounds i (.int .i64 (m : Int)) = (rowN g (l.set i m)).cs := by
 simp [rowN]
def bB (bb : Nat) (pl : Nat) (pv bv : Value) : HB := ⟨bb,38,#[.int .i64 (pl : Int),pv,bv]⟩
def nil0 : Value := .slice none 0 0
def IniH (A : CodA) (bb : Nat) (G : GeoM) (i : Nat) (pl : Nat) (R : List HB) : List HB :=
 codH A G cxFresh (tailP true false (.pointer none) (.pointer none)) :: rowN A.gm (midN G.mag i) :: rowN A.gn (midN G.neg i) :: bB bb pl nil0 nil0 :: R
theorem ini_mag {A : CodA} {w0 w : World} {b0 : HB} {rest : List HB} {l : List Nat} {i m : Nat} (M : Mv w0 [] w (b0 :: rowN A.gm (midN l i) :: rest)) (h : l[i]? = some m) : Mv w0 [] (w.setCell ⟨A.gm,i,none⟩ (.int .i64 (m : Int))) (b0 :: rowN A.gm (midN l (i + 1)) :: rest) := by
 have := Mv.setAt (A := [b0]) (g := A.gm) (t := 3) (cs := (rowN A.gm (midN l i)).cs) M i (.int .i64 (m : Int))
 rw [rowN_set,midN_set l i h] at this
 exact this
theorem ini_neg {A : CodA} {w0 w : World} {b0 b1 : HB} {rest : List HB} {l : List Nat} {i m : Nat} (M : Mv w0 [] w (b0 :: b1 :: rowN A.gn (midN l i) :: rest)) (h : l[i]? = some m) : Mv w0 [] (w.setCell ⟨A.gn,i,none⟩ (.int .i64 (m : Int))) (b0 :: b1 :: rowN A.gn (midN l (i + 1)) :: rest) := by
 have := Mv.setAt (A := [b0,b1]) (g := A.gn) (t := 3) (cs := (rowN A.gn (midN l i)).cs) M i (.int .i64 (m : Int))
 rw [rowN_set,midN_set l i h] at this
 exact this
theorem ini_pl {w0 w : World} {b0 b1 b2 : HB} {rest : List HB} {bb pl : Nat} {pv bv : Value} (M : Mv w0 [] w (b0 :: b1 :: b2 :: bB bb pl pv bv :: rest)) (q : Nat) : Mv w0 [] (w.setCell ⟨bb,0,none⟩ (.int .i64 (q : Int))) (b0 :: b1 :: b2 :: bB bb q pv bv :: rest) :=
 Mv.setAt (A := [b0,b1,b2]) (g := bb) (t := 38) (cs := #[.int .i64 (pl : Int),pv,bv]) M 0 (.int .i64 (q : Int))
theorem codT_front {w : World} {A : CodA} {G : GeoM} {cx : List CxM} {t : List Value} (b : Blk w A.cb 98 (codT A G cx t).toArray) :
  w.cell? ⟨A.cb,4,none⟩ = some (slV A.gm (G.w * G.h)) ∧ w.cell? ⟨A.cb,5,none⟩ = some (slV A.gn (G.w * G.h)) := by
 have c := fun i => b.cell i
 simp only [codT,List.cons_append,List.nil_append] at c
 exact ⟨c 4,c 5⟩
theorem shr_pos {m q : Nat} (h : 0 < m / 2 ^ q) : decide ((0 : Int) < (m : Int) / 2 ^ q) = true := by
 have e : (m : Int) / 2 ^ q = ((m / 2 ^ q : Nat) : Int) := by push_cast; rfl
 rw [e]
 exact decide_eq_true (Int.natCast_pos.2 h)
theorem shr_not {m q : Nat} (h : ¬ 0 < m / 2 ^ q) : decide ((0 : Int) < (m : Int) / 2 ^ q) = false := by
 have e : (m : Int) / 2 ^ q = ((m / 2 ^ q : Nat) : Int) := by push_cast; rfl
 rw [e]
 exact decide_eq_false (fun hh => h (Int.natCast_pos.1 hh))
theorem stepP_le {p m B : Nat} (h : m < 2 ^ B) (hp : p ≤ B) : stepP p m ≤ B := by
 unfold stepP
 split
 ·exact hp
 ·next h0 =>
  have := (Nat.log2_lt h0 (k := B)).2 h
  omega
theorem stepP_ge (p m : Nat) : p ≤ stepP p m := by
 unfold stepP
 split <;> omega
theorem getD_of {l : List Nat} {i m : Nat} (h : l[i]? = some m) : l.getD i 0 = m := by
 rw [List.getD_eq_getElem?_getD,h]
 rfl
end
section
open Go.RowKit
set_option maxHeartbeats 8000000 in
theorem enc_p1 (K : Act → World → Prop) (A : CodA) (bb vg vc N i pl ma ng : Nat) (G : GeoM) (m : Int) (R : List HB) (w0 w : World) (s0 s1 s2 s3 s5 s6 s7 s8 s9 s10 s11 s15 s16 s17 s18 s19 s20 s21 s22 s23 s24 s25 s26 s27 s28 s29 s30 s31 s32 s33 s34 s35 s36 s37 s38 s39 s40 s41 s42 s43 s44 s45 s46 s47 s48 s49 s50 s51 s52 s53 s54 s55 s56 s57 s58 s59 s60 s61 s62 s63 s64 s65 s66 s67 s68 s69 s70 s71 s72 s73 s74 s75 s76 s77 s78 s79 s80 s81 s82 s83 s84 s85 s86 s87 s88 s89 s90 s91 s92 s93 s94 s95 s96 s97 s98 s99 s100 s101 s102 s103 s104 s105 s106 s107 s108 s109 s110 s111 s112 s113 s114 s115 s116 s117 s118 s119 s120 s121 s122 s123 s124 s125 s126 s127 s128 s129 s130 s131 s132 s133 s134 s135 s136 s137 s138 s139 s140 s141 s142 s143 s144 s145 s146 s147 s148 s149 s150 s151 s152 s153 s154 s155 s156 s157 s158 s159 s160 s161 s162 s163 s164 s165 s166 s167 s168 s169 s170 s171 s172 s173 s174 s175 s176 s177 s178 s179 s180 s181 s182 s183 s184 s185 s186 s187 s188 s189 s190 s191 s192 s193 s194 s195 s196 s197 s198 s199 s200 s201 s202 s203 s204 s205 s206 s207 s208 s209 s210 s211 s212 s213 s214 s215 s216 s217 s218 s219 s220 s221 s222 s223 s224 s225 s226 s227 s228 s229 s230 s231 s232 s233 s234 s235 s236 s237 s238 s239 s240 s241 : Value)
  (hN : G.w * G.h = N) (_hNl : N ≤ 4096) (hi : i < N) (h1 : G.mag[i]? = some ma) (h2 : G.neg[i]? = some ng) (hma : ma = m.natAbs) (hng : ng = oneN (decide (m < 0))) (hml : ma ≤ 1073741823)
  (hl1 : G.mag.length = N) (hl2 : G.neg.length = N) (hv : w0.cell? ⟨vg,i,none⟩ = some (.int .i64 m)) (hvg : vg < w0.heap.size) (hpl : pl ≤ 30) (M : Mv w0 [] w (IniH A bb G i pl R))
  (hk : ∀ (t53 t54 t55 t56 t57 t58 t59 t60 t61 t62 t63 t64 t66 t67 t68 t69 t70 t71 t72 t73 t74 t75 t76 t77 t78 t79 t80 t81 t82 t83 t84 t85 t86 t87 t88 t89 t90 t91 t92 t93 t94 t95 t96 t97 t98 t99 t100 t101 t102 t103 t104 t105 t106 t107 t108 t109 : Value) (wx : World),Mv w0 [] wx (IniH A bb G (i + 1) (stepP pl ma) R) →
   K ⟨List.toArray (s0::s1::s2::s3::(.slice (some ⟨vg,0,none⟩) N vc)::s5::s6::s7::s8::s9::s10::s11::(ptr0 A.cb)::(ptr0 bb)::(.int .i64 (i : Int))::s15::s16::s17::s18::s19::s20::s21::s22::s23::s24::s25::s26::s27::s28::s29::s30::s31::s32::s33::s34::s35::s36::s37::s38::s39::s40::s41::s42::s43::s44::s45::s46::s47::s48::s49::s50::s51::s52::t53::t54::t55::t56::t57::t58::t59::t60::t61::t62::t63::t64::s65::t66::t67::t68::t69::t70::t71::t72::t73::t74::t75::t76::t77::t78::t79::t80::t81::t82::t83::t84::t85::t86::t87::t88::t89::t90::t91::t92::t93::t94::t95::t96::t97::t98::t99::t100::t101::t102::t103::t104::t105::t106::t107::t108::t109::s110::s111::s112::s113::s114::s115::s116::s117::s118::s119::s120::s121::s122::s123::s124::s125::s126::s127::s128::s129::s130::s131::s132::s133::s134::s135::s136::s137::s138::s139::s140::s141::s142::s143::s144::s145::s146::s147::s148::s149::s150::s151::s152::s153::s154::s155::s156::s157::s158::s159::s160::s161::s162::s163::s164::s165::s166::s167::s168::s169::s170::s171::s172::s173::s174::s175::s176::s177::s178::s179::s180::s181::s182::s183::s184::s185::s186::s187::s188::s189::s190::s191::s192::s193::s194::s195::s196::s197::s198::s199::s200::s201::s202::s203::s204::s205::s206::s207::s208::s209::s210::s211::s212::s213::s214::s215::s216::s217::s218::s219::s220::s221::s222::s223::s224::s225::s226::s227::s228::s229::s230::s231::s232::s233::s234::s235::s236::s237::s238::s239::s240::s241::[]),[]⟩ wx) :
  (blockOf 1 Try.f13).wp Try.prog (Exit.then K noQ) ⟨List.toArray (s0::s1::s2::s3::(.slice (some ⟨vg,0,none⟩) N vc)::s5::s6::s7::s8::s9::s10::s11::(ptr0 A.cb)::(ptr0 bb)::(.int .i64 (i : Int))::s15::s16::s17::s18::s19::s20::s21::s22::s23::s24::s25::s26::s27::s28::s29::s30::s31::s32::s33::s34::s35::s36::s37::s38::s39::s40::s41::s42::s43::s44::s45::s46::s47::s48::s49::s50::s51::s52::s53::s54::s55::s56::s57::s58::s59::s60::s61::s62::s63::s64::s65::s66::s67::s68::s69::s70::s71::s72::s73::s74::s75::s76::s77::s78::s79::s80::s81::s82::s83::s84::s85::s86::s87::s88::s89::s90::s91::s92::s93::s94::s95::s96::s97::s98::s99::s100::s101::s102::s103::s104::s105::s106::s107::s108::s109::s110::s111::s112::s113::s114::s115::s116::s117::s118::s119::s120::s121::s122::s123::s124::s125::s126::s127::s128::s129::s130::s131::s132::s133::s134::s135::s136::s137::s138::s139::s140::s141::s142::s143::s144::s145::s146::s147::s148::s149::s150::s151::s152::s153::s154::s155::s156::s157::s158::s159::s160::s161::s162::s163::s164::s165::s166::s167::s168::s169::s170::s171::s172::s173::s174::s175::s176::s177::s178::s179::s180::s181::s182::s183::s184::s185::s186::s187::s188::s189::s190::s191::s192::s193::s194::s195::s196::s197::s198::s199::s200::s201::s202::s203::s204::s205::s206::s207::s208::s209::s210::s211::s212::s213::s214::s215::s216::s217::s218::s219::s220::s221::s222::s223::s224::s225::s226::s227::s228::s229::s230::s231::s232::s233::s234::s235::s236::s237::s238::s239::s240::s241::[]),[]⟩ w := by
 conv in (blockOf _ _) => whnf
 unfold noQ
 have HK := Lib.hid hk
 clear hk
 unfold ptr0
 have c0 := M.old hv hvg
 have hin : (i : Int) < (N : Int) := by omega
 have d1 : decide ((1073741823 : Int) < m) = false := by simp; omega
 have d2 : decide (m < -1073741823) = false := by simp; omega
 have HM := Lib.hid (And.intro h1 (And.intro h2 (And.intro hma hng)))
 have M1 := M.drew
 have V1 := codT_front (M1.blk 0 rfl)
 rw [hN] at V1
 unfold slV at V1
 obtain ⟨c4,c5⟩ := V1
 have KM := Lib.hid M
 clear M h1 h2 hma hng M1
 go_upto_region 13 with fail
 have c0 := KM.out.drew.old hv hvg
 have fm := (KM.out.drew.frozen 1 (t := 3) (cs := (rowN A.gm (midN G.mag i)).cs) rfl i)
 have lm := (midN_len G.mag i (by omega)).trans hl1
 have ln := (midN_len G.neg i (by omega)).trans hl2
 have cm : w.drew.cell? ⟨A.gm,i,none⟩ = some (.int .i64 (((midN G.mag i).getD i 0 : Nat) : Int)) := rowN_get (KM.out.drew.blk 1 rfl) lm i hi
 go_still_tail 15,(by kernel_rfl)
 change wpList _ _ _ _ _ w.drew
 have EM : (if m < IntKind.i64.wrap (-m) then IntKind.i64.wrap (-m) else m) = (ma : Int) := by
  have hq := HM.out.2.2.1
  rw [IntWalk.i64_in _ (by omega)]
  split <;> omega
 rw [EM]
 have M5 := (ini_mag KM.out HM.out.1).drew
 obtain ⟨w3,hw3⟩ : ∃ w3,w3 = (w.setCell ⟨A.gm,i,none⟩ (.int .i64 (ma : Int))).drew := ⟨_,rfl⟩
 rw [← hw3] at M5
 have HW := Lib.hid hw3
 have K5 := Lib.hid M5
 clear hw3 M5 EM c4 c5
 go_upto_region 14 with fail
 rw [← HW.out]
 clear HW c0 fm d1 d2 cm lm
 have hmx : Try.prog.follows .mixedOrders = true := by kernel_rfl
 obtain ⟨C,hC⟩ : ∃ C : World → Prop,C = fun w' => w' = w3.drew := ⟨_,rfl⟩
 have CF : Hid (∀ w',C w' → w'.cell? ⟨A.cb,5,none⟩ = some (.slice (some ⟨A.gn,0,none⟩) N N) ∧ w'.cell? ⟨vg,i,none⟩ = some (.int .i64 m) ∧ w'.frozen? ⟨A.gn,i,none⟩ = false ∧ w'.cell? ⟨A.gn,i,none⟩ = some (.int .i64 (((midN G.neg i).getD i 0 : Nat) : Int))) := Lib.hid (by
  intro w' h
  rw [hC] at h
  rw [h]
  have V1 := (codT_front (K5.out.drew.blk 0 rfl)).2
  rw [hN] at V1
  exact ⟨V1,K5.out.drew.old hv hvg,K5.out.drew.frozen 2 (t := 3) (cs := (rowN A.gn (midN G.neg i)).cs) rfl i,rowN_get (K5.out.drew.blk 2 rfl) ln i hi⟩)
 have CK : Hid (∀ w',C w' → Calls Try.prog 35 #[.bool (decide (m < 0))] w' fun e w4 => e = .returned (.int .i64 (ng : Int)) ∧ C w4) := Lib.hid (by
  intro w' h
  refine (one_any (decide (m < 0)) w').mono ?_
  rintro e w4 ⟨rfl,rfl⟩
  exact ⟨by rw [HM.out.2.2.2],h⟩)
 have CD : C w3.drew := by rw [hC]
 have HC := Lib.hid hC
 clear hC
 refine plain_quiet_tail 11 C hmx CD (by kernel_rfl) ?_
 simp only [List.take_succ_cons,List.take_zero,List.drop_succ_cons,List.drop_zero]
 (first | (with_reducible refine qc_pass ?hw1 ?nx1; (case hw1 => (go_simp; done)); (try simp only [Act.put,List.setIfInBounds_toArray,List.set_cons_zero,List.set_cons_succ])) | (with_reducible refine qc_one ?v1 ?hw1 (fun w' hw' => ?hr1) ?nx1; (case hw1 => (go_simp; done)); (case hr1 => (first | (refine qc_val ?_; (obtain ⟨a0,a1,a2,a3⟩ := CF.out w' hw'); clear hw'; go_simp; done) | (refine qc_val ?_; (obtain ⟨a0,a1,a2,a3⟩ := CF.out w' hw'); clear hw'; go_simp; rfl) | (refine qc_call (f := ?f1) (args := ?args1) ?h11 ?h21; (case h11 => ((obtain ⟨a0,a1,a2,a3⟩ := CF.out w' hw'); go_simp; constructor <;> rfl)); (case h21 => (exact CK.out w' hw'))) | (refine qc_skip ?_; (obtain ⟨a0,a1,a2,a3⟩ := CF.out w' hw'); clear hw'; go_simp; done))); (try simp only [Act.put,List.setIfInBounds_toArray,List.set_cons_zero,List.set_cons_succ])))
 (first | (with_reducible refine qc_pass ?hw2 ?nx2; (case hw2 => (go_simp; done)); (try simp only [Act.put,List.setIfInBounds_toArray,List.set_cons_zero,List.set_cons_succ])) | (with_reducible refine qc_one ?v2 ?hw2 (fun w' hw' => ?hr2) ?nx2; (case hw2 => (go_simp; done)); (case hr2 => (first | (refine qc_val ?_; (obtain ⟨a0,a1,a2,a3⟩ := CF.out w' hw'); clear hw'; go_simp; done) | (refine qc_val ?_; (obtain ⟨a0,a1,a2,a3⟩ := CF.out w' hw'); clear hw'; go_simp; rfl) | (refine qc_call (f := ?f2) (args := ?args2) ?h12 ?h22; (case h12 => ((obtain ⟨a0,a1,a2,a3⟩ := CF.out w' hw'); go_simp; constructor <;> rfl)); (case h22 => (exact CK.out w' hw'))) | (refine qc_skip ?_; (obtain ⟨a0,a1,a2,a3⟩ := CF.out w' hw'); clear hw'; go_simp; done))); (try simp only [Act.put,List.setIfInBounds_toArray,List.set_cons_zero,List.set_cons_succ])))
 (first | (with_reducible refine qc_pass ?hw3 ?nx3; (case hw3 => (go_simp; done)); (try simp only [Act.put,List.setIfInBounds_toArray,List.set_cons_zero,List.set_cons_succ])) | (with_reducible refine qc_one ?v3 ?hw3 (fun w' hw' => ?hr3) ?nx3; (case hw3 => (go_simp; done)); (case hr3 => (first | (refine qc_val ?_; (obtain ⟨a0,a1,a2,a3⟩ := CF.out w' hw'); clear hw'; go_simp; done) | (refine qc_val ?_; (obtain ⟨a0,a1,a2,a3⟩ := CF.out w' hw'); clear hw'; go_simp; rfl) | (refine qc_call (f := ?f3) (args := ?args3) ?h13 ?h23; (case h13 => ((obtain ⟨a0,a1,a2,a3⟩ := CF.out w' hw'); go_simp; constructor <;> rfl)); (case h23 => (exact CK.out w' hw'))) | (refine qc_skip ?_; (obtain ⟨a0,a1,a2,a3⟩ := CF.out w' hw'); clear hw'; go_simp; done))); (try simp only [Act.put,List.setIfInBounds_toArray,List.set_cons_zero,List.set_cons_succ])))
 (first | (with_reducible refine qc_pass ?hw4 ?nx4; (case hw4 => (go_simp; done)); (try simp only [Act.put,List.setIfInBounds_toArray,List.set_cons_zero,List.set_cons_succ])) | (with_reducible refine qc_one ?v4 ?hw4 (fun w' hw' => ?hr4) ?nx4; (case hw4 => (go_simp; done)); (case hr4 => (first | (refine qc_val ?_; (obtain ⟨a0,a1,a2,a3⟩ := CF.out w' hw'); clear hw'; go_simp; done) | (refine qc_val ?_; (obtain ⟨a0,a1,a2,a3⟩ := CF.out w' hw'); clear hw'; go_simp; rfl) | (refine qc_call (f := ?f4) (args := ?args4) ?h14 ?h24; (case h14 => ((obtain ⟨a0,a1,a2,a3⟩ := CF.out w' hw'); go_simp; constructor <;> rfl)); (case h24 => (exact CK.out w' hw'))) | (refine qc_skip ?_; (obtain ⟨a0,a1,a2,a3⟩ := CF.out w' hw'); clear hw'; go_simp; done))); (try simp only [Act.put,List.setIfInBounds_toArray,List.set_cons_zero,List.set_cons_succ])))
 (first | (with_reducible refine qc_pass ?hw5 ?nx5; (case hw5 => (go_simp; done)); (try simp only [Act.put,List.setIfInBounds_toArray,List.set_cons_zero,List.set_cons_succ])) | (with_reducible refine qc_one ?v5 ?hw5 (fun w' hw' => ?hr5) ?nx5; (case hw5 => (go_simp; done)); (case hr5 => (first | (refine qc_val ?_; (obtain ⟨a0,a1,a2,a3⟩ := CF.out w' hw'); clear hw'; go_simp; done) | (refine qc_val ?_; (obtain ⟨a0,a1,a2,a3⟩ := CF.out w' hw'); clear hw'; go_simp; rfl) | (refine qc_call (f := ?f5) (args := ?args5) ?h15 ?h25; (case h15 => ((obtain ⟨a0,a1,a2,a3⟩ := CF.out w' hw'); go_simp; constructor <;> rfl)); (case h25 => (exact CK.out w' hw'))) | (refine qc_skip ?_; (obtain ⟨a0,a1,a2,a3⟩ := CF.out w' hw'); clear hw'; go_simp; done))); (try simp only [Act.put,List.setIfInBounds_toArray,List.set_cons_zero,List.set_cons_succ])))
 (first | (with_reducible refine qc_pass ?hw6 ?nx6; (case hw6 => (go_simp; done)); (try simp only [Act.put,List.setIfInBounds_toArray,List.set_cons_zero,List.set_cons_succ])) | (with_reducible refine qc_one ?v6 ?hw6 (fun w' hw' => ?hr6) ?nx6; (case hw6 => (go_simp; done)); (case hr6 => (first | (refine qc_val ?_; (obtain ⟨a0,a1,a2,a3⟩ := CF.out w' hw'); clear hw'; go_simp; done) | (refine qc_val ?_; (obtain ⟨a0,a1,a2,a3⟩ := CF.out w' hw'); clear hw'; go_simp; rfl) | (refine qc_call (f := ?f6) (args := ?args6) ?h16 ?h26; (case h16 => ((obtain ⟨a0,a1,a2,a3⟩ := CF.out w' hw'); go_simp; constructor <;> rfl)); (case h26 => (exact CK.out w' hw'))) | (refine qc_skip ?_; (obtain ⟨a0,a1,a2,a3⟩ := CF.out w' hw'); clear hw'; go_simp; done))); (try simp only [Act.put,List.setIfInBounds_toArray,List.set_cons_zero,List.set_cons_succ])))
 (first | (with_reducible refine qc_pass ?hw7 ?nx7; (case hw7 => (go_simp; done)); (try simp only [Act.put,List.setIfInBounds_toArray,List.set_cons_zero,List.set_cons_succ])) | (with_reducible refine qc_one ?v7 ?hw7 (fun w' hw' => ?hr7) ?nx7; (case hw7 => (go_simp; done)); (case hr7 => (first | (refine qc_val ?_; (obtain ⟨a0,a1,a2,a3⟩ := CF.out w' hw'); clear hw'; go_simp; done) | (refine qc_val ?_; (obtain ⟨a0,a1,a2,a3⟩ := CF.out w' hw'); clear hw'; go_simp; rfl) | (refine qc_call (f := ?f7) (args := ?args7) ?h17 ?h27; (case h17 => ((obtain ⟨a0,a1,a2,a3⟩ := CF.out w' hw'); go_simp; constructor <;> rfl)); (case h27 => (exact CK.out w' hw'))) | (refine qc_skip ?_; (obtain ⟨a0,a1,a2,a3⟩ := CF.out w' hw'); clear hw'; go_simp; done))); (try simp only [Act.put,List.setIfInBounds_toArray,List.set_cons_zero,List.set_cons_succ])))
 (first | (with_reducible refine qc_pass ?hw8 ?nx8; (case hw8 => (go_simp; done)); (try simp only [Act.put,List.setIfInBounds_toArray,List.set_cons_zero,List.set_cons_succ])) | (with_reducible refine qc_one ?v8 ?hw8 (fun w' hw' => ?hr8) ?nx8; (case hw8 => (go_simp; done)); (case hr8 => (first | (refine qc_val ?_; (obtain ⟨a0,a1,a2,a3⟩ := CF.out w' hw'); clear hw'; go_simp; done) | (refine qc_val ?_; (obtain ⟨a0,a1,a2,a3⟩ := CF.out w' hw'); clear hw'; go_simp; rfl) | (refine qc_call (f := ?f8) (args := ?args8) ?h18 ?h28; (case h18 => ((obtain ⟨a0,a1,a2,a3⟩ := CF.out w' hw'); go_simp; constructor <;> rfl)); (case h28 => (exact CK.out w' hw'))) | (refine qc_skip ?_; (obtain ⟨a0,a1,a2,a3⟩ := CF.out w' hw'); clear hw'; go_simp; done))); (try simp only [Act.put,List.setIfInBounds_toArray,List.set_cons_zero,List.set_cons_succ])))
 (first | (with_reducible refine qc_pass ?hw9 ?nx9; (case hw9 => (go_simp; done)); (try simp only [Act.put,List.setIfInBounds_toArray,List.set_cons_zero,List.set_cons_succ])) | (with_reducible refine qc_one ?v9 ?hw9 (fun w' hw' => ?hr9) ?nx9; (case hw9 => (go_simp; done)); (case hr9 => (first | (refine qc_val ?_; (obtain ⟨a0,a1,a2,a3⟩ := CF.out w' hw'); clear hw'; go_simp; done) | (refine qc_val ?_; (obtain ⟨a0,a1,a2,a3⟩ := CF.out w' hw'); clear hw'; go_simp; rfl) | (refine qc_call (f := ?f9) (args := ?args9) ?h19 ?h29; (case h19 => ((obtain ⟨a0,a1,a2,a3⟩ := CF.out w' hw'); go_simp; constructor <;> rfl)); (case h29 => (exact CK.out w' hw'))) | (refine qc_skip ?_; (obtain ⟨a0,a1,a2,a3⟩ := CF.out w' hw'); clear hw'; go_simp; done))); (try simp only [Act.put,List.setIfInBounds_toArray,List.set_cons_zero,List.set_cons_succ])))
 (first | (with_reducible refine qc_pass ?hw10 ?nx10; (case hw10 => (go_simp; done)); (try simp only [Act.put,List.setIfInBounds_toArray,List.set_cons_zero,List.set_cons_succ])) | (with_reducible refine qc_one ?v10 ?hw10 (fun w' hw' => ?hr10) ?nx10; (case hw10 => (go_simp; done)); (case hr10 => (first | (refine qc_val ?_; (obtain ⟨a0,a1,a2,a3⟩ := CF.out w' hw'); clear hw'; go_simp; done) | (refine qc_val ?_; (obtain ⟨a0,a1,a2,a3⟩ := CF.out w' hw'); clear hw'; go_simp; rfl) | (refine qc_call (f := ?f10) (args := ?args10) ?h110 ?h210; (case h110 => ((obtain ⟨a0,a1,a2,a3⟩ := CF.out w' hw'); go_simp; constructor <;> rfl)); (case h210 => (exact CK.out w' hw'))) | (refine qc_skip ?_; (obtain ⟨a0,a1,a2,a3⟩ := CF.out w' hw'); clear hw'; go_simp; done))); (try simp only [Act.put,List.setIfInBounds_toArray,List.set_cons_zero,List.set_cons_succ])))
 (first | (with_reducible refine qc_pass ?hw11 ?nx11; (case hw11 => (go_simp; done)); (try simp only [Act.put,List.setIfInBounds_toArray,List.set_cons_zero,List.set_cons_succ])) | (with_reducible refine qc_one ?v11 ?hw11 (fun w' hw' => ?hr11) ?nx11; (case hw11 => (go_simp; done)); (case hr11 => (first | (refine qc_val ?_; (obtain ⟨a0,a1,a2,a3⟩ := CF.out w' hw'); clear hw'; go_simp; done) | (refine qc_val ?_; (obtain ⟨a0,a1,a2,a3⟩ := CF.out w' hw'); clear hw'; go_simp; rfl) | (refine qc_call (f := ?f11) (args := ?args11) ?h111 ?h211; (case h111 => ((obtain ⟨a0,a1,a2,a3⟩ := CF.out w' hw'); go_simp; constructor <;> rfl)); (case h211 => (exact CK.out w' hw'))) | (refine qc_skip ?_; (obtain ⟨a0,a1,a2,a3⟩ := CF.out w' hw'); clear hw'; go_simp; done))); (try simp only [Act.put,List.setIfInBounds_toArray,List.set_cons_zero,List.set_cons_succ])))
 refine wpQuiet_nil ?_
 intro w' hw'
 obtain rfl : w' = w3.drew := by rw [HC.out] at hw'; exact hw'
 obtain ⟨-,-,a2,a3⟩ := CF.out _ hw'
 have M6 := (ini_neg K5.out HM.out.2.1).drew
 clear hw' CD CK CF HC C ln
 obtain ⟨w5,hw5⟩ : ∃ w5,w5 = (w3.setCell ⟨A.gn,i,none⟩ (.int .i64 (ng : Int))).drew := ⟨_,rfl⟩
 rw [← hw5] at M6
 have HW := Lib.hid hw5
 have K6 := Lib.hid M6
 clear hw5 M6
 go_wp2_with fail
 rw [← HW.out]
 clear HW a2 a3
 go_loopg [] (31 - pl) (fun mm wx => ∃ q : Nat,pl ≤ q ∧ q ≤ stepP pl ma ∧ mm = 31 - q ∧ Mv w0 [] wx (codH A G cxFresh (tailP true false (.pointer none) (.pointer none)) :: rowN A.gm (midN G.mag (i + 1)) :: rowN A.gn (midN G.neg (i + 1)) :: bB bb q nil0 nil0 :: R))
 case atStart => exact ⟨pl,Nat.le_refl _,stepP_ge _ _,rfl,K6.out⟩
 case round =>
  obtain ⟨q,q1,q2,rfl,mq⟩ := hrel
  have q3 : stepP pl ma ≤ 30 := stepP_le (by have : (2 : Nat) ^ 30 = 1073741824 := rfl; omega) hpl
  have q4 : q ≤ 40 := by omega
  have V := (codT_front (mq.drew.blk 0 rfl)).1
  rw [hN] at V
  unfold slV at V
  have cg : wr.drew.cell? ⟨A.gm,i,none⟩ = some (.int .i64 (ma : Int)) := by
   have := rowN_get (mq.drew.blk 1 rfl) ((midN_len G.mag (i + 1) (by omega)).trans hl1) i hi
   rw [getD_of (midN_get _ _ HM.out.1)] at this
   exact this
  have cb : wr.drew.cell? ⟨bb,0,none⟩ = some (.int .i64 (q : Int)) := mq.drew.cell 3 rfl 0
  have fb : wr.drew.frozen? ⟨bb,0,none⟩ = false := mq.drew.frozen 3 rfl 0
  have KQ := Lib.hid mq.drew
  clear mq
  by_cases h : 0 < ma / 2 ^ q
  ·have dq := shr_pos h
   have q5 := stepP_more h (p := pl)
   have KS := Lib.hid (ini_pl KQ.out (q + 1))
   clear h
   go_upto_region 15 with fail
   go_region
   all_goals
    go_wp2_with fail
    go_roundg (31 - (q + 1))
    case measure => omega
    case rel => exact ⟨q + 1,by omega,q5,rfl,KS.out⟩
  ·have dq := shr_not h
   have q5 := Lib.hid (stepP_done h q1 q2)
   clear h
   go_upto_region 15 with fail
   go_region
   all_goals
    go_wp2_with fail
    exact HK.out _ _ _ _ _ _ _ _ _ _ _ _ _ _ _ _ _ _ _ _ _ _ _ _ _ _ _ _ _ _ _ _ _ _ _ _ _ _ _ _ _ _ _ _ _ _ _ _ _ _ _ _ _ _ _ _ _ (by rw [← q5.out]; exact KQ.out)
end
end Go.Proofs.Ytnpoakabheeoeaa
