/- A new band. A new band: the walk. Bits of packets' heads: the program's reader reads. Bits of packets' heads: the program's reader: numbers, the end. A head whose first bit is 0: read as nothing. A packet of nothing: decoded. Rows of passes: append, a copy. A copy of passes. A block of one's own: a copy. A band's k-th block: a copy of what is known of it. A band of which nothing is new: written; the law's example. waveletref8: rows of passes: append; one is changed. -/
import Derived.Test.YtnpoakabheeoeaaPk11
import Derived.Test.YtnpoakabheeoeaaPk03
import Derived.WalkLawsBesides
import Derived.Deep.RegionHeld3
import Derived.Test.YtnpoakabheeoeaaPk06
set_option maxRecDepth 100000
namespace Go.Proofs.Ytnpoakabheeoeaa
section
open Go.RowKit
def stNew : StG := ⟨⟨0,[],[],0,3⟩,.slice none 0 0,.slice none 0 0,[],[]⟩
theorem stNew_ok : stNew.ok := ⟨RowH.nil _ _,RowH.nil _ _,⟨by simp [stNew],by simp [stNew],by simp [stNew],by simp [stNew],by simp [stNew],by simp [stNew]⟩⟩
theorem infoSt : (Try.prog.info? 70).map (fun i => (i.zero,i.size,i.bytes)) = some (some (.agg #[.int .i64 0,.slice none 0 0,.slice none 0 0,.int .i64 0,.int .i64 0]),5,72) := by kernel_rfl
def st0 : StG := ⟨⟨0,[],[],0,0⟩,.slice none 0 0,.slice none 0 0,[],[]⟩
def newBandM (w h : Nat) (planes : Int) : BandM := ⟨w,h,planes,treeOf w h,treeOf w h,false,List.replicate (w * h) stNew.m⟩
def stMid (n j : Nat) : List StG := List.replicate j stNew ++ List.replicate (n - j) st0
theorem stMid_get (n j : Nat) (h : j < n) : (stMid n j)[j]? = some st0 := by
 unfold stMid
 rw [List.getElem?_append_right (by simp),List.length_replicate,Nat.sub_self,List.getElem?_replicate,if_pos (by omega)]
theorem stMid_set (n j : Nat) (h : j < n) : (stMid n j).set j stNew = stMid n (j + 1) := by
 unfold stMid
 apply List.ext_getElem?
 intro i
 simp only [List.getElem?_set,List.length_append,List.length_replicate,List.getElem?_append,List.getElem?_replicate]
 grind
theorem stMid_step (n j : Nat) (h : j < n) : ((stMid n j).flatMap StG.v).set (j * 5 + 4) (.int .i64 3) = (stMid n (j + 1)).flatMap StG.v := by
 rw [← stMid_set n j h]
 exact flat_set StG.v 5 StG.v_length _ _ st0 stNew (stMid_get n j h) 4 (by omega) _ rfl
theorem stMid_made (n : Nat) : (List.replicate n (Value.agg #[.int .i64 0,.slice none 0 0,.slice none 0 0,.int .i64 0,.int .i64 0]).cells.toList).flatten = (stMid n 0).flatMap StG.v := by
 unfold stMid
 simp only [List.replicate_zero,List.nil_append,Nat.sub_zero]
 induction n with
 | zero => rfl
 | succ n ih => rw [List.replicate_succ,List.replicate_succ,List.flatten_cons,List.flatMap_cons,ih]; rfl
end
section
open Go.RowKit
set_option maxHeartbeats 1000000 in
theorem band_new (x y : Nat) (planes : Int) (W : World) (hx : x ≤ 64) (hy : y ≤ 64) (hp : -1000 ≤ planes ∧ planes ≤ 1000) :
  Calls Try.prog 12 #[.int .i64 (x : Int),.int .i64 (y : Int),.int .i64 planes] W fun e W' => ∃ d H,e = .returned (.pointer (some ⟨d.bb,0,none⟩)) ∧ d.n = x * y ∧ BandR d (newBandM x y planes) H ∧ Mv W [] W' H := by
 have T1 := Lib.hid (tree_new x y)
 obtain ⟨n,hn⟩ : ∃ n,x * y = n := ⟨_,rfl⟩
 have hn4 : n ≤ 4096 := by rw [← hn]; exact Nat.mul_le_mul hx hy
 have hmul : (x : Int) * (y : Int) = (n : Int) := by rw [← hn]; push_cast; rfl
 obtain ⟨i0,hi,hz0,hz1,hz2⟩ := info_parts infoSt
 have MK : ∀ V : World,(Instr.makeSlice 81 (.int .i64 ((x : Int) * (y : Int))) (.int .i64 ((x : Int) * (y : Int)))).run Try.prog V = .ok (.slice (some ⟨V.heap.size,0,none⟩) n n) (V.alloc (.cells ((stMid n 0).flatMap StG.v).toArray 70)) := by
  intro V
  rw [hmul,← stMid_made]
  exact run_made _ _ i0 _ 5 72 n Try.underlying81 hi hz0 hz1 hz2 rfl (by omega) (by omega) (by omega) V
 have ub : (x : Int) * (y : Int) ≤ 4096 := by rw [hmul]; omega
 have lb : 0 ≤ (x : Int) * (y : Int) := by rw [hmul]; omega
 have HN := Lib.hid (And.intro hn hmul)
 clear hn hmul hi hz0 hz1 hz2
 have b1 : decide ((x : Int) < 0) = false := by simp
 have b2 : decide ((y : Int) < 0) = false := by simp
 have b3 : decide (64 < (x : Int)) = false := by simp; omega
 have b4 : decide (64 < (y : Int)) = false := by simp; omega
 go_enter Try.func12,Try.ntmps12
 go_upto_region 4 with (go_at_call 32; refine (T1.out _).mono ?_; rintro e w2 ⟨tb,P,H,rfl,q1,q2,q3⟩; have KT := Lib.hid (And.intro q1 (And.intro q2 q3)); clear q1 q2 q3)
 rename_i w1 t1 P1 H1 KT1 kk1 kk2
 have M2 : Mv W [] w2 (H ++ H1) := Mv.call (H := []) (R := H1) KT1.out.2.2 KT.out.2.2
 obtain ⟨w3,hw3⟩ : ∃ w3,w3 = w2.alloc (.cells #[.slice none 0 0,.int .i64 planes,.pointer (some ⟨t1,0,none⟩),.pointer (some ⟨tb,0,none⟩),.bool false] 85) := ⟨_,rfl⟩
 have M3 : Mv W [] w3 (⟨w2.heap.size,85,#[.slice none 0 0,.int .i64 planes,.pointer (some ⟨t1,0,none⟩),.pointer (some ⟨tb,0,none⟩),.bool false]⟩ :: (H ++ H1)) := by rw [hw3]; exact M2.alloc _ _
 have M4 := M3.alloc 70 ((stMid n 0).flatMap StG.v).toArray
 have c0 := (Mv.blkm M4 (List.mem_cons_of_mem _ List.mem_cons_self)).cell 0
 have f0 := (Mv.blkm M4 (List.mem_cons_of_mem _ List.mem_cons_self)).frozen 0
 have M5 := Mv.setAt (A := [_]) M4 0 (.slice (some ⟨w3.heap.size,0,none⟩) n n)
 simp only [← hw3]
 have K5 := Lib.hid M5
 clear hw3 M2 M3 M4 M5
 go_wp2_with fail
 obtain ⟨lb,hlb⟩ : ∃ lb,w3.heap.size = lb := ⟨_,rfl⟩
 obtain ⟨bb,hbb⟩ : ∃ bb,w2.heap.size = bb := ⟨_,rfl⟩
 rw [hlb,hbb] at K5
 simp only [hlb,hbb]
 obtain ⟨BB,hBB⟩ : ∃ BB : HB,BB = ⟨bb,85,#[.slice (some ⟨lb,0,none⟩) n n,.int .i64 planes,.pointer (some ⟨t1,0,none⟩),.pointer (some ⟨tb,0,none⟩),.bool false]⟩ := ⟨_,rfl⟩
 have K6 : Hid (Mv W [] _ (⟨lb,70,((stMid n 0).flatMap StG.v).toArray⟩ :: BB :: (H ++ H1))) := Lib.hid (by rw [hBB]; exact K5.out)
 have FX : Hid (∀ wx j,j < n → Mv W [] wx (⟨lb,70,((stMid n j).flatMap StG.v).toArray⟩ :: BB :: (H ++ H1)) → wx.cell? ⟨bb,0,none⟩ = some (.slice (some ⟨lb,0,none⟩) n n) ∧ wx.cell? ⟨lb,j * 5 + 4,none⟩ = some (.int .i64 0) ∧ wx.frozen? ⟨lb,j * 5 + 4,none⟩ = false ∧
   Hid (Mv W [] (wx.setCell ⟨lb,j * 5 + 4,none⟩ (.int .i64 3)) (⟨lb,70,((stMid n (j + 1)).flatMap StG.v).toArray⟩ :: BB :: (H ++ H1)))) := Lib.hid (by
  intro wx j hj m
  have a1 := Mv.blkm m (x := BB) (List.mem_cons_of_mem _ List.mem_cons_self)
  rw [hBB] at a1
  have a2 := state_cells (Mv.blkm m List.mem_cons_self) (stMid_get n j hj)
  have m2 := m.set (j * 5 + 4) (.int .i64 3)
  rw [← stMid_step n j hj]
  refine ⟨a1.cell 0,a2.2.2.2.2.1,a2.2.2.2.2.2 _,Lib.hid ?_⟩
  simpa using m2)
 clear K5 c0 f0
 go_loopg [46] n (fun m s46 wx => ∃ j : Nat,j ≤ n ∧ m = n - j ∧ s46 = .int .i64 (j : Int) ∧ Mv W [] wx (⟨lb,70,((stMid n j).flatMap StG.v).toArray⟩ :: BB :: (H ++ H1)))
 case atStart => exact ⟨0,by omega,rfl,rfl,K6.out⟩
 case round =>
  obtain ⟨j,hj,rfl,rfl,m⟩ := hrel
  have KM := Lib.hid m
  clear m
  by_cases hlt : j < n
  ·have d1 : decide ((j : Int) < (n : Int)) = true := by simp; omega
   obtain ⟨e1,e2,e3,e4⟩ := FX.out wr j hlt KM.out
   go_wp2_with fail
   all_goals
    go_roundg (n - (j + 1))
    case measure => omega
    case rel => exact ⟨j + 1,by omega,rfl,by push_cast; rfl,e4.out⟩
  ·have d1 : decide ((j : Int) < (n : Int)) = false := by simp; omega
   go_wp2_with fail
   obtain rfl : j = n := by omega
   have e1 : stMid j j = List.replicate j stNew := by simp [stMid]
   have m := KM.out
   rw [e1,hBB] at m
   go_ret
   refine ⟨⟨bb,lb,j⟩,_,rfl,HN.out.1.symm,⟨⟨t1,tb,P1,P,H1,H,List.replicate j stNew,planes,false,x,y⟩,?_,?_,rfl⟩,?_⟩
   ·simp only [BandG.model,newBandM,KT.out.1,KT1.out.1,List.map_replicate,HN.out.1]
   ·exact ⟨KT1.out.2.1,KT.out.2.1,treeOk_new _ _ _ hx hy KT1.out.1,treeOk_new _ _ _ hx hy KT.out.1,fun s hs => by rw [List.eq_of_mem_replicate hs]; exact stNew_ok,by simp,HN.out.1.symm,hp,hx,hy⟩
   ·have e2 : (List.replicate j stNew).flatMap StG.heap = [] := by
     induction j with
     | zero => rfl
     | succ j ih => simp [StG.heap,stNew]
    refine m.sub (fun g => ?_) (fun c hc => ?_)
    ·simp only [BandG.heap,bandB,statesB,e2,cnt_append,cnt_cons,cnt_nil]
     omega
    ·simp only [BandG.heap,bandB,statesB,e2,List.mem_append,List.mem_cons,List.not_mem_nil,or_false] at hc ⊢
     grind
end
section
open Go.RowKit
theorem at_prev (l : List UInt8) (k : Nat) : (if (k : Int) - 1 < 0 then 0 else (l.getD ((k : Int) - 1).toNat 0) : UInt8) = prevB l k := by
 unfold prevB
 by_cases h : k = 0
 ·subst h; rfl
 ·rw [if_neg (by omega),if_neg h,show ((k : Int) - 1).toNat = k - 1 from by omega]
theorem at_here (l : List UInt8) (k : Nat) : (if (k : Int) < 0 then 0 else (l.getD (k : Int).toNat 0) : UInt8) = l.getD k 0 := by
 rw [if_neg (by omega),Int.toNat_natCast]
theorem ret_int {k : IntKind} {a b : Int} (h : a = b) : Ending.returned (.int k a) = .returned (.int k b) := by rw [h]
theorem bit_val (q : UInt8) (k : Nat) : bits .and .i64 ((q.toNat : Int) / 2 ^ k) 1 = ((q.toNat / 2 ^ k % 2 : Nat) : Int) := by
 rw [i64_and1]
 push_cast
 rfl
theorem bit_valw (q : UInt8) (k : Nat) : bits .and .i64 (wrap64 ((q.toNat : Int) / 2 ^ k)) 1 = ((q.toNat / 2 ^ k % 2 : Nat) : Int) := by
 have h1 := q.toNat_lt
 have h2 : (q.toNat : Int) / 2 ^ k = ((q.toNat / 2 ^ k : Nat) : Int) := by push_cast; rfl
 have h3 : q.toNat / 2 ^ k ≤ q.toNat := Nat.div_le_self _ _
 have h4 : wrap64 ((q.toNat : Int) / 2 ^ k) = (q.toNat : Int) / 2 ^ k := by
  rw [h2]
  generalize q.toNat / 2 ^ k = z at h3
  rw [← IntWalk.i64_left,IntWalk.i64_in _ (by omega)]
 rw [h4,bit_val]
theorem new_reader (v : Value) (l : List UInt8) (w : World) (hv : BV w v l) (hl : l.length ≤ 100000000) : Calls Try.prog 73 #[v] w fun e w' => ∃ rb H',e = .returned (.pointer (some ⟨rb,0,none⟩)) ∧ ReadH rb l rdNew H' ∧ Mv w [] w' H' := by
 have C := Lib.hid (clone_any v l w hv hl)
 obtain ⟨a,c,rfl,-⟩ := hv
 go_enter Try.func73,Try.ntmps73
 go_wp2_with (go_at_call 31; refine C.out.mono ?_; rintro e w2 ⟨v2,H2,rfl,h2,m2⟩; obtain ⟨a2,c2,rfl⟩ := h2.slice; have K2 := Lib.hid (And.intro h2 m2); clear h2 m2)
 go_ret
 exact ⟨_,_,rfl,⟨_,H2,rfl,K2.out.1⟩,K2.out.2.alloc _ _⟩
set_option maxHeartbeats 2000000 in
theorem bit_rd (rb : Nat) (l : List UInt8) (s : RdM) (w : World) (H : List HB) (h : ReadH rb l s H) (hs : Sat w H) (hl : l.length ≤ 90000000) (hb : s.begun ≤ 90000000) (h8 : s.left ≤ 8) :
    Calls Try.prog 74 #[.pointer (some ⟨rb,0,none⟩)] w fun e w' => e = .returned (.int .i64 ((rdBit l s).1 : Int)) ∧ ∃ H',ReadH rb l (rdBit l s).2 H' ∧ Mv w H w' H' := by
  obtain ⟨bg,lf,bd⟩ := s
  obtain ⟨v,Hr,rfl,hr⟩ := h
  simp only at hb h8 ⊢
  obtain ⟨va,vc,rfl⟩ := hr.slice
  obtain ⟨n,hn⟩ : ∃ n,l.length = n := ⟨_,rfl⟩
  rw [hn] at hr hs hl ⊢
  have KR := Lib.hid hr
  have HN := Lib.hid hn
  have hll : l.length ≤ 90000000 := by omega
  have M0 : Mv w _ w (⟨rb,180,#[.slice va n vc,.int .i64 (bg : Int),.int .i64 (lf : Int),.bool bd]⟩ :: Hr) := Mv.refl hs
  have K := Lib.hid M0
  clear M0
  clear hr hs hn
  by_cases h0 : lf = 0
  case neg =>
    have e1 : Hid (rdBit l ⟨bg,lf,bd⟩ = ((prevB l bg).toNat / 2 ^ (lf - 1) % 2,⟨bg,lf - 1,bd⟩)) := Lib.hid (by simp only [rdBit,rdNext,h0,if_false])
    have d0 : ((lf : Int) == 0) = false := by simpa using h0
    have d1 : IntKind.i64.wrap ((lf : Int) - 1) = ((lf - 1 : Nat) : Int) := by rw [IntWalk.i64_in _ (by omega)]; omega
    have hq : lf - 1 ≤ 7 := by omega
    have c0 : w.cell? ⟨rb,0,none⟩ = some (.slice va n vc) := K.out.cell 0 rfl 0
    have c1 : w.cell? ⟨rb,1,none⟩ = some (.int .i64 (bg : Int)) := K.out.cell 0 rfl 1
    have c2 : w.cell? ⟨rb,2,none⟩ = some (.int .i64 (lf : Int)) := K.out.cell 0 rfl 2
    have f2 : w.frozen? ⟨rb,2,none⟩ = false := K.out.frozen 0 rfl 2
    go_enter Try.func74,Try.ntmps74
    go_upto_region 8 with fail
    obtain ⟨wz,hwz⟩ : ∃ wz,wz = w.setCell ⟨rb,2,none⟩ (.int .i64 (((lf - 1 : Nat) : Int) : Int)) := ⟨_,rfl⟩
    have MZ : Mv w _ (w.setCell ⟨rb,2,none⟩ (.int .i64 (((lf - 1 : Nat) : Int) : Int))) (⟨rb,180,#[.slice va n vc,.int .i64 (bg),.int .i64 (((lf - 1 : Nat) : Int) : Int),.bool bd]⟩ :: Hr) := K.out.set 2 (.int .i64 (((lf - 1 : Nat) : Int) : Int))
    rw [← hwz] at MZ
    simp only [← hwz]
    clear c0 c1 c2 f2 hwz
    have c1 : wz.cell? ⟨rb,1,none⟩ = some (.int .i64 (bg : Int)) := MZ.cell 0 rfl 1
    have c2 : wz.cell? ⟨rb,2,none⟩ = some (.int .i64 (((lf - 1 : Nat) : Int) : Int)) := MZ.cell 0 rfl 2
    have AT0 := fun k => at_any rb l (.slice va n vc) Hr ((bg : Int) - 1) (wz.drewN k) ((MZ.drewN k).cell 0 rfl 0) KR.out ((MZ.drewN k).sat.right (A := [_])) (by omega)
    have ap : (if ((bg : Int) - 1) < 0 then 0 else (l.getD (((bg : Int) - 1)).toNat 0) : UInt8) = prevB l (bg) := at_prev l bg
    obtain ⟨pq,hpq⟩ : ∃ q,prevB l (bg) = q := ⟨_,rfl⟩
    simp only [ap,hpq] at AT0
    have HPQ := Lib.hid hpq
    have AT := Lib.hid AT0
    clear AT0 ap hpq
    have KZ := Lib.hid MZ
    clear MZ
    go_quiet (first | (go_at_call 93; exact Calls.quiet_of ((AT.out _).mono fun e w' h => ⟨h.1,0,h.2.symm⟩)))
    go_wp2_with fail
    go_ret
    rw [e1.out]
    refine ⟨?_,_,⟨_,Hr,rfl,KR.out⟩,KZ.out.drewN _⟩
    simp only [HPQ.out]
    refine ret_int ?_
    exact bit_valw pq (lf - 1)
  case pos =>
    subst h0
    have c0 : w.cell? ⟨rb,0,none⟩ = some (.slice va n vc) := K.out.cell 0 rfl 0
    have c1 : w.cell? ⟨rb,1,none⟩ = some (.int .i64 (bg : Int)) := K.out.cell 0 rfl 1
    have c2 : w.cell? ⟨rb,2,none⟩ = some (.int .i64 (0 : Int)) := K.out.cell 0 rfl 2
    have f2 : w.frozen? ⟨rb,2,none⟩ = false := K.out.frozen 0 rfl 2
    obtain ⟨wa,hwa⟩ : ∃ wa,wa = w.setCell ⟨rb,2,none⟩ (.int .i64 (8 : Int)) := ⟨_,rfl⟩
    have MA : Mv w _ (w.setCell ⟨rb,2,none⟩ (.int .i64 (8 : Int))) (⟨rb,180,#[.slice va n vc,.int .i64 (bg : Int),.int .i64 8,.bool bd]⟩ :: Hr) := K.out.set 2 (.int .i64 (8 : Int))
    rw [← hwa] at MA
    go_enter Try.func74,Try.ntmps74
    go_upto_region 3 with fail
    simp only [← hwa]
    clear c0 c1 c2 f2 hwa K
    have c1 : wa.cell? ⟨rb,1,none⟩ = some (.int .i64 (bg : Int)) := MA.cell 0 rfl 1
    have AT := Lib.hid (at_any rb l (.slice va n vc) Hr ((bg : Int) - 1) wa (MA.cell 0 rfl 0) KR.out (MA.sat.right (A := [_])) (by omega))
    rw [at_prev] at AT
    obtain ⟨q,hq⟩ : ∃ q,prevB l bg = q := ⟨_,rfl⟩
    rw [hq] at AT
    have HQ := Lib.hid hq
    have KA := Lib.hid MA
    clear MA hq
    by_cases h255 : q = 255
    case pos =>
      have d0 : ((q.toNat : Int) == 255) = true := by rw [h255]; rfl
      go_upto_region 4 with (go_at_call 93; refine AT.out.mono ?_; rintro e w' ⟨rfl,rfl⟩)
      have c2 : wa.cell? ⟨rb,2,none⟩ = some (.int .i64 8) := KA.out.cell 0 rfl 2
      have f2 : wa.frozen? ⟨rb,2,none⟩ = false := KA.out.frozen 0 rfl 2
      obtain ⟨wb,hwb⟩ : ∃ wb,wb = wa.setCell ⟨rb,2,none⟩ (.int .i64 7) := ⟨_,rfl⟩
      have MB : Mv w _ (wa.setCell ⟨rb,2,none⟩ (.int .i64 7)) (⟨rb,180,#[.slice va n vc,.int .i64 (bg : Int),.int .i64 7,.bool bd]⟩ :: Hr) := KA.out.set 2 (.int .i64 7)
      rw [← hwb] at MB
      go_upto_region 5 with fail
      simp only [← hwb]
      clear c1 c2 f2 hwb AT KA d0
      have c1 : wb.cell? ⟨rb,1,none⟩ = some (.int .i64 (bg : Int)) := MB.cell 0 rfl 1
      have c3 : wb.cell? ⟨rb,3,none⟩ = some (.bool bd) := MB.cell 0 rfl 3
      have f3 : wb.frozen? ⟨rb,3,none⟩ = false := MB.frozen 0 rfl 3
      have AT := Lib.hid (at_any rb l (.slice va n vc) Hr (bg : Int) wb (MB.cell 0 rfl 0) KR.out (MB.sat.right (A := [_])) (by omega))
      rw [at_here] at AT
      obtain ⟨q2,hq2⟩ : ∃ q,l.getD bg 0 = q := ⟨_,rfl⟩
      rw [hq2] at AT
      have HQ2 := Lib.hid hq2
      clear hq2
      obtain ⟨bd2,hbd2⟩ : ∃ b,(bd || decide (128 ≤ q2.toNat)) = b := ⟨_,rfl⟩
      obtain ⟨wc,hwc⟩ : ∃ wc,wc = wb.setCell ⟨rb,3,none⟩ (.bool bd2) := ⟨_,rfl⟩
      have MC : Mv w _ (wb.setCell ⟨rb,3,none⟩ (.bool bd2)) (⟨rb,180,#[.slice va n vc,.int .i64 (bg : Int),.int .i64 7,.bool bd2]⟩ :: Hr) := MB.set 3 (.bool bd2)
      rw [← hwc] at MC
      have KB := Lib.hid (And.intro MC (And.intro hbd2 hwc))
      have hbq : bd = true ∨ (bd = false ∧ decide ((128 : Int) ≤ (q2.toNat : Int)) = bd2) := by
        cases bd with
        | true => exact .inl rfl
        | false => right; refine ⟨rfl,?_⟩; rw [← hbd2]; simp only [Bool.false_or,decide_eq_decide]; omega
      clear MB MC hwc
      have e1 : Hid (rdBit l ⟨bg,0,bd⟩ = ((prevB l (bg + 1)).toNat / 2 ^ 6 % 2,⟨bg + 1,6,bd2⟩)) := Lib.hid (by simp only [rdBit,rdNext,if_true,HQ.out,h255,HQ2.out,hbd2])
      clear h255
      rcases hbq with rfl | ⟨rfl,hbq⟩
      · obtain rfl : bd2 = true := by rw [← hbd2]; rfl
        clear hbd2
        go_upto_region 6 with fail
        simp only [← KB.out.2.2]
        have c1 : wc.cell? ⟨rb,1,none⟩ = some (.int .i64 (bg : Int)) := KB.out.1.cell 0 rfl 1
        have f1 : wc.frozen? ⟨rb,1,none⟩ = false := KB.out.1.frozen 0 rfl 1
        go_upto_region 7 with fail
        obtain ⟨wd,hwd⟩ : ∃ wd,wd = wc.setCell ⟨rb,1,none⟩ (.int .i64 ((bg : Int) + 1)) := ⟨_,rfl⟩
        have MD : Mv w _ (wc.setCell ⟨rb,1,none⟩ (.int .i64 ((bg : Int) + 1))) (⟨rb,180,#[.slice va n vc,.int .i64 ((bg : Int) + 1),.int .i64 (7),.bool true]⟩ :: Hr) := KB.out.1.set 1 (.int .i64 ((bg : Int) + 1))
        rw [← hwd] at MD
        simp only [← hwd]
        have K := Lib.hid MD
        clear c1 f1 hwd MD KB
        have c0 : wd.cell? ⟨rb,0,none⟩ = some (.slice va n vc) := K.out.cell 0 rfl 0
        have c1 : wd.cell? ⟨rb,1,none⟩ = some (.int .i64 ((bg : Int) + 1 : Int)) := K.out.cell 0 rfl 1
        have c2 : wd.cell? ⟨rb,2,none⟩ = some (.int .i64 (7 : Int)) := K.out.cell 0 rfl 2
        have f2 : wd.frozen? ⟨rb,2,none⟩ = false := K.out.frozen 0 rfl 2
        go_upto_region 8 with fail
        obtain ⟨wz,hwz⟩ : ∃ wz,wz = wd.setCell ⟨rb,2,none⟩ (.int .i64 (6 : Int)) := ⟨_,rfl⟩
        have MZ : Mv w _ (wd.setCell ⟨rb,2,none⟩ (.int .i64 (6 : Int))) (⟨rb,180,#[.slice va n vc,.int .i64 (((bg : Int) + 1)),.int .i64 (6 : Int),.bool true]⟩ :: Hr) := K.out.set 2 (.int .i64 (6 : Int))
        rw [← hwz] at MZ
        simp only [← hwz]
        clear c0 c1 c2 f2 hwz
        have c1 : wz.cell? ⟨rb,1,none⟩ = some (.int .i64 (((bg : Int) + 1) : Int)) := MZ.cell 0 rfl 1
        have c2 : wz.cell? ⟨rb,2,none⟩ = some (.int .i64 (6 : Int)) := MZ.cell 0 rfl 2
        have AT0 := fun k => at_any rb l (.slice va n vc) Hr (bg : Int) (wz.drewN k) ((MZ.drewN k).cell 0 rfl 0) KR.out ((MZ.drewN k).sat.right (A := [_])) (by omega)
        have ap : (if (bg : Int) < 0 then 0 else (l.getD ((bg : Int)).toNat 0) : UInt8) = prevB l (bg + 1) := by rw [at_here]; simp [prevB]
        obtain ⟨pq,hpq⟩ : ∃ q,prevB l (bg + 1) = q := ⟨_,rfl⟩
        simp only [ap,hpq] at AT0
        have HPQ := Lib.hid hpq
        have AT := Lib.hid AT0
        clear AT0 ap hpq
        have KZ := Lib.hid MZ
        clear MZ
        go_quiet (first | (go_at_call 93; exact Calls.quiet_of ((AT.out _).mono fun e w' h => ⟨h.1,0,h.2.symm⟩)))
        go_wp2_with fail
        go_ret
        rw [e1.out]
        refine ⟨?_,_,⟨.slice va n vc,Hr,by simp,KR.out⟩,KZ.out.drewN _⟩
        simp only [HPQ.out]
        have bv := bit_valw pq 6
        rw [show (2 : Int) ^ 6 = 64 from by decide] at bv
        refine ret_int ?_
        exact bv
      · clear hbd2
        go_upto_region 6 with (go_at_call 93; refine AT.out.mono ?_; rintro e w' ⟨rfl,rfl⟩)
        simp only [← KB.out.2.2]
        have c1 : wc.cell? ⟨rb,1,none⟩ = some (.int .i64 (bg : Int)) := KB.out.1.cell 0 rfl 1
        have f1 : wc.frozen? ⟨rb,1,none⟩ = false := KB.out.1.frozen 0 rfl 1
        go_upto_region 7 with fail
        obtain ⟨wd,hwd⟩ : ∃ wd,wd = wc.setCell ⟨rb,1,none⟩ (.int .i64 ((bg : Int) + 1)) := ⟨_,rfl⟩
        have MD : Mv w _ (wc.setCell ⟨rb,1,none⟩ (.int .i64 ((bg : Int) + 1))) (⟨rb,180,#[.slice va n vc,.int .i64 ((bg : Int) + 1),.int .i64 (7),.bool bd2]⟩ :: Hr) := KB.out.1.set 1 (.int .i64 ((bg : Int) + 1))
        rw [← hwd] at MD
        simp only [← hwd]
        have K := Lib.hid MD
        clear c1 f1 hwd MD KB
        have c0 : wd.cell? ⟨rb,0,none⟩ = some (.slice va n vc) := K.out.cell 0 rfl 0
        have c1 : wd.cell? ⟨rb,1,none⟩ = some (.int .i64 ((bg : Int) + 1 : Int)) := K.out.cell 0 rfl 1
        have c2 : wd.cell? ⟨rb,2,none⟩ = some (.int .i64 (7 : Int)) := K.out.cell 0 rfl 2
        have f2 : wd.frozen? ⟨rb,2,none⟩ = false := K.out.frozen 0 rfl 2
        go_upto_region 8 with fail
        obtain ⟨wz,hwz⟩ : ∃ wz,wz = wd.setCell ⟨rb,2,none⟩ (.int .i64 (6 : Int)) := ⟨_,rfl⟩
        have MZ : Mv w _ (wd.setCell ⟨rb,2,none⟩ (.int .i64 (6 : Int))) (⟨rb,180,#[.slice va n vc,.int .i64 (((bg : Int) + 1)),.int .i64 (6 : Int),.bool bd2]⟩ :: Hr) := K.out.set 2 (.int .i64 (6 : Int))
        rw [← hwz] at MZ
        simp only [← hwz]
        clear c0 c1 c2 f2 hwz
        have c1 : wz.cell? ⟨rb,1,none⟩ = some (.int .i64 (((bg : Int) + 1) : Int)) := MZ.cell 0 rfl 1
        have c2 : wz.cell? ⟨rb,2,none⟩ = some (.int .i64 (6 : Int)) := MZ.cell 0 rfl 2
        have AT0 := fun k => at_any rb l (.slice va n vc) Hr (bg : Int) (wz.drewN k) ((MZ.drewN k).cell 0 rfl 0) KR.out ((MZ.drewN k).sat.right (A := [_])) (by omega)
        have ap : (if (bg : Int) < 0 then 0 else (l.getD ((bg : Int)).toNat 0) : UInt8) = prevB l (bg + 1) := by rw [at_here]; simp [prevB]
        obtain ⟨pq,hpq⟩ : ∃ q,prevB l (bg + 1) = q := ⟨_,rfl⟩
        simp only [ap,hpq] at AT0
        have HPQ := Lib.hid hpq
        have AT := Lib.hid AT0
        clear AT0 ap hpq
        have KZ := Lib.hid MZ
        clear MZ
        go_quiet (first | (go_at_call 93; exact Calls.quiet_of ((AT.out _).mono fun e w' h => ⟨h.1,0,h.2.symm⟩)))
        go_wp2_with fail
        go_ret
        rw [e1.out]
        refine ⟨?_,_,⟨.slice va n vc,Hr,by simp,KR.out⟩,KZ.out.drewN _⟩
        simp only [HPQ.out]
        have bv := bit_valw pq 6
        rw [show (2 : Int) ^ 6 = 64 from by decide] at bv
        refine ret_int ?_
        exact bv
    case neg =>
      have d0 : ((q.toNat : Int) == 255) = false := by
        have : q.toNat ≠ 255 := fun e => h255 (UInt8.toNat_inj.1 (by rw [e]; rfl))
        exact beq_eq_false_iff_ne.2 (by omega)
      have e1 : Hid (rdBit l ⟨bg,0,bd⟩ = ((prevB l (bg + 1)).toNat / 2 ^ 7 % 2,⟨bg + 1,7,bd⟩)) := Lib.hid (by simp only [rdBit,rdNext,if_true,HQ.out,h255,if_false])
      clear h255
      go_upto_region 6 with (go_at_call 93; refine AT.out.mono ?_; rintro e w' ⟨rfl,rfl⟩)
      have KB := Lib.hid (And.intro KA.out trivial)
      have c1 : wa.cell? ⟨rb,1,none⟩ = some (.int .i64 (bg : Int)) := KB.out.1.cell 0 rfl 1
      have f1 : wa.frozen? ⟨rb,1,none⟩ = false := KB.out.1.frozen 0 rfl 1
      go_upto_region 7 with fail
      obtain ⟨wd,hwd⟩ : ∃ wd,wd = wa.setCell ⟨rb,1,none⟩ (.int .i64 ((bg : Int) + 1)) := ⟨_,rfl⟩
      have MD : Mv w _ (wa.setCell ⟨rb,1,none⟩ (.int .i64 ((bg : Int) + 1))) (⟨rb,180,#[.slice va n vc,.int .i64 ((bg : Int) + 1),.int .i64 (8),.bool bd]⟩ :: Hr) := KB.out.1.set 1 (.int .i64 ((bg : Int) + 1))
      rw [← hwd] at MD
      simp only [← hwd]
      have K := Lib.hid MD
      clear c1 f1 hwd MD KB
      have c0 : wd.cell? ⟨rb,0,none⟩ = some (.slice va n vc) := K.out.cell 0 rfl 0
      have c1 : wd.cell? ⟨rb,1,none⟩ = some (.int .i64 ((bg : Int) + 1 : Int)) := K.out.cell 0 rfl 1
      have c2 : wd.cell? ⟨rb,2,none⟩ = some (.int .i64 (8 : Int)) := K.out.cell 0 rfl 2
      have f2 : wd.frozen? ⟨rb,2,none⟩ = false := K.out.frozen 0 rfl 2
      go_upto_region 8 with fail
      obtain ⟨wz,hwz⟩ : ∃ wz,wz = wd.setCell ⟨rb,2,none⟩ (.int .i64 (7 : Int)) := ⟨_,rfl⟩
      have MZ : Mv w _ (wd.setCell ⟨rb,2,none⟩ (.int .i64 (7 : Int))) (⟨rb,180,#[.slice va n vc,.int .i64 (((bg : Int) + 1)),.int .i64 (7 : Int),.bool bd]⟩ :: Hr) := K.out.set 2 (.int .i64 (7 : Int))
      rw [← hwz] at MZ
      simp only [← hwz]
      clear c0 c1 c2 f2 hwz
      have c1 : wz.cell? ⟨rb,1,none⟩ = some (.int .i64 (((bg : Int) + 1) : Int)) := MZ.cell 0 rfl 1
      have c2 : wz.cell? ⟨rb,2,none⟩ = some (.int .i64 (7 : Int)) := MZ.cell 0 rfl 2
      have AT0 := fun k => at_any rb l (.slice va n vc) Hr (bg : Int) (wz.drewN k) ((MZ.drewN k).cell 0 rfl 0) KR.out ((MZ.drewN k).sat.right (A := [_])) (by omega)
      have ap : (if (bg : Int) < 0 then 0 else (l.getD ((bg : Int)).toNat 0) : UInt8) = prevB l (bg + 1) := by rw [at_here]; simp [prevB]
      obtain ⟨pq,hpq⟩ : ∃ q,prevB l (bg + 1) = q := ⟨_,rfl⟩
      simp only [ap,hpq] at AT0
      have HPQ := Lib.hid hpq
      have AT := Lib.hid AT0
      clear AT0 ap hpq
      have KZ := Lib.hid MZ
      clear MZ
      go_quiet (first | (go_at_call 93; exact Calls.quiet_of ((AT.out _).mono fun e w' h => ⟨h.1,0,h.2.symm⟩)))
      go_wp2_with fail
      go_ret
      rw [e1.out]
      refine ⟨?_,_,⟨.slice va n vc,Hr,by simp,KR.out⟩,KZ.out.drewN _⟩
      simp only [HPQ.out]
      have bv := bit_valw pq 7
      rw [show (2 : Int) ^ 7 = 128 from by decide] at bv
      refine ret_int ?_
      exact bv
end
section
open Go.RowKit
def rdB (l : List UInt8) : Nat → RdM → Nat × RdM
 | 0,s => (0,s)
 | k + 1,s => (2 * (rdB l k s).1 + (rdBit l (rdB l k s).2).1,(rdBit l (rdB l k s).2).2)
theorem rdBit_inv (l : List UInt8) (s : RdM) (h : s.left ≤ 8) : (rdBit l s).1 ≤ 1 ∧ (rdBit l s).2.left ≤ 8 ∧ (rdBit l s).2.begun ≤ s.begun + 1 := by
 unfold rdBit rdNext
 refine ⟨by simp only; omega,?_,?_⟩
 ·split
  ·split <;> simp only <;> omega
  ·simp only; omega
 ·split
  ·split <;> simp only <;> omega
  ·simp only; omega
theorem rdB_inv (l : List UInt8) (s : RdM) (h : s.left ≤ 8) : ∀ k,(rdB l k s).1 < 2 ^ k ∧ (rdB l k s).2.left ≤ 8 ∧ (rdB l k s).2.begun ≤ s.begun + k
 | 0 => ⟨by simp [rdB],h,Nat.le_refl _⟩
 | k + 1 => by
  obtain ⟨h1,h2,h3⟩ := rdB_inv l s h k
  obtain ⟨k1,k2,k3⟩ := rdBit_inv l (rdB l k s).2 h2
  refine ⟨?_,k2,?_⟩
  ·simp only [rdB,Nat.pow_succ]; omega
  ·simp only [rdB]; omega
def rdG (l : List UInt8) (size : Int) (s : RdM) : Nat × RdM := if 1 ≤ size ∧ size ≤ 32 then rdB l size.toNat s else (0,s)
theorem or_bit (n b : Nat) (hb : b ≤ 1) (hn : n < 4294967296) : bits .or .i64 (2 * (n : Int)) (b : Int) = ((2 * n + b : Nat) : Int) := by
 have h := i64_or_nat (2 * n) b (by omega) (by omega)
 rw [show ((2 * n : Nat) : Int) = 2 * (n : Int) from by push_cast; rfl] at h
 rw [h]
 have := (Nat.two_pow_add_eq_or_of_lt (i := 1) (b := b) (by omega) n).symm
 simp only [Nat.pow_one] at this
 rw [this]
theorem or_bit' (n b : Nat) (hb : b ≤ 1) (hn : n < 4294967296) : bits .or .i64 ((n : Int) * 2) (b : Int) = ((2 * n + b : Nat) : Int) := by rw [Int.mul_comm]; exact or_bit n b hb hn
set_option maxHeartbeats 1000000 in
theorem bits_rd (rb : Nat) (l : List UInt8) (s : RdM) (size : Int) (w : World) (H : List HB) (h : ReadH rb l s H) (hs : Sat w H) (hl : l.length ≤ 90000000) (hb : s.begun ≤ 80000000) (h8 : s.left ≤ 8) :
  Calls Try.prog 97 #[.pointer (some ⟨rb,0,none⟩),.int .i64 size] w fun e w' => e = .returned (.int .i64 ((rdG l size s).1 : Int)) ∧ ∃ H',ReadH rb l (rdG l size s).2 H' ∧ Mv w H w' H' := by
 by_cases hz : 1 ≤ size ∧ size ≤ 32
 ·obtain ⟨z,rfl⟩ := Int.eq_ofNat_of_zero_le (a := size) (by omega)
  have d1 : decide ((z : Int) < 1) = false := by simp; omega
  have d2 : decide ((32 : Int) < (z : Int)) = false := by simp; omega
  have hz2 : 1 ≤ z ∧ z ≤ 32 := by omega
  have HG : Hid (rdG l (z : Int) s = rdB l z s) := Lib.hid (by unfold rdG; rw [if_pos hz]; simp)
  rw [HG.out]
  have K := Lib.hid (And.intro h (And.intro hs h8))
  clear h hs hz HG
  go_enter Try.func97,Try.ntmps97
  go_wp2_with fail
  go_loopg [5,13] z (fun g s5 s13 wx => ∃ i : Nat,i ≤ z ∧ g = z - i ∧ s13 = .int .i64 (i : Int) ∧ s5 = .int .i64 ((rdB l i s).1 : Int) ∧ ∃ H',ReadH rb l (rdB l i s).2 H' ∧ Mv w H wx H')
  case atStart => exact ⟨0,Nat.zero_le _,rfl,rfl,rfl,H,K.out.1,Mv.refl K.out.2.1⟩
  case round =>
   obtain ⟨wa,rfl⟩ : ∃ wa : World,wa = wr := ⟨_,rfl⟩
   obtain ⟨i,hik,rfl,rfl,rfl,H1,h1,m1⟩ := hrel
   by_cases hlt : i < z
   ·have d3 : decide ((i : Int) < (z : Int)) = true := by simp; omega
    obtain ⟨q1,q2,q3⟩ := rdB_inv l s K.out.2.2 i
    obtain ⟨p1,p2,p3⟩ := rdBit_inv l (rdB l i s).2 q2
    have B1 := Lib.hid (bit_rd rb l (rdB l i s).2 wa H1 h1 m1.sat hl (by omega) q2)
    have q4 : (rdB l i s).1 < 4294967296 := Nat.lt_of_lt_of_le q1 (Nat.pow_le_pow_right (n := 2) (by decide) (show i ≤ 32 by omega))
    have E1 : Hid (rdB l (i + 1) s = (2 * (rdB l i s).1 + (rdBit l (rdB l i s).2).1,(rdBit l (rdB l i s).2).2)) := Lib.hid rfl
    generalize (rdB l i s).1 = n at *
    generalize (rdBit l (rdB l i s).2).1 = b at *
    have M1 := Lib.hid m1
    have OB := Lib.hid (And.intro (or_bit n b p1 q4) (or_bit' n b p1 q4))
    clear h1 m1 q1 p1
    go_wp2_with (go_at_call 74; refine B1.out.mono ?_; rintro e w2 ⟨rfl,H2,h2,m2⟩; have K2 := Lib.hid (And.intro h2 (M1.out.trans m2)); clear h2 m2)
    go_roundg (z - (i + 1))
    case measure => omega
    case rel =>
     refine ⟨i + 1,hlt,rfl,by go_num,?_,H2,by rw [E1.out]; exact K2.out.1,K2.out.2⟩
     rw [E1.out]
     first | rw [OB.out.1] | rw [OB.out.2] | exact congrArg (Value.int IntKind.i64) OB.out.1 | exact congrArg (Value.int IntKind.i64) OB.out.2
   ·obtain rfl : i = z := by omega
    have d3 : decide ((i : Int) < (i : Int)) = false := by simp
    go_wp2_with fail
    go_ret
    exact ⟨rfl,H1,h1,m1⟩
 ·have hG : rdG l size s = (0,s) := by unfold rdG; rw [if_neg hz]
  rw [hG]
  by_cases h1 : size < 1
  ·have d1 : decide (size < 1) = true := by simpa using h1
   have K := Lib.hid (And.intro h hs)
   clear h hs hz h1
   go_enter Try.func97,Try.ntmps97
   go_wp2_with fail
   go_ret
   exact ⟨rfl,H,K.out.1,Mv.refl K.out.2⟩
  ·have d1 : decide (size < 1) = false := by simpa using h1
   have d2 : decide (32 < size) = true := by simp; omega
   have K := Lib.hid (And.intro h hs)
   clear h hs hz h1
   go_enter Try.func97,Try.ntmps97
   go_wp2_with fail
   go_ret
   exact ⟨rfl,H,K.out.1,Mv.refl K.out.2⟩
def endM (l : List UInt8) (s : RdM) : Nat × Nat :=
 let n := if prevB l s.begun = 255 then s.begun + 1 else s.begun
 let bad := if prevB l s.begun = 255 then s.bad || decide (128 ≤ (l.getD s.begun 0).toNat) else s.bad
 if l.length < n then (0,8) else if bad then (0,10) else (n,0)
set_option maxHeartbeats 1000000 in
theorem end_rd (rb : Nat) (l : List UInt8) (s : RdM) (w : World) (H : List HB) (h : ReadH rb l s H) (hs : Sat w H) (hl : l.length ≤ 90000000) (hb : s.begun ≤ 80000000) :
  Calls Try.prog 77 #[.pointer (some ⟨rb,0,none⟩)] w fun e w' => e = .returned (.tuple #[.int .i64 ((endM l s).1 : Int),.int .i64 ((endM l s).2 : Int)]) ∧ ∃ n,w' = w.drewN n := by
 obtain ⟨bg,lf,bd⟩ := s
 obtain ⟨v,Hr,rfl,hr⟩ := h
 simp only at hb
 obtain ⟨va,vc,rfl⟩ := hr.slice
 have c0 : w.cell? ⟨rb,0,none⟩ = some (.slice va l.length vc) := (hs.at_ 0 rfl).cell 0
 have c1 : w.cell? ⟨rb,1,none⟩ = some (.int .i64 (bg : Int)) := (hs.at_ 0 rfl).cell 1
 have c3 : w.cell? ⟨rb,3,none⟩ = some (.bool bd) := (hs.at_ 0 rfl).cell 3
 have AP := fun k => at_any rb l (.slice va l.length vc) Hr ((bg : Int) - 1) (w.drewN k) c0 hr (hs.right (A := [_])) (by omega)
 have AH := fun k => at_any rb l (.slice va l.length vc) Hr (bg : Int) (w.drewN k) c0 hr (hs.right (A := [_])) (by omega)
 simp only [at_prev] at AP
 simp only [at_here] at AH
 obtain ⟨q,hq⟩ : ∃ q,prevB l bg = q := ⟨_,rfl⟩
 obtain ⟨q2,hq2⟩ : ∃ q,l.getD bg 0 = q := ⟨_,rfl⟩
 have E0 : endM l ⟨bg,lf,bd⟩ = (if l.length < (if q = 255 then bg + 1 else bg) then (0,8) else if (if q = 255 then bd || decide (128 ≤ q2.toNat) else bd) then (0,10) else ((if q = 255 then bg + 1 else bg),0)) := by
  simp only [endM,hq,hq2]
 rw [E0]
 simp only [hq] at AP
 simp only [hq2] at AH
 have AP := Lib.hid AP
 have AH := Lib.hid AH
 generalize l.length = n at *
 clear hr hs hq hq2 E0
 by_cases h255 : q = 255
 ·have d0 : ((q.toNat : Int) == 255) = true := by rw [h255]; rfl
  simp only [h255,if_true]
  have c128 : (if (bd || decide (128 ≤ q2.toNat)) = true then ((0,10) : Nat × Nat) else (bg + 1,0)) = if bd = true then (0,10) else if (128 : Int) ≤ (q2.toNat : Int) then (0,10) else (bg + 1,0) := by
   cases bd
   ·simp only [Bool.false_or,decide_eq_true_eq,Bool.false_eq_true,if_false]
    by_cases h : 128 ≤ q2.toNat
    ·rw [if_pos h,if_pos (by omega)]
    ·rw [if_neg h,if_neg (by omega)]
   ·rfl
  rw [c128]
  have E := Lib.hid (Eq.refl (if n < bg + 1 then ((0,8) : Nat × Nat) else if bd = true then (0,10) else if (128 : Int) ≤ (q2.toNat : Int) then (0,10) else (bg + 1,0)))
  obtain ⟨R,hR⟩ : ∃ R,(if n < bg + 1 then ((0,8) : Nat × Nat) else if bd = true then (0,10) else if (128 : Int) ≤ (q2.toNat : Int) then (0,10) else (bg + 1,0)) = R := ⟨_,rfl⟩
  rw [hR]
  have HR := Lib.hid hR
  clear h255 c128 E hR
  go_enter Try.func77,Try.ntmps77
  go_upto_region 1 with fail
  go_quiet (fail)
  go_wp2_with (first | (go_at_call 93; with_reducible refine (AP.out _).mono ?_; rintro e w' ⟨rfl,rfl⟩) | (go_at_call 93; with_reducible refine (AH.out _).mono ?_; rintro e w' ⟨rfl,rfl⟩))
  all_goals
   go_ret2
   refine ⟨?_,_,rfl⟩
   rw [← HR.out]
   first
    | (rw [if_pos (by omega)]; rfl)
    | (rw [if_neg (by omega),if_pos (by assumption)]; rfl)
    | (rw [if_neg (by omega),if_neg (by simp [*]),if_pos (by omega)]; rfl)
    | (rw [if_neg (by omega),if_neg (by simp [*]),if_neg (by omega)]; go_num)
    | (rw [if_neg (by omega),if_neg (by simp [*]),if_neg (by omega)]; rfl)
 ·have d0 : ((q.toNat : Int) == 255) = false := by
   have : q.toNat ≠ 255 := fun e => h255 (UInt8.toNat_inj.1 (by rw [e]; rfl))
   exact beq_eq_false_iff_ne.2 (by omega)
  simp only [h255,if_false]
  obtain ⟨R,hR⟩ : ∃ R,(if n < bg then ((0,8) : Nat × Nat) else if bd = true then (0,10) else (bg,0)) = R := ⟨_,rfl⟩
  rw [hR]
  have HR := Lib.hid hR
  clear h255 hR
  go_enter Try.func77,Try.ntmps77
  go_upto_region 1 with fail
  go_quiet (fail)
  go_wp2_with (first | (go_at_call 93; with_reducible refine (AP.out _).mono ?_; rintro e w' ⟨rfl,rfl⟩) | (go_at_call 93; with_reducible refine (AH.out _).mono ?_; rintro e w' ⟨rfl,rfl⟩))
  all_goals
   go_ret2
   refine ⟨?_,_,rfl⟩
   rw [← HR.out]
   first
    | (rw [if_pos (by omega)]; rfl)
    | (rw [if_neg (by omega),if_pos (by assumption)]; rfl)
    | (rw [if_neg (by omega),if_neg (by simp [*])]; rfl)
end
section
open Go.RowKit
theorem results_cell3 {P : Program} {fn : Func} {p q r : Tmp} {tp tq tr : TypeId} (h : fn.results = #[.cell p tp,.cell q tq,.cell r tr]) (tmps : Array Value) (w : World) :
  (results fn tmps).run P w = ((asAddr (tmps.getD p undef)).run P w).andThen fun a w₁ => ((loadVar tp a).run P w₁).andThen fun u w₂ => ((asAddr (tmps.getD q undef)).run P w₂).andThen fun b w₃ => ((loadVar tq b).run P w₃).andThen fun v w₄ =>
   ((asAddr (tmps.getD r undef)).run P w₄).andThen fun c w₅ => ((loadVar tr c).run P w₅).andThen fun x w₆ => .ok (.tuple #[u,v,x]) w₆ := by
 simp only [results,h]
 simp [Sem.run_bind,Result.andThen]
end
section
open Go.RowKit
theorem marked_none (A : Option Addr) (n c : Nat) (w : World) : Calls Try.prog 51 #[.slice A n c,.bool false] w fun e w' => e = .returned (.tuple #[.int .i64 0,.int .i64 0]) ∧ w' = w := by
 go_enter Try.func51,Try.ntmps51
 go_wp2_with fail
 go_ret2
 exact ⟨rfl,rfl⟩
end
section
open Go.RowKit
theorem infoPs : (Try.prog.info? 108).map (fun i => (i.zero,i.size,i.bytes)) = some (some (.agg #[.int .i64 0,.bool false]),2,16) := by kernel_rfl
def RowP (v : Value) (l : List (Int × Bool)) (H : List HB) : Prop := RowH 108 2 v l.length (passesV l) H
def PV (w : World) (v : Value) (l : List (Int × Bool)) : Prop := ∃ A c,v = .slice A l.length c ∧ l.length ≤ c ∧ c ≤ maxLen ∧ Reads w w.heap.size 2 A l.length (passesV l)
theorem passesV_append (a b : List (Int × Bool)) : passesV (a ++ b) = passesV a ++ passesV b := by simp [passesV]
theorem passesV_one (l : List (Int × Bool)) : ∀ u : Value,u ∈ passesV l → u.oneCell' = true := by
 intro u hu
 simp only [passesV,passV,List.mem_flatMap,List.mem_cons,List.not_mem_nil,or_false] at hu
 obtain ⟨p,-,rfl | rfl⟩ := hu <;> rfl
theorem RowP.slice {v : Value} {l : List (Int × Bool)} {H : List HB} (h : RowP v l H) : ∃ a c,v = .slice a l.length c := RowH.slice h
theorem PV.keep {w w' : World} {v : Value} {l : List (Int × Bool)} (h : PV w v l) (hb : Below w.heap.size w w') : PV w' v l := by
 obtain ⟨A,c,h1,h2,h3,h4⟩ := h
 exact ⟨A,c,h1,h2,h3,(h4.below hb).more hb.size⟩
theorem RowP.pv {w : World} {v : Value} {l : List (Int × Bool)} {H : List HB} (h : RowP v l H) (hs : Sat w H) : PV w v l := by
 have ho := RowH.owns h hs (B := 0) (fun _ _ => Nat.zero_le _)
 rcases h.2 with ⟨rfl,h2,h3⟩ | ⟨g,cap,cur,rfl,h1,h2,-⟩
 ·exact ⟨none,0,by rw [h2],by omega,by unfold maxLen; omega,Reads.of_own (by rw [h2] at ho ⊢; exact ho)⟩
 ·exact ⟨_,cap,rfl,h1,h2,Reads.of_own ho⟩
theorem run_appP {w : World} {v u : Value} {l r : List (Int × Bool)} {H : List HB} (h : RowP v l H) (hs : Sat w H) (hu : PV w u r) (hl : l.length + r.length ≤ 100000000) (ty : TypeId) :
  ∃ v' w' H',(Builtin.append_ #[43,43] ty #[v,u]).run Try.prog w = .ok v' w' ∧ RowP v' (l ++ r) H' ∧ Mv w H w' H' := by
 obtain ⟨A,c,rfl,h1,h2,h3⟩ := hu
 obtain ⟨i0,hti,hz0,hz1,hz2⟩ := info_parts infoPs
 obtain ⟨v',w',hrun,k1,k2,k3⟩ := run_append_any (P := Try.prog) w 0 43 ty 108 i0 _ 2 16 Try.underlying43 hti hz0 hz1 hz2 rfl (by decide) v l.length (passesV l) (RowH.owns h hs (fun _ _ => Nat.zero_le _)) w.heap.size A r.length c (passesV r) h3 (passesV_one r) (by unfold maxLen; omega) (by omega) (Nat.zero_le _)
 obtain ⟨H',k4,k5⟩ := mv_owns_grown h k1 k2 k3
 refine ⟨v',w',H',hrun,?_,k5⟩
 unfold RowP
 rw [List.length_append,passesV_append]
 exact k4
section
variable {ops : Array Oper} {rest : List Oper} {o : Oper} {a : Act} {w : World} {K : Act → World → Prop} {Q : Exit → Act → World → Prop} {E : Prop}
theorem wp_appP (s x : Operand) (ho : o.op = .call { callee := .builtin .append,args := #[s,x],argTypes := #[43,43] }) (v u : Value) (l r : List (Int × Bool)) (H : List HB)
  (hsv : a.eval s = v) (hxu : a.eval x = u) (h : RowP v l H) (hs : Sat w H) (hu : PV w u r) (hl : l.length + r.length ≤ 100000000)
  (hK : ∀ v' w' H',RowP v' (l ++ r) H' → Mv w H w' H' → K (a.put o.dst v') w') : o.wp Try.prog a w K Q := by
 obtain ⟨v',w',H',hrun,h1,h2⟩ := run_appP h hs hu hl o.type
 unfold Oper.wp execOp
 simp only [ho,resolve,invoke,builtin,Sem.run_bind,Sem.run_pure,Result.andThen_ok,List.map_toArray,List.map_cons,List.map_nil,hsv,hxu,hrun]
 exact hK v' w' H' h1 h2
theorem wpList_appP (hgd : o.guard = none) (s x : Operand) (ho : o.op = .call { callee := .builtin .append,args := #[s,x],argTypes := #[43,43] }) (v u : Value) (l r : List (Int × Bool)) (H : List HB)
  (hsv : a.eval s = v) (hxu : a.eval x = u) (h : RowP v l H) (hs : Sat w H) (hu : PV w u r) (hl : l.length + r.length ≤ 100000000)
  (hK : ∀ v' w' H',RowP v' (l ++ r) H' → Mv w H w' H' → wpList Try.prog ops Q rest (a.put o.dst v') w') : wpList Try.prog ops Q (o :: rest) a w :=
 wpList_plain hgd fun _ hk => wp_appP s x ho v u l r H hsv hxu h hs hu hl fun v' w' H' h1 h2 => hk _ _ (hK v' w' H' h1 h2)
end
end
section
open Go.RowKit
theorem cloneP_any (v : Value) (l : List (Int × Bool)) (w : World) (hv : PV w v l) (hn : l.length ≤ 1000000) :
  Calls Try.prog 72 #[v] w fun e w' => ∃ v' H',e = .returned v' ∧ RowP v' l H' ∧ Mv w [] w' H' := by
 obtain ⟨A,c,rfl,h1,h2,hr⟩ := hv
 have HV := Lib.hid hr
 have hq : ∀ W,(binOp .eql 43 (.slice A l.length c) (.slice none 0 0)).run Try.prog W = .ok (.bool A.isNone) W := fun W => Lib.run_eql_slice_nil W 43 108 A l.length c 0 0 Try.underlying43
 rcases A with _ | ad
 ·have h0 : l.length = 0 := by
   rcases Nat.eq_zero_or_pos l.length with h | h
   ·exact h
   ·obtain ⟨_,h,_⟩ := hr.2 (by omega); cases h
  have hl : l = [] := List.eq_nil_of_length_eq_zero h0
  subst hl
  clear hr HV hn h1 h0
  simp only [List.length_nil] at hq ⊢
  go_enter Try.func72,Try.ntmps72
  go_wp2
  go_ret
  exact ⟨_,[],rfl,RowH.nil _ _,Mv.refl (Sat.nil w)⟩
 ·have M0 := mv_alloc w 108 #[]
  have B0 : PV (w.alloc (.cells #[] 108)) (.slice (some ad) l.length c) l := ⟨some ad,c,rfl,h1,h2,(hr.alloc (Nat.le_refl _) _).more (by simp)⟩
  have R0 : RowP (.slice (some ⟨w.heap.size,0,none⟩) 0 0) [] [⟨w.heap.size,108,#[]⟩] := RowH.new 108 w.heap.size 0 #[] (by simp) (by decide)
  have K := Lib.hid (And.intro M0 (And.intro B0 R0))
  obtain ⟨n,hnn⟩ : ∃ n,l.length = n := ⟨_,rfl⟩
  have HN := Lib.hid hnn
  rw [hnn] at hq hn h1 K
  rw [hnn]
  clear hr HV M0 B0 R0 hnn
  go_enter Try.func72,Try.ntmps72
  go_wp2_with (at_builtin; go_must (refine wpList_appP rfl (.tmp 5) (.tmp 6) rfl _ _ [] l _ rfl rfl K.out.2.2 K.out.1.sat K.out.2.1 (by rw [HN.out]; simp; omega) ?_; intro v' w1 H1 hr1 m1; obtain ⟨a1,c1,rfl⟩ := hr1.slice; have K1 := Lib.hid (And.intro hr1 m1); clear hr1 m1))
  go_ret
  exact ⟨_,H1,rfl,by simpa using K1.out.1,K.out.1.trans K1.out.2⟩
end
section
open Go.RowKit
set_option maxHeartbeats 1000000 in
theorem own_any (pl : Int) (vp vb : Value) (ps : List (Int × Bool)) (bs : List UInt8) (w : World) (hp : PV w vp ps) (hb : BV w vb bs) (hn : ps.length ≤ 1000000) (hm : bs.length ≤ 100000000) :
  Calls Try.prog 47 #[.agg #[.int .i64 pl,vp,vb]] w fun e w' => ∃ vp' vb' Hp Hb,e = .returned (.agg #[.int .i64 pl,vp',vb']) ∧ RowP vp' ps Hp ∧ RowB vb' bs Hb ∧ Mv w [] w' (Hp ++ Hb) := by
 have M1 := ((Mv.refl (Sat.nil w)).alloc 45 #[.int .i64 pl,vp,vb]).alloc 45 #[.int .i64 0,.slice none 0 0,.slice none 0 0]
 obtain ⟨w1,hw1⟩ : ∃ w1,w1 = (w.alloc (.cells #[.int .i64 pl,vp,vb] 45)).alloc (.cells #[.int .i64 0,.slice none 0 0,.slice none 0 0] 45) := ⟨_,rfl⟩
 rw [← hw1] at M1
 have hsz : (w.alloc (.cells #[.int .i64 pl,vp,vb] 45)).heap.size = w.heap.size + 1 := by simp
 rw [hsz] at M1
 have BX : Blk w1 w.heap.size 45 #[.int .i64 pl,vp,vb] := Mv.blkm M1 (x := ⟨w.heap.size,45,#[.int .i64 pl,vp,vb]⟩) (List.mem_cons_of_mem _ List.mem_cons_self)
 have F : Hid (∀ w' H,Mv w1.drew [] w' H → (w'.cell? ⟨w.heap.size,0,none⟩ = some (.int .i64 pl) ∧ w'.cell? ⟨w.heap.size,1,none⟩ = some vp ∧ w'.cell? ⟨w.heap.size,2,none⟩ = some vb) ∧ PV w' vp ps ∧ BV w' vb bs) := Lib.hid (by
  intro w' H m
  have hB : Below w1.heap.size w1 w' := ⟨m.only.os,m.only.tape,m.only.output,m.only.size,m.below0.block⟩
  have hB0 : Below w.heap.size w w' := (Mv.below0 M1).trans (hB.mono M1.only.size)
  have b1 := BX.below hB BX.lt
  exact ⟨⟨b1.cell 0,b1.cell 1,b1.cell 2⟩,hp.keep hB0,hb.keep hB0⟩)
 have BY : Blk w1 (w.heap.size + 1) 45 #[.int .i64 0,.slice none 0 0,.slice none 0 0] := Mv.blkm M1 (x := ⟨w.heap.size + 1,45,#[.int .i64 0,.slice none 0 0,.slice none 0 0]⟩) List.mem_cons_self
 have FY : Hid (∀ w' H,Mv w1.drew [] w' H → Blk w' (w.heap.size + 1) 45 #[.int .i64 0,.slice none 0 0,.slice none 0 0]) := Lib.hid (by
  intro w' H m
  have hB : Below w1.heap.size w1 w' := ⟨m.only.os,m.only.tape,m.only.output,m.only.size,m.below0.block⟩
  exact BY.below hB BY.lt)
 clear BX BY
 obtain ⟨A,c,rfl,-⟩ := hp
 obtain ⟨B,d,rfl,-⟩ := hb
 obtain ⟨np,hnp⟩ : ∃ np,ps.length = np := ⟨_,rfl⟩
 obtain ⟨nb,hnb⟩ : ∃ nb,bs.length = nb := ⟨_,rfl⟩
 rw [hnp] at F hn M1 hw1 ⊢
 rw [hnb] at F hm M1 hw1 ⊢
 have HN := Lib.hid (And.intro hnp hnb)
 have KM := Lib.hid M1
 clear hnp hnb M1
 go_enter Try.func47,Try.ntmps47
 go_upto_region 1 with fail
 rw [← hw1]
 have CP := Lib.hid fun W (h : PV W (.slice A np c) ps) => cloneP_any _ ps W h (by rw [HN.out.1]; exact hn)
 have CB := Lib.hid fun W (h : BV W (.slice B nb d) bs) => clone_any _ bs W h (by rw [HN.out.2]; exact hm)
 clear hw1
 have F0 := (F.out w1.drew [] (Mv.refl (Sat.nil _))).1
 go_region_held3 (fun w' => w'.cell? ⟨w.heap.size,0,none⟩ = some (.int .i64 pl) ∧ w'.cell? ⟨w.heap.size,1,none⟩ = some (.slice A np c) ∧ w'.cell? ⟨w.heap.size,2,none⟩ = some (.slice B nb d))
  (first | (with_reducible exact F0) | (with_reducible exact F1) | (with_reducible exact F2) | (exact ⟨(World.cell?_setCell_other _ _ _ _ (by simp)).trans ((World.cell?_setCell_other _ _ _ _ (by simp)).trans ((World.cell?_setCell_other _ _ _ _ (by simp)).trans F2.1)),(World.cell?_setCell_other _ _ _ _ (by simp)).trans ((World.cell?_setCell_other _ _ _ _ (by simp)).trans ((World.cell?_setCell_other _ _ _ _ (by simp)).trans F2.2.1)),(World.cell?_setCell_other _ _ _ _ (by simp)).trans ((World.cell?_setCell_other _ _ _ _ (by simp)).trans ((World.cell?_setCell_other _ _ _ _ (by simp)).trans F2.2.2))⟩))
  (first | (go_at_call 72; refine (CP.out _ (F.out _ _ (Mv.refl (Sat.nil _))).2.1).mono ?_; rintro e w2 ⟨vp',Hp,rfl,r1,m1⟩; obtain ⟨a1,c1,rfl⟩ := r1.slice; have F1 := (F.out w2 _ m1).1; have K1 := Lib.hid (And.intro r1 m1); clear r1 m1) | (go_at_call 31; refine (CB.out _ (F.out _ _ K1.out.2).2.2).mono ?_; rintro e w3 ⟨vb',Hb,rfl,r2,m2⟩; obtain ⟨a2,c2,rfl⟩ := RowH.slice r2; have K2 := Lib.hid (And.intro r2 m2); have F2 := (F.out w3 _ (Mv.call (H := []) K1.out.2 m2)).1; have Y3 := FY.out w3 _ (Mv.call (H := []) K1.out.2 m2); have y0 := Y3.cell 0; have y1 := Y3.cell 1; have y2 := Y3.cell 2; have z0 := Y3.frozen 0; have z1 := Y3.frozen 1; have z2 := Y3.frozen 2; have KY := Lib.hid Y3; clear r2 m2 Y3))
 go_wp2_with fail
 rw [HN.out.1,HN.out.2]
 have M3a : Mv w [] w2 (Hp ++ [_,_]) := Mv.call (H := []) (R := [_,_]) KM.out.drew K1.out.2
 have M3b : Mv w [] w3 (Hb ++ (Hp ++ [_,_])) := Mv.call (H := []) (R := Hp ++ [_,_]) M3a K2.out.2
 have M3 : Mv w [] w3 (⟨w.heap.size + 1,45,#[.int .i64 0,.slice none 0 0,.slice none 0 0]⟩ :: (Hp ++ Hb)) := M3b.sub (fun g => by simp only [cnt_append,cnt_cons]; omega) (fun c hc => by simp only [List.mem_append,List.mem_cons] at hc ⊢; grind)
 have M4 := ((M3.set 0 (.int .i64 pl)).set 1 (.slice a1 ps.length c1)).set 2 (.slice a2 bs.length c2)
 rw [HN.out.1,HN.out.2] at M4
 refine bodyPost_ret (v := .agg #[.int .i64 pl,.slice a1 np c1,.slice a2 nb c2]) (results_cell_row Try.results47 _ _ (w.heap.size + 1) 45 _ (0,0) _ rfl (Mv.blkm M4 List.mem_cons_self) Try.underlying45 rfl (by kernel_rfl)) rfl ?_
 have k1 := K1.out.1
 have k2 := K2.out.1
 rw [HN.out.1] at k1
 rw [HN.out.2] at k2
 exact ⟨_,_,Hp,Hb,rfl,k1,k2,M4.drop1⟩
end
section
open Go.RowKit
theorem cnt_flatMap_le {α : Type} (f : α → List HB) {l : List α} {x : α} (h : x ∈ l) (g : Nat) : cnt g (f x) ≤ cnt g (l.flatMap f) := by
 induction l with
 | nil => cases h
 | cons y l ih =>
  rw [List.flatMap_cons,cnt_append]
  rcases List.mem_cons.1 h with rfl | h
  ·omega
  ·have := ih h
   omega
def stNone : StM := ⟨0,[],[],0,3⟩
def stOf (m : BandM) (k : Int) : StM := if k < 0 ∨ (m.ss.length : Int) ≤ k then stNone else m.ss.getD k.toNat stNone
theorem StG.sat {b : BandG} {d : BandA} {w : World} (hs : Sat w (b.heap d)) {s : StG} (h : s ∈ b.G) : Sat w s.Hp ∧ Sat w s.Hb := by
 have h1 : Sat w (s.heap) := by
  refine hs.sub (fun g => ?_) (fun c hc => ?_)
  ·have := cnt_flatMap_le StG.heap h g
   simp only [BandG.heap,cnt_cons,cnt_append]
   omega
  ·have : c ∈ b.G.flatMap StG.heap := List.mem_flatMap.2 ⟨s,h,hc⟩
   simp only [BandG.heap,List.mem_cons,List.mem_append]
   exact .inr (.inr (.inr (.inr this)))
 exact ⟨h1.left,h1.right⟩
set_option maxHeartbeats 1000000 in
theorem block_any (d : BandA) (m : BandM) (H : List HB) (W : World) (hB : BandR d m H) (hs : Sat W H) (k : Int) :
  Calls Try.prog 16 #[.pointer (some ⟨d.bb,0,none⟩),.int .i64 k] W fun e W' => ∃ vp' vb' Hp Hb,e = .returned (.agg #[.int .i64 (stOf m k).pl,vp',vb']) ∧ RowP vp' (stOf m k).ps Hp ∧ RowB vb' (stOf m k).bs Hb ∧ Mv W [] W' (Hp ++ Hb) := by
 obtain ⟨b,rfl,hk,rfl⟩ := hB
 have hsm := hk.small
 obtain ⟨w1,hw1⟩ : ∃ w1,w1 = W.alloc (.cells #[.int .i64 0,.slice none 0 0,.slice none 0 0] 45) := ⟨_,rfl⟩
 have M1 := (Mv.refl hs).alloc 45 #[.int .i64 0,.slice none 0 0,.slice none 0 0]
 have MY := mv_alloc W 45 #[.int .i64 0,.slice none 0 0,.slice none 0 0]
 rw [← hw1] at M1 MY
 have hbb := Mv.blkm M1 (List.mem_cons_of_mem _ (b.mem_band d))
 have hst : Blk w1 d.lb 70 (b.G.flatMap StG.v).toArray := Mv.blkm M1 (List.mem_cons_of_mem _ (b.mem_states d))
 have c0 : w1.cell? ⟨d.bb,0,none⟩ = some (.slice (some ⟨d.lb,0,none⟩) d.n d.n) := hbb.cell 0
 have hln : b.model.ss.length = d.n := by simp only [BandG.model,List.length_map]; exact hk.len
 have GT := Lib.hid (getT_any d.bb d.lb d.n d.n k w1 c0 (by omega))
 by_cases hr : k < 0 ∨ (d.n : Int) ≤ k
 ·rw [if_pos hr] at GT
  have e0 : stOf b.model k = stNone := by unfold stOf; rw [hln,if_pos hr]
  rw [e0]
  have KY := Lib.hid MY
  have by0 := Mv.blkm MY List.mem_cons_self
  have y0 := by0.cell 0
  have y1 := by0.cell 1
  have y2 := by0.cell 2
  have z := by0.frozen
  clear hr e0 MY M1 hbb hst by0
  go_enter Try.func16,Try.ntmps16
  go_upto_region 1 with fail
  rw [← hw1]
  clear hw1
  go_wp2_with (go_at_call 46; refine GT.out.mono ?_; rintro e w' ⟨rfl,rfl⟩)
  have M4 := ((KY.out.set 0 (.int .i64 0)).set 1 (.slice none 0 0)).set 2 (.slice none 0 0)
  refine bodyPost_ret (v := .agg #[.int .i64 0,.slice none 0 0,.slice none 0 0]) (results_cell_row Try.results16 _ _ W.heap.size 45 _ (0,0) _ rfl (Mv.blkm M4 List.mem_cons_self) Try.underlying45 rfl (by kernel_rfl)) rfl ?_
  exact ⟨_,_,[],[],rfl,RowH.nil _ _,RowH.nil _ _,M4.drop1⟩
 ·rw [if_neg hr] at GT
  obtain ⟨j,rfl⟩ : ∃ j : Nat,k = (j : Int) := ⟨k.toNat,by omega⟩
  rw [Int.toNat_natCast] at GT
  obtain ⟨s,hg⟩ : ∃ s,b.G[j]? = some s := ⟨_,List.getElem?_eq_getElem (by rw [hk.len]; omega)⟩
  have hmem := List.mem_of_getElem? hg
  have e0 : stOf b.model (j : Int) = s.m := by
   unfold stOf
   rw [hln,if_neg hr,Int.toNat_natCast]
   simp only [BandG.model,List.getD_eq_getElem?_getD,List.getElem?_map,hg,Option.map_some,Option.getD_some]
  rw [e0]
  have hso := hk.st s hmem
  obtain ⟨s1,s2⟩ := StG.sat hs hmem
  have hpv : PV w1 s.vp s.m.ps := (RowP.pv hso.1 s1).keep MY.below0
  have hbv : BV w1 s.vb s.m.bs := (RowB.bv hso.2.1 s2).keep MY.below0
  obtain ⟨q0,q1,q2,-,-,-⟩ := state_cells hst hg
  have OW := Lib.hid (own_any s.m.pl s.vp s.vb s.m.ps s.m.bs w1 hpv hbv (by have := hso.2.2.np; omega) (by have := hso.2.2.nb; omega))
  have hj : j * 5 < 100000 := by omega
  obtain ⟨A,c1,e1,-⟩ := hpv
  obtain ⟨B,c2,e2,-⟩ := hbv
  obtain ⟨n1,hn1⟩ : ∃ n1,s.m.ps.length = n1 := ⟨_,rfl⟩
  obtain ⟨n2,hn2⟩ : ∃ n2,s.m.bs.length = n2 := ⟨_,rfl⟩
  rw [e1,hn1] at q1
  rw [e2,hn2] at q2
  rw [e1,e2,hn1,hn2] at OW
  have KY := Lib.hid MY
  clear hr e0 MY M1 hbb hst hso s1 s2 e1 e2 hn1 hn2 hln hs hg hmem
  go_enter Try.func16,Try.ntmps16
  go_upto_region 1 with fail
  rw [← hw1]
  clear hw1
  go_wp2_with (first | (go_at_call 46; refine GT.out.mono ?_; rintro e w' ⟨rfl,rfl⟩) | (go_at_call 47; refine OW.out.mono ?_; rintro e w3 ⟨vp',vb',Hp,Hb,rfl,r1,r2,m3⟩; obtain ⟨a3,c3,rfl⟩ := r1.slice; obtain ⟨a4,c4,rfl⟩ := RowH.slice r2; have M3 : Mv W [] w3 ((Hp ++ Hb) ++ [_]) := Mv.call (H := []) (R := [_]) KY.out m3; have by0 := Mv.blkm M3 (List.mem_append_right _ List.mem_cons_self); have y0 := by0.cell 0; have y1 := by0.cell 1; have y2 := by0.cell 2; have z0 := by0.frozen 0; have z1 := by0.frozen 1; have z2 := by0.frozen 2; have K3 := Lib.hid (And.intro r1 (And.intro r2 M3)); clear r1 r2 m3 M3 by0))
  have M3 : Mv W [] w3 (⟨W.heap.size,45,#[.int .i64 0,.slice none 0 0,.slice none 0 0]⟩ :: (Hp ++ Hb)) := K3.out.2.2.sub (fun g => by simp only [cnt_append,cnt_cons]; omega) (fun c hc => by simp only [List.mem_append,List.mem_cons] at hc ⊢; grind)
  have M4 := ((M3.set 0 (.int .i64 s.m.pl)).set 1 (.slice a3 s.m.ps.length c3)).set 2 (.slice a4 s.m.bs.length c4)
  refine bodyPost_ret (v := .agg #[.int .i64 s.m.pl,.slice a3 s.m.ps.length c3,.slice a4 s.m.bs.length c4]) (results_cell_row Try.results16 _ _ W.heap.size 45 _ (0,0) _ rfl (Mv.blkm M4 List.mem_cons_self) Try.underlying45 rfl (by kernel_rfl)) rfl ?_
  exact ⟨_,_,Hp,Hb,rfl,K3.out.1,K3.out.2.1,M4.drop1⟩
end
section
open Go.RowKit
def listB (g bb : Nat) : HB := ⟨g,34,#[.pointer (some ⟨bb,0,none⟩)]⟩
theorem enc_one (d : BandA) (m : BandM) (H0 : List HB) (g : Nat) (W : World) (style layer : Int) (count : Nat) (hB : BandR d m H0) (hs : Sat W (listB g d.bb :: H0)) (hct : count ≤ 100000) (hly : 0 ≤ layer ∧ layer ≤ 10000) (hno : ∀ s ∈ m.ss,passN s.ps.length count (layer + 1) ≤ s.said) :
  Calls Try.prog 11 #[.slice (some ⟨g,0,none⟩) 1 1,.int .i64 style,.int .i64 (count : Int),.int .i64 layer] W fun e W' =>
   ∃ a c H1 m' H',e = .returned (.tuple #[.slice (some ⟨a,0,none⟩) 1 c,.slice none 0 0]) ∧ RowB (.slice (some ⟨a,0,none⟩) 1 c) [0] H1 ∧ W'.cell? ⟨a,0,none⟩ = some (.int .u8 0) ∧ 1 ≤ c ∧ BandR d m' H' ∧ m'.ss = m.ss ∧ Mv W (listB g d.bb :: H0) W' (H1 ++ (listB g d.bb :: H')) := by
 have hL : ListH (.slice (some ⟨g,0,none⟩) 1 1) [d] [listB g d.bb] := RowH.new (size := 1) _ g 1 #[.pointer (some ⟨d.bb,0,none⟩)] rfl (by decide)
 refine (enc_none (some ⟨g,0,none⟩) 1 [d] (fun _ => m) style layer count [listB g d.bb] H0 W (by simp) hL ⟨H0,[],by simp,hB,rfl⟩ hs hct hly (fun d' hd s h => ?_)).mono ?_
 ·exact hno s h
 ·rintro e W' ⟨v,H1,HB',rfl,h1,⟨H2,H3,rfl,h2,rfl⟩,h3⟩
  obtain ⟨a,c,cur,rfl,hc,-⟩ := RowH.form h1 (by decide)
  have hcell := (RowH.cell h1 h3.sat.left rfl 0 (by decide)).1
  refine ⟨a,c,H1,_,H2,rfl,h1,by simpa [cellsB] using hcell,hc,h2,encM_ss count _ _ _,?_⟩
  simpa using h3
theorem new_none (w h : Nat) (planes : Int) (count : Nat) (layer : Int) : ∀ s ∈ (newBandM w h planes).ss,passN s.ps.length count (layer + 1) ≤ s.said := by
 intro s hs
 rw [List.eq_of_mem_replicate hs]
 exact Int.le_of_eq (passN_zero _ _)
set_option maxHeartbeats 1000000 in
theorem known_any (w : World) : Calls Try.prog 7 #[] w fun e w' => e = .returned (.bool true) ∧ Mv w [] w' [] := by
 have NB := Lib.hid (band_new 1 1 5 w (by decide) (by decide) (by decide))
 have NN := Lib.hid (new_none 1 1 5 1 0)
 go_enter Try.func7,Try.ntmps7
 go_wp2_with (first | (go_at_call 12; refine NB.out.mono ?_; rintro e w1 ⟨d,H,rfl,-,hB,m1⟩; have K1 := Lib.hid (And.intro hB m1); clear hB m1) | (go_at_call 11; refine (enc_one d _ H _ _ 0 0 1 K1.out.1 (K1.out.2.alloc _ _).sat (by decide) (by decide) NN.out).mono ?_; rintro e w2 ⟨a,c,H1,m',H',rfl,-,c0,hc,-,-,m2⟩; have M2 := (K1.out.2.alloc _ _).trans m2; have K2 := Lib.hid M2; clear m2 M2))
 go_ret
 exact ⟨rfl,Mv.drop (A := H1 ++ (_ :: H')) (H := []) (by simpa using K2.out)⟩
end
section
open Go.RowKit
theorem infoQs : (Try.prog.info? 104).map (fun i => (i.zero,i.size,i.bytes)) = some (some (.agg #[.int .i64 0,.bool false]),2,16) := by kernel_rfl
def RowQ (v : Value) (l : List (Int × Bool)) (H : List HB) : Prop := RowH 104 2 v l.length (passesV l) H
def QV (w : World) (v : Value) (l : List (Int × Bool)) : Prop := ∃ A c,v = .slice A l.length c ∧ l.length ≤ c ∧ c ≤ maxLen ∧ Reads w w.heap.size 2 A l.length (passesV l)
theorem RowQ.slice {v : Value} {l : List (Int × Bool)} {H : List HB} (h : RowQ v l H) : ∃ a c,v = .slice a l.length c := RowH.slice h
theorem RowQ.qv {w : World} {v : Value} {l : List (Int × Bool)} {H : List HB} (h : RowQ v l H) (hs : Sat w H) : QV w v l := by
 have ho := RowH.owns h hs (B := 0) (fun _ _ => Nat.zero_le _)
 rcases h.2 with ⟨rfl,h2,h3⟩ | ⟨g,cap,cur,rfl,h1,h2,-⟩
 ·exact ⟨none,0,by rw [h2],by omega,by unfold maxLen; omega,Reads.of_own (by rw [h2] at ho ⊢; exact ho)⟩
 ·exact ⟨_,cap,rfl,h1,h2,Reads.of_own ho⟩
theorem run_appQ {w : World} {v u : Value} {l r : List (Int × Bool)} {H : List HB} (h : RowQ v l H) (hs : Sat w H) (hu : QV w u r) (hl : l.length + r.length ≤ 100000000) (ty : TypeId) :
  ∃ v' w' H',(Builtin.append_ #[36,36] ty #[v,u]).run Try.prog w = .ok v' w' ∧ RowQ v' (l ++ r) H' ∧ Mv w H w' H' := by
 obtain ⟨A,c,rfl,h1,h2,h3⟩ := hu
 obtain ⟨i0,hti,hz0,hz1,hz2⟩ := info_parts infoQs
 obtain ⟨v',w',hrun,k1,k2,k3⟩ := run_append_any (P := Try.prog) w 0 36 ty 104 i0 _ 2 16 Try.underlying36 hti hz0 hz1 hz2 rfl (by decide) v l.length (passesV l) (RowH.owns h hs (fun _ _ => Nat.zero_le _)) w.heap.size A r.length c (passesV r) h3 (passesV_one r) (by unfold maxLen; omega) (by omega) (Nat.zero_le _)
 obtain ⟨H',k4,k5⟩ := mv_owns_grown h k1 k2 k3
 refine ⟨v',w',H',hrun,?_,k5⟩
 unfold RowQ
 rw [List.length_append,passesV_append]
 exact k4
section
variable {ops : Array Oper} {rest : List Oper} {o : Oper} {a : Act} {w : World} {K : Act → World → Prop} {Q : Exit → Act → World → Prop} {E : Prop}
theorem wp_appQ (s x : Operand) (ho : o.op = .call { callee := .builtin .append,args := #[s,x],argTypes := #[36,36] }) (v u : Value) (l r : List (Int × Bool)) (H : List HB)
  (hsv : a.eval s = v) (hxu : a.eval x = u) (h : RowQ v l H) (hs : Sat w H) (hu : QV w u r) (hl : l.length + r.length ≤ 100000000)
  (hK : ∀ v' w' H',RowQ v' (l ++ r) H' → Mv w H w' H' → K (a.put o.dst v') w') : o.wp Try.prog a w K Q := by
 obtain ⟨v',w',H',hrun,h1,h2⟩ := run_appQ h hs hu hl o.type
 unfold Oper.wp execOp
 simp only [ho,resolve,invoke,builtin,Sem.run_bind,Sem.run_pure,Result.andThen_ok,List.map_toArray,List.map_cons,List.map_nil,hsv,hxu,hrun]
 exact hK v' w' H' h1 h2
theorem wpList_appQ (hgd : o.guard = none) (s x : Operand) (ho : o.op = .call { callee := .builtin .append,args := #[s,x],argTypes := #[36,36] }) (v u : Value) (l r : List (Int × Bool)) (H : List HB)
  (hsv : a.eval s = v) (hxu : a.eval x = u) (h : RowQ v l H) (hs : Sat w H) (hu : QV w u r) (hl : l.length + r.length ≤ 100000000)
  (hK : ∀ v' w' H',RowQ v' (l ++ r) H' → Mv w H w' H' → wpList Try.prog ops Q rest (a.put o.dst v') w') : wpList Try.prog ops Q (o :: rest) a w :=
 wpList_plain hgd fun _ hk => wp_appQ s x ho v u l r H hsv hxu h hs hu hl fun v' w' H' h1 h2 => hk _ _ (hK v' w' H' h1 h2)
end
theorem passesV_get {l : List (Int × Bool)} {k : Nat} {p : Int × Bool} (h : l[k]? = some p) : (passesV l)[k * 2]? = some (.int .i64 p.1) ∧ (passesV l)[k * 2 + 1]? = some (.bool p.2) := by
 have g := fun j (hj : j < 2) => flat_get passV 2 passV_length l k p h j hj
 exact ⟨g 0 (by omega),g 1 (by omega)⟩
theorem passesV_set {l : List (Int × Bool)} {k : Nat} {p : Int × Bool} (h : l[k]? = some p) (e : Int) : (passesV l).set (k * 2) (.int .i64 e) = passesV (l.set k (e,p.2)) :=
 flat_set passV 2 passV_length l k p (e,p.2) h 0 (by omega) (.int .i64 e) rfl
theorem RowQ.form {a : Option Addr} {n c : Nat} {l : List (Int × Bool)} {H : List HB} (h : RowQ (.slice a n c) l H) (hn : 0 < n) : n = l.length ∧ ∃ g,a = some ⟨g,0,none⟩ := by
 obtain ⟨a',c',e⟩ := h.slice
 cases e
 obtain ⟨g,cp,cur,hv,-⟩ := RowH.form h hn
 injection hv with ha
 exact ⟨rfl,g,ha⟩
theorem RowQ.at_ {w : World} {g n c : Nat} {l : List (Int × Bool)} {H : List HB} (h : RowQ (.slice (some ⟨g,0,none⟩) n c) l H) (hs : Sat w H) {k : Nat} {p : Int × Bool} (hk : l[k]? = some p) : w.cell? ⟨g,k * 2,none⟩ = some (.int .i64 p.1) ∧ w.frozen? ⟨g,k * 2,none⟩ = false := by
 obtain ⟨a',c',e⟩ := h.slice
 cases e
 have hi := (List.getElem?_eq_some_iff.1 hk).1
 obtain ⟨h1,h2⟩ := RowH.cell h hs rfl (k * 2) (by omega)
 exact ⟨h1.trans (passesV_get hk).1,h2⟩
theorem RowQ.set_ {w : World} {g n c : Nat} {l : List (Int × Bool)} {H : List HB} (h : RowQ (.slice (some ⟨g,0,none⟩) n c) l H) (hs : Sat w H) {k : Nat} {p : Int × Bool} (hk : l[k]? = some p) (e : Int) :
  ∃ H',RowQ (.slice (some ⟨g,0,none⟩) n c) (l.set k (e,p.2)) H' ∧ Mv w H (w.setCell ⟨g,k * 2,none⟩ (.int .i64 e)) H' := by
 obtain ⟨a',c',e'⟩ := h.slice
 cases e'
 have hi := (List.getElem?_eq_some_iff.1 hk).1
 obtain ⟨H',h1,h2⟩ := RowH.set h hs rfl (k * 2) (.int .i64 e) (by omega)
 refine ⟨H',?_,h2⟩
 rw [passesV_set hk] at h1
 unfold RowQ
 rw [List.length_set]
 exact h1
theorem qv_one (w : World) (p : Int × Bool) (g : Nat) (hg : g = w.heap.size) : QV (w.alloc (.cells #[.int .i64 p.1,.bool p.2] 104)) (.slice (some ⟨g,0,none⟩) 1 1) [p] := by
 subst hg
 have h : RowQ (.slice (some ⟨w.heap.size,0,none⟩) 1 1) [p] [⟨w.heap.size,104,#[.int .i64 p.1,.bool p.2]⟩] := RowH.new 104 w.heap.size 1 #[.int .i64 p.1,.bool p.2] rfl (by decide)
 exact h.qv (mv_alloc w 104 _).sat
end
end Go.Proofs.Ytnpoakabheeoeaa
