/- All blocks of some bands: the program's iterator over them. A loop over all blocks of some bands: the law, with heaplets. Tag trees: what they are. Tag trees of the program: what they are in memory; New. Tag trees of the program: a level's places; a new level; New. Tag trees of the program: New. Tag trees of the program: the way down to a leaf. Tag trees of the program: the way down to a leaf that is there. -/
import Derived.Test.YtnpoakabheeoeaaTw01
import Derived.RangeFuncNested
import Derived.RangeFuncBound
import Derived.RangeFuncCalls
import Derived.RangeFuncLeaves
import Derived.Shelf.Abstract
import Derived.Shelf.RegionOpen
import Derived.WalkKit
import Derived.OwnWalkIn
import Derived.TacticsInMore
import Derived.LoopNIn
import Derived.LoopIn
import Derived.Laws.MakeOwn
import Derived.Deep.RegionLaw
import Derived.Deep.QuietTactic
import Derived.BigQuiet
set_option maxRecDepth 100000
namespace Go.Proofs.Ytnpoakabheeoeaa
section
open Go.RowKit Go.Shelf
attribute [local go_sem] Oper.semAt_some
structure BandA where
 bb : Nat
 lb : Nat
 n : Nat
structure SpotX where
 d : BandA
 k : Nat
def SpotX.v (x : SpotX) : Value := .agg #[.pointer (some ⟨x.d.lb,x.k * 5,none⟩),.pointer (some ⟨x.d.bb,0,none⟩),.int .i64 (x.k : Int)]
def spotsB (d : BandA) (k : Nat) : List SpotX := (List.range k).map fun j => ⟨d,j⟩
def spotsOf (D : List BandA) : List SpotX := D.flatMap fun d => spotsB d d.n
def SpR (W : World) (box : Nat) (A : Option Addr) (c : Nat) (D : List BandA) : Prop :=
 W.cell? ⟨box,0,none⟩ = some (.slice A D.length c) ∧
 (∀ j d,D[j]? = some d → ∃ ga,A = some ⟨ga,0,none⟩ ∧ W.cell? ⟨ga,j,none⟩ = some (.pointer (some ⟨d.bb,0,none⟩))) ∧
 (∀ d ∈ D,W.cell? ⟨d.bb,0,none⟩ = some (.slice (some ⟨d.lb,0,none⟩) d.n d.n))
theorem spotsB_succ (d : BandA) (k : Nat) : spotsB d (k + 1) = spotsB d k ++ [⟨d,k⟩] := by simp [spotsB,List.range_succ]
theorem spotsOf_snoc (D : List BandA) (i : Nat) (d : BandA) (h : D[i]? = some d) : spotsOf (D.take (i + 1)) = spotsOf (D.take i) ++ spotsB d d.n := by
 rw [List.take_add_one,h]
 simp [spotsOf]
theorem spotsB_prefix (d : BandA) (k : Nat) (h : k ≤ d.n) : spotsB d k <+: spotsB d d.n := by
 refine ⟨(List.range' k (d.n - k)).map fun j => ⟨d,j⟩,?_⟩
 unfold spotsB
 rw [← List.map_append]
 congr 1
 apply List.ext_getElem
 ·simp; omega
 ·intro i h1 h2
  by_cases hi : i < k
  ·rw [List.getElem_append_left (by simpa using hi)]; simp
  ·rw [List.getElem_append_right (by simp; omega)]; simp; omega
theorem spots_prefix (D : List BandA) (i : Nat) (d : BandA) (h : D[i]? = some d) (k : Nat) (hk : k ≤ d.n) : spotsOf (D.take i) ++ spotsB d k <+: spotsOf D := by
 obtain ⟨t,ht⟩ := spotsB_prefix d k hk
 obtain ⟨hi,hd⟩ := List.getElem?_eq_some_iff.1 h
 have e : D = D.take i ++ d :: D.drop (i + 1) := by rw [← hd]; simp
 refine ⟨t ++ spotsOf (D.drop (i + 1)),?_⟩
 conv => rhs; rw [e]
 rw [show spotsOf (D.take i ++ d :: D.drop (i + 1)) = spotsOf (D.take i) ++ (spotsB d d.n ++ spotsOf (D.drop (i + 1))) from by simp [spotsOf],← ht]
 simp
set_option maxHeartbeats 4000000 in
theorem spots1_in (F : Fence) (n : Nat) (h7 : F.fn 55) (hro : F.round = none) (hn : 1 ≤ n) (l box c : Nat) (A : Option Addr) (D : List BandA) (hD : D.length ≤ 100000) (hDn : ∀ d ∈ D,d.n ≤ 100000) (J Jx : List SpotX → World → Prop)
  (hY : ∀ pre x W,J pre W → x ∈ spotsOf D → pre.length < (spotsOf D).length → YieldAt F (n - 1) Try.prog l #[x.v] W fun e W' =>
   (e = .returned (.bool true) ∧ J (pre ++ [x]) W' ∧ (SpR W box A c D → SpR W' box A c D)) ∨ (e = .returned (.bool false) ∧ Jx (pre ++ [x]) W'))
  (W : World) (hR : SpR W box A c D) (h0 : J [] W) :
  CallsIn F n Try.prog 55 #[.func (.yield l) #[] #[],.pointer (some ⟨box,0,none⟩)] W fun e W' => (∃ v,e = .returned v) ∧
   ((∃ ys,ys = spotsOf D ∧ J ys W') ∨ (∃ pre,pre <+: spotsOf D ∧ Jx pre W')) := by
 refine callsIn_of_wp Try.func55 rfl h7 ?_ hro
 simp only [Try.ntmps55,List.size_toArray,List.length_cons,List.length_nil,Nat.reduceAdd,Nat.reduceSub,Array.replicate_succ,Array.replicate_zero,List.push_toArray,List.append_toArray,List.nil_append,List.cons_append]
 have c0 := hR.1
 have KR := Lib.hid hR
 clear hR
 gi_wp2
 gi_loopw [4,8,18] (fun _ s8 _ wr => ∃ i : Nat,i ≤ D.length ∧ s8 = .int .i64 (i : Int) ∧ J (spotsOf (D.take i)) wr ∧ SpR wr box A c D) (fun _ s8 _ _ => D.length - (intOf s8).toNat)
 case atStart => exact ⟨0,Nat.zero_le _,rfl,by simpa [spotsOf] using h0,KR.out⟩
 case round =>
  obtain ⟨i,hi,rfl,hJ,hr⟩ := hrel
  by_cases hlt : i < D.length
  ·obtain ⟨d,hd⟩ : ∃ d,D[i]? = some d := ⟨_,List.getElem?_eq_getElem hlt⟩
   obtain ⟨ga,rfl,e1⟩ := hr.2.1 i d hd
   have hmem : d ∈ D := List.mem_of_getElem? hd
   have e2 := hr.2.2 d hmem
   have hdn := hDn d hmem
   have hii : (i : Int) < (D.length : Int) := by omega
   have KI := Lib.hid (And.intro hd (And.intro hJ (And.intro hr hmem)))
   clear hd hJ hr hmem
   gi_wp2
   gi_loopw [5,18] (fun _ s18 wx => ∃ k : Nat,k ≤ d.n ∧ s18 = .int .i64 (k : Int) ∧ J (spotsOf (D.take i) ++ spotsB d k) wx ∧ SpR wx box (some ⟨ga,0,none⟩) c D) (fun _ s18 _ => d.n - (intOf s18).toNat)
   case atStart => exact ⟨0,Nat.zero_le _,rfl,by simpa [spotsB] using KI.out.2.1,KI.out.2.2.1⟩
   case round =>
    obtain ⟨k,hk,rfl,hJ,hr⟩ := hrel
    have e2 := hr.2.2 d KI.out.2.2.2
    by_cases hlk : k < d.n
    ·have hkk : (k : Int) < (d.n : Int) := by omega
     have hpl : (spotsOf (D.take i) ++ spotsB d k).length < (spotsOf D).length := by
      have h1 := (spots_prefix D i d KI.out.1 (k + 1) (by omega)).length_le
      rw [spotsB_succ,← List.append_assoc,List.length_append] at h1
      simp at h1 ⊢
      omega
     have hme : (⟨d,k⟩ : SpotX) ∈ spotsOf D := (spots_prefix D i d KI.out.1 (k + 1) (by omega)).subset (by rw [spotsB_succ]; simp)
     obtain ⟨fn,tmps,assign,body,hy,hR⟩ := hY _ ⟨d,k⟩ wr hJ hme hpl
     simp only [SpotX.v] at hy
     have KK := Lib.hid (And.intro hJ hr)
     clear hJ hr
     gi_wp2
     refine hR.mono ?_
     rintro e W3 (⟨rfl,hJ3,hk3⟩ | ⟨rfl,hJx3⟩)
     ·gi_wp2
      go_roundw
      case rel => exact ⟨k + 1,by omega,by simp,by rw [spotsB_succ,← List.append_assoc]; exact hJ3,hk3 KK.out.2⟩
      case measure => simp [intOf]; omega
     ·gi_wp2
      refine bodyPost_ret (results_none rfl _ _ _) rfl ?_
      have hp := spots_prefix D i d KI.out.1 (k + 1) (by omega)
      rw [spotsB_succ,← List.append_assoc] at hp
      exact ⟨⟨_,rfl⟩,.inr ⟨_,hp,hJx3⟩⟩
    ·obtain rfl : k = d.n := by omega
     have KK := Lib.hid (And.intro hJ hr)
     clear hJ hr
     gi_wp2
     go_roundw
     case rel => exact ⟨i + 1,by omega,by simp,by rw [spotsOf_snoc D i d KI.out.1]; exact KK.out.1,KK.out.2⟩
     case measure => simp [intOf]; omega
  ·obtain rfl : i = D.length := by omega
   gi_wp2
   go_end0
   exact ⟨⟨_,rfl⟩,.inl ⟨_,rfl,by rw [List.take_length] at hJ; exact hJ⟩⟩
theorem SpR.below {W W' : World} {box c : Nat} {A : Option Addr} {D : List BandA} (h : SpR W box A c D) (hb : Below W.heap.size W W') : SpR W' box A c D := by
 have key : ∀ (p : Addr) (v : Value),W.cell? p = some v → W'.cell? p = some v := fun p v hv => (hb.cell (World.block_lt_of_cell? W p hv)).trans hv
 refine ⟨key _ _ h.1,fun j d hd => ?_,fun d hd => key _ _ (h.2.2 d hd)⟩
 obtain ⟨ga,e,hc⟩ := h.2.1 j d hd
 exact ⟨ga,e,key _ _ hc⟩
abbrev SpotIn (D : List BandA) := { x : SpotX // x ∈ spotsOf D }
theorem spots_stops (n : Nat) (hn : 1 ≤ n) (box c : Nat) (A : Option Addr) (D : List BandA) (hD : D.length ≤ 100000) (hDn : ∀ d ∈ D,d.n ≤ 100000) (w : World) (hR : SpR w box A c D) :
  SeqStopsK Fence.wide n Try.prog 55 #[.pointer (some ⟨box,0,none⟩)] (fun x : SpotIn D => #[x.1.v]) (fun W W' => SpR W box A c D → SpR W' box A c D) (fun ys => ys.map (·.1) = spotsOf D) (fun pre => pre.map (·.1) <+: spotsOf D) (spotsOf D).length w := by
 intro l J Jx W hW _ _ hY h0
 refine (spots1_in Fence.wide n trivial rfl hn l box c A D hD hDn (fun pre W => ∃ pre' : List (SpotIn D),pre'.map (·.1) = pre ∧ J pre' W) (fun pre W => ∃ pre' : List (SpotIn D),pre'.map (·.1) = pre ∧ Jx pre' W) ?_ W (hR.below hW) ⟨[],rfl,h0⟩).mono ?_
 ·rintro pre x W1 ⟨pre',rfl,hJ⟩ hx hlen
  obtain ⟨fn,tmps,assign,body,hy,hr⟩ := hY pre' ⟨x,hx⟩ W1 hJ (by simpa using hlen)
  refine ⟨fn,tmps,assign,body,hy,hr.mono ?_⟩
  rintro e W' (⟨rfl,h1,h2⟩ | ⟨rfl,h1⟩)
  ·exact .inl ⟨rfl,⟨_,by simp,h1⟩,h2⟩
  ·exact .inr ⟨rfl,_,by simp,h1⟩
 ·rintro e W' ⟨hv,⟨ys,rfl,ys',h1,h2⟩ | ⟨pre,hp,pre',h1,h2⟩⟩
  ·exact ⟨hv,.inl ⟨ys',h1,h2⟩⟩
  ·exact ⟨hv,.inr ⟨pre',by show List.map (fun x => x.1) pre' <+: spotsOf D; rw [h1]; exact hp,h2⟩⟩
end
section
open Go.RowKit Go.Shelf
def SpotX.cells (x : SpotX) : Array Value := #[.pointer (some ⟨x.d.lb,x.k * 5,none⟩),.pointer (some ⟨x.d.bb,0,none⟩),.int .i64 (x.k : Int)]
theorem Sat.notCells {w : World} {H : List HB} (h : Sat w H) {g : Nat} (hg : g ∈ keys H) {o : Obj} (ho : w.heap[g]? = some o) (hc : o.isCells = false) : False := by
 obtain ⟨b,hb,rfl⟩ := List.mem_map.1 hg
 have h1 := h.2 b hb
 unfold Blk at h1
 rw [ho] at h1
 cases h1
 cases hc
theorem Mv.grown {w0 w w' : World} {H0 H : List HB} (h : Mv w0 H0 w H) {row : Option Nat} (hg : w.grownBy w' row) (hr : ∀ r,row = some r → w0.heap.size ≤ r ∧ ∃ o : Obj,w.heap[r]? = some o ∧ o.isCells = false) : Mv w0 H0 w' H := by
 refine ⟨⟨h.sat.1,fun b hb => ?_⟩,⟨hg.os.trans h.only.os,hg.tape.trans h.only.tape,hg.output.trans h.only.output,Nat.le_trans h.only.size hg.size,fun k hk hn => ?_⟩,h.new⟩
 ·have hl := (h.sat.2 b hb).lt
  refine (hg.block _ hl fun e => ?_).trans (h.sat.2 b hb)
  obtain ⟨-,o,ho,hc⟩ := hr _ e.symm
  exact h.sat.notCells (mem_keys hb) ho hc
 ·refine (hg.block k (Nat.lt_of_lt_of_le hk h.only.size) fun e => ?_).trans (h.only.block k hk hn)
  have := (hr _ e.symm).1
  omega
theorem Mv.putObj {w0 w : World} {H0 H : List HB} (h : Mv w0 H0 w H) {l : Nat} {o : Obj} (o' : Obj) (hB : w0.heap.size ≤ l) (hl : w.heap[l]? = some o) (ho : o.isCells = false) : Mv w0 H0 (w.putObj l o') H :=
 h.grown (grownBy_putObj' w l o') (fun r e => by cases e; exact ⟨hB,o,hl,ho⟩)
theorem mv_ownFrom {β : Type} {w0 : World} {H0 : List HB} (P : β → List HB → Prop) {B : Nat} (hB : w0.heap.size ≤ B) : OwnFrom B (fun s W => ∃ H,P s H ∧ Mv w0 H0 W H) := by
 rintro s W W' row ⟨H,hP,hM⟩ hg hr
 exact ⟨H,hP,hM.grown hg fun r e => ⟨Nat.le_trans hB (hr r e).1,(hr r e).2⟩⟩
theorem Mv.keepsFrom {w w' : World} {H H' : List HB} (h : Mv w H w' H') (hs : Sat w H) (B : Nat) : KeepsFrom B w w' :=
 ⟨h.only.size,fun k o _ hk ho => h.others hs k o hk (fun c t f e => by subst e; cases ho)⟩
theorem blk_ownFrom {β : Type} (B g : Nat) (t : TypeId) (cs : Array Value) : OwnFrom B (fun (_ : β) W => Blk W g t cs) := by
 intro s W W' row hs hg hr
 refine (hg.block _ hs.lt fun e => ?_).trans hs
 obtain ⟨-,o,ho,hc⟩ := hr _ e.symm
 unfold Blk at hs
 rw [hs] at ho
 cases ho
 cases hc
theorem SpR.put {box c : Nat} {A : Option Addr} {D : List BandA} (W : World) (l : Nat) (o o' : Obj) (hl : W.heap[l]? = some o) (ho : o.isCells = false) (h : SpR W box A c D) : SpR (W.putObj l o') box A c D := by
 have key : ∀ (p : Addr) (v : Value),W.cell? p = some v → (W.putObj l o').cell? p = some v := fun p v hv => (cell_kept hv (grownBy_putObj' W l o') (fun r e => by cases e; exact ⟨o,hl,ho⟩))
 refine ⟨key _ _ h.1,fun j d hd => ?_,fun d hd => key _ _ (h.2.2 d hd)⟩
 obtain ⟨ga,e,hc⟩ := h.2.1 j d hd
 exact ⟨ga,e,key _ _ hc⟩
def spPost {D : List BandA} (w0 : World) (H0 : List HB) (P : List (SpotIn D) → List HB → Prop) (PX : List (SpotIn D) → List HB → Prop) (pre : List (SpotIn D)) : Exit → Act → World → Prop
 | .normal,_,W' => ∃ H',P pre H' ∧ Mv w0 H0 W' H'
 | .ret,_,W' => ∃ H',PX pre H' ∧ Mv w0 H0 W' H'
 | _,_,_ => False
theorem range_spots {n : Nat} (hn : 3 ≤ n) {g : Operand} {ps : Array Tmp} {assign body : Code} {Q : Exit → Act → World → Prop} {a : Act} {w : World} (w0 : World) (H0 : List HB) (hsz : w0.heap.size ≤ w.heap.size)
  {box c : Nat} {A : Option Addr} {D : List BandA} (hg : a.eval g = .func (.func 55) #[] #[.pointer (some ⟨box,0,none⟩)]) (hps : ps.size = 1) (hD : D.length ≤ 100000) (hDn : ∀ d ∈ D,d.n ≤ 100000)
  (P PX : List (SpotIn D) → List HB → Prop) (hP : ∀ pre H W,P pre H → Sat W H → SpR W box A c D) (hT : ∀ pre H,P pre H → ∀ b ∈ H,b.t ≠ 67)
  (h0 : ∃ H,P [] H ∧ Mv w0 H0 w H) (a₁ : SpotIn D → Nat → Act)
  (hassign : ∀ (l : Nat) (x : SpotIn D) (W : World) (K : Act → World → Prop),K (a₁ x W.heap.size) (W.alloc (.cells x.1.cells 67)) →
   assign.wpIn (Fence.wide.inRound l) (n - 1 - 1) Try.prog (Exit.then K (fun _ _ _ => False)) { tmps := (ps.zip #[x.1.v]).foldl (fun t (p,v) => t.setIfInBounds p v) a.tmps,defers := [] } W)
  (hbody : ∀ (l : Nat) (pre : List (SpotIn D)) (x : SpotIn D) (B : Nat) (W : World) (H : List HB),(∃ r,W.heap[l]? = some (.loop r)) → P pre H → Sat W (⟨B,67,x.1.cells⟩ :: H) → pre.length < (spotsOf D).length →
   body.wpIn (Fence.wide.inRound l) (n - 1 - 1) Try.prog (spPost W (⟨B,67,x.1.cells⟩ :: H) P PX (pre ++ [x])) (a₁ x B) W)
  (hdone : ∀ (K : Nat) (ys : List (SpotIn D)) (W : World) (H : List HB),w0.heap.size ≤ K → ys.map (·.1) = spotsOf D → P ys H → Mv w0 H0 W H → W.heap[K]? = some (.deferred (some [])) → Q .normal { a with defers := { target := .collected K,args := #[] } :: a.defers } W)
  (hstop : ∀ (K : Nat) (pre : List (SpotIn D)) (W : World) (H : List HB),w0.heap.size ≤ K → pre.map (·.1) <+: spotsOf D → PX pre H → Mv w0 H0 W H → W.heap[K]? = some (.deferred (some [])) → Code.ret.wpIn Fence.wide n Try.prog Q { a with defers := { target := .collected K,args := #[] } :: a.defers } W) :
  (Code.rangeFunc g ps assign body).wpIn Fence.wide n Try.prog Q a w := by
 obtain ⟨Hi,hPi,hMi⟩ := h0
 refine wpIn_rangeFunc_ownH (F := Fence.wide) rfl (by omega) hg trivial (enters_of Try.func55 (by kernel_rfl) rfl) (spots_stops (n - 1) (by omega) box c A D hD hDn w (hP _ _ _ hPi hMi.sat))
  (fun {X Y Z} h k s => k (h s)) (fun W l o o' _ hl ho _ hs => SpR.put W l o o' hl ho hs) (Below.refl _ _) (fun _ => by simpa using hps.symm)
  (fun pre W => ∃ H,P pre H ∧ Mv w0 H0 W H) (fun c pre W => c = .ret ∧ ∃ H,PX pre H ∧ Mv w0 H0 W H) (mv_ownFrom P hsz) (fun c => OwnFrom.and (ownFrom_pure _ (fun _ => c = .ret)) (mv_ownFrom PX hsz)) ⟨Hi,hPi,hMi⟩
  (fun x a' W => ∃ B,w0.heap.size ≤ B ∧ Blk W B 67 x.1.cells ∧ a' = a₁ x B) (fun x a' => ?_) ?_ ?_ ?_ ?_
 ·rintro s W W' row ⟨B,h1,h2,h3⟩ hgr hr
  exact ⟨B,h1,blk_ownFrom (β := Unit) _ B _ _ () W W' row h2 hgr hr,h3⟩
 ·rintro l pre x W K ⟨H,hPp,hM⟩ hK
  refine hassign l x W K (hK _ _ ((KeepsOthers.alloc _ _).from _) (fun hs => hs.below ((Below.refl _ W).alloc (Nat.le_refl _) _)) ⟨H,hPp,?_⟩ ⟨W.heap.size,hM.only.size,Blk.new _ _ _,rfl⟩)
  exact (hM.alloc 67 x.1.cells).drop1
 ·rintro l pre x a' W hl hr ⟨H,hPp,hM⟩ ⟨B,hB,hBl,rfl⟩ hlen
  have hne : B ∉ keys H := fun e => by
   obtain ⟨b,hb,rfl⟩ := List.mem_map.1 e
   have h1 := hM.sat.2 b hb
   unfold Blk at h1 hBl
   rw [h1] at hBl
   have := hT _ _ hPp b hb
   simp only [Option.some.injEq,Obj.cells.injEq] at hBl
   exact this hBl.2.1
  have hM1 : Mv w0 H0 W (⟨B,67,x.1.cells⟩ :: H) := ⟨⟨by rw [keys_cons]; exact List.nodup_cons.2 ⟨hne,hM.sat.1⟩,fun b hb => by
   rcases List.mem_cons.1 hb with rfl | hb
   ·exact hBl
   ·exact hM.sat.2 b hb⟩,hM.only,fun k hk => by
   rw [keys_cons] at hk
   rcases List.mem_cons.1 hk with rfl | hk
   ·exact .inr hB
   ·exact hM.new k hk⟩
  refine wpIn_mono (hbody l pre x B W H hr hPp hM1.sat hlen) ?_
  rintro e a3 W3 hp
  cases e with
  | normal =>
   obtain ⟨H',h1,h2⟩ := hp
   exact ⟨h2.keepsFrom hM1.sat _,fun _ => hP _ _ _ h1 h2.sat,H',h1,hM1.trans h2⟩
  | ret =>
   obtain ⟨H',h1,h2⟩ := hp
   exact ⟨h2.keepsFrom hM1.sat _,rfl,H',h1,hM1.trans h2⟩
  | exit id => exact hp.elim
  | goto t => exact hp.elim
  | panic ch => exact hp.elim
  | outgrown => exact hp.elim
 ·rintro K ys W hK hS ⟨H,h1,h2⟩ hk
  exact hdone K ys W H (by omega) hS h1 h2 hk
 ·rintro K c pre W hK hS ⟨rfl,H,h1,h2⟩ hk
  exact hstop K pre W H (by omega) hS h1 h2 hk
theorem range_spots1 {n : Nat} (hn : 3 ≤ n) {g : Operand} {p : Tmp} (q : Tmp) {assign body : Code} {Q : Exit → Act → World → Prop} {a : Act} {w : World} (w0 : World) (H0 : List HB) (hsz : w0.heap.size ≤ w.heap.size)
  {box c : Nat} {A : Option Addr} {D : List BandA} (hg : a.eval g = .func (.func 55) #[] #[.pointer (some ⟨box,0,none⟩)]) (hD : D.length ≤ 100000) (hDn : ∀ d ∈ D,d.n ≤ 100000)
  (P PX : List (SpotIn D) → List HB → Prop) (hP : ∀ pre H W,P pre H → Sat W H → SpR W box A c D) (hT : ∀ pre H,P pre H → ∀ b ∈ H,b.t ≠ 67)
  (h0 : ∃ H,P [] H ∧ Mv w0 H0 w H)
  (hassign : ∀ (l : Nat) (x y : Option Addr) (z : Int) (W : World) (K : Act → World → Prop),K { tmps := (a.tmps.setIfInBounds p (.agg #[.pointer x,.pointer y,.int .i64 z])).setIfInBounds q (.pointer (some ⟨W.heap.size,0,none⟩)),defers := [] } (W.alloc (.cells #[.pointer x,.pointer y,.int .i64 z] 67)) →
   assign.wpIn (Fence.wide.inRound l) (n - 1 - 1) Try.prog (Exit.then K (fun _ _ _ => False)) { tmps := a.tmps.setIfInBounds p (.agg #[.pointer x,.pointer y,.int .i64 z]),defers := [] } W)
  (hbody : ∀ (l : Nat) (pre : List (SpotIn D)) (x : SpotX) (hx : x ∈ spotsOf D) (B : Nat) (W : World) (H : List HB),(∃ r,W.heap[l]? = some (.loop r)) → P pre H → Sat W (⟨B,67,x.cells⟩ :: H) → pre.length < (spotsOf D).length →
   body.wpIn (Fence.wide.inRound l) (n - 1 - 1) Try.prog (spPost W (⟨B,67,x.cells⟩ :: H) P PX (pre ++ [⟨x,hx⟩])) { tmps := (a.tmps.setIfInBounds p x.v).setIfInBounds q (.pointer (some ⟨B,0,none⟩)),defers := [] } W)
  (hdone : ∀ (K : Nat) (ys : List (SpotIn D)) (W : World) (H : List HB),w0.heap.size ≤ K → ys.map (·.1) = spotsOf D → P ys H → Mv w0 H0 W H → W.heap[K]? = some (.deferred (some [])) → Q .normal { a with defers := { target := .collected K,args := #[] } :: a.defers } W)
  (hstop : ∀ (K : Nat) (pre : List (SpotIn D)) (W : World) (H : List HB),w0.heap.size ≤ K → pre.map (·.1) <+: spotsOf D → PX pre H → Mv w0 H0 W H → W.heap[K]? = some (.deferred (some [])) → Code.ret.wpIn Fence.wide n Try.prog Q { a with defers := { target := .collected K,args := #[] } :: a.defers } W) :
  (Code.rangeFunc g #[p] assign body).wpIn Fence.wide n Try.prog Q a w :=
 range_spots hn w0 H0 hsz hg rfl hD hDn P PX hP hT h0 (fun x B => { tmps := (a.tmps.setIfInBounds p x.1.v).setIfInBounds q (.pointer (some ⟨B,0,none⟩)),defers := [] })
  (fun l x W K hK => by
   have := hassign l _ _ _ W K hK
   simpa [SpotX.v] using this)
  (fun l pre x B W H hr h1 h2 h3 => hbody l pre x.1 x.2 B W H hr h1 h2 h3) hdone hstop
theorem Mv.setAt {w0 w : World} {H0 A R : List HB} {g : Nat} {t : TypeId} {cs : Array Value} (h : Mv w0 H0 w (A ++ ⟨g,t,cs⟩ :: R)) (i : Nat) (v : Value) : Mv w0 H0 (w.setCell ⟨g,i,none⟩ v) (A ++ ⟨g,t,cs.setIfInBounds i v⟩ :: R) := by
 have h1 : Mv w0 H0 w (⟨g,t,cs⟩ :: (A ++ R)) := h.sub (fun k => by simp only [cnt_append,cnt_cons]; omega) (fun b hb => by simp only [List.mem_append,List.mem_cons] at hb ⊢; grind)
 exact (h1.set i v).sub (fun k => by simp only [cnt_append,cnt_cons]; omega) (fun b hb => by simp only [List.mem_append,List.mem_cons] at hb ⊢; grind)
end
section
structure NodeM where
 n : Int
 low : Int
 said : Bool
structure LevM where
 w : Nat
 h : Nat
 l : List NodeM
def Dims : List LevM → Prop
 | [] => True
 | [L] => L.w = 1 ∧ L.h = 1 ∧ L.l.length = L.w * L.h
 | L :: M :: T => 1 ≤ L.w ∧ 1 ≤ L.h ∧ L.l.length = L.w * L.h ∧ M.w = (L.w + 1) / 2 ∧ M.h = (L.h + 1) / 2 ∧ Dims (M :: T)
theorem Dims.len {T : List LevM} (h : Dims T) {i : Nat} {L : LevM} (hL : T[i]? = some L) : L.l.length = L.w * L.h := by
 induction T generalizing i with
 | nil => simp at hL
 | cons L0 T ih =>
  cases T with
  | nil =>
   cases i with
   | zero => simp at hL; subst hL; exact h.2.2
   | succ i => simp at hL
  | cons M T =>
   cases i with
   | zero => simp at hL; subst hL; exact h.2.2.1
   | succ i => exact ih h.2.2.2.2.2 (by simpa using hL)
theorem Dims.at_ {T : List LevM} (h : Dims T) {L0 : LevM} {x y : Nat} (h0 : T[0]? = some L0) (hx : x < L0.w) (hy : y < L0.h) {i : Nat} {L : LevM} (hL : T[i]? = some L) : x / 2 ^ i < L.w ∧ y / 2 ^ i < L.h := by
 induction T generalizing i L0 x y with
 | nil => simp at hL
 | cons K T ih =>
  simp at h0
  subst h0
  cases i with
  | zero => simp at hL; subst hL; simpa using ⟨hx,hy⟩
  | succ i =>
   cases T with
   | nil => simp at hL
   | cons M T =>
    obtain ⟨-,-,-,hw,hh,hd⟩ := h
    have := ih (L0 := M) (x := x / 2) (y := y / 2) hd (by simp) (by omega) (by omega) (i := i) (by simpa using hL)
    rw [Nat.div_div_eq_div_mul,Nat.div_div_eq_div_mul] at this
    rw [Nat.pow_succ,Nat.mul_comm (2 ^ i) 2]
    exact this
theorem place_lt {x y w h : Nat} (hx : x < w) (hy : y < h) : y * w + x < w * h := by
 have : (y + 1) * w ≤ h * w := Nat.mul_le_mul_right w hy
 rw [Nat.add_mul,Nat.one_mul] at this
 rw [Nat.mul_comm w h]
 omega
end
section
open Go.RowKit
theorem made_flat (z : Array Value) (n : Nat) (_hz : 0 < z.size) : madeCells z (n * z.size) = (List.replicate n z.toList).flatten.toArray := by
 apply Array.ext'
 unfold madeCells
 rw [Array.toList_map,Array.toList_range]
 simp only []
 induction n with
 | zero => simp
 | succ n ih =>
  rw [Nat.succ_mul,List.range_add,List.map_append,ih,List.replicate_succ',List.flatten_append]
  congr 1
  rw [List.map_map]
  apply List.ext_getElem
  ·simp
  ·intro i h1 h2
   have hi : i < z.size := by simpa using h1
   simp only [List.getElem_map,List.getElem_range,Function.comp,List.flatten_cons,List.flatten_nil,List.append_nil,Nat.mul_add_mod_of_lt hi]
   simp [hi]
theorem run_made {P : Program} (t e : TypeId) (i : TypeInfo) (z : Value) (size bytes n : Nat) (ht : P.underlying t = some (.slice e)) (hi : P.info? e = some i) (hz : i.zero = some z) (hs : i.size = size) (hby : i.bytes = bytes) (hzs : z.cells.size = size) (h0 : 0 < size) (hb : bytes * n ≤ 281474976710656) (h63 : n ≤ 9223372036854775807) (W : World) :
  (Instr.makeSlice t (.int .i64 (n : Int)) (.int .i64 (n : Int))).run P W = .ok (.slice (some ⟨W.heap.size,0,none⟩) n n) (W.alloc (.cells (List.replicate n z.cells.toList).flatten.toArray e)) := by
 subst hs hby
 have hb2 : (i.bytes : Int) * (n : Int) ≤ 281474976710656 := by
  have : ((i.bytes * n : Nat) : Int) ≤ 281474976710656 := by omega
  rwa [Int.natCast_mul] at this
 have h := run_make (P := P) W t e i z ht hi hz .i64 .i64 (n : Int) (n : Int) (by omega) (Int.le_refl _) hb2 (by omega)
 rw [h,Int.toNat_natCast,← hzs,made_flat _ _ (by omega)]
def nodeV (x : NodeM) : List Value := [.int .i64 x.n,.int .i64 x.low,.bool x.said]
def nodesV (l : List NodeM) : List Value := l.flatMap nodeV
theorem nodesV_length (l : List NodeM) : (nodesV l).length = 3 * l.length := by
 induction l with
 | nil => rfl
 | cons x l ih => simp only [nodesV,List.flatMap_cons,List.length_append] at ih ⊢; rw [ih]; simp [nodeV]; omega
theorem nodesV_get (l : List NodeM) (i : Nat) (x : NodeM) (h : l[i]? = some x) : (nodesV l)[3 * i]? = some (.int .i64 x.n) ∧ (nodesV l)[3 * i + 1]? = some (.int .i64 x.low) ∧ (nodesV l)[3 * i + 2]? = some (.bool x.said) := by
 induction l generalizing i with
 | nil => simp at h
 | cons y l ih =>
  have e : nodesV (y :: l) = [.int .i64 y.n,.int .i64 y.low,.bool y.said] ++ nodesV l := by simp [nodesV,nodeV]
  rw [e]
  cases i with
  | zero => simp at h; subst h; simp
  | succ i =>
   have := ih i (by simpa using h)
   refine ⟨?_,?_,?_⟩
   ·rw [List.getElem?_append_right (by simp; omega)]; simpa [Nat.mul_succ] using this.1
   ·rw [List.getElem?_append_right (by simp; omega)]; simpa [Nat.mul_succ,Nat.add_right_comm _ 3 1] using this.2.1
   ·rw [List.getElem?_append_right (by simp; omega)]; simpa [Nat.mul_succ,Nat.add_right_comm _ 3 2] using this.2.2
theorem nodesV_set (l : List NodeM) (i : Nat) (x : NodeM) (h : l[i]? = some x) (y : NodeM) :
  (nodesV (l.set i y)) = (((nodesV l).set (3 * i) (.int .i64 y.n)).set (3 * i + 1) (.int .i64 y.low)).set (3 * i + 2) (.bool y.said) := by
 induction l generalizing i with
 | nil => simp at h
 | cons z l ih =>
  have e : ∀ (q : NodeM) (m : List NodeM),nodesV (q :: m) = .int .i64 q.n :: .int .i64 q.low :: .bool q.said :: nodesV m := by intro q m; simp [nodesV,nodeV]
  cases i with
  | zero => simp [e]
  | succ i =>
   rw [List.set_cons_succ,e,e,ih i (by simpa using h)]
   simp [Nat.mul_succ]
abbrev LvG := Nat × LevM
def levV (p : LvG) : List Value := [.int .i64 (p.2.w : Int),.int .i64 (p.2.h : Int),.slice (some ⟨p.1,0,none⟩) p.2.l.length p.2.l.length]
def levsV (P : List LvG) : List Value := P.flatMap levV
theorem levsV_get (P : List LvG) (i : Nat) (p : LvG) (h : P[i]? = some p) : (levsV P)[3 * i]? = some (.int .i64 (p.2.w : Int)) ∧ (levsV P)[3 * i + 1]? = some (.int .i64 (p.2.h : Int)) ∧ (levsV P)[3 * i + 2]? = some (.slice (some ⟨p.1,0,none⟩) p.2.l.length p.2.l.length) := by
 induction P generalizing i with
 | nil => simp at h
 | cons y l ih =>
  have e : levsV (y :: l) = [.int .i64 (y.2.w : Int),.int .i64 (y.2.h : Int),.slice (some ⟨y.1,0,none⟩) y.2.l.length y.2.l.length] ++ levsV l := by simp [levsV,levV]
  rw [e]
  cases i with
  | zero => simp at h; subst h; simp
  | succ i =>
   have := ih i (by simpa using h)
   refine ⟨?_,?_,?_⟩
   ·rw [List.getElem?_append_right (by simp; omega)]; simpa [Nat.mul_succ] using this.1
   ·rw [List.getElem?_append_right (by simp; omega)]; simpa [Nat.mul_succ,Nat.add_right_comm _ 3 1] using this.2.1
   ·rw [List.getElem?_append_right (by simp; omega)]; simpa [Nat.mul_succ,Nat.add_right_comm _ 3 2] using this.2.2
theorem levsV_one (P : List LvG) : ∀ u ∈ levsV P,u.oneCell' = true := by
 intro u hu
 simp only [levsV,List.mem_flatMap] at hu
 obtain ⟨p,-,hu⟩ := hu
 simp only [levV,List.mem_cons,List.not_mem_nil,or_false] at hu
 rcases hu with rfl | rfl | rfl <;> rfl
def levB (p : LvG) : HB := ⟨p.1,145,(nodesV p.2.l).toArray⟩
def TreeH (tb : Nat) (P : List LvG) (H : List HB) : Prop := ∃ v Hl,H = ⟨tb,139,#[v]⟩ :: (Hl ++ P.map levB) ∧ RowH 142 3 v P.length (levsV P) Hl
def levNew (w h : Nat) : LevM := ⟨w,h,List.replicate (w * h) ⟨0,0,false⟩⟩
def treeNew : Nat → Nat → Nat → List LevM
 | 0,_,_ => []
 | k + 1,w,h => if w = 1 ∧ h = 1 then [levNew w h] else levNew w h :: treeNew k ((w + 1) / 2) ((h + 1) / 2)
def treeOf (w h : Int) : List LevM := if w < 1 ∨ h < 1 ∨ 64 < w ∨ 64 < h then [] else treeNew 7 w.toNat h.toNat
end
section
open Go.RowKit
theorem grid_at (w h g n c x y : Nat) (W : World) (hxy : y * w + x < n) (hx : x ≤ 1000) (hy : y ≤ 1000) (hw : w ≤ 1000) (hn : n ≤ 100000000) :
  Calls Try.prog 81 #[.agg #[.int .i64 (w : Int),.int .i64 (h : Int),.slice (some ⟨g,0,none⟩) n c],.int .i64 (x : Int),.int .i64 (y : Int)] W fun e W' =>
   e = .returned (.pointer (some ⟨g,3 * (y * w + x),none⟩)) ∧ Mv W [] W' [] := by
 have hp : y * w ≤ 1000000 := by
  have := Nat.mul_le_mul hy hw
  omega
 have M := Lib.hid (mv_alloc W 142 #[.int .i64 (w : Int),.int .i64 (h : Int),.slice (some ⟨g,0,none⟩) n c])
 have hlt : (y : Int) * (w : Int) + (x : Int) < (n : Int) := by exact_mod_cast hxy
 have hge0 : (0 : Int) ≤ (y : Int) * (w : Int) := Int.mul_nonneg (by omega) (by omega)
 have hge : (0 : Int) ≤ (y : Int) * (w : Int) + (x : Int) := by omega
 have htn : ((y : Int) * (w : Int) + (x : Int)).toNat = y * w + x := by
  rw [show (y : Int) * (w : Int) + (x : Int) = ((y * w + x : Nat) : Int) from by push_cast; rfl,Int.toNat_natCast]
 go_enter Try.func81,Try.ntmps81
 go_wp2_with fail
 go_ret
 refine ⟨?_,M.out.drop1⟩
 first | rfl | (simp [Nat.mul_comm]; done) | trace_state
theorem infoNode : (Try.prog.info? 145).map (fun i => (i.zero,i.size,i.bytes)) = some (some (.agg #[.int .i64 0,.int .i64 0,.bool false]),3,24) := by kernel_rfl
theorem flat_nodes (n : Nat) : (List.replicate n (Value.agg #[.int .i64 0,.int .i64 0,.bool false]).cells.toList).flatten = nodesV (List.replicate n ⟨0,0,false⟩) := by
 induction n with
 | zero => rfl
 | succ n ih => rw [List.replicate_succ,List.replicate_succ,List.flatten_cons,ih]; rfl
theorem grid_new (w h : Nat) (W : World) (hw : w ≤ 64) (hh : h ≤ 64) :
  Calls Try.prog 65 #[.int .i64 (w : Int),.int .i64 (h : Int)] W fun e W' =>
   ∃ g,e = .returned (.agg (levV (g,levNew w h)).toArray) ∧ Mv W [] W' [levB (g,levNew w h)] := by
 have hp : w * h ≤ 4096 := Nat.mul_le_mul hw hh
 obtain ⟨i0,hi,hz0,hz1,hz2⟩ := info_parts infoNode
 have hm := fun W => run_made (P := Try.prog) 140 145 i0 _ 3 24 (w * h) Try.underlying140 hi hz0 hz1 hz2 rfl (by decide) (by omega) (by omega) W
 rw [flat_nodes] at hm
 simp only [Int.natCast_mul] at hm
 go_enter Try.func65,Try.ntmps65
 go_wp2_with fail
 have M1 := mv_alloc W 142 #[.int .i64 (w : Int),.int .i64 (h : Int),.slice (some ⟨W.heap.size + 1,0,none⟩) (w * h) (w * h)]
 have M2 := M1.alloc 145 (nodesV (List.replicate (w * h) ⟨0,0,false⟩)).toArray
 refine bodyPost_ret (v := .agg #[.int .i64 (w : Int),.int .i64 (h : Int),.slice (some ⟨W.heap.size + 1,0,none⟩) (w * h) (w * h)]) (results_cell_row Try.results65 _ _ W.heap.size 142 _ (0,0) _ rfl (M2.blk 1 rfl) Try.underlying142 rfl (by kernel_rfl)) rfl ?_
 refine ⟨W.heap.size + 1,by simp [levV,levNew],?_⟩
 have M3 := Mv.drop2 (A := [_]) (B := [_]) (H := []) M2
 simpa [levB,levNew] using M3
theorem infoGrid : (Try.prog.info? 142).map (fun i => (i.zero,i.size,i.bytes)) = some (some (.agg #[.int .i64 0,.int .i64 0,.slice none 0 0]),3,40) := by kernel_rfl
theorem run_appG {w : World} {v : Value} {P : List LvG} {p : LvG} {H : List HB} {wb : World} (h : RowH 142 3 v P.length (levsV P) H) (hs : Sat w H) (hw : w = wb.alloc (.cells (levV p).toArray 142)) (hl : P.length ≤ 1000) (ty : TypeId) :
  ∃ v' w' H',(Builtin.append_ #[137,137] ty #[v,.slice (some ⟨wb.heap.size,0,none⟩) 1 1]).run Try.prog w = .ok v' w' ∧ RowH 142 3 v' (P ++ [p]).length (levsV (P ++ [p])) H' ∧ Mv w H w' H' := by
 obtain ⟨i0,hti,hz0,hz1,hz2⟩ := info_parts infoGrid
 have hr : Reads w w.heap.size 3 (some ⟨wb.heap.size,0,none⟩) 1 (levV p) := by
  refine ⟨rfl,fun _ => ⟨_,rfl,by rw [hw]; simp,fun j u hu => ?_⟩⟩
  rw [hw]
  exact news_block wb (levV p).toArray _ j u (by simpa using hu)
 obtain ⟨v',w',hrun,k1,k2,k3⟩ := run_append_any (P := Try.prog) w 0 137 ty 142 i0 _ 3 40 Try.underlying137 hti hz0 hz1 hz2 rfl (by decide) v P.length (levsV P) (RowH.owns h hs (fun _ _ => Nat.zero_le _)) w.heap.size _ 1 1 (levV p) hr (fun u hu => levsV_one [p] u (by simpa [levsV] using hu)) (by unfold maxLen; omega) (by omega) (Nat.zero_le _)
 obtain ⟨H',k4,k5⟩ := mv_owns_grown h k1 k2 k3
 refine ⟨v',w',H',hrun,?_,k5⟩
 rw [List.length_append]
 simpa [levsV] using k4
section
variable {ops : Array Oper} {rest : List Oper} {o : Oper} {a : Act} {w : World} {K : Act → World → Prop} {Q : Exit → Act → World → Prop} {E : Prop}
theorem wp_appG {v : Value} {P : List LvG} {p : LvG} {H : List HB} {wb : World} (s x : Operand) (ho : o.op = .call { callee := .builtin .append,args := #[s,x],argTypes := #[137,137] })
  (hsv : a.eval s = v) (hxu : a.eval x = .slice (some ⟨wb.heap.size,0,none⟩) 1 1) (h : RowH 142 3 v P.length (levsV P) H) (hs : Sat w H) (hw : w = wb.alloc (.cells (levV p).toArray 142)) (hl : P.length ≤ 1000)
  (hK : ∀ v' w' H',RowH 142 3 v' (P ++ [p]).length (levsV (P ++ [p])) H' → Mv w H w' H' → K (a.put o.dst v') w') : o.wp Try.prog a w K Q := by
 obtain ⟨v',w',H',hrun,h1,h2⟩ := run_appG h hs hw hl o.type
 unfold Oper.wp execOp
 simp only [ho,resolve,invoke,builtin,Sem.run_bind,Sem.run_pure,Result.andThen_ok,List.map_toArray,List.map_cons,List.map_nil,hsv,hxu,hrun]
 exact hK v' w' H' h1 h2
theorem step_appG {v : Value} {P : List LvG} {p : LvG} {H : List HB} {wb : World} (hgd : o.guard = none) (s x : Operand) (ho : o.op = .call { callee := .builtin .append,args := #[s,x],argTypes := #[137,137] })
  (hsv : a.eval s = v) (hxu : a.eval x = .slice (some ⟨wb.heap.size,0,none⟩) 1 1) (h : RowH 142 3 v P.length (levsV P) H) (hs : Sat w H) (hw : w = wb.alloc (.cells (levV p).toArray 142)) (hl : P.length ≤ 1000)
  (hK : ∀ v' w' H',RowH 142 3 v' (P ++ [p]).length (levsV (P ++ [p])) H' → Mv w H w' H' → K (a.put o.dst v') w') : if Region.wanted o (yielded ops a.tmps) = true then Oper.wp Try.prog o a w K Q else E := by
 have hwt : Region.wanted o (yielded ops a.tmps) = true := by simp [Region.wanted,hgd]
 rw [if_pos hwt]
 exact wp_appG s x ho hsv hxu h hs hw hl hK
end
end
section
open Go.RowKit
theorem levV_new (g w h : Nat) : levV (g,levNew w h) = [.int .i64 (w : Int),.int .i64 (h : Int),.slice (some ⟨g,0,none⟩) (w * h) (w * h)] := by simp [levV,levNew]
theorem grid_new2 (w h : Nat) (W : World) (hw : w ≤ 64) (hh : h ≤ 64) :
  Calls Try.prog 65 #[.int .i64 (w : Int),.int .i64 (h : Int)] W fun e W' =>
   ∃ g,e = .returned (.agg #[.int .i64 (w : Int),.int .i64 (h : Int),.slice (some ⟨g,0,none⟩) (w * h) (w * h)]) ∧ Mv W [] W' [levB (g,levNew w h)] := by
 refine (grid_new w h W hw hh).mono ?_
 rintro e W' ⟨g,rfl,m⟩
 exact ⟨g,by rw [levV_new],m⟩
theorem Mv.rot {w0 w : World} {H0 X Y : List HB} {a b : HB} (h : Mv w0 H0 w (a :: (b :: (X ++ Y)))) : Mv w0 H0 w (a :: (X ++ (Y ++ [b]))) :=
 h.sub (fun g => by simp only [cnt_append,cnt_cons,cnt_nil]; omega) (fun c hc => by simp only [List.mem_append,List.mem_cons,List.not_mem_nil,or_false] at hc ⊢; grind)
set_option maxHeartbeats 2000000 in
theorem tree_new (w h : Int) (W : World) :
  Calls Try.prog 32 #[.int .i64 w,.int .i64 h] W fun e W' => ∃ tb P H,e = .returned (.pointer (some ⟨tb,0,none⟩)) ∧ P.map (·.2) = treeOf w h ∧ TreeH tb P H ∧ Mv W [] W' H := by
 by_cases hb : w < 1 ∨ h < 1 ∨ 64 < w ∨ 64 < h
 ·have e0 : treeOf w h = [] := by unfold treeOf; rw [if_pos hb]
  rw [e0]
  have M := mv_alloc W 139 #[.slice none 0 0]
  have T0 : TreeH W.heap.size [] [⟨W.heap.size,139,#[.slice none 0 0]⟩] := ⟨_,[],by simp,RowH.nil _ _⟩
  have K := Lib.hid (And.intro M T0)
  clear M T0
  by_cases h1 : w < 1
  ·have d1 : decide (w < 1) = true := by simpa using h1
   clear hb h1
   go_enter Try.func32,Try.ntmps32
   go_wp2_with fail
   go_ret
   exact ⟨_,_,_,rfl,rfl,K.out.2,K.out.1⟩
  ·have d1 : decide (w < 1) = false := by simpa using h1
   by_cases h2 : h < 1
   ·have d2 : decide (h < 1) = true := by simpa using h2
    clear hb h1 h2
    go_enter Try.func32,Try.ntmps32
    go_wp2_with fail
    go_ret
    exact ⟨_,_,_,rfl,rfl,K.out.2,K.out.1⟩
   ·have d2 : decide (h < 1) = false := by simpa using h2
    by_cases h3 : 64 < w
    ·have d3 : decide (64 < w) = true := by simpa using h3
     clear hb h1 h2 h3
     go_enter Try.func32,Try.ntmps32
     go_wp2_with fail
     go_ret
     exact ⟨_,_,_,rfl,rfl,K.out.2,K.out.1⟩
    ·have d3 : decide (64 < w) = false := by simpa using h3
     have d4 : decide (64 < h) = true := by simp; omega
     clear hb h1 h2 h3
     go_enter Try.func32,Try.ntmps32
     go_wp2_with fail
     go_ret
     exact ⟨_,_,_,rfl,rfl,K.out.2,K.out.1⟩
 ·have d1 : decide (w < 1) = false := by simp; omega
  have d2 : decide (h < 1) = false := by simp; omega
  have d3 : decide (64 < w) = false := by simp; omega
  have d4 : decide (64 < h) = false := by simp; omega
  have e0 : treeOf w h = treeNew 7 w.toNat h.toNat := by unfold treeOf; rw [if_neg hb]
  rw [e0]
  obtain ⟨w,rfl⟩ := Int.eq_ofNat_of_zero_le (a := w) (by omega)
  obtain ⟨h,rfl⟩ := Int.eq_ofNat_of_zero_le (a := h) (by omega)
  simp only [Int.toNat_natCast]
  have hw1 : 1 ≤ w ∧ w ≤ 2 ^ 6 ∧ 1 ≤ h ∧ h ≤ 2 ^ 6 := by omega
  have M := mv_alloc W 139 #[.slice none 0 0]
  have K := Lib.hid M
  have KW := Lib.hid hw1
  clear M hb e0 hw1
  go_enter Try.func32,Try.ntmps32
  go_wp2_with fail
  go_loopg [0,1] 7 (fun m s0 s1 wx => ∃ (f a b : Nat) (P : List LvG) (v : Value) (Hl : List HB),m = f + 1 ∧ f ≤ 6 ∧ s0 = .int .i64 (a : Int) ∧ s1 = .int .i64 (b : Int) ∧ 1 ≤ a ∧ a ≤ 2 ^ f ∧ 1 ≤ b ∧ b ≤ 2 ^ f ∧
   P.length + f = 6 ∧ P.map (·.2) ++ treeNew (f + 1) a b = treeNew 7 w h ∧ RowH 142 3 v P.length (levsV P) Hl ∧ Mv W [] wx (⟨W.heap.size,139,#[v]⟩ :: (Hl ++ P.map levB)))
  case atStart => exact ⟨6,w,h,[],_,[],rfl,Nat.le_refl _,rfl,rfl,KW.out.1,KW.out.2.1,KW.out.2.2.1,KW.out.2.2.2,rfl,by simp,RowH.nil _ _,by simpa using K.out⟩
  case round =>
   obtain ⟨wa,rfl⟩ : ∃ wa : World,wa = wr := ⟨_,rfl⟩
   obtain ⟨f,a,b,P,v,Hl,rfl,hf,rfl,rfl,ha1,ha2,hb1,hb2,hP,hT,hr,m⟩ := hrel
   have h64 : 2 ^ f ≤ 64 := Nat.pow_le_pow_right (n := 2) (by decide) hf
   have c0 : wa.cell? ⟨W.heap.size,0,none⟩ = some v := m.cell 0 rfl 0
   have ha64 : a ≤ 64 := by omega
   have hb64 : b ≤ 64 := by omega
   have G := Lib.hid fun V => grid_new2 a b V ha64 hb64
   obtain ⟨va,vc,rfl⟩ := hr.slice
   have KR := Lib.hid (And.intro hr (And.intro m (And.intro hT (And.intro ha2 (And.intro hb2 hP)))))
   clear hr m hT ha2 hb2 hP h64
   go_upto_region 4 with fail
   go_region_law (first
    | (go_simp; go_at_call 65; (with_reducible refine (G.out _).mono ?_); rintro e w1 ⟨g,rfl,m1⟩; have M1 := Mv.call (H := []) (Mv.drew KR.out.2.1) m1; have y0 : w1.cell? ⟨W.heap.size,0,none⟩ = some (.slice va P.length vc) := M1.cell 1 rfl 0; have M2 := M1.alloc 142 (levV (g,levNew a b)).toArray; have y1 : (w1.alloc (.cells #[.int .i64 (a : Int),.int .i64 (b : Int),.slice (some ⟨g,0,none⟩) (a * b) (a * b)] 142)).cell? ⟨W.heap.size,0,none⟩ = some (.slice va P.length vc) := (by have := M2.cell 2 rfl 0; rw [levV_new] at this; exact this); have M3 := Mv.mv1 (A := [_,_,_]) (B := Hl) (R := P.map levB) M2; have K1 := Lib.hid (And.intro M3.sat.left M3); clear M1 M2 M3 m1)
    | ((with_reducible refine step_appG (o := ⟨some 33,_,_,_,_,_⟩) (wb := w1) (v := .slice va P.length vc) (P := P) (p := (g,levNew a b)) (H := Hl) rfl (.tmp 28) (.tmp 32) rfl ?_ ?_ KR.out.1 ?_ ?_ ?_ ?_); simp [Act.eval]; simp [Act.eval]; have := K1.out.1; rw [levV_new] at this; exact this; rw [levV_new]; have := KR.out.2.2.2.2.2; omega; intro v6 w6 H6 h6 m6; obtain ⟨a6,c6,rfl⟩ := h6.slice; have M6 := Mv.drop1 (Mv.mv1 (A := H6) (B := [_,_,_]) (Mv.call K1.out.2 (by rw [levV_new]; exact m6))); have M7 := Mv.mv1 (A := [_]) (B := [_]) M6; have y4 : w6.cell? ⟨W.heap.size,0,none⟩ = some (.slice va P.length vc) := M7.cell 0 rfl 0; have y5 : w6.frozen? ⟨W.heap.size,0,none⟩ = false := M7.frozen 0 rfl 0; have K6 := Lib.hid (And.intro h6 M7); clear h6 m6 M6 M7))
   all_goals
    have M8 := Mv.rot (X := H6) (Y := P.map levB) (K6.out.2.set 0 (.slice a6 (P.length + 1) c6))
    have hr6 : RowH 142 3 (.slice a6 (P.length + 1) c6) (P ++ [(g,levNew a b)]).length (levsV (P ++ [(g,levNew a b)])) H6 := by simpa using K6.out.1
    generalize w6.setCell ⟨W.heap.size,0,none⟩ (.slice a6 (P.length + 1) c6) = w7 at M8 ⊢
    have K7 := Lib.hid (And.intro hr6 M8)
    clear M8 hr6 y0 y1 y4 y5 K6 K1 G c0
    go_wp2_with fail
    ·go_ret
     have ea : a = 1 := by first | omega | (simp only [beq_iff_eq] at *; omega)
     have eb : b = 1 := by first | omega | (simp only [beq_iff_eq] at *; omega)
     subst ea eb
     refine ⟨_,P ++ [(g,levNew 1 1)],_,rfl,?_,⟨_,H6,by rw [List.map_append]; rfl,K7.out.1⟩,K7.out.2⟩
     have := KR.out.2.2.1
     simpa [treeNew] using this
    all_goals
     have hne : ¬ (a = 1 ∧ b = 1) := by first | omega | (simp only [beq_eq_false_iff_ne,ne_eq] at *; omega)
     obtain ⟨hr6,M8⟩ := K7.out
     obtain ⟨-,-,hT,ha2,hb2,hP⟩ := KR.out
     cases f with
     | zero => exact absurd (show a = 1 ∧ b = 1 by simp at ha2 hb2; omega) hne
     | succ f =>
      rw [Nat.pow_succ] at ha2 hb2
      go_roundg (f + 1)
      case measure => omega
      case rel =>
       refine ⟨f,(a + 1) / 2,(b + 1) / 2,P ++ [(g,levNew a b)],_,H6,rfl,by omega,by go_num,by go_num,by omega,by omega,by omega,by omega,by simp; omega,?_,hr6,by rw [List.map_append]; exact M8⟩
       rw [← hT]
       have e : treeNew (f + 1 + 1) a b = levNew a b :: treeNew (f + 1) ((a + 1) / 2) ((b + 1) / 2) := by
        conv => lhs; unfold treeNew
        rw [if_neg hne]
       rw [e]
       simp
end
section
open Go.RowKit
def wayV (P : List LvG) (x y : Nat) : List Value := P.mapIdx fun i p => .pointer (some ⟨p.1,3 * ((y / 2 ^ i) * p.2.w + x / 2 ^ i),none⟩)
theorem wayV_length (P : List LvG) (x y : Nat) : (wayV P x y).length = P.length := by simp [wayV]
theorem wayV_get (P : List LvG) (x y i : Nat) (p : LvG) (h : P[i]? = some p) : (wayV P x y)[i]? = some (.pointer (some ⟨p.1,3 * ((y / 2 ^ i) * p.2.w + x / 2 ^ i),none⟩)) := by simp [wayV,h]
def PDims (P : List LvG) : Prop := Dims (P.map (·.2)) ∧ ∀ p ∈ P,1 ≤ p.2.w ∧ p.2.w ≤ 64 ∧ 1 ≤ p.2.h ∧ p.2.h ≤ 64
theorem PDims.get {P : List LvG} (h : PDims P) {i : Nat} {p : LvG} (hp : P[i]? = some p) : p.2.l.length = p.2.w * p.2.h ∧ 1 ≤ p.2.w ∧ p.2.w ≤ 64 ∧ 1 ≤ p.2.h ∧ p.2.h ≤ 64 :=
 ⟨h.1.len (i := i) (by simp [hp]),h.2 p (List.mem_of_getElem? hp)⟩
theorem PDims.at_ {P : List LvG} (h : PDims P) {p0 : LvG} {x y : Nat} (h0 : P[0]? = some p0) (hx : x < p0.2.w) (hy : y < p0.2.h) {i : Nat} {p : LvG} (hp : P[i]? = some p) : x / 2 ^ i < p.2.w ∧ y / 2 ^ i < p.2.h :=
 h.1.at_ (L0 := p0.2) (by simp [h0]) hx hy (by simp [hp])
theorem infoPN : (Try.prog.info? 166).map (fun i => (i.zero,i.size,i.bytes)) = some (some (.pointer none),1,8) := by kernel_rfl
theorem RowH.get {e : TypeId} {size n c : Nat} {A : Option Addr} {xs : List Value} {H : List HB} {w : World} (h : RowH e size (.slice A n c) n xs H) (hs : Sat w H) (hn : 0 < n) :
  ∃ g,A = some ⟨g,0,none⟩ ∧ (∀ i,i < n * size → w.cell? ⟨g,i,none⟩ = xs[i]?) ∧ ∀ i,w.frozen? ⟨g,i,none⟩ = false := by
 obtain ⟨g,cap,cur,hv,k1,k2,k3,k4,hH⟩ := h.form hn
 cases hv
 subst hH
 have hb : Blk w g e cur := hs.mem List.mem_cons_self
 refine ⟨g,rfl,fun i hi => ?_,fun i => hb.frozen i⟩
 rw [hb.cell i,← k4,List.getElem?_take,if_pos hi,Array.getElem?_toList]
end
section
open Go.RowKit
theorem flat_ptr (n : Nat) : (List.replicate n (Value.pointer none).cells.toList).flatten = List.replicate n (.pointer none) := by
 induction n with
 | zero => rfl
 | succ n ih => rw [List.replicate_succ,List.replicate_succ,List.flatten_cons,ih]; rfl
theorem set_way (n : Nat) (L : List Value) (i q : Nat) (v : Value) (hi : i < n) (hL : L.length = n) (hq : n - 1 - i = q) (hv : L[i]? = some v) :
  (List.replicate (n - i) (Value.pointer none) ++ (L.take i).reverse).set q v = List.replicate (n - (i + 1)) (Value.pointer none) ++ (L.take (i + 1)).reverse := by
 have e1 : n - i = (n - (i + 1)) + 1 := by omega
 have e2 : q = n - (i + 1) := by omega
 have e3 : L.take (i + 1) = L.take i ++ [v] := by
  rw [List.take_add_one,hv]
  rfl
 rw [e3,List.reverse_append,e1,List.replicate_succ',e2]
 rw [List.append_assoc,List.set_append_right _ _ (by simp)]
 simp
set_option maxHeartbeats 2000000 in
theorem way_ok (tb : Nat) (P : List LvG) (k : Nat) (p0 : LvG) (W : World) (H : List HB) (h : TreeH tb P H) (hs : Sat W H) (hl : P.length ≤ 20) (hd : PDims P) (h0 : P[0]? = some p0) (hk : k < p0.2.w * p0.2.h) :
  Calls Try.prog 79 #[.pointer (some ⟨tb,0,none⟩),.int .i64 (k : Int)] W fun e W' => ∃ v Hn,e = .returned v ∧ RowH 166 1 v P.length (wayV P (k % p0.2.w) (k / p0.2.w)).reverse Hn ∧ Mv W H W' (Hn ++ H) := by
 obtain ⟨i0,hti,hz0,hz1,hz2⟩ := info_parts infoPN
 have hm := fun W => run_made (P := Try.prog) 164 166 i0 _ 1 8 P.length Try.underlying164 hti hz0 hz1 hz2 rfl (by decide) (by omega) (by omega) W
 rw [flat_ptr] at hm
 obtain ⟨v,Hl,rfl,hr⟩ := h
 obtain ⟨va,vc,rfl⟩ := hr.slice
 have hn : 0 < P.length := (List.getElem?_eq_some_iff.1 h0).1
 obtain ⟨g,rfl,hc,hfz⟩ := hr.get (hs.right (A := [_])).left hn
 have c0 : W.cell? ⟨tb,0,none⟩ = some (.slice (some ⟨g,0,none⟩) P.length vc) := (hs.at_ 0 rfl).cell 0
 obtain ⟨l1,l2,l3⟩ := levsV_get P 0 p0 h0
 have c1 := hc 0 (by omega)
 have c2 := hc 2 (by omega)
 rw [l1] at c1
 rw [l3,(hd.get h0).1] at c2
 have hw0 := (hd.get h0).2
 have hx : k % p0.2.w < p0.2.w := Nat.mod_lt _ (by omega)
 have hy : k / p0.2.w < p0.2.h := Nat.div_lt_of_lt_mul hk
 have hat := fun i p hp => hd.at_ (i := i) (p := p) h0 hx hy hp
 have d0 : ((P.length : Int) == 0) = false := beq_eq_false_iff_ne.2 (by omega)
 have d2 : decide (((p0.2.w * p0.2.h : Nat) : Int) ≤ (k : Int)) = false := decide_eq_false (fun h => Nat.not_le.2 hk (Int.ofNat_le.1 h))
 have hmm : p0.2.w * p0.2.h ≤ 4096 := Nat.mul_le_mul hw0.2.1 hw0.2.2.2
 have hkb : k ≤ 4096 := Nat.le_of_lt (Nat.lt_of_lt_of_le hk hmm)
 have hkm : ¬ p0.2.w * p0.2.h ≤ k := Nat.not_le.2 hk
 have d1 : decide ((k : Int) < 0) = false := by simp
 have hk0 : (0 : Int) ≤ (k : Int) := by omega
 have KP := Lib.hid (And.intro hr (And.intro hs (And.intro hd (And.intro hat (And.intro hx hy)))))
 have hn0 : (0 : Int) < (P.length : Int) := by omega
 obtain ⟨x,hxx⟩ : ∃ x,k % p0.2.w = x := ⟨_,rfl⟩
 obtain ⟨y,hyy⟩ : ∃ y,k / p0.2.w = y := ⟨_,rfl⟩
 generalize p0.1 = g0 at *
 generalize hww : p0.2.w = w0 at *
 generalize p0.2.h = h00 at *
 generalize w0 * h00 = m0 at *
 have hw1 : (w0 : Int) ≠ 0 := by omega
 have hx64 : x ≤ 64 := by rw [← hxx]; have := Nat.mod_lt k (show 0 < w0 by omega); omega
 have hy64 : y ≤ 4096 := by rw [← hyy]; have := Nat.div_le_self k w0; omega
 have hxi : (k : Int) % (w0 : Int) = (x : Int) := by rw [← hxx]; push_cast; rfl
 have hyi : wrap64 ((k : Int) / (w0 : Int)) = (y : Int) := by
  have e : (k : Int) / (w0 : Int) = (y : Int) := by rw [← hyy]; push_cast; rfl
  rw [e,← IntWalk.i64_left,IntWalk.i64_in _ (by omega)]
 rw [hxx,hyy] at KP ⊢
 clear hxx hyy
 clear hr hs hd hat hc hfz hx hy h0 l1 l2 l3 hk
 go_enter Try.func79,Try.ntmps79
 go_upto_region 3 with fail
 go_quiet (fail)
 go_upto_region 6 with fail
 simp only [hxi,hyi]
 have M0 : Mv W _ ((W.drewN nq).alloc (.cells (Array.replicate P.length (.pointer none)) 166)) (⟨W.heap.size,166,Array.replicate P.length (.pointer none)⟩ :: (⟨tb,139,#[.slice (some ⟨g,0,none⟩) P.length vc]⟩ :: (Hl ++ P.map levB))) := ((Mv.refl KP.out.2.1).drewN nq).alloc _ _
 have R0 : RowH 166 1 (.slice (some ⟨W.heap.size,0,none⟩) P.length P.length) P.length (List.replicate (P.length - 0) (.pointer none) ++ ((wayV P x y).take 0).reverse) [⟨W.heap.size,166,Array.replicate P.length (.pointer none)⟩] := by
  have := RowH.new 166 W.heap.size P.length (size := 1) (Array.replicate P.length (.pointer none)) (by simp) (by unfold maxLen; omega)
  simpa using this
 have K0 := Lib.hid (And.intro R0 M0)
 obtain ⟨w1,hw1'⟩ : ∃ w1,w1 = (W.drewN nq).alloc (.cells (Array.replicate P.length (.pointer none)) 166) := ⟨_,rfl⟩
 rw [← hw1'] at K0
 simp only [← hw1']
 clear R0 M0 c0 c1 c2 hm hw1' d0 d1 d2 hkm hmm hxi hyi
 go_wp2_with fail
 go_loopg [9,58,72,79] P.length (fun m s9 s58 s72 s79 wx => ∃ (i : Nat) (Hn : List HB),i ≤ P.length ∧ m = P.length - i ∧ s58 = .int .i64 (i : Int) ∧ RowH 166 1 (.slice (some ⟨W.heap.size,0,none⟩) P.length P.length) P.length (List.replicate (P.length - i) (.pointer none) ++ ((wayV P x y).take i).reverse) Hn ∧ Mv W _ wx (Hn ++ (⟨tb,139,#[.slice (some ⟨g,0,none⟩) P.length vc]⟩ :: (Hl ++ P.map levB))))
 case atStart => exact ⟨0,_,Nat.zero_le _,rfl,rfl,K0.out.1,K0.out.2⟩
 case round =>
  obtain ⟨wa,rfl⟩ : ∃ wa : World,wa = wr := ⟨_,rfl⟩
  obtain ⟨i,Hn,hi,rfl,rfl,hrn,mn⟩ := hrel
  by_cases hlt : i < P.length
  ·obtain ⟨p,hp⟩ : ∃ p,P[i]? = some p := ⟨_,List.getElem?_eq_getElem hlt⟩
   have mt := Mv.mv1 (A := Hn) (B := [_]) mn
   have c0 : wa.cell? ⟨tb,0,none⟩ = some (.slice (some ⟨g,0,none⟩) P.length vc) := mt.cell 0 rfl 0
   have sHl : Sat wa Hl := (Mv.mv2 (A := Hn) (B := [_]) (C := Hl) mn).sat.left
   obtain ⟨g',eg,hc,-⟩ := KP.out.1.get sHl hn
   obtain rfl : g = g' := by cases eg; rfl
   obtain ⟨l1,l2,l3⟩ := levsV_get P i p hp
   have e1 := hc (3 * i) (by omega)
   have e2 := hc (3 * i + 1) (by omega)
   have e3 := hc (3 * i + 2) (by omega)
   rw [l1,Nat.mul_comm 3 i] at e1
   rw [l2,Nat.mul_comm 3 i] at e2
   rw [l3,(KP.out.2.2.1.get hp).1,Nat.mul_comm 3 i] at e3
   obtain ⟨q1,q2⟩ := KP.out.2.2.2.1 i p hp
   have q3 := (KP.out.2.2.1.get hp).2
   have hii : (i : Int) < (P.length : Int) := by omega
   have hxq : x / 2 ^ i ≤ 64 := Nat.le_trans (Nat.div_le_self _ _) hx64
   have hyq : y / 2 ^ i ≤ 64 := by omega
   have hpl : y / 2 ^ i * p.2.w + x / 2 ^ i < p.2.w * p.2.h := place_lt q1 q2
   have G0 := fun V => grid_at p.2.w p.2.h p.1 (p.2.w * p.2.h) (p.2.w * p.2.h) (x / 2 ^ i) (y / 2 ^ i) V hpl (by omega) (by omega) (by omega) (by have := Nat.mul_le_mul q3.2.1 q3.2.2.2; omega)
   simp only [Int.natCast_ediv,Int.natCast_pow,Int.cast_ofNat_Int] at G0
   have G := Lib.hid G0
   clear G0
   have EP := Lib.hid (And.intro hp (And.intro hrn mn))
   have hi20 : i ≤ 20 := by omega
   obtain ⟨q,hq⟩ : ∃ q,P.length - 1 - i = q := ⟨_,rfl⟩
   have hwi : IntKind.i64.wrap (IntKind.i64.wrap ((P.length : Int) - 1) - (i : Int)) = (q : Int) := by
    rw [IntWalk.i64_in ((P.length : Int) - 1) (by omega),IntWalk.i64_in _ (by omega)]
    omega
   have hql : (q : Int) < (P.length : Int) := by omega
   have hqn : q < P.length - i := by omega
   have HQ := Lib.hid (And.intro hq hqn)
   clear hq hqn
   have FX : Hid (∀ w2,Mv wa.drew [] w2 [] → Mv W (⟨tb,139,#[.slice (some ⟨g,0,none⟩) P.length vc]⟩ :: (Hl ++ P.map levB)) w2 (Hn ++ (⟨tb,139,#[.slice (some ⟨g,0,none⟩) P.length vc]⟩ :: (Hl ++ P.map levB))) ∧ w2.cell? ⟨W.heap.size,q,none⟩ = some (.pointer none) ∧ w2.frozen? ⟨W.heap.size,q,none⟩ = false) := Lib.hid (by
    intro w2 m2
    have m3 : Mv W _ w2 (Hn ++ (⟨tb,139,#[.slice (some ⟨g,0,none⟩) P.length vc]⟩ :: (Hl ++ P.map levB))) := Mv.call (H := []) (H' := []) (Mv.drew EP.out.2.2) m2
    have z := RowH.cell EP.out.2.1 m3.sat.left rfl q (by omega)
    refine ⟨m3,?_,z.2⟩
    rw [z.1,List.getElem?_append_left (by simpa using HQ.out.2),List.getElem?_replicate,if_pos HQ.out.2])
   have d7 : decide ((i : Int) < (P.length : Int)) = true := by simpa using hlt
   generalize hpw : p.2.w * p.2.h = pn at *
   generalize hpg : p.1 = pg at *
   generalize hpw2 : p.2.w = pw at *
   generalize p.2.h = ph at *
   clear hrn mn mt hc l1 l2 l3 sHl hp q1 q2 hpw eg
   go_upto_region 9 with fail
   go_region_law (first
    | (go_simp; go_at_call 81; (with_reducible refine (G.out _).mono ?_); rintro e w2 ⟨rfl,m2⟩; obtain ⟨m3,y1,y2⟩ := FX.out w2 m2; have K2 := Lib.hid m3; clear m2 m3))
   all_goals
    obtain ⟨H3,r3,m3⟩ := RowH.set EP.out.2.1 K2.out.sat.left rfl q (.pointer (some ⟨pg,3 * (y / 2 ^ i * pw + x / 2 ^ i),none⟩)) (by omega)
    have m4 := Mv.call K2.out m3
    have K4 := Lib.hid (And.intro r3 m4)
    clear r3 m3 m4 y1 y2 K2
    go_wp2_with fail
    go_roundg (P.length - (i + 1))
    case measure => omega
    case rel =>
     refine ⟨i + 1,H3,by omega,rfl,by go_num,?_,K4.out.2⟩
     have hv := wayV_get P x y i p EP.out.1
     rw [hpg,hpw2] at hv
     have := K4.out.1
     rw [set_way _ _ i q _ hlt (wayV_length P x y) HQ.out.1 hv] at this
     exact this
  ·obtain rfl : i = P.length := by omega
   have d7 : decide ((P.length : Int) < (P.length : Int)) = false := by simp
   have EP := Lib.hid (And.intro hrn mn)
   clear hrn mn
   go_wp2_with fail
   go_ret
   refine ⟨_,Hn,rfl,?_,EP.out.2⟩
   have := EP.out.1
   rw [Nat.sub_self,List.take_of_length_le (by rw [wayV_length]; exact Nat.le_refl _)] at this
   simpa using this
end
end Go.Proofs.Ytnpoakabheeoeaa
