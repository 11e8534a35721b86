/- Plain facts for this seat's walks: numbers, lists, and slices that are owned or read. No program in sight. Words for memory, after the guide's lemmas to copy: a slice that reads as a list, a block that is known whole, append onto a row of the call's own. No program in sight. Heaplets: what is known of memory, as a list of blocks; what a call may turn of it. No program in sight. Heaplets at this program's types: rows of bytes, appended to. All blocks of some bands: the program's iterator over them. A loop over all blocks of some bands: the law, with heaplets. Tag trees: what they are. Tag trees of the program: what they are in memory; New. Tag trees of the program: a level's places; a new level; New. -/
import Derived.WalkKit
import Derived.WalkSpells
import Derived.WalkLawsBesides
import Derived.Lib.Hide
import Derived.Deep.RegionLaw
import Derived.Deep.LoopGhost
import Derived.Deep.DeepCutAuto
import Derived.BigQuiet
import Derived.Deep.QuietTactic
import Derived.Laws.OwnMore
import Derived.Deep.AppendLies
import Derived.Deep.Draws
import Derived.Laws.Rows
import Derived.Maps.AppendAt
import Derived.RegionTactic
import Derived.OwnWalk
import Derived.ChangeSame
import Derived.Laws.BitsAllLaws
import Derived.Laws.BitsLemmas
import Derived.Test.YtjngfhgakokejaaGreatProg
import Derived.Laws.Bits64b
import Derived.BigRegion
import Derived.StillTailTactics
import Derived.RangeFuncNested
import Derived.RangeFuncBound
import Derived.RangeFuncCalls
import Derived.RangeFuncLeaves
import Derived.Shelf.Abstract
import Derived.Shelf.RegionOpen
import Derived.OwnWalkIn
import Derived.TacticsInMore
import Derived.LoopNIn
import Derived.LoopIn
import Derived.Laws.MakeOwn
set_option maxRecDepth 100000
set_option maxHeartbeats 8000000
namespace Go.Proofs.YtjngfhgakokejaaGreat
section
open Go.RowKit
theorem tmod_adj (x n:Int) (h:1≤n):(if x.tmod n<0 then x.tmod n+n else x.tmod n)=x % n:=by
 have h0:=Int.emod_nonneg x (b:=n) (by omega)
 have h1:=Int.emod_lt_of_pos x (b:=n) (by omega)
 have h2:x.tmod n=x % n∨x.tmod n=x % n - n:=by
  rw [Int.tmod_eq_emod]
  split
  ·left;omega
  ·right;omega
 have h3 : -n<x.tmod n:=by have:=Int.lt_tmod_of_pos x (b:=n) (by omega);omega
 have h4:0≤x→x.tmod n=x % n:=fun h=>Int.tmod_eq_emod_of_nonneg h
 split
 ·rcases h2 with h2 | h2 <;> omega
 ·rcases h2 with h2 | h2 <;> omega
theorem tmod_bd (x n:Int) (h:1≤n) : -n<x.tmod n∧x.tmod n<n:=by
 constructor
 ·have:=Int.lt_tmod_of_pos x (b:=n) (by omega);omega
 ·exact Int.tmod_lt_of_pos x (by omega)
theorem i64_small:∀ n:Int,0≤n→n<2 ^ 63→IntKind.i64.wrap n=n:=by
 intro n h1 h2
 exact IntWalk.i64_in n (by simp only [show (2:Int)^63=9223372036854775808 from by decide] at h2;omega)
theorem and_mask (i:Nat) (hi:i≤63) (n:Int) (h0:0≤n) (h1:n<9223372036854775808):bits .and .i64 n (2 ^ i - 1)=n % 2 ^ i:=by
 have:=bits_mask .i64 63 (by decide) i64_small i hi n h0 (by simpa using h1)
 simpa using this
theorem owns_slice {w:World} {B:Nat} {e:TypeId} {size:Nat} {v:Value} {n:Nat} {xs:List Value} (h:w.ownsRow B e size v n xs):∃ a cap,v=.slice a n cap:=by
 rcases h.2 with ⟨rfl,rfl⟩ | ⟨g,cap,cur,rfl,_⟩
 ·exact ⟨none,0,rfl⟩
 ·exact ⟨_,cap,rfl⟩
section
variable {P:Program} {ops:Array Oper} {o:Oper} {a:Act} {w:World} {K:Act→World→Prop} {Q:Exit→Act→World→Prop} {E:Prop}
end
theorem news_block (w:World) (arr:Array Value) (t:TypeId):∀ (j:Nat) u,arr.toList[j]?=some u→(w.alloc (.cells arr t)).cell? ((⟨w.heap.size,0,none⟩:Addr).add j)=some u:=by
 intro j u hu
 have hadd:(⟨w.heap.size,0,none⟩:Addr).add j=⟨w.heap.size,j,none⟩:=by unfold Addr.add;split <;> simp_all
 rw [hadd,cell_of_row (w.alloc (.cells arr t)) w.heap.size j arr t (0,0) (heap_alloc_new w _)]
 simpa using hu
end
section
open Go.RowKit Go.WideShapes Go.ChangeShapes
theorem block_of_add (a:Addr) (n:Nat):(a.add n).block=a.block:=by unfold Addr.add;split <;> rfl
def Reads (w:World) (B size:Nat) (A:Option Addr) (n:Nat) (xs:List Value):Prop :=
 xs.length=n * size∧(0<n→∃ ad,A=some ad∧ad.block<B∧∀ j u,xs[j]?=some u→w.cell? (ad.add j)=some u)
section
variable {w w':World} {B B' size n:Nat} {A:Option Addr} {xs:List Value}
theorem Reads.keep (h:Reads w B size A n xs) (hk:∀ p:Addr,p.block<B→w'.cell? p=w.cell? p):Reads w' B size A n xs :=
 ⟨h.1,fun hn=>by
  obtain ⟨ad,e,hb,hc⟩:=h.2 hn
  exact ⟨ad,e,hb,fun j u hu=>(hk _ (by rw [block_of_add];exact hb)).trans (hc j u hu)⟩⟩
theorem Reads.more (h:Reads w B size A n xs) (hB:B≤B'):Reads w B' size A n xs :=
 ⟨h.1,fun hn=>by
  obtain ⟨ad,e,hb,hc⟩:=h.2 hn
  exact ⟨ad,e,by omega,hc⟩⟩
theorem Reads.below (h:Reads w B size A n xs) (hb:Below B w w'):Reads w' B size A n xs:=h.keep fun _ hp=>hb.cell hp
theorem Reads.alloc (h:Reads w B size A n xs) (hB:B≤w.heap.size) (o:Obj):Reads (w.alloc o) B size A n xs:=h.keep fun p hp=>World.cell?_alloc_lt w o p (by omega)
theorem Reads.of_own {base:Nat} {e:TypeId} {c:Nat} (h:w.ownsRow base e size (.slice A n c) n xs):Reads w w.heap.size size A n xs:=by
 refine ⟨h.1,fun hn=>?_⟩
 obtain ⟨g,cap,hv,_,hlt⟩:=h.form hn
 have hA:A=some ⟨g,0,none⟩:=by injection hv
 subst hA
 exact ⟨_,rfl,hlt,h.cells (g:=g) rfl⟩
end
def Blk (w:World) (g:Nat) (t:TypeId) (cs:Array Value):Prop:=w.heap[g]?=some (.cells cs t (0,0))
section
variable {w w':World} {g:Nat} {t:TypeId} {cs:Array Value}
theorem Blk.lt (h:Blk w g t cs):g<w.heap.size:=by
 rcases Nat.lt_or_ge g w.heap.size with hlt | hge
 ·exact hlt
 ·unfold Blk at h;rw [Array.getElem?_eq_none hge] at h;cases h
theorem Blk.cell (h:Blk w g t cs) (i:Nat):w.cell? ⟨g,i,none⟩=cs[i]?:=cell_of_row w g i cs t (0,0) h
theorem Blk.frozen (h:Blk w g t cs) (i:Nat):w.frozen? ⟨g,i,none⟩=false:=by
 unfold Blk at h
 simp [World.frozen?,h]
theorem Blk.new (w:World) (t:TypeId) (cs:Array Value):Blk (w.alloc (.cells cs t)) w.heap.size t cs:=heap_alloc_new w _
theorem Blk.set_ (h:Blk w g t cs) (i:Nat) (u:Value):Blk (w.setCell ⟨g,i,none⟩ u) g t (cs.setIfInBounds i u):=by
 unfold Blk at h ⊢
 simp [World.setCell,Array.getElem?_modify,h]
theorem Blk.below {B:Nat} (h:Blk w g t cs) (hb:Below B w w') (hg:g<B):Blk w' g t cs:=(hb.block g hg).trans h
end
section
variable {P:Program} (w:World)
theorem run_append_of_nil (base:Nat) (t ty e:TypeId) (i:TypeInfo) (size:Nat) (ht:P.underlying t=some (.slice e)) (hi:P.info? e=some i)
  (v:Value) (n:Nat) (xs:List Value) (hown:w.ownsRow base e size v n xs) (c:Nat):(Builtin.append_ #[t,t] ty #[v,.slice none 0 c]).run P w=.ok v w:=by
 rcases hown.2 with ⟨rfl,rfl⟩ | ⟨g,cap,cur,rfl,_,_,hnc,_⟩
 ·simp [Builtin.append_,run_underlying ht,sizeOf,typeInfo,hi,Builtin.lenOf,Builtin.firstCells]
 ·simp [Builtin.append_,run_underlying ht,sizeOf,typeInfo,hi,Builtin.lenOf,Builtin.firstCells,hnc,storeCells]
theorem run_append_any (base:Nat) (t ty e:TypeId) (i:TypeInfo) (z:Value) (size bytes:Nat) (ht:P.underlying t=some (.slice e)) (hi:P.info? e=some i) (hz:i.zero=some z)
  (hsize:i.size=size) (hby:i.bytes=bytes) (hzs:z.cells.size=size) (hsz:0<size)
  (v:Value) (n:Nat) (xs:List Value) (hown:w.ownsRow base e size v n xs)
  (B:Nat) (A:Option Addr) (m c:Nat) (news:List Value) (hr:Reads w B size A m news) (h1:∀ u∈news,u.oneCell'=true)
  (h63:n+m≤maxLen) (hbytes:(n+m) * bytes≤140737488355328) (hbase:base≤w.heap.size) :
  ∃ v' w',(Builtin.append_ #[t,t] ty #[v,.slice A m c]).run P w=.ok v' w'∧w'.ownsRow base e size v' (n+m) (xs++news)∧w.grownBy w' v.ownBlock ∧
   (v'.ownBlock=v.ownBlock∨v'.ownBlock=some w.heap.size):=by
 rcases A with _ | ad
 ·have hm:m=0:=by
   rcases Nat.eq_zero_or_pos m with h0 | h0
   ·exact h0
   ·obtain ⟨ad,h,_⟩:=hr.2 h0
    cases h
  subst hm
  have hn:news=[]:=List.eq_nil_of_length_eq_zero (by simpa using hr.1)
  subst hn
  exact ⟨v,w,run_append_of_nil w base t ty e i size ht hi v n xs hown c,by simpa using hown,World.grownBy.refl w _,.inl rfl⟩
 ·have hcells:∀ j u,news[j]?=some u→w.cell? (ad.add j)=some u:=by
   intro j u hu
   rcases Nat.eq_zero_or_pos m with h0 | h0
   ·subst h0
    have hn:news=[]:=List.eq_nil_of_length_eq_zero (by simpa using hr.1)
    subst hn
    simp at hu
   ·obtain ⟨ad',h,_,hc⟩:=hr.2 h0
    injection h with h
    subst h
    exact hc j u hu
  obtain ⟨v',w',hrun,h2,h3,_,h5⟩:=run_append_own_at (P:=P) w base t ty e i z size bytes ht hi hz hsize hby hzs hsz v n xs hown ad m c news hr.1 hcells h1 h63 hbytes hbase
  exact ⟨v',w',hrun,h2,h3,h5⟩
end
theorem only_setCell {a w:World} {g:Nat} (h:a.grownBy w (some g)) {p:Addr} (hp:p.block=g∨a.heap.size≤p.block) (u:Value):a.grownBy (w.setCell p u) (some g) :=
 ⟨h.os,h.tape,h.output,by simpa [World.setCell] using h.size,fun i hi hne=>(Below.heap_setCell w p u i (by
  rintro rfl
  rcases hp with hp | hp
  ·exact hne (by rw [hp])
  ·omega)).trans (h.block i hi hne)⟩
theorem ofInt_i64 (a:Nat) (ha:a<9223372036854775808):(BitVec.ofInt 64 (a:Int)).toNat=a:=by
 rw [BitVec.ofInt_natCast,BitVec.toNat_ofNat];exact Nat.mod_eq_of_lt (by omega)
theorem i64_and_nat (a b:Nat) (ha:a<9223372036854775808) (hb:b<9223372036854775808):bits .and .i64 (a:Int) (b:Int)=((a &&& b:Nat):Int):=by
 have hx:a &&& b<2 ^ 63:=Nat.and_lt_two_pow _ (by omega)
 show IntKind.i64.wrap ((BitVec.ofInt 64 (a:Int) &&& BitVec.ofInt 64 (b:Int)).toNat:Int)=_
 rw [BitVec.toNat_and,ofInt_i64 a ha,ofInt_i64 b hb,IntKind.wrap_i64]
 omega
theorem i64_or_nat (a b:Nat) (ha:a<9223372036854775808) (hb:b<9223372036854775808):bits .or .i64 (a:Int) (b:Int)=((a ||| b:Nat):Int):=by
 have hx:a ||| b<2 ^ 63:=Nat.or_lt_two_pow (by omega) (by omega)
 show IntKind.i64.wrap ((BitVec.ofInt 64 (a:Int) ||| BitVec.ofInt 64 (b:Int)).toNat:Int)=_
 rw [BitVec.toNat_or,ofInt_i64 a ha,ofInt_i64 b hb,IntKind.wrap_i64]
 omega
theorem i64_xor_nat (a b:Nat) (ha:a<9223372036854775808) (hb:b<9223372036854775808):bits .xor .i64 (a:Int) (b:Int)=((a ^^^ b:Nat):Int):=by
 have hx:a ^^^ b<2 ^ 63:=Nat.xor_lt_two_pow (by omega) (by omega)
 show IntKind.i64.wrap ((BitVec.ofInt 64 (a:Int) ^^^ BitVec.ofInt 64 (b:Int)).toNat:Int)=_
 rw [BitVec.toNat_xor,ofInt_i64 a ha,ofInt_i64 b hb,IntKind.wrap_i64]
 omega
section
variable {H:Type} {enc:TypeId × Value→H} {P:Program}
end
def cellsB (l:List UInt8):List Value:=l.map fun c=>.int .u8 (c.toNat:Int)
theorem cellsB_length (l:List UInt8):(cellsB l).length=l.length:=by simp [cellsB]
theorem cellsB_one (l:List UInt8):∀ u∈cellsB l,u.oneCell'=true:=by
 intro u hu
 simp only [cellsB,List.mem_map] at hu
 obtain ⟨c,-,rfl⟩:=hu
 rfl
theorem cellsB_append (a b:List UInt8):cellsB (a++b)=cellsB a++cellsB b:=by simp [cellsB]
theorem cellsB_get (l:List UInt8) (k:Nat) (c:UInt8) (h:l[k]?=some c):(cellsB l)[k]?=some (.int .u8 (c.toNat:Int)):=by simp [cellsB,h]
theorem Reads.cell {w:World} {B n k:Nat} {A:Option Addr} {l:List UInt8} (h:Reads w B 1 A n (cellsB l)) {c:UInt8} (hc:l[k]?=some c) :
  ∃ ad,A=some ad∧ad.block<B∧w.cell? (ad.add k)=some (.int .u8 (c.toNat:Int)):=by
 have hl:k<l.length:=(List.getElem?_eq_some_iff.1 hc).1
 have hn:=h.1
 rw [cellsB_length] at hn
 obtain ⟨ad,e,hb,hx⟩:=h.2 (by omega)
 exact ⟨ad,e,hb,hx k _ (cellsB_get l k c hc)⟩
theorem Reads.of_below {w w':World} {size n:Nat} {A:Option Addr} {xs:List Value} (h:Reads w w.heap.size size A n xs) (hb:Below w.heap.size w w'):Reads w' w'.heap.size size A n xs :=
 (h.below hb).more hb.size
def BV (w:World) (v:Value) (l:List UInt8):Prop:=∃ A c,v=.slice A l.length c∧l.length≤c∧c≤maxLen∧Reads w w.heap.size 1 A l.length (cellsB l)
theorem BV.keep {w w':World} {v:Value} {l:List UInt8} (h:BV w v l) (hb:Below w.heap.size w w'):BV w' v l:=by
 obtain ⟨A,c,e,h1,h2,h3⟩:=h
 exact ⟨A,c,e,h1,h2,h3.of_below hb⟩
theorem BV.of_owns {w:World} {B:Nat} {e:TypeId} {v:Value} {l:List UInt8} (h:w.ownsRow B e 1 v l.length (cellsB l)):BV w v l:=by
 obtain ⟨a,c,rfl⟩:=owns_slice h
 have hr:=Reads.of_own h
 obtain ⟨hl,h⟩:=h
 rcases h with ⟨h1,h2⟩ | ⟨g,cap,cur,h1,hb,hg,hn,hc,hs,ht⟩
 ·injection h1 with e1 e2 e3
  exact ⟨a,c,rfl,by omega,by subst e3;simp [maxLen],hr⟩
 ·injection h1 with e1 e2 e3
  subst e3
  exact ⟨a,c,rfl,hn,hc,hr⟩
end
section
open Go.RowKit
structure HB where
 g:Nat
 t:TypeId
 cs:Array Value
def keys (H:List HB):List Nat:=H.map (·.g)
theorem keys_cons (b:HB) (H:List HB):keys (b::H)=b.g::keys H:=rfl
theorem keys_append (A B:List HB):keys (A++B)=keys A++keys B:=List.map_append
theorem mem_keys {H:List HB} {b:HB} (h:b∈H):b.g∈keys H:=List.mem_map.2 ⟨b,h,rfl⟩
def cnt (g:Nat) (H:List HB):Nat:=(keys H).count g
theorem cnt_nil (g:Nat):cnt g []=0:=rfl
theorem cnt_cons (g:Nat) (b:HB) (H:List HB):cnt g (b::H)=(if b.g=g then 1 else 0)+cnt g H:=by
 unfold cnt
 rw [keys_cons,List.count_cons]
 simp only [beq_iff_eq]
 omega
theorem cnt_append (g:Nat) (A B:List HB):cnt g (A++B)=cnt g A+cnt g B:=by
 unfold cnt
 rw [keys_append,List.count_append]
def Sat (w:World) (H:List HB):Prop:=(keys H).Nodup∧∀ b∈H,Blk w b.g b.t b.cs
theorem Sat.nil (w:World):Sat w []:=⟨List.nodup_nil,fun _ h=>by cases h⟩
theorem Sat.lt {w:World} {H:List HB} (h:Sat w H) {g:Nat} (hg:g∈keys H):g<w.heap.size:=by
 obtain ⟨b,hb,rfl⟩:=List.mem_map.1 hg
 exact (h.2 b hb).lt
theorem Sat.sub {w:World} {H H1:List HB} (h:Sat w H) (hc:∀ g,cnt g H1≤cnt g H) (hm:∀ b∈H1,b∈H):Sat w H1 :=
 ⟨List.nodup_iff_count.2 fun g=>Nat.le_trans (hc g) (List.nodup_iff_count.1 h.1 g),fun b hb=>h.2 b (hm b hb)⟩
theorem Sat.left {w:World} {A B:List HB} (h:Sat w (A++B)):Sat w A :=
 h.sub (fun g=>by rw [cnt_append];omega) (fun b hb=>List.mem_append_left _ hb)
theorem Sat.right {w:World} {A B:List HB} (h:Sat w (A++B)):Sat w B :=
 h.sub (fun g=>by rw [cnt_append];omega) (fun b hb=>List.mem_append_right _ hb)
theorem Sat.apart {w:World} {A B:List HB} (h:Sat w (A++B)) {g:Nat} (ha:g∈keys A) (hb:g∈keys B):False:=by
 have h1:=List.nodup_iff_count.1 h.1 g
 rw [keys_append,List.count_append] at h1
 have h2:=List.count_pos_iff.2 ha
 have h3:=List.count_pos_iff.2 hb
 omega
theorem Sat.drew {w:World} {H:List HB} (h:Sat w H):Sat w.drew H:=h
theorem Sat.drewN {w:World} {H:List HB} (h:Sat w H) (n:Nat):Sat (w.drewN n) H:=h
theorem Sat.at_ {w:World} {H:List HB} (h:Sat w H) (k:Nat) {g:Nat} {t:TypeId} {cs:Array Value} (hk:H[k]?=some ⟨g,t,cs⟩):Blk w g t cs:=h.2 _ (List.mem_of_getElem? hk)
theorem Sat.mem {w:World} {H:List HB} (h:Sat w H) {g:Nat} {t:TypeId} {cs:Array Value} (hk:(⟨g,t,cs⟩:HB)∈H):Blk w g t cs:=h.2 _ hk
structure Only (K:List Nat) (w w':World):Prop where
 os:w'.os=w.os
 tape:w'.tape=w.tape
 output:w'.output=w.output
 size:w.heap.size≤w'.heap.size
 block:∀ k,k<w.heap.size→k ∉ K→w'.heap[k]?=w.heap[k]?
theorem Only.refl (K:List Nat) (w:World):Only K w w:=⟨rfl,rfl,rfl,Nat.le_refl _,fun _ _ _=>rfl⟩
theorem Only.below {K:List Nat} {w w':World} {B:Nat} (h:Only K w w') (hB:B≤w.heap.size) (hK:∀ k∈K,B≤k):Below B w w' :=
 ⟨h.os,h.tape,h.output,h.size,fun k hk=>h.block k (by omega) (fun e=>by have:=hK k e;omega)⟩
theorem Only.grown {w w':World} {K:List Nat} {row:Option Nat} (hg:w.grownBy w' row) (hr:∀ k,row=some k→k∈K):Only K w w' :=
 ⟨hg.os,hg.tape,hg.output,hg.size,fun k hk hn=>hg.block k hk (fun e=>hn (hr k e.symm))⟩
theorem Only.blk {K:List Nat} {w w':World} {g:Nat} {t:TypeId} {cs:Array Value} (h:Only K w w') (hb:Blk w g t cs) (hn:g ∉ K):Blk w' g t cs:=(h.block g hb.lt hn).trans hb
structure Mv (w:World) (H:List HB) (w':World) (H':List HB):Prop where
 sat:Sat w' H'
 only:Only (keys H) w w'
 new:∀ g∈keys H',g∈keys H∨w.heap.size≤g
section
variable {w0 w w':World} {H0 H H' H1 R:List HB}
theorem Mv.refl (h:Sat w H):Mv w H w H:=⟨h,Only.refl _ _,fun _ hg=>.inl hg⟩
theorem Mv.call (h:Mv w0 H0 w (H++R)) (m:Mv w H w' H'):Mv w0 H0 w' (H'++R):=by
 have hR:∀ g∈keys R,g ∉ keys H:=fun g h1 h2=>h.sat.apart h2 h1
 refine ⟨⟨?_,?_⟩,⟨m.only.os.trans h.only.os,m.only.tape.trans h.only.tape,m.only.output.trans h.only.output,Nat.le_trans h.only.size m.only.size,fun k hk hn=>?_⟩,fun g hg=>?_⟩
 ·rw [keys_append]
  refine List.nodup_append.2 ⟨m.sat.1,h.sat.right.1,fun a ha b hb e=>?_⟩
  subst e
  rcases m.new a ha with h1 | h1
  ·exact hR a hb h1
  ·have:=h.sat.right.lt hb
   omega
 ·intro b hb
  rcases List.mem_append.1 hb with h1 | h1
  ·exact m.sat.2 b h1
  ·exact m.only.blk (h.sat.right.2 b h1) (hR _ (mem_keys h1))
 ·have hn2:k ∉ keys H:=fun e=>by
   rcases h.new k (by rw [keys_append];exact List.mem_append_left _ e) with h1 | h1
   ·exact hn h1
   ·omega
  exact (m.only.block k (Nat.lt_of_lt_of_le hk h.only.size) hn2).trans (h.only.block k hk hn)
 ·rw [keys_append] at hg
  rcases List.mem_append.1 hg with h1 | h1
  ·rcases m.new g h1 with h2 | h2
   ·exact h.new g (by rw [keys_append];exact List.mem_append_left _ h2)
   ·exact .inr (Nat.le_trans h.only.size h2)
  ·exact h.new g (by rw [keys_append];exact List.mem_append_right _ h1)
theorem Mv.sub (h:Mv w0 H0 w H) (hc:∀ g,cnt g H1≤cnt g H) (hm:∀ b∈H1,b∈H):Mv w0 H0 w H1 :=
 ⟨h.sat.sub hc hm,h.only,fun g hg=>by
  obtain ⟨b,hb,rfl⟩:=List.mem_map.1 hg
  exact h.new _ (mem_keys (hm b hb))⟩
theorem Mv.mv1 {A B:List HB} (h:Mv w0 H0 w (A++(B++R))):Mv w0 H0 w (B++(A++R)) :=
 h.sub (fun g=>by simp only [cnt_append];omega) (fun b hb=>by simp only [List.mem_append] at hb ⊢;grind)
theorem Mv.mv2 {A B C:List HB} (h:Mv w0 H0 w (A++(B++(C++R)))):Mv w0 H0 w (C++(A++(B++R))) :=
 h.sub (fun g=>by simp only [cnt_append];omega) (fun b hb=>by simp only [List.mem_append] at hb ⊢;grind)
theorem Mv.trans (h:Mv w0 H0 w H) (m:Mv w H w' H'):Mv w0 H0 w' H':=by
 have:=Mv.call (R:=[]) (by simpa using h) m
 simpa using this
theorem Mv.drewN (h:Mv w0 H0 w H) (n:Nat):Mv w0 H0 (w.drewN n) H:=⟨h.sat.drewN n,⟨h.only.os,h.only.tape,h.only.output,h.only.size,h.only.block⟩,h.new⟩
theorem Mv.drew (h:Mv w0 H0 w H):Mv w0 H0 w.drew H:=⟨h.sat.drew,⟨h.only.os,h.only.tape,h.only.output,h.only.size,h.only.block⟩,h.new⟩
theorem Mv.drop1 {b:HB} (h:Mv w0 H0 w (b::H)):Mv w0 H0 w H :=
 h.sub (fun g=>by rw [cnt_cons];omega) (fun _ hb=>List.mem_cons_of_mem _ hb)
theorem Mv.drop {A:List HB} (h:Mv w0 H0 w (A++H)):Mv w0 H0 w H :=
 h.sub (fun g=>by rw [cnt_append];omega) (fun _ hb=>List.mem_append_right _ hb)
theorem Mv.drop2 {A B:List HB} (h:Mv w0 H0 w (A++(B++H))):Mv w0 H0 w (A++H) :=
 h.sub (fun g=>by simp only [cnt_append];omega) (fun b hb=>by simp only [List.mem_append] at hb ⊢;grind)
theorem Mv.of_grown {g:Nat} {t:TypeId} {cs cs':Array Value} (hg:w.grownBy w' (some g)) (hb:Blk w' g t cs'):Mv w [⟨g,t,cs⟩] w' [⟨g,t,cs'⟩] :=
 ⟨⟨by simp [keys],fun b h=>by simp only [List.mem_singleton] at h;subst h;exact hb⟩,Only.grown hg (by rintro k ⟨⟩;simp [keys]),fun g h=>.inl (by simpa [keys] using h)⟩
theorem mv_set {g:Nat} {t:TypeId} {cs:Array Value} (hb:Blk w g t cs) (i:Nat) (v:Value):Mv w [⟨g,t,cs⟩] (w.setCell ⟨g,i,none⟩ v) [⟨g,t,cs.setIfInBounds i v⟩] :=
 Mv.of_grown (only_setCell (World.grownBy.refl _ _) (p:=⟨g,i,none⟩) (.inl rfl) _) (hb.set_ i v)
theorem Mv.set {g:Nat} {t:TypeId} {cs:Array Value} (h:Mv w0 H0 w (⟨g,t,cs⟩::R)) (i:Nat) (v:Value):Mv w0 H0 (w.setCell ⟨g,i,none⟩ v) (⟨g,t,cs.setIfInBounds i v⟩::R) :=
 Mv.call (H:=[⟨g,t,cs⟩]) (R:=R) h (mv_set (h.sat.mem List.mem_cons_self) i v)
theorem mv_alloc (w:World) (t:TypeId) (cs:Array Value):Mv w [] (w.alloc (.cells cs t)) [⟨w.heap.size,t,cs⟩] :=
 ⟨⟨by simp [keys],fun b h=>by simp only [List.mem_singleton] at h;subst h;exact Blk.new w t cs⟩,Only.grown (World.grownBy_alloc w _ none) (by rintro k ⟨⟩),fun g h=>.inr (by simp [keys] at h;omega)⟩
theorem Mv.alloc (h:Mv w0 H0 w H) (t:TypeId) (cs:Array Value):Mv w0 H0 (w.alloc (.cells cs t)) (⟨w.heap.size,t,cs⟩::H) :=
 Mv.call (H:=[]) (R:=H) h (mv_alloc w t cs)
theorem Mv.below {B:Nat} (h:Mv w0 H0 w H) (hB:B≤w0.heap.size) (hK:∀ k∈keys H0,B≤k):Below B w0 w:=h.only.below hB hK
theorem Mv.below0 (h:Mv w0 [] w H):Below w0.heap.size w0 w:=h.below (Nat.le_refl _) (fun k hk=>by cases hk)
theorem Mv.frame (h:Mv w0 H0 w H) (hs:Sat w0 (H0++R)):Mv w0 (H0++R) w (H++R):=Mv.call (Mv.refl hs) h
theorem Mv.cell {g:Nat} {t:TypeId} {cs:Array Value} (h:Mv w0 H0 w H) (k:Nat) (hk:H[k]?=some ⟨g,t,cs⟩) (i:Nat):w.cell? ⟨g,i,none⟩=cs[i]?:=(h.sat.at_ k hk).cell i
theorem Mv.frozen {g:Nat} {t:TypeId} {cs:Array Value} (h:Mv w0 H0 w H) (k:Nat) (hk:H[k]?=some ⟨g,t,cs⟩) (i:Nat):w.frozen? ⟨g,i,none⟩=false:=(h.sat.at_ k hk).frozen i
theorem Mv.blk {g:Nat} {t:TypeId} {cs:Array Value} (h:Mv w0 H0 w H) (k:Nat) (hk:H[k]?=some ⟨g,t,cs⟩):Blk w g t cs:=h.sat.at_ k hk
theorem Mv.others (h:Mv w0 H0 w H) (hs:Sat w0 H0):∀ (k:Nat) (o:Obj),w0.heap[k]?=some o→(∀ c t f,o≠.cells c t f)→w.heap[k]?=some o:=by
 intro k o hk hn
 refine (h.only.block k (Array.getElem?_eq_some_iff.1 hk).1 fun e=>?_).trans hk
 obtain ⟨b,hb,rfl⟩:=List.mem_map.1 e
 have:=hs.2 b hb
 unfold Blk at this
 rw [hk] at this
 cases this
 exact hn _ _ _ rfl
end
def RowH (e:TypeId) (size:Nat) (v:Value) (n:Nat) (xs:List Value) (H:List HB):Prop :=
  xs.length=n * size ∧
  ((v=.slice none 0 0∧n=0∧H=[]) ∨
   ∃ g cap cur,v=.slice (some ⟨g,0,none⟩) n cap∧n≤cap∧cap≤maxLen∧cur.size=cap * size∧cur.toList.take (n * size)=xs∧H=[⟨g,e,cur⟩])
section
variable {w0 w w':World} {H0 H R:List HB} {e:TypeId} {size n:Nat} {v:Value} {xs:List Value}
theorem RowH.nil (e:TypeId) (size:Nat):RowH e size (.slice none 0 0) 0 [] []:=⟨by simp,.inl ⟨rfl,rfl,rfl⟩⟩
theorem RowH.slice (h:RowH e size v n xs H):∃ a c,v=.slice a n c:=by
 rcases h.2 with ⟨rfl,rfl,-⟩ | ⟨g,cap,cur,rfl,-⟩
 ·exact ⟨none,0,rfl⟩
 ·exact ⟨_,cap,rfl⟩
theorem RowH.form (h:RowH e size v n xs H) (hn:0<n):∃ g cap cur,v=.slice (some ⟨g,0,none⟩) n cap∧n≤cap∧cap≤maxLen∧cur.size=cap * size∧cur.toList.take (n * size)=xs∧H=[⟨g,e,cur⟩]:=by
 rcases h.2 with ⟨-,rfl,-⟩ | h
 ·omega
 ·exact h
theorem RowH.new (e:TypeId) (g n:Nat) (arr:Array Value) (hs:arr.size=n * size) (hm:n≤maxLen):RowH e size (.slice (some ⟨g,0,none⟩) n n) n arr.toList [⟨g,e,arr⟩] :=
 ⟨by simpa using hs,.inr ⟨g,n,arr,rfl,Nat.le_refl _,hm,hs,by rw [← hs,← Array.length_toList,List.take_length],rfl⟩⟩
theorem RowH.owns (h:RowH e size v n xs H) (hs:Sat w H) {B:Nat} (hB:∀ g∈keys H,B≤g):w.ownsRow B e size v n xs:=by
 refine ⟨h.1,?_⟩
 rcases h.2 with ⟨rfl,rfl,-⟩ | ⟨g,cap,cur,rfl,h1,h2,h3,h4,rfl⟩
 ·exact .inl ⟨rfl,rfl⟩
 ·exact .inr ⟨g,cap,cur,rfl,hB g (by simp [keys]),hs.mem List.mem_cons_self,h1,h2,h3,h4⟩
theorem RowH.block (h:RowH e size v n xs H) {k:Nat} (hk:v.ownBlock=some k):k∈keys H:=by
 rcases h.2 with ⟨rfl,rfl,-⟩ | ⟨g,cap,cur,rfl,h1,h2,h3,h4,rfl⟩
 ·simp [Value.ownBlock] at hk
 ·simp [Value.ownBlock] at hk;simp [keys,hk]
theorem RowH.of_owns {B:Nat} (h:w.ownsRow B e size v n xs):∃ H,RowH e size v n xs H∧Sat w H∧∀ g∈keys H,B≤g∧v.ownBlock=some g:=by
 obtain ⟨h1,h2⟩:=h
 rcases h2 with ⟨rfl,rfl⟩ | ⟨g,cap,cur,rfl,hb,hg,hn,hc,hs,ht⟩
 ·exact ⟨[],⟨h1,.inl ⟨rfl,rfl,rfl⟩⟩,Sat.nil w,fun g hg=>by cases hg⟩
 ·exact ⟨[⟨g,e,cur⟩],⟨h1,.inr ⟨g,cap,cur,rfl,hn,hc,hs,ht,rfl⟩⟩,⟨by simp [keys],fun b h=>by simp only [List.mem_singleton] at h;subst h;exact hg⟩,fun k hk=>by simp [keys] at hk;subst hk;exact ⟨hb,rfl⟩⟩
theorem mv_owns_grown (h:RowH e size v n xs H) {v':Value} {n':Nat} {xs':List Value} (h':w'.ownsRow 0 e size v' n' xs') (hg:w.grownBy w' v.ownBlock) (hat:v'.ownBlock=v.ownBlock∨v'.ownBlock=some w.heap.size) :
  ∃ H',RowH e size v' n' xs' H'∧Mv w H w' H':=by
 obtain ⟨H',h1,h2,h3⟩:=RowH.of_owns h'
 refine ⟨H',h1,h2,Only.grown hg fun k hk=>h.block hk,fun g hgk=>?_⟩
 have:=(h3 g hgk).2
 rcases hat with e | e
 ·exact .inl (h.block (by rw [← e,this]))
 ·rw [this] at e
  cases e
  exact .inr (Nat.le_refl _)
theorem RowH.set (h:RowH e size v n xs H) (hs:Sat w H) {g c:Nat} (hv:v=.slice (some ⟨g,0,none⟩) n c) (i:Nat) (u:Value) (_hi:i<n * size) :
  ∃ H',RowH e size v n (xs.set i u) H'∧Mv w H (w.setCell ⟨g,i,none⟩ u) H':=by
 have h1:=h.1
 rcases h.2 with ⟨h2,-,-⟩ | ⟨g',cap,cur,rfl,k1,k2,k3,k4,rfl⟩
 ·rw [hv] at h2;cases h2
 ·cases hv
  refine ⟨[⟨g,e,cur.setIfInBounds i u⟩],⟨by simpa using h1,.inr ⟨g,_,_,rfl,k1,k2,by simpa using k3,?_,rfl⟩⟩,mv_set (hs.mem List.mem_cons_self) i u⟩
  rw [Array.toList_setIfInBounds,List.take_set,k4]
theorem RowH.cell (h:RowH e size v n xs H) (hs:Sat w H) {g c:Nat} (hv:v=.slice (some ⟨g,0,none⟩) n c) (i:Nat) (hi:i<n * size):w.cell? ⟨g,i,none⟩=xs[i]?∧w.frozen? ⟨g,i,none⟩=false:=by
 rcases h.2 with ⟨h2,-,-⟩ | ⟨g',cap,cur,rfl,k1,k2,k3,k4,rfl⟩
 ·rw [hv] at h2;cases h2
 ·cases hv
  have hb:Blk w g e cur:=hs.mem List.mem_cons_self
  refine ⟨?_,hb.frozen i⟩
  rw [hb.cell i,← k4,List.getElem?_take,if_pos hi,Array.getElem?_toList]
end
end
section
open Go.RowKit
theorem infoU8:(Tryz.prog.info? 5).map (fun i=>(i.zero,i.size,i.bytes))=some (some (.int .u8 0),1,1):=by kernel_rfl
def RowB (v:Value) (l:List UInt8) (H:List HB):Prop:=RowH 5 1 v l.length (cellsB l) H
theorem RowB.slice {v:Value} {l:List UInt8} {H:List HB} (h:RowB v l H):∃ a c,v=.slice a l.length c:=RowH.slice h
theorem RowB.lit (g:Nat) (l:List UInt8) (n:Nat) (hn:n=l.length) (hm:n≤maxLen):RowB (.slice (some ⟨g,0,none⟩) n n) l [⟨g,5,(cellsB l).toArray⟩]:=by
 subst hn
 have:=RowH.new 5 g l.length (cellsB l).toArray (size:=1) (by simp [cellsB]) hm
 simpa [RowB] using this
theorem RowB.bv {w:World} {v:Value} {l:List UInt8} {H:List HB} (h:RowB v l H) (hs:Sat w H):BV w v l:=BV.of_owns (RowH.owns h hs (B:=0) (fun _ _=>Nat.zero_le _))
theorem RowB.last {w:World} {v:Value} {l:List UInt8} {H:List HB} (h:RowB v l H) (hs:Sat w H) (hl:0<l.length) :
  ∃ g c,v=.slice (some ⟨g,0,none⟩) l.length c∧w.cell? ⟨g,l.length - 1,none⟩=some (.int .u8 ((l.getLastD 0).toNat:Int))∧w.frozen? ⟨g,l.length - 1,none⟩=false:=by
 obtain ⟨g,cap,cur,rfl,-⟩:=RowH.form h hl
 obtain ⟨h1,h2⟩:=RowH.cell h hs rfl (l.length - 1) (by omega)
 refine ⟨g,cap,rfl,?_,h2⟩
 rw [h1]
 refine cellsB_get l _ _ ?_
 rw [List.getLastD_eq_getLast?,List.getLast?_eq_getElem?,List.getElem?_eq_getElem (by omega)]
 rfl
theorem RowB.at_last {w:World} {g c n:Nat} {l:List UInt8} {H:List HB} (h:RowB (.slice (some ⟨g,0,none⟩) n c) l H) (hs:Sat w H) (hn:l.length=n) (hl:0<n) :
  w.cell? ⟨g,n - 1,none⟩=some (.int .u8 ((l.getLastD 0).toNat:Int))∧w.frozen? ⟨g,n - 1,none⟩=false:=by
 subst hn
 obtain ⟨g',c',e,h1,h2⟩:=h.last hs hl
 cases e
 exact ⟨h1,h2⟩
theorem RowB.len {g:Option Addr} {c n:Nat} {l:List UInt8} {H:List HB} (h:RowB (.slice g n c) l H):n=l.length:=by
 obtain ⟨a,c',e⟩:=h.slice
 cases e
 rfl
theorem RowB.set_last {w:World} {g c:Nat} {l:List UInt8} {H:List HB} (h:RowB (.slice (some ⟨g,0,none⟩) l.length c) l H) (hs:Sat w H) (hl:0<l.length) (x:UInt8) :
  ∃ H',RowB (.slice (some ⟨g,0,none⟩) l.length c) (l.dropLast++[x]) H'∧Mv w H (w.setCell ⟨g,l.length - 1,none⟩ (.int .u8 (x.toNat:Int))) H':=by
 obtain ⟨H',h1,h2⟩:=RowH.set h hs rfl (l.length - 1) (.int .u8 (x.toNat:Int)) (by omega)
 refine ⟨H',?_,h2⟩
 have e2:(cellsB l).set (l.length - 1) (.int .u8 (x.toNat:Int))=cellsB (l.dropLast++[x]):=by
  have hl2:l=l.dropLast++[l.getLast (List.ne_nil_of_length_pos hl)]:=(List.dropLast_concat_getLast _).symm
  generalize l.getLast (List.ne_nil_of_length_pos hl)=y at hl2
  have e3:l.length - 1=l.dropLast.length:=by simp
  rw [e3]
  conv=>lhs;rw [hl2]
  simp only [cellsB,List.map_append]
  rw [List.set_append_right _ _ (by simp)]
  simp
 rw [e2] at h1
 have e1:(l.dropLast++[x]).length=l.length:=by simp;omega
 unfold RowB
 rw [e1]
 exact h1
theorem run_app {w:World} {v u:Value} {l r:List UInt8} {H:List HB} (h:RowB v l H) (hs:Sat w H) (hu:BV w u r) (hl:l.length+r.length≤100000000) (ty:TypeId) :
  ∃ v' w' H',(Builtin.append_ #[30,30] ty #[v,u]).run Tryz.prog w=.ok v' w'∧RowB v' (l++r) H'∧Mv w H w' H':=by
 obtain ⟨A,c,rfl,h1,h2,h3⟩:=hu
 obtain ⟨i0,hti,hz0,hz1,hz2⟩:=info_parts infoU8
 obtain ⟨v',w',hrun,k1,k2,k3⟩:=run_append_any (P:=Tryz.prog) w 0 30 ty 5 i0 (.int .u8 0) 1 1 Tryz.underlying30 hti hz0 hz1 hz2 rfl (by decide) v l.length (cellsB l) (RowH.owns h hs (fun _ _=>Nat.zero_le _)) w.heap.size A r.length c (cellsB r) h3 (cellsB_one r) (by unfold maxLen;omega) (by omega) (Nat.zero_le _)
 obtain ⟨H',k4,k5⟩:=mv_owns_grown h k1 k2 k3
 refine ⟨v',w',H',hrun,?_,k5⟩
 unfold RowB
 rw [List.length_append,cellsB_append]
 exact k4
section
variable {ops:Array Oper} {rest:List Oper} {o:Oper} {a:Act} {w:World} {K:Act→World→Prop} {Q:Exit→Act→World→Prop} {E:Prop}
theorem wp_app (s x:Operand) (ho:o.op=.call { callee:=.builtin .append,args:=#[s,x],argTypes:=#[30,30] }) (v u:Value) (l r:List UInt8) (H:List HB)
  (hsv:a.eval s=v) (hxu:a.eval x=u) (h:RowB v l H) (hs:Sat w H) (hu:BV w u r) (hl:l.length+r.length≤100000000)
  (hK:∀ v' w' H',RowB v' (l++r) H'→Mv w H w' H'→K (a.put o.dst v') w'):o.wp Tryz.prog a w K Q:=by
 obtain ⟨v',w',H',hrun,h1,h2⟩:=run_app h hs hu hl o.type
 unfold Oper.wp execOp
 simp only [ho,resolve,invoke,builtin,Sem.run_bind,Sem.run_pure,Result.andThen_ok,List.map_toArray,List.map_cons,List.map_nil,hsv,hxu,hrun]
 exact hK v' w' H' h1 h2
theorem wpList_appB (hgd:o.guard=none) (s x:Operand) (ho:o.op=.call { callee:=.builtin .append,args:=#[s,x],argTypes:=#[30,30] }) (v u:Value) (l r:List UInt8) (H:List HB)
  (hsv:a.eval s=v) (hxu:a.eval x=u) (h:RowB v l H) (hs:Sat w H) (hu:BV w u r) (hl:l.length+r.length≤100000000)
  (hK:∀ v' w' H',RowB v' (l++r) H'→Mv w H w' H'→wpList Tryz.prog ops Q rest (a.put o.dst v') w'):wpList Tryz.prog ops Q (o::rest) a w :=
 wpList_plain hgd fun _ hk=>wp_app s x ho v u l r H hsv hxu h hs hu hl fun v' w' H' h1 h2=>hk _ _ (hK v' w' H' h1 h2)
theorem step_appB (hgd:o.guard=none) (s x:Operand) (ho:o.op=.call { callee:=.builtin .append,args:=#[s,x],argTypes:=#[30,30] }) (v u:Value) (l r:List UInt8) (H:List HB)
  (hsv:a.eval s=v) (hxu:a.eval x=u) (h:RowB v l H) (hs:Sat w H) (hu:BV w u r) (hl:l.length+r.length≤100000000)
  (hK:∀ v' w' H',RowB v' (l++r) H'→Mv w H w' H'→K (a.put o.dst v') w'):if Region.wanted o (yielded ops a.tmps)=true then Oper.wp Tryz.prog o a w K Q else E:=by
 have hw:Region.wanted o (yielded ops a.tmps)=true:=by simp [Region.wanted,hgd]
 rw [if_pos hw]
 exact wp_app s x ho v u l r H hsv hxu h hs hu hl hK
end
theorem bv_one (w:World) (x:UInt8) (g:Nat) (hg:g=w.heap.size):BV (w.alloc (.cells #[.int .u8 (x.toNat:Int)] 5)) (.slice (some ⟨g,0,none⟩) 1 1) [x]:=by
 subst hg
 have h:=RowB.lit w.heap.size [x] 1 rfl (by decide)
 exact h.bv (mv_alloc w 5 _).sat
end
section
open Go.RowKit Go.Shelf
attribute [local go_sem] Oper.semAt_some
structure BandA where
 bb:Nat
 lb:Nat
 n:Nat
structure SpotX where
 d:BandA
 k:Nat
def SpotX.v (x:SpotX):Value:=.agg #[.pointer (some ⟨x.d.lb,x.k * 5,none⟩),.pointer (some ⟨x.d.bb,0,none⟩),.int .i64 (x.k:Int)]
def spotsB (d:BandA) (k:Nat):List SpotX:=(List.range k).map fun j=>⟨d,j⟩
def spotsOf (D:List BandA):List SpotX:=D.flatMap fun d=>spotsB d d.n
def SpR (W:World) (box:Nat) (A:Option Addr) (c:Nat) (D:List BandA):Prop :=
 W.cell? ⟨box,0,none⟩=some (.slice A D.length c) ∧
 (∀ j d,D[j]?=some d→∃ ga,A=some ⟨ga,0,none⟩∧W.cell? ⟨ga,j,none⟩=some (.pointer (some ⟨d.bb,0,none⟩))) ∧
 (∀ d∈D,W.cell? ⟨d.bb,0,none⟩=some (.slice (some ⟨d.lb,0,none⟩) d.n d.n))
theorem spotsB_succ (d:BandA) (k:Nat):spotsB d (k+1)=spotsB d k++[⟨d,k⟩]:=by simp [spotsB,List.range_succ]
theorem spotsOf_snoc (D:List BandA) (i:Nat) (d:BandA) (h:D[i]?=some d):spotsOf (D.take (i+1))=spotsOf (D.take i)++spotsB d d.n:=by
 rw [List.take_add_one,h]
 simp [spotsOf]
theorem spotsB_prefix (d:BandA) (k:Nat) (h:k≤d.n):spotsB d k <+: spotsB d d.n:=by
 refine ⟨(List.range' k (d.n - k)).map fun j=>⟨d,j⟩,?_⟩
 unfold spotsB
 rw [← List.map_append]
 congr 1
 apply List.ext_getElem
 ·simp;omega
 ·intro i h1 h2
  by_cases hi:i<k
  ·rw [List.getElem_append_left (by simpa using hi)];simp
  ·rw [List.getElem_append_right (by simp;omega)];simp;omega
theorem spots_prefix (D:List BandA) (i:Nat) (d:BandA) (h:D[i]?=some d) (k:Nat) (hk:k≤d.n):spotsOf (D.take i)++spotsB d k <+: spotsOf D:=by
 obtain ⟨t,ht⟩:=spotsB_prefix d k hk
 obtain ⟨hi,hd⟩:=List.getElem?_eq_some_iff.1 h
 have e:D=D.take i++d::D.drop (i+1):=by rw [← hd];simp
 refine ⟨t++spotsOf (D.drop (i+1)),?_⟩
 conv=>rhs;rw [e]
 rw [show spotsOf (D.take i++d::D.drop (i+1))=spotsOf (D.take i)++(spotsB d d.n++spotsOf (D.drop (i+1))) from by simp [spotsOf],← ht]
 simp
theorem spots1_in (F:Fence) (n:Nat) (h7:F.fn 68) (hro:F.round=none) (hn:1≤n) (l box c:Nat) (A:Option Addr) (D:List BandA) (hD:D.length≤100000) (hDn:∀ d∈D,d.n≤100000) (J Jx:List SpotX→World→Prop)
  (hY:∀ pre x W,J pre W→x∈spotsOf D→pre.length<(spotsOf D).length→YieldAt F (n - 1) Tryz.prog l #[x.v] W fun e W' =>
   (e=.returned (.bool true)∧J (pre++[x]) W'∧(SpR W box A c D→SpR W' box A c D))∨(e=.returned (.bool false)∧Jx (pre++[x]) W'))
  (W:World) (hR:SpR W box A c D) (h0:J [] W) :
  CallsIn F n Tryz.prog 68 #[.func (.yield l) #[] #[],.pointer (some ⟨box,0,none⟩)] W fun e W'=>(∃ v,e=.returned v) ∧
   ((∃ ys,ys=spotsOf D∧J ys W')∨(∃ pre,pre <+: spotsOf D∧Jx pre W')):=by
 refine callsIn_of_wp Tryz.func68 rfl h7 ?_ hro
 simp only [Tryz.ntmps68,List.size_toArray,List.length_cons,List.length_nil,Nat.reduceAdd,Nat.reduceSub,Array.replicate_succ,Array.replicate_zero,List.push_toArray,List.append_toArray,List.nil_append,List.cons_append]
 have c0:=hR.1
 have KR:=Lib.hid hR
 clear hR
 gi_wp2
 gi_loopw [4,8,18] (fun _ s8 _ wr=>∃ i:Nat,i≤D.length∧s8=.int .i64 (i:Int)∧J (spotsOf (D.take i)) wr∧SpR wr box A c D) (fun _ s8 _ _=>D.length - (intOf s8).toNat)
 case atStart=>exact ⟨0,Nat.zero_le _,rfl,by simpa [spotsOf] using h0,KR.out⟩
 case round =>
  obtain ⟨i,hi,rfl,hJ,hr⟩:=hrel
  by_cases hlt:i<D.length
  ·obtain ⟨d,hd⟩:∃ d,D[i]?=some d:=⟨_,List.getElem?_eq_getElem hlt⟩
   obtain ⟨ga,rfl,e1⟩:=hr.2.1 i d hd
   have hmem:d∈D:=List.mem_of_getElem? hd
   have e2:=hr.2.2 d hmem
   have hdn:=hDn d hmem
   have hii:(i:Int)<(D.length:Int):=by omega
   have KI:=Lib.hid (And.intro hd (And.intro hJ (And.intro hr hmem)))
   clear hd hJ hr hmem
   gi_wp2
   gi_loopw [5,18] (fun _ s18 wx=>∃ k:Nat,k≤d.n∧s18=.int .i64 (k:Int)∧J (spotsOf (D.take i)++spotsB d k) wx∧SpR wx box (some ⟨ga,0,none⟩) c D) (fun _ s18 _=>d.n - (intOf s18).toNat)
   case atStart=>exact ⟨0,Nat.zero_le _,rfl,by simpa [spotsB] using KI.out.2.1,KI.out.2.2.1⟩
   case round =>
    obtain ⟨k,hk,rfl,hJ,hr⟩:=hrel
    have e2:=hr.2.2 d KI.out.2.2.2
    by_cases hlk:k<d.n
    ·have hkk:(k:Int)<(d.n:Int):=by omega
     have hpl:(spotsOf (D.take i)++spotsB d k).length<(spotsOf D).length:=by
      have h1:=(spots_prefix D i d KI.out.1 (k+1) (by omega)).length_le
      rw [spotsB_succ,← List.append_assoc,List.length_append] at h1
      simp at h1 ⊢
      omega
     have hme:(⟨d,k⟩:SpotX)∈spotsOf D:=(spots_prefix D i d KI.out.1 (k+1) (by omega)).subset (by rw [spotsB_succ];simp)
     obtain ⟨fn,tmps,assign,body,hy,hR⟩:=hY _ ⟨d,k⟩ wr hJ hme hpl
     simp only [SpotX.v] at hy
     have KK:=Lib.hid (And.intro hJ hr)
     clear hJ hr
     gi_wp2
     refine hR.mono ?_
     rintro e W3 (⟨rfl,hJ3,hk3⟩ | ⟨rfl,hJx3⟩)
     ·gi_wp2
      go_roundw
      case rel=>exact ⟨k+1,by omega,by simp,by rw [spotsB_succ,← List.append_assoc];exact hJ3,hk3 KK.out.2⟩
      case measure=>simp [intOf];omega
     ·gi_wp2
      refine bodyPost_ret (results_none rfl _ _ _) rfl ?_
      have hp:=spots_prefix D i d KI.out.1 (k+1) (by omega)
      rw [spotsB_succ,← List.append_assoc] at hp
      exact ⟨⟨_,rfl⟩,.inr ⟨_,hp,hJx3⟩⟩
    ·obtain rfl:k=d.n:=by omega
     have KK:=Lib.hid (And.intro hJ hr)
     clear hJ hr
     gi_wp2
     go_roundw
     case rel=>exact ⟨i+1,by omega,by simp,by rw [spotsOf_snoc D i d KI.out.1];exact KK.out.1,KK.out.2⟩
     case measure=>simp [intOf];omega
  ·obtain rfl:i=D.length:=by omega
   gi_wp2
   go_end0
   exact ⟨⟨_,rfl⟩,.inl ⟨_,rfl,by rw [List.take_length] at hJ;exact hJ⟩⟩
theorem SpR.below {W W':World} {box c:Nat} {A:Option Addr} {D:List BandA} (h:SpR W box A c D) (hb:Below W.heap.size W W'):SpR W' box A c D:=by
 have key:∀ (p:Addr) (v:Value),W.cell? p=some v→W'.cell? p=some v:=fun p v hv=>(hb.cell (World.block_lt_of_cell? W p hv)).trans hv
 refine ⟨key _ _ h.1,fun j d hd=>?_,fun d hd=>key _ _ (h.2.2 d hd)⟩
 obtain ⟨ga,e,hc⟩:=h.2.1 j d hd
 exact ⟨ga,e,key _ _ hc⟩
abbrev SpotIn (D:List BandA):={ x:SpotX // x∈spotsOf D }
theorem spots_stops (n:Nat) (hn:1≤n) (box c:Nat) (A:Option Addr) (D:List BandA) (hD:D.length≤100000) (hDn:∀ d∈D,d.n≤100000) (w:World) (hR:SpR w box A c D) :
  SeqStopsK Fence.wide n Tryz.prog 68 #[.pointer (some ⟨box,0,none⟩)] (fun x:SpotIn D=>#[x.1.v]) (fun W W'=>SpR W box A c D→SpR W' box A c D) (fun ys=>ys.map (·.1)=spotsOf D) (fun pre=>pre.map (·.1) <+: spotsOf D) (spotsOf D).length w:=by
 intro l J Jx W hW _ _ hY h0
 refine (spots1_in Fence.wide n trivial rfl hn l box c A D hD hDn (fun pre W=>∃ pre':List (SpotIn D),pre'.map (·.1)=pre∧J pre' W) (fun pre W=>∃ pre':List (SpotIn D),pre'.map (·.1)=pre∧Jx pre' W) ?_ W (hR.below hW) ⟨[],rfl,h0⟩).mono ?_
 ·rintro pre x W1 ⟨pre',rfl,hJ⟩ hx hlen
  obtain ⟨fn,tmps,assign,body,hy,hr⟩:=hY pre' ⟨x,hx⟩ W1 hJ (by simpa using hlen)
  refine ⟨fn,tmps,assign,body,hy,hr.mono ?_⟩
  rintro e W' (⟨rfl,h1,h2⟩ | ⟨rfl,h1⟩)
  ·exact .inl ⟨rfl,⟨_,by simp,h1⟩,h2⟩
  ·exact .inr ⟨rfl,_,by simp,h1⟩
 ·rintro e W' ⟨hv,⟨ys,rfl,ys',h1,h2⟩ | ⟨pre,hp,pre',h1,h2⟩⟩
  ·exact ⟨hv,.inl ⟨ys',h1,h2⟩⟩
  ·exact ⟨hv,.inr ⟨pre',by show List.map (fun x=>x.1) pre' <+: spotsOf D;rw [h1];exact hp,h2⟩⟩
end
section
open Go.RowKit Go.Shelf
def SpotX.cells (x:SpotX):Array Value:=#[.pointer (some ⟨x.d.lb,x.k * 5,none⟩),.pointer (some ⟨x.d.bb,0,none⟩),.int .i64 (x.k:Int)]
theorem Sat.notCells {w:World} {H:List HB} (h:Sat w H) {g:Nat} (hg:g∈keys H) {o:Obj} (ho:w.heap[g]?=some o) (hc:o.isCells=false):False:=by
 obtain ⟨b,hb,rfl⟩:=List.mem_map.1 hg
 have h1:=h.2 b hb
 unfold Blk at h1
 rw [ho] at h1
 cases h1
 cases hc
theorem Mv.grown {w0 w w':World} {H0 H:List HB} (h:Mv w0 H0 w H) {row:Option Nat} (hg:w.grownBy w' row) (hr:∀ r,row=some r→w0.heap.size≤r∧∃ o:Obj,w.heap[r]?=some o∧o.isCells=false):Mv w0 H0 w' H:=by
 refine ⟨⟨h.sat.1,fun b hb=>?_⟩,⟨hg.os.trans h.only.os,hg.tape.trans h.only.tape,hg.output.trans h.only.output,Nat.le_trans h.only.size hg.size,fun k hk hn=>?_⟩,h.new⟩
 ·have hl:=(h.sat.2 b hb).lt
  refine (hg.block _ hl fun e=>?_).trans (h.sat.2 b hb)
  obtain ⟨-,o,ho,hc⟩:=hr _ e.symm
  exact h.sat.notCells (mem_keys hb) ho hc
 ·refine (hg.block k (Nat.lt_of_lt_of_le hk h.only.size) fun e=>?_).trans (h.only.block k hk hn)
  have:=(hr _ e.symm).1
  omega
theorem Mv.putObj {w0 w:World} {H0 H:List HB} (h:Mv w0 H0 w H) {l:Nat} {o:Obj} (o':Obj) (hB:w0.heap.size≤l) (hl:w.heap[l]?=some o) (ho:o.isCells=false):Mv w0 H0 (w.putObj l o') H :=
 h.grown (grownBy_putObj' w l o') (fun r e=>by cases e;exact ⟨hB,o,hl,ho⟩)
theorem mv_ownFrom {β:Type} {w0:World} {H0:List HB} (P:β→List HB→Prop) {B:Nat} (hB:w0.heap.size≤B):OwnFrom B (fun s W=>∃ H,P s H∧Mv w0 H0 W H):=by
 rintro s W W' row ⟨H,hP,hM⟩ hg hr
 exact ⟨H,hP,hM.grown hg fun r e=>⟨Nat.le_trans hB (hr r e).1,(hr r e).2⟩⟩
theorem Mv.keepsFrom {w w':World} {H H':List HB} (h:Mv w H w' H') (hs:Sat w H) (B:Nat):KeepsFrom B w w' :=
 ⟨h.only.size,fun k o _ hk ho=>h.others hs k o hk (fun c t f e=>by subst e;cases ho)⟩
theorem blk_ownFrom {β:Type} (B g:Nat) (t:TypeId) (cs:Array Value):OwnFrom B (fun (_:β) W=>Blk W g t cs):=by
 intro s W W' row hs hg hr
 refine (hg.block _ hs.lt fun e=>?_).trans hs
 obtain ⟨-,o,ho,hc⟩:=hr _ e.symm
 unfold Blk at hs
 rw [hs] at ho
 cases ho
 cases hc
theorem SpR.put {box c:Nat} {A:Option Addr} {D:List BandA} (W:World) (l:Nat) (o o':Obj) (hl:W.heap[l]?=some o) (ho:o.isCells=false) (h:SpR W box A c D):SpR (W.putObj l o') box A c D:=by
 have key:∀ (p:Addr) (v:Value),W.cell? p=some v→(W.putObj l o').cell? p=some v:=fun p v hv=>(cell_kept hv (grownBy_putObj' W l o') (fun r e=>by cases e;exact ⟨o,hl,ho⟩))
 refine ⟨key _ _ h.1,fun j d hd=>?_,fun d hd=>key _ _ (h.2.2 d hd)⟩
 obtain ⟨ga,e,hc⟩:=h.2.1 j d hd
 exact ⟨ga,e,key _ _ hc⟩
def spPost {D:List BandA} (w0:World) (H0:List HB) (P:List (SpotIn D)→List HB→Prop) (PX:List (SpotIn D)→List HB→Prop) (pre:List (SpotIn D)):Exit→Act→World→Prop
 | .normal,_,W'=>∃ H',P pre H'∧Mv w0 H0 W' H'
 | .ret,_,W'=>∃ H',PX pre H'∧Mv w0 H0 W' H'
 | _,_,_=>False
theorem range_spots {n:Nat} (hn:3≤n) {g:Operand} {ps:Array Tmp} {assign body:Code} {Q:Exit→Act→World→Prop} {a:Act} {w:World} (w0:World) (H0:List HB) (hsz:w0.heap.size≤w.heap.size)
  {box c:Nat} {A:Option Addr} {D:List BandA} (hg:a.eval g=.func (.func 68) #[] #[.pointer (some ⟨box,0,none⟩)]) (hps:ps.size=1) (hD:D.length≤100000) (hDn:∀ d∈D,d.n≤100000)
  (P PX:List (SpotIn D)→List HB→Prop) (hP:∀ pre H W,P pre H→Sat W H→SpR W box A c D) (hT:∀ pre H,P pre H→∀ b∈H,b.t≠66)
  (h0:∃ H,P [] H∧Mv w0 H0 w H) (a₁:SpotIn D→Nat→Act)
  (hassign:∀ (l:Nat) (x:SpotIn D) (W:World) (K:Act→World→Prop),K (a₁ x W.heap.size) (W.alloc (.cells x.1.cells 66)) →
   assign.wpIn (Fence.wide.inRound l) (n - 1 - 1) Tryz.prog (Exit.then K (fun _ _ _=>False)) { tmps:=(ps.zip #[x.1.v]).foldl (fun t (p,v)=>t.setIfInBounds p v) a.tmps,defers:=[] } W)
  (hbody:∀ (l:Nat) (pre:List (SpotIn D)) (x:SpotIn D) (B:Nat) (W:World) (H:List HB),(∃ r,W.heap[l]?=some (.loop r))→P pre H→Sat W (⟨B,66,x.1.cells⟩::H)→pre.length<(spotsOf D).length →
   body.wpIn (Fence.wide.inRound l) (n - 1 - 1) Tryz.prog (spPost W (⟨B,66,x.1.cells⟩::H) P PX (pre++[x])) (a₁ x B) W)
  (hdone:∀ (K:Nat) (ys:List (SpotIn D)) (W:World) (H:List HB),w0.heap.size≤K→ys.map (·.1)=spotsOf D→P ys H→Mv w0 H0 W H→W.heap[K]?=some (.deferred (some []))→Q .normal { a with defers:={ target:=.collected K,args:=#[] }::a.defers } W)
  (hstop:∀ (K:Nat) (pre:List (SpotIn D)) (W:World) (H:List HB),w0.heap.size≤K→pre.map (·.1) <+: spotsOf D→PX pre H→Mv w0 H0 W H→W.heap[K]?=some (.deferred (some []))→Code.ret.wpIn Fence.wide n Tryz.prog Q { a with defers:={ target:=.collected K,args:=#[] }::a.defers } W) :
  (Code.rangeFunc g ps assign body).wpIn Fence.wide n Tryz.prog Q a w:=by
 obtain ⟨Hi,hPi,hMi⟩:=h0
 refine wpIn_rangeFunc_ownH (F:=Fence.wide) rfl (by omega) hg trivial (enters_of Tryz.func68 (by kernel_rfl) rfl) (spots_stops (n - 1) (by omega) box c A D hD hDn w (hP _ _ _ hPi hMi.sat))
  (fun {X Y Z} h k s=>k (h s)) (fun W l o o' _ hl ho _ hs=>SpR.put W l o o' hl ho hs) (Below.refl _ _) (fun _=>by simpa using hps.symm)
  (fun pre W=>∃ H,P pre H∧Mv w0 H0 W H) (fun c pre W=>c=.ret∧∃ H,PX pre H∧Mv w0 H0 W H) (mv_ownFrom P hsz) (fun c=>OwnFrom.and (ownFrom_pure _ (fun _=>c=.ret)) (mv_ownFrom PX hsz)) ⟨Hi,hPi,hMi⟩
  (fun x a' W=>∃ B,w0.heap.size≤B∧Blk W B 66 x.1.cells∧a'=a₁ x B) (fun x a'=>?_) ?_ ?_ ?_ ?_
 ·rintro s W W' row ⟨B,h1,h2,h3⟩ hgr hr
  exact ⟨B,h1,blk_ownFrom (β:=Unit) _ B _ _ () W W' row h2 hgr hr,h3⟩
 ·rintro l pre x W K ⟨H,hPp,hM⟩ hK
  refine hassign l x W K (hK _ _ ((KeepsOthers.alloc _ _).from _) (fun hs=>hs.below ((Below.refl _ W).alloc (Nat.le_refl _) _)) ⟨H,hPp,?_⟩ ⟨W.heap.size,hM.only.size,Blk.new _ _ _,rfl⟩)
  exact (hM.alloc 66 x.1.cells).drop1
 ·rintro l pre x a' W hl hr ⟨H,hPp,hM⟩ ⟨B,hB,hBl,rfl⟩ hlen
  have hne:B ∉ keys H:=fun e=>by
   obtain ⟨b,hb,rfl⟩:=List.mem_map.1 e
   have h1:=hM.sat.2 b hb
   unfold Blk at h1 hBl
   rw [h1] at hBl
   have:=hT _ _ hPp b hb
   simp only [Option.some.injEq,Obj.cells.injEq] at hBl
   exact this hBl.2.1
  have hM1:Mv w0 H0 W (⟨B,66,x.1.cells⟩::H):=⟨⟨by rw [keys_cons];exact List.nodup_cons.2 ⟨hne,hM.sat.1⟩,fun b hb=>by
   rcases List.mem_cons.1 hb with rfl | hb
   ·exact hBl
   ·exact hM.sat.2 b hb⟩,hM.only,fun k hk=>by
   rw [keys_cons] at hk
   rcases List.mem_cons.1 hk with rfl | hk
   ·exact .inr hB
   ·exact hM.new k hk⟩
  refine wpIn_mono (hbody l pre x B W H hr hPp hM1.sat hlen) ?_
  rintro e a3 W3 hp
  cases e with
  | normal =>
   obtain ⟨H',h1,h2⟩:=hp
   exact ⟨h2.keepsFrom hM1.sat _,fun _=>hP _ _ _ h1 h2.sat,H',h1,hM1.trans h2⟩
  | ret =>
   obtain ⟨H',h1,h2⟩:=hp
   exact ⟨h2.keepsFrom hM1.sat _,rfl,H',h1,hM1.trans h2⟩
  | exit id=>exact hp.elim
  | goto t=>exact hp.elim
  | panic ch=>exact hp.elim
  | outgrown=>exact hp.elim
 ·rintro K ys W hK hS ⟨H,h1,h2⟩ hk
  exact hdone K ys W H (by omega) hS h1 h2 hk
 ·rintro K c pre W hK hS ⟨rfl,H,h1,h2⟩ hk
  exact hstop K pre W H (by omega) hS h1 h2 hk
theorem range_spots1 {n:Nat} (hn:3≤n) {g:Operand} {p:Tmp} (q:Tmp) {assign body:Code} {Q:Exit→Act→World→Prop} {a:Act} {w:World} (w0:World) (H0:List HB) (hsz:w0.heap.size≤w.heap.size)
  {box c:Nat} {A:Option Addr} {D:List BandA} (hg:a.eval g=.func (.func 68) #[] #[.pointer (some ⟨box,0,none⟩)]) (hD:D.length≤100000) (hDn:∀ d∈D,d.n≤100000)
  (P PX:List (SpotIn D)→List HB→Prop) (hP:∀ pre H W,P pre H→Sat W H→SpR W box A c D) (hT:∀ pre H,P pre H→∀ b∈H,b.t≠66)
  (h0:∃ H,P [] H∧Mv w0 H0 w H)
  (hassign:∀ (l:Nat) (x y:Option Addr) (z:Int) (W:World) (K:Act→World→Prop),K { tmps:=(a.tmps.setIfInBounds p (.agg #[.pointer x,.pointer y,.int .i64 z])).setIfInBounds q (.pointer (some ⟨W.heap.size,0,none⟩)),defers:=[] } (W.alloc (.cells #[.pointer x,.pointer y,.int .i64 z] 66)) →
   assign.wpIn (Fence.wide.inRound l) (n - 1 - 1) Tryz.prog (Exit.then K (fun _ _ _=>False)) { tmps:=a.tmps.setIfInBounds p (.agg #[.pointer x,.pointer y,.int .i64 z]),defers:=[] } W)
  (hbody:∀ (l:Nat) (pre:List (SpotIn D)) (x:SpotX) (hx:x∈spotsOf D) (B:Nat) (W:World) (H:List HB),(∃ r,W.heap[l]?=some (.loop r))→P pre H→Sat W (⟨B,66,x.cells⟩::H)→pre.length<(spotsOf D).length →
   body.wpIn (Fence.wide.inRound l) (n - 1 - 1) Tryz.prog (spPost W (⟨B,66,x.cells⟩::H) P PX (pre++[⟨x,hx⟩])) { tmps:=(a.tmps.setIfInBounds p x.v).setIfInBounds q (.pointer (some ⟨B,0,none⟩)),defers:=[] } W)
  (hdone:∀ (K:Nat) (ys:List (SpotIn D)) (W:World) (H:List HB),w0.heap.size≤K→ys.map (·.1)=spotsOf D→P ys H→Mv w0 H0 W H→W.heap[K]?=some (.deferred (some []))→Q .normal { a with defers:={ target:=.collected K,args:=#[] }::a.defers } W)
  (hstop:∀ (K:Nat) (pre:List (SpotIn D)) (W:World) (H:List HB),w0.heap.size≤K→pre.map (·.1) <+: spotsOf D→PX pre H→Mv w0 H0 W H→W.heap[K]?=some (.deferred (some []))→Code.ret.wpIn Fence.wide n Tryz.prog Q { a with defers:={ target:=.collected K,args:=#[] }::a.defers } W) :
  (Code.rangeFunc g #[p] assign body).wpIn Fence.wide n Tryz.prog Q a w :=
 range_spots hn w0 H0 hsz hg rfl hD hDn P PX hP hT h0 (fun x B=>{ tmps:=(a.tmps.setIfInBounds p x.1.v).setIfInBounds q (.pointer (some ⟨B,0,none⟩)),defers:=[] })
  (fun l x W K hK=>by
   have:=hassign l _ _ _ W K hK
   simpa [SpotX.v] using this)
  (fun l pre x B W H hr h1 h2 h3=>hbody l pre x.1 x.2 B W H hr h1 h2 h3) hdone hstop
theorem Mv.setAt {w0 w:World} {H0 A R:List HB} {g:Nat} {t:TypeId} {cs:Array Value} (h:Mv w0 H0 w (A++⟨g,t,cs⟩::R)) (i:Nat) (v:Value):Mv w0 H0 (w.setCell ⟨g,i,none⟩ v) (A++⟨g,t,cs.setIfInBounds i v⟩::R):=by
 have h1:Mv w0 H0 w (⟨g,t,cs⟩::(A++R)):=h.sub (fun k=>by simp only [cnt_append,cnt_cons];omega) (fun b hb=>by simp only [List.mem_append,List.mem_cons] at hb ⊢;grind)
 exact (h1.set i v).sub (fun k=>by simp only [cnt_append,cnt_cons];omega) (fun b hb=>by simp only [List.mem_append,List.mem_cons] at hb ⊢;grind)
end
section
structure NodeM where
 n:Int
 low:Int
 said:Bool
structure LevM where
 w:Nat
 h:Nat
 l:List NodeM
def Dims:List LevM→Prop
 | []=>True
 | [L]=>L.w=1∧L.h=1∧L.l.length=L.w * L.h
 | L::M::T=>1≤L.w∧1≤L.h∧L.l.length=L.w * L.h∧M.w=(L.w+1) / 2∧M.h=(L.h+1) / 2∧Dims (M::T)
theorem Dims.len {T:List LevM} (h:Dims T) {i:Nat} {L:LevM} (hL:T[i]?=some L):L.l.length=L.w * L.h:=by
 induction T generalizing i with
 | nil=>simp at hL
 | cons L0 T ih =>
  cases T with
  | nil =>
   cases i with
   | zero=>simp at hL;subst hL;exact h.2.2
   | succ i=>simp at hL
  | cons M T =>
   cases i with
   | zero=>simp at hL;subst hL;exact h.2.2.1
   | succ i=>exact ih h.2.2.2.2.2 (by simpa using hL)
theorem Dims.at_ {T:List LevM} (h:Dims T) {L0:LevM} {x y:Nat} (h0:T[0]?=some L0) (hx:x<L0.w) (hy:y<L0.h) {i:Nat} {L:LevM} (hL:T[i]?=some L):x / 2 ^ i<L.w∧y / 2 ^ i<L.h:=by
 induction T generalizing i L0 x y with
 | nil=>simp at hL
 | cons K T ih =>
  simp at h0
  subst h0
  cases i with
  | zero=>simp at hL;subst hL;simpa using ⟨hx,hy⟩
  | succ i =>
   cases T with
   | nil=>simp at hL
   | cons M T =>
    obtain ⟨-,-,-,hw,hh,hd⟩:=h
    have:=ih (L0:=M) (x:=x / 2) (y:=y / 2) hd (by simp) (by omega) (by omega) (i:=i) (by simpa using hL)
    rw [Nat.div_div_eq_div_mul,Nat.div_div_eq_div_mul] at this
    rw [Nat.pow_succ,Nat.mul_comm (2 ^ i) 2]
    exact this
theorem place_lt {x y w h:Nat} (hx:x<w) (hy:y<h):y * w+x<w * h:=by
 have:(y+1) * w≤h * w:=Nat.mul_le_mul_right w hy
 rw [Nat.add_mul,Nat.one_mul] at this
 rw [Nat.mul_comm w h]
 omega
end
section
open Go.RowKit
theorem made_flat (z:Array Value) (n:Nat) (_hz:0<z.size):madeCells z (n * z.size)=(List.replicate n z.toList).flatten.toArray:=by
 apply Array.ext'
 unfold madeCells
 rw [Array.toList_map,Array.toList_range]
 simp only []
 induction n with
 | zero=>simp
 | succ n ih =>
  rw [Nat.succ_mul,List.range_add,List.map_append,ih,List.replicate_succ',List.flatten_append]
  congr 1
  rw [List.map_map]
  apply List.ext_getElem
  ·simp
  ·intro i h1 h2
   have hi:i<z.size:=by simpa using h1
   simp only [List.getElem_map,List.getElem_range,Function.comp,List.flatten_cons,List.flatten_nil,List.append_nil,Nat.mul_add_mod_of_lt hi]
   simp [hi]
theorem run_made {P:Program} (t e:TypeId) (i:TypeInfo) (z:Value) (size bytes n:Nat) (ht:P.underlying t=some (.slice e)) (hi:P.info? e=some i) (hz:i.zero=some z) (hs:i.size=size) (hby:i.bytes=bytes) (hzs:z.cells.size=size) (h0:0<size) (hb:bytes * n≤281474976710656) (h63:n≤9223372036854775807) (W:World) :
  (Instr.makeSlice t (.int .i64 (n:Int)) (.int .i64 (n:Int))).run P W=.ok (.slice (some ⟨W.heap.size,0,none⟩) n n) (W.alloc (.cells (List.replicate n z.cells.toList).flatten.toArray e)):=by
 subst hs hby
 have hb2:(i.bytes:Int) * (n:Int)≤281474976710656:=by
  have:((i.bytes * n:Nat):Int)≤281474976710656:=by omega
  rwa [Int.natCast_mul] at this
 have h:=run_make (P:=P) W t e i z ht hi hz .i64 .i64 (n:Int) (n:Int) (by omega) (Int.le_refl _) hb2 (by omega)
 rw [h,Int.toNat_natCast,← hzs,made_flat _ _ (by omega)]
def nodeV (x:NodeM):List Value:=[.int .i64 x.n,.int .i64 x.low,.bool x.said]
def nodesV (l:List NodeM):List Value:=l.flatMap nodeV
theorem nodesV_length (l:List NodeM):(nodesV l).length=3 * l.length:=by
 induction l with
 | nil=>rfl
 | cons x l ih=>simp only [nodesV,List.flatMap_cons,List.length_append] at ih ⊢;rw [ih];simp [nodeV];omega
theorem nodesV_get (l:List NodeM) (i:Nat) (x:NodeM) (h:l[i]?=some x):(nodesV l)[3 * i]?=some (.int .i64 x.n)∧(nodesV l)[3 * i+1]?=some (.int .i64 x.low)∧(nodesV l)[3 * i+2]?=some (.bool x.said):=by
 induction l generalizing i with
 | nil=>simp at h
 | cons y l ih =>
  have e:nodesV (y::l)=[.int .i64 y.n,.int .i64 y.low,.bool y.said]++nodesV l:=by simp [nodesV,nodeV]
  rw [e]
  cases i with
  | zero=>simp at h;subst h;simp
  | succ i =>
   have:=ih i (by simpa using h)
   refine ⟨?_,?_,?_⟩
   ·rw [List.getElem?_append_right (by simp;omega)];simpa [Nat.mul_succ] using this.1
   ·rw [List.getElem?_append_right (by simp;omega)];simpa [Nat.mul_succ,Nat.add_right_comm _ 3 1] using this.2.1
   ·rw [List.getElem?_append_right (by simp;omega)];simpa [Nat.mul_succ,Nat.add_right_comm _ 3 2] using this.2.2
theorem nodesV_set (l:List NodeM) (i:Nat) (x:NodeM) (h:l[i]?=some x) (y:NodeM) :
  (nodesV (l.set i y))=(((nodesV l).set (3 * i) (.int .i64 y.n)).set (3 * i+1) (.int .i64 y.low)).set (3 * i+2) (.bool y.said):=by
 induction l generalizing i with
 | nil=>simp at h
 | cons z l ih =>
  have e:∀ (q:NodeM) (m:List NodeM),nodesV (q::m)=.int .i64 q.n::.int .i64 q.low::.bool q.said::nodesV m:=by intro q m;simp [nodesV,nodeV]
  cases i with
  | zero=>simp [e]
  | succ i =>
   rw [List.set_cons_succ,e,e,ih i (by simpa using h)]
   simp [Nat.mul_succ]
abbrev LvG:=Nat × LevM
def levV (p:LvG):List Value:=[.int .i64 (p.2.w:Int),.int .i64 (p.2.h:Int),.slice (some ⟨p.1,0,none⟩) p.2.l.length p.2.l.length]
def levsV (P:List LvG):List Value:=P.flatMap levV
theorem levsV_get (P:List LvG) (i:Nat) (p:LvG) (h:P[i]?=some p):(levsV P)[3 * i]?=some (.int .i64 (p.2.w:Int))∧(levsV P)[3 * i+1]?=some (.int .i64 (p.2.h:Int))∧(levsV P)[3 * i+2]?=some (.slice (some ⟨p.1,0,none⟩) p.2.l.length p.2.l.length):=by
 induction P generalizing i with
 | nil=>simp at h
 | cons y l ih =>
  have e:levsV (y::l)=[.int .i64 (y.2.w:Int),.int .i64 (y.2.h:Int),.slice (some ⟨y.1,0,none⟩) y.2.l.length y.2.l.length]++levsV l:=by simp [levsV,levV]
  rw [e]
  cases i with
  | zero=>simp at h;subst h;simp
  | succ i =>
   have:=ih i (by simpa using h)
   refine ⟨?_,?_,?_⟩
   ·rw [List.getElem?_append_right (by simp;omega)];simpa [Nat.mul_succ] using this.1
   ·rw [List.getElem?_append_right (by simp;omega)];simpa [Nat.mul_succ,Nat.add_right_comm _ 3 1] using this.2.1
   ·rw [List.getElem?_append_right (by simp;omega)];simpa [Nat.mul_succ,Nat.add_right_comm _ 3 2] using this.2.2
theorem levsV_one (P:List LvG):∀ u∈levsV P,u.oneCell'=true:=by
 intro u hu
 simp only [levsV,List.mem_flatMap] at hu
 obtain ⟨p,-,hu⟩:=hu
 simp only [levV,List.mem_cons,List.not_mem_nil,or_false] at hu
 rcases hu with rfl | rfl | rfl <;> rfl
def levB (p:LvG):HB:=⟨p.1,184,(nodesV p.2.l).toArray⟩
def TreeH (tb:Nat) (P:List LvG) (H:List HB):Prop:=∃ v Hl,H=⟨tb,178,#[v]⟩::(Hl++P.map levB)∧RowH 181 3 v P.length (levsV P) Hl
def levNew (w h:Nat):LevM:=⟨w,h,List.replicate (w * h) ⟨0,0,false⟩⟩
def treeNew:Nat→Nat→Nat→List LevM
 | 0,_,_=>[]
 | k+1,w,h=>if w=1∧h=1 then [levNew w h] else levNew w h::treeNew k ((w+1) / 2) ((h+1) / 2)
def treeOf (w h:Int):List LevM:=if w<1∨h<1∨64<w∨64<h then [] else treeNew 7 w.toNat h.toNat
end
section
open Go.RowKit
theorem grid_at (w h g n c x y:Nat) (W:World) (hxy:y * w+x<n) (hx:x≤1000) (hy:y≤1000) (hw:w≤1000) (hn:n≤100000000) :
  Calls Tryz.prog 108 #[.agg #[.int .i64 (w:Int),.int .i64 (h:Int),.slice (some ⟨g,0,none⟩) n c],.int .i64 (x:Int),.int .i64 (y:Int)] W fun e W' =>
   e=.returned (.pointer (some ⟨g,3 * (y * w+x),none⟩))∧Mv W [] W' []:=by
 have hp:y * w≤1000000:=by
  have:=Nat.mul_le_mul hy hw
  omega
 have M:=Lib.hid (mv_alloc W 181 #[.int .i64 (w:Int),.int .i64 (h:Int),.slice (some ⟨g,0,none⟩) n c])
 have hlt:(y:Int) * (w:Int)+(x:Int)<(n:Int):=by exact_mod_cast hxy
 have hge0:(0:Int)≤(y:Int) * (w:Int):=Int.mul_nonneg (by omega) (by omega)
 have hge:(0:Int)≤(y:Int) * (w:Int)+(x:Int):=by omega
 have htn:((y:Int) * (w:Int)+(x:Int)).toNat=y * w+x:=by
  rw [show (y:Int) * (w:Int)+(x:Int)=((y * w+x:Nat):Int) from by push_cast;rfl,Int.toNat_natCast]
 go_enter Tryz.func108,Tryz.ntmps108
 go_wp2_with fail
 go_ret
 refine ⟨?_,M.out.drop1⟩
 first | rfl | (simp [Nat.mul_comm];done) | trace_state
theorem infoNode:(Tryz.prog.info? 184).map (fun i=>(i.zero,i.size,i.bytes))=some (some (.agg #[.int .i64 0,.int .i64 0,.bool false]),3,24):=by kernel_rfl
theorem flat_nodes (n:Nat):(List.replicate n (Value.agg #[.int .i64 0,.int .i64 0,.bool false]).cells.toList).flatten=nodesV (List.replicate n ⟨0,0,false⟩):=by
 induction n with
 | zero=>rfl
 | succ n ih=>rw [List.replicate_succ,List.replicate_succ,List.flatten_cons,ih];rfl
theorem grid_new (w h:Nat) (W:World) (hw:w≤64) (hh:h≤64) :
  Calls Tryz.prog 98 #[.int .i64 (w:Int),.int .i64 (h:Int)] W fun e W' =>
   ∃ g,e=.returned (.agg (levV (g,levNew w h)).toArray)∧Mv W [] W' [levB (g,levNew w h)]:=by
 have hp:w * h≤4096:=Nat.mul_le_mul hw hh
 obtain ⟨i0,hi,hz0,hz1,hz2⟩:=info_parts infoNode
 have hm:=fun W=>run_made (P:=Tryz.prog) 179 184 i0 _ 3 24 (w * h) Tryz.underlying179 hi hz0 hz1 hz2 rfl (by decide) (by omega) (by omega) W
 rw [flat_nodes] at hm
 simp only [Int.natCast_mul] at hm
 go_enter Tryz.func98,Tryz.ntmps98
 go_wp2_with fail
 have M1:=mv_alloc W 181 #[.int .i64 (w:Int),.int .i64 (h:Int),.slice (some ⟨W.heap.size+1,0,none⟩) (w * h) (w * h)]
 have M2:=M1.alloc 184 (nodesV (List.replicate (w * h) ⟨0,0,false⟩)).toArray
 refine bodyPost_ret (v:=.agg #[.int .i64 (w:Int),.int .i64 (h:Int),.slice (some ⟨W.heap.size+1,0,none⟩) (w * h) (w * h)]) (results_cell_row Tryz.results98 _ _ W.heap.size 181 _ (0,0) _ rfl (M2.blk 1 rfl) Tryz.underlying181 rfl (by kernel_rfl)) rfl ?_
 refine ⟨W.heap.size+1,by simp [levV,levNew],?_⟩
 have M3:=Mv.drop2 (A:=[_]) (B:=[_]) (H:=[]) M2
 simpa [levB,levNew] using M3
theorem infoGrid:(Tryz.prog.info? 181).map (fun i=>(i.zero,i.size,i.bytes))=some (some (.agg #[.int .i64 0,.int .i64 0,.slice none 0 0]),3,40):=by kernel_rfl
theorem run_appG {w:World} {v:Value} {P:List LvG} {p:LvG} {H:List HB} {wb:World} (h:RowH 181 3 v P.length (levsV P) H) (hs:Sat w H) (hw:w=wb.alloc (.cells (levV p).toArray 181)) (hl:P.length≤1000) (ty:TypeId) :
  ∃ v' w' H',(Builtin.append_ #[176,176] ty #[v,.slice (some ⟨wb.heap.size,0,none⟩) 1 1]).run Tryz.prog w=.ok v' w'∧RowH 181 3 v' (P++[p]).length (levsV (P++[p])) H'∧Mv w H w' H':=by
 obtain ⟨i0,hti,hz0,hz1,hz2⟩:=info_parts infoGrid
 have hr:Reads w w.heap.size 3 (some ⟨wb.heap.size,0,none⟩) 1 (levV p):=by
  refine ⟨rfl,fun _=>⟨_,rfl,by rw [hw];simp,fun j u hu=>?_⟩⟩
  rw [hw]
  exact news_block wb (levV p).toArray _ j u (by simpa using hu)
 obtain ⟨v',w',hrun,k1,k2,k3⟩:=run_append_any (P:=Tryz.prog) w 0 176 ty 181 i0 _ 3 40 Tryz.underlying176 hti hz0 hz1 hz2 rfl (by decide) v P.length (levsV P) (RowH.owns h hs (fun _ _=>Nat.zero_le _)) w.heap.size _ 1 1 (levV p) hr (fun u hu=>levsV_one [p] u (by simpa [levsV] using hu)) (by unfold maxLen;omega) (by omega) (Nat.zero_le _)
 obtain ⟨H',k4,k5⟩:=mv_owns_grown h k1 k2 k3
 refine ⟨v',w',H',hrun,?_,k5⟩
 rw [List.length_append]
 simpa [levsV] using k4
section
variable {ops:Array Oper} {rest:List Oper} {o:Oper} {a:Act} {w:World} {K:Act→World→Prop} {Q:Exit→Act→World→Prop} {E:Prop}
theorem wp_appG {v:Value} {P:List LvG} {p:LvG} {H:List HB} {wb:World} (s x:Operand) (ho:o.op=.call { callee:=.builtin .append,args:=#[s,x],argTypes:=#[176,176] })
  (hsv:a.eval s=v) (hxu:a.eval x=.slice (some ⟨wb.heap.size,0,none⟩) 1 1) (h:RowH 181 3 v P.length (levsV P) H) (hs:Sat w H) (hw:w=wb.alloc (.cells (levV p).toArray 181)) (hl:P.length≤1000)
  (hK:∀ v' w' H',RowH 181 3 v' (P++[p]).length (levsV (P++[p])) H'→Mv w H w' H'→K (a.put o.dst v') w'):o.wp Tryz.prog a w K Q:=by
 obtain ⟨v',w',H',hrun,h1,h2⟩:=run_appG h hs hw hl o.type
 unfold Oper.wp execOp
 simp only [ho,resolve,invoke,builtin,Sem.run_bind,Sem.run_pure,Result.andThen_ok,List.map_toArray,List.map_cons,List.map_nil,hsv,hxu,hrun]
 exact hK v' w' H' h1 h2
theorem step_appG {v:Value} {P:List LvG} {p:LvG} {H:List HB} {wb:World} (hgd:o.guard=none) (s x:Operand) (ho:o.op=.call { callee:=.builtin .append,args:=#[s,x],argTypes:=#[176,176] })
  (hsv:a.eval s=v) (hxu:a.eval x=.slice (some ⟨wb.heap.size,0,none⟩) 1 1) (h:RowH 181 3 v P.length (levsV P) H) (hs:Sat w H) (hw:w=wb.alloc (.cells (levV p).toArray 181)) (hl:P.length≤1000)
  (hK:∀ v' w' H',RowH 181 3 v' (P++[p]).length (levsV (P++[p])) H'→Mv w H w' H'→K (a.put o.dst v') w'):if Region.wanted o (yielded ops a.tmps)=true then Oper.wp Tryz.prog o a w K Q else E:=by
 have hwt:Region.wanted o (yielded ops a.tmps)=true:=by simp [Region.wanted,hgd]
 rw [if_pos hwt]
 exact wp_appG s x ho hsv hxu h hs hw hl hK
end
end
end Go.Proofs.YtjngfhgakokejaaGreat
