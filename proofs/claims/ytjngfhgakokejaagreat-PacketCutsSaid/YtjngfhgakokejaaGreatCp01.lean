/- Plain facts for this seat's walks: numbers, lists, and slices that are owned or read. No program in sight. Words for memory, after the guide's lemmas to copy: a slice that reads as a list, a block that is known whole, append onto a row of the call's own. No program in sight. Heaplets: what is known of memory, as a list of blocks; what a call may turn of it. No program in sight. Heaplets at this program's types: rows of bytes, appended to. Bits of packets' heads: the plain law: the program's way of packing them and the document's. Bits of packets' heads: the program's writer, over heaplets. Bits of packets' heads: the program's writer by what was written; slices.Clone of bytes. Bits of packets' heads: the writer's bytes; the program's reader. -/
import Derived.WalkKit
import Derived.WalkSpells
import Derived.WalkLawsBesides
import Derived.Lib.Hide
import Derived.Deep.RegionLaw
import Derived.Deep.LoopGhost
import Derived.Deep.DeepCutAuto
import Derived.BigQuiet
import Derived.Deep.QuietTactic
import Derived.Laws.OwnMore
import Derived.Deep.AppendLies
import Derived.Deep.Draws
import Derived.Laws.Rows
import Derived.Maps.AppendAt
import Derived.RegionTactic
import Derived.OwnWalk
import Derived.ChangeSame
import Derived.Laws.BitsAllLaws
import Derived.Laws.BitsLemmas
import Derived.Test.YtjngfhgakokejaaGreatProg
import Derived.Laws.Bits64b
import Derived.BigRegion
import Derived.StillTailTactics
import Derived.Laws.Bits128
import Derived.Deep.RegionHeld
set_option maxRecDepth 100000
set_option maxHeartbeats 8000000
set_option linter.all false
namespace Go.Proofs.YtjngfhgakokejaaGreat
section
open Go.RowKit
theorem tmod_adj (x n:Int) (h:1≤n):(if x.tmod n<0 then x.tmod n+n else x.tmod n)=x % n:=by
 have h0:=Int.emod_nonneg x (b:=n) (by omega)
 have h1:=Int.emod_lt_of_pos x (b:=n) (by omega)
 have h2:x.tmod n=x % n∨x.tmod n=x % n - n:=by
  rw[Int.tmod_eq_emod]
  split
  ·left;omega
  ·right;omega
 have h3 : -n<x.tmod n:=by have:=Int.lt_tmod_of_pos x (b:=n) (by omega);omega
 have h4:0≤x→x.tmod n=x % n:=fun h=>Int.tmod_eq_emod_of_nonneg h
 split
 ·rcases h2 with h2 | h2 <;> omega
 ·rcases h2 with h2 | h2 <;> omega
theorem tmod_bd (x n:Int) (h:1≤n) : -n<x.tmod n∧x.tmod n<n:=by
 constructor
 ·have:=Int.lt_tmod_of_pos x (b:=n) (by omega);omega
 ·exact Int.tmod_lt_of_pos x (by omega)
theorem i64_small:∀ n:Int,0≤n→n<2 ^ 63→IntKind.i64.wrap n=n:=by
 intro n h1 h2
 exact IntWalk.i64_in n (by simp only[show (2:Int)^63=9223372036854775808 from by decide] at h2;omega)
theorem and_mask (i:Nat) (hi:i≤63) (n:Int) (h0:0≤n) (h1:n<9223372036854775808):bits .and .i64 n (2 ^ i - 1)=n % 2 ^ i:=by
 have:=bits_mask .i64 63 (by decide) i64_small i hi n h0 (by simpa using h1)
 simpa using this
theorem owns_slice {w:World} {B:Nat} {e:TypeId} {size:Nat} {v:Value} {n:Nat} {xs:List Value} (h:w.ownsRow B e size v n xs):∃ a cap,v=.slice a n cap:=by
 rcases h.2 with ⟨rfl,rfl⟩ | ⟨g,cap,cur,rfl,_⟩
 ·exact⟨none,0,rfl⟩
 ·exact⟨_,cap,rfl⟩
section
variable {P:Program} {ops:Array Oper} {o:Oper} {a:Act} {w:World} {K:Act→World→Prop} {Q:Exit→Act→World→Prop} {E:Prop}
end
theorem news_block (w:World) (arr:Array Value) (t:TypeId):∀ (j:Nat) u,arr.toList[j]?=some u→(w.alloc (.cells arr t)).cell? ((⟨w.heap.size,0,none⟩:Addr).add j)=some u:=by
 intro j u hu
 have hadd:(⟨w.heap.size,0,none⟩:Addr).add j=⟨w.heap.size,j,none⟩:=by unfold Addr.add;split <;> simp_all
 rw[hadd,cell_of_row (w.alloc (.cells arr t)) w.heap.size j arr t (0,0) (heap_alloc_new w _)]
 simpa using hu
end
section
open Go.RowKit Go.WideShapes Go.ChangeShapes
theorem block_of_add (a:Addr) (n:Nat):(a.add n).block=a.block:=by unfold Addr.add;split <;> rfl
def Reads (w:World) (B size:Nat) (A:Option Addr) (n:Nat) (xs:List Value):Prop :=
 xs.length=n * size∧(0<n→∃ ad,A=some ad∧ad.block<B∧∀ j u,xs[j]?=some u→w.cell? (ad.add j)=some u)
section
variable {w w':World} {B B' size n:Nat} {A:Option Addr} {xs:List Value}
theorem Reads.keep (h:Reads w B size A n xs) (hk:∀ p:Addr,p.block<B→w'.cell? p=w.cell? p):Reads w' B size A n xs :=
 ⟨h.1,fun hn=>by
  obtain⟨ad,e,hb,hc⟩:=h.2 hn
  exact⟨ad,e,hb,fun j u hu=>(hk _ (by rw[block_of_add];exact hb)).trans (hc j u hu)⟩⟩
theorem Reads.more (h:Reads w B size A n xs) (hB:B≤B'):Reads w B' size A n xs :=
 ⟨h.1,fun hn=>by
  obtain⟨ad,e,hb,hc⟩:=h.2 hn
  exact⟨ad,e,by omega,hc⟩⟩
theorem Reads.below (h:Reads w B size A n xs) (hb:Below B w w'):Reads w' B size A n xs:=h.keep fun _ hp=>hb.cell hp
theorem Reads.alloc (h:Reads w B size A n xs) (hB:B≤w.heap.size) (o:Obj):Reads (w.alloc o) B size A n xs:=h.keep fun p hp=>World.cell?_alloc_lt w o p (by omega)
theorem Reads.of_own {base:Nat} {e:TypeId} {c:Nat} (h:w.ownsRow base e size (.slice A n c) n xs):Reads w w.heap.size size A n xs:=by
 refine⟨h.1,fun hn=>?_⟩
 obtain⟨g,cap,hv,_,hlt⟩:=h.form hn
 have hA:A=some ⟨g,0,none⟩:=by injection hv
 subst hA
 exact⟨_,rfl,hlt,h.cells (g:=g) rfl⟩
end
def Blk (w:World) (g:Nat) (t:TypeId) (cs:Array Value):Prop:=w.heap[g]?=some (.cells cs t (0,0))
section
variable {w w':World} {g:Nat} {t:TypeId} {cs:Array Value}
theorem Blk.lt (h:Blk w g t cs):g<w.heap.size:=by
 rcases Nat.lt_or_ge g w.heap.size with hlt | hge
 ·exact hlt
 ·unfold Blk at h;rw[Array.getElem?_eq_none hge] at h;cases h
theorem Blk.cell (h:Blk w g t cs) (i:Nat):w.cell? ⟨g,i,none⟩=cs[i]?:=cell_of_row w g i cs t (0,0) h
theorem Blk.frozen (h:Blk w g t cs) (i:Nat):w.frozen? ⟨g,i,none⟩=false:=by
 unfold Blk at h
 simp[World.frozen?,h]
theorem Blk.new (w:World) (t:TypeId) (cs:Array Value):Blk (w.alloc (.cells cs t)) w.heap.size t cs:=heap_alloc_new w _
theorem Blk.set_ (h:Blk w g t cs) (i:Nat) (u:Value):Blk (w.setCell ⟨g,i,none⟩ u) g t (cs.setIfInBounds i u):=by
 unfold Blk at h ⊢
 simp[World.setCell,Array.getElem?_modify,h]
theorem Blk.below {B:Nat} (h:Blk w g t cs) (hb:Below B w w') (hg:g<B):Blk w' g t cs:=(hb.block g hg).trans h
end
section
variable {P:Program} (w:World)
theorem run_append_of_nil (base:Nat) (t ty e:TypeId) (i:TypeInfo) (size:Nat) (ht:P.underlying t=some (.slice e)) (hi:P.info? e=some i)
  (v:Value) (n:Nat) (xs:List Value) (hown:w.ownsRow base e size v n xs) (c:Nat):(Builtin.append_ #[t,t] ty #[v,.slice none 0 c]).run P w=.ok v w:=by
 rcases hown.2 with ⟨rfl,rfl⟩ | ⟨g,cap,cur,rfl,_,_,hnc,_⟩
 ·simp[Builtin.append_,run_underlying ht,sizeOf,typeInfo,hi,Builtin.lenOf,Builtin.firstCells]
 ·simp[Builtin.append_,run_underlying ht,sizeOf,typeInfo,hi,Builtin.lenOf,Builtin.firstCells,hnc,storeCells]
theorem run_append_any (base:Nat) (t ty e:TypeId) (i:TypeInfo) (z:Value) (size bytes:Nat) (ht:P.underlying t=some (.slice e)) (hi:P.info? e=some i) (hz:i.zero=some z)
  (hsize:i.size=size) (hby:i.bytes=bytes) (hzs:z.cells.size=size) (hsz:0<size)
  (v:Value) (n:Nat) (xs:List Value) (hown:w.ownsRow base e size v n xs)
  (B:Nat) (A:Option Addr) (m c:Nat) (news:List Value) (hr:Reads w B size A m news) (h1:∀ u∈news,u.oneCell'=true)
  (h63:n+m≤maxLen) (hbytes:(n+m) * bytes≤140737488355328) (hbase:base≤w.heap.size) :
  ∃ v' w',(Builtin.append_ #[t,t] ty #[v,.slice A m c]).run P w=.ok v' w'∧w'.ownsRow base e size v' (n+m) (xs++news)∧w.grownBy w' v.ownBlock ∧
   (v'.ownBlock=v.ownBlock∨v'.ownBlock=some w.heap.size):=by
 rcases A with _ | ad
 ·have hm:m=0:=by
   rcases Nat.eq_zero_or_pos m with h0 | h0
   ·exact h0
   ·obtain⟨ad,h,_⟩:=hr.2 h0
    cases h
  subst hm
  have hn:news=[]:=List.eq_nil_of_length_eq_zero (by simpa using hr.1)
  subst hn
  exact⟨v,w,run_append_of_nil w base t ty e i size ht hi v n xs hown c,by simpa using hown,World.grownBy.refl w _,.inl rfl⟩
 ·have hcells:∀ j u,news[j]?=some u→w.cell? (ad.add j)=some u:=by
   intro j u hu
   rcases Nat.eq_zero_or_pos m with h0 | h0
   ·subst h0
    have hn:news=[]:=List.eq_nil_of_length_eq_zero (by simpa using hr.1)
    subst hn
    simp at hu
   ·obtain⟨ad',h,_,hc⟩:=hr.2 h0
    injection h with h
    subst h
    exact hc j u hu
  obtain⟨v',w',hrun,h2,h3,_,h5⟩:=run_append_own_at (P:=P) w base t ty e i z size bytes ht hi hz hsize hby hzs hsz v n xs hown ad m c news hr.1 hcells h1 h63 hbytes hbase
  exact⟨v',w',hrun,h2,h3,h5⟩
end
theorem only_setCell {a w:World} {g:Nat} (h:a.grownBy w (some g)) {p:Addr} (hp:p.block=g∨a.heap.size≤p.block) (u:Value):a.grownBy (w.setCell p u) (some g) :=
 ⟨h.os,h.tape,h.output,by simpa [World.setCell] using h.size,fun i hi hne=>(Below.heap_setCell w p u i (by
  rintro rfl
  rcases hp with hp | hp
  ·exact hne (by rw[hp])
  ·omega)).trans (h.block i hi hne)⟩
theorem ofInt_i64 (a:Nat) (ha:a<9223372036854775808):(BitVec.ofInt 64 (a:Int)).toNat=a:=by
 rw[BitVec.ofInt_natCast,BitVec.toNat_ofNat];exact Nat.mod_eq_of_lt (by omega)
theorem i64_and_nat (a b:Nat) (ha:a<9223372036854775808) (hb:b<9223372036854775808):bits .and .i64 (a:Int) (b:Int)=((a &&& b:Nat):Int):=by
 have hx:a &&& b<2 ^ 63:=Nat.and_lt_two_pow _ (by omega)
 show IntKind.i64.wrap ((BitVec.ofInt 64 (a:Int) &&& BitVec.ofInt 64 (b:Int)).toNat:Int)=_
 rw[BitVec.toNat_and,ofInt_i64 a ha,ofInt_i64 b hb,IntKind.wrap_i64]
 omega
theorem i64_or_nat (a b:Nat) (ha:a<9223372036854775808) (hb:b<9223372036854775808):bits .or .i64 (a:Int) (b:Int)=((a ||| b:Nat):Int):=by
 have hx:a ||| b<2 ^ 63:=Nat.or_lt_two_pow (by omega) (by omega)
 show IntKind.i64.wrap ((BitVec.ofInt 64 (a:Int) ||| BitVec.ofInt 64 (b:Int)).toNat:Int)=_
 rw[BitVec.toNat_or,ofInt_i64 a ha,ofInt_i64 b hb,IntKind.wrap_i64]
 omega
theorem i64_xor_nat (a b:Nat) (ha:a<9223372036854775808) (hb:b<9223372036854775808):bits .xor .i64 (a:Int) (b:Int)=((a ^^^ b:Nat):Int):=by
 have hx:a ^^^ b<2 ^ 63:=Nat.xor_lt_two_pow (by omega) (by omega)
 show IntKind.i64.wrap ((BitVec.ofInt 64 (a:Int) ^^^ BitVec.ofInt 64 (b:Int)).toNat:Int)=_
 rw[BitVec.toNat_xor,ofInt_i64 a ha,ofInt_i64 b hb,IntKind.wrap_i64]
 omega
section
variable {H:Type} {enc:TypeId × Value→H} {P:Program}
end
def cellsB (l:List UInt8):List Value:=l.map fun c=>.int .u8 (c.toNat:Int)
theorem cellsB_length (l:List UInt8):(cellsB l).length=l.length:=by simp[cellsB]
theorem cellsB_one (l:List UInt8):∀ u∈cellsB l,u.oneCell'=true:=by
 intro u hu
 simp only[cellsB,List.mem_map] at hu
 obtain⟨c,-,rfl⟩:=hu
 rfl
theorem cellsB_append (a b:List UInt8):cellsB (a++b)=cellsB a++cellsB b:=by simp[cellsB]
theorem cellsB_get (l:List UInt8) (k:Nat) (c:UInt8) (h:l[k]?=some c):(cellsB l)[k]?=some (.int .u8 (c.toNat:Int)):=by simp[cellsB,h]
theorem Reads.of_below {w w':World} {size n:Nat} {A:Option Addr} {xs:List Value} (h:Reads w w.heap.size size A n xs) (hb:Below w.heap.size w w'):Reads w' w'.heap.size size A n xs :=
 (h.below hb).more hb.size
def BV (w:World) (v:Value) (l:List UInt8):Prop:=∃ A c,v=.slice A l.length c∧l.length≤c∧c≤maxLen∧Reads w w.heap.size 1 A l.length (cellsB l)
theorem BV.keep {w w':World} {v:Value} {l:List UInt8} (h:BV w v l) (hb:Below w.heap.size w w'):BV w' v l:=by
 obtain⟨A,c,e,h1,h2,h3⟩:=h
 exact⟨A,c,e,h1,h2,h3.of_below hb⟩
theorem BV.of_owns {w:World} {B:Nat} {e:TypeId} {v:Value} {l:List UInt8} (h:w.ownsRow B e 1 v l.length (cellsB l)):BV w v l:=by
 obtain⟨a,c,rfl⟩:=owns_slice h
 have hr:=Reads.of_own h
 obtain⟨hl,h⟩:=h
 rcases h with ⟨h1,h2⟩ | ⟨g,cap,cur,h1,hb,hg,hn,hc,hs,ht⟩
 ·injection h1 with e1 e2 e3
  exact⟨a,c,rfl,by omega,by subst e3;simp[maxLen],hr⟩
 ·injection h1 with e1 e2 e3
  subst e3
  exact⟨a,c,rfl,hn,hc,hr⟩
end
section
open Go.RowKit
structure HB where
 g:Nat
 t:TypeId
 cs:Array Value
def keys (H:List HB):List Nat:=H.map (·.g)
theorem keys_cons (b:HB) (H:List HB):keys (b::H)=b.g::keys H:=rfl
theorem keys_append (A B:List HB):keys (A++B)=keys A++keys B:=List.map_append
theorem mem_keys {H:List HB} {b:HB} (h:b∈H):b.g∈keys H:=List.mem_map.2 ⟨b,h,rfl⟩
def cnt (g:Nat) (H:List HB):Nat:=(keys H).count g
theorem cnt_nil (g:Nat):cnt g []=0:=rfl
theorem cnt_cons (g:Nat) (b:HB) (H:List HB):cnt g (b::H)=(if b.g=g then 1 else 0)+cnt g H:=by
 unfold cnt
 rw[keys_cons,List.count_cons]
 simp only[beq_iff_eq]
 omega
theorem cnt_append (g:Nat) (A B:List HB):cnt g (A++B)=cnt g A+cnt g B:=by
 unfold cnt
 rw[keys_append,List.count_append]
def Sat (w:World) (H:List HB):Prop:=(keys H).Nodup∧∀ b∈H,Blk w b.g b.t b.cs
theorem Sat.nil (w:World):Sat w []:=⟨List.nodup_nil,fun _ h=>by cases h⟩
theorem Sat.lt {w:World} {H:List HB} (h:Sat w H) {g:Nat} (hg:g∈keys H):g<w.heap.size:=by
 obtain⟨b,hb,rfl⟩:=List.mem_map.1 hg
 exact(h.2 b hb).lt
theorem Sat.sub {w:World} {H H1:List HB} (h:Sat w H) (hc:∀ g,cnt g H1≤cnt g H) (hm:∀ b∈H1,b∈H):Sat w H1 :=
 ⟨List.nodup_iff_count.2 fun g=>Nat.le_trans (hc g) (List.nodup_iff_count.1 h.1 g),fun b hb=>h.2 b (hm b hb)⟩
theorem Sat.left {w:World} {A B:List HB} (h:Sat w (A++B)):Sat w A :=
 h.sub (fun g=>by rw[cnt_append];omega) (fun b hb=>List.mem_append_left _ hb)
theorem Sat.right {w:World} {A B:List HB} (h:Sat w (A++B)):Sat w B :=
 h.sub (fun g=>by rw[cnt_append];omega) (fun b hb=>List.mem_append_right _ hb)
theorem Sat.apart {w:World} {A B:List HB} (h:Sat w (A++B)) {g:Nat} (ha:g∈keys A) (hb:g∈keys B):False:=by
 have h1:=List.nodup_iff_count.1 h.1 g
 rw[keys_append,List.count_append] at h1
 have h2:=List.count_pos_iff.2 ha
 have h3:=List.count_pos_iff.2 hb
 omega
theorem Sat.drew {w:World} {H:List HB} (h:Sat w H):Sat w.drew H:=h
theorem Sat.drewN {w:World} {H:List HB} (h:Sat w H) (n:Nat):Sat (w.drewN n) H:=h
theorem Sat.at_ {w:World} {H:List HB} (h:Sat w H) (k:Nat) {g:Nat} {t:TypeId} {cs:Array Value} (hk:H[k]?=some ⟨g,t,cs⟩):Blk w g t cs:=h.2 _ (List.mem_of_getElem? hk)
theorem Sat.mem {w:World} {H:List HB} (h:Sat w H) {g:Nat} {t:TypeId} {cs:Array Value} (hk:(⟨g,t,cs⟩:HB)∈H):Blk w g t cs:=h.2 _ hk
structure Only (K:List Nat) (w w':World):Prop where
 os:w'.os=w.os
 tape:w'.tape=w.tape
 output:w'.output=w.output
 size:w.heap.size≤w'.heap.size
 block:∀ k,k<w.heap.size→k ∉ K→w'.heap[k]?=w.heap[k]?
theorem Only.refl (K:List Nat) (w:World):Only K w w:=⟨rfl,rfl,rfl,Nat.le_refl _,fun _ _ _=>rfl⟩
theorem Only.below {K:List Nat} {w w':World} {B:Nat} (h:Only K w w') (hB:B≤w.heap.size) (hK:∀ k∈K,B≤k):Below B w w' :=
 ⟨h.os,h.tape,h.output,h.size,fun k hk=>h.block k (by omega) (fun e=>by have:=hK k e;omega)⟩
theorem Only.grown {w w':World} {K:List Nat} {row:Option Nat} (hg:w.grownBy w' row) (hr:∀ k,row=some k→k∈K):Only K w w' :=
 ⟨hg.os,hg.tape,hg.output,hg.size,fun k hk hn=>hg.block k hk (fun e=>hn (hr k e.symm))⟩
theorem Only.blk {K:List Nat} {w w':World} {g:Nat} {t:TypeId} {cs:Array Value} (h:Only K w w') (hb:Blk w g t cs) (hn:g ∉ K):Blk w' g t cs:=(h.block g hb.lt hn).trans hb
structure Mv (w:World) (H:List HB) (w':World) (H':List HB):Prop where
 sat:Sat w' H'
 only:Only (keys H) w w'
 new:∀ g∈keys H',g∈keys H∨w.heap.size≤g
section
variable {w0 w w':World} {H0 H H' H1 R:List HB}
theorem Mv.refl (h:Sat w H):Mv w H w H:=⟨h,Only.refl _ _,fun _ hg=>.inl hg⟩
theorem Mv.call (h:Mv w0 H0 w (H++R)) (m:Mv w H w' H'):Mv w0 H0 w' (H'++R):=by
 have hR:∀ g∈keys R,g ∉ keys H:=fun g h1 h2=>h.sat.apart h2 h1
 refine⟨⟨?_,?_⟩,⟨m.only.os.trans h.only.os,m.only.tape.trans h.only.tape,m.only.output.trans h.only.output,Nat.le_trans h.only.size m.only.size,fun k hk hn=>?_⟩,fun g hg=>?_⟩
 ·rw[keys_append]
  refine List.nodup_append.2 ⟨m.sat.1,h.sat.right.1,fun a ha b hb e=>?_⟩
  subst e
  rcases m.new a ha with h1 | h1
  ·exact hR a hb h1
  ·have:=h.sat.right.lt hb
   omega
 ·intro b hb
  rcases List.mem_append.1 hb with h1 | h1
  ·exact m.sat.2 b h1
  ·exact m.only.blk (h.sat.right.2 b h1) (hR _ (mem_keys h1))
 ·have hn2:k ∉ keys H:=fun e=>by
   rcases h.new k (by rw[keys_append];exact List.mem_append_left _ e) with h1 | h1
   ·exact hn h1
   ·omega
  exact(m.only.block k (Nat.lt_of_lt_of_le hk h.only.size) hn2).trans (h.only.block k hk hn)
 ·rw[keys_append] at hg
  rcases List.mem_append.1 hg with h1 | h1
  ·rcases m.new g h1 with h2 | h2
   ·exact h.new g (by rw[keys_append];exact List.mem_append_left _ h2)
   ·exact .inr (Nat.le_trans h.only.size h2)
  ·exact h.new g (by rw[keys_append];exact List.mem_append_right _ h1)
theorem Mv.sub (h:Mv w0 H0 w H) (hc:∀ g,cnt g H1≤cnt g H) (hm:∀ b∈H1,b∈H):Mv w0 H0 w H1 :=
 ⟨h.sat.sub hc hm,h.only,fun g hg=>by
  obtain⟨b,hb,rfl⟩:=List.mem_map.1 hg
  exact h.new _ (mem_keys (hm b hb))⟩
theorem Mv.mv1 {A B:List HB} (h:Mv w0 H0 w (A++(B++R))):Mv w0 H0 w (B++(A++R)) :=
 h.sub (fun g=>by simp only[cnt_append];omega) (fun b hb=>by simp only[List.mem_append] at hb ⊢;grind)
theorem Mv.mv2 {A B C:List HB} (h:Mv w0 H0 w (A++(B++(C++R)))):Mv w0 H0 w (C++(A++(B++R))) :=
 h.sub (fun g=>by simp only[cnt_append];omega) (fun b hb=>by simp only[List.mem_append] at hb ⊢;grind)
theorem Mv.trans (h:Mv w0 H0 w H) (m:Mv w H w' H'):Mv w0 H0 w' H':=by
 have:=Mv.call (R:=[]) (by simpa using h) m
 simpa using this
theorem Mv.drewN (h:Mv w0 H0 w H) (n:Nat):Mv w0 H0 (w.drewN n) H:=⟨h.sat.drewN n,⟨h.only.os,h.only.tape,h.only.output,h.only.size,h.only.block⟩,h.new⟩
theorem Mv.drew (h:Mv w0 H0 w H):Mv w0 H0 w.drew H:=⟨h.sat.drew,⟨h.only.os,h.only.tape,h.only.output,h.only.size,h.only.block⟩,h.new⟩
theorem Mv.drop1 {b:HB} (h:Mv w0 H0 w (b::H)):Mv w0 H0 w H :=
 h.sub (fun g=>by rw[cnt_cons];omega) (fun _ hb=>List.mem_cons_of_mem _ hb)
theorem Mv.drop {A:List HB} (h:Mv w0 H0 w (A++H)):Mv w0 H0 w H :=
 h.sub (fun g=>by rw[cnt_append];omega) (fun _ hb=>List.mem_append_right _ hb)
theorem Mv.drop2 {A B:List HB} (h:Mv w0 H0 w (A++(B++H))):Mv w0 H0 w (A++H) :=
 h.sub (fun g=>by simp only[cnt_append];omega) (fun b hb=>by simp only[List.mem_append] at hb ⊢;grind)
theorem Mv.of_grown {g:Nat} {t:TypeId} {cs cs':Array Value} (hg:w.grownBy w' (some g)) (hb:Blk w' g t cs'):Mv w [⟨g,t,cs⟩] w' [⟨g,t,cs'⟩] :=
 ⟨⟨by simp[keys],fun b h=>by simp only[List.mem_singleton] at h;subst h;exact hb⟩,Only.grown hg (by rintro k ⟨⟩;simp[keys]),fun g h=>.inl (by simpa [keys] using h)⟩
theorem mv_set {g:Nat} {t:TypeId} {cs:Array Value} (hb:Blk w g t cs) (i:Nat) (v:Value):Mv w [⟨g,t,cs⟩] (w.setCell ⟨g,i,none⟩ v) [⟨g,t,cs.setIfInBounds i v⟩] :=
 Mv.of_grown (only_setCell (World.grownBy.refl _ _) (p:=⟨g,i,none⟩) (.inl rfl) _) (hb.set_ i v)
theorem Mv.set {g:Nat} {t:TypeId} {cs:Array Value} (h:Mv w0 H0 w (⟨g,t,cs⟩::R)) (i:Nat) (v:Value):Mv w0 H0 (w.setCell ⟨g,i,none⟩ v) (⟨g,t,cs.setIfInBounds i v⟩::R) :=
 Mv.call (H:=[⟨g,t,cs⟩]) (R:=R) h (mv_set (h.sat.mem List.mem_cons_self) i v)
theorem mv_alloc (w:World) (t:TypeId) (cs:Array Value):Mv w [] (w.alloc (.cells cs t)) [⟨w.heap.size,t,cs⟩] :=
 ⟨⟨by simp[keys],fun b h=>by simp only[List.mem_singleton] at h;subst h;exact Blk.new w t cs⟩,Only.grown (World.grownBy_alloc w _ none) (by rintro k ⟨⟩),fun g h=>.inr (by simp[keys] at h;omega)⟩
theorem Mv.alloc (h:Mv w0 H0 w H) (t:TypeId) (cs:Array Value):Mv w0 H0 (w.alloc (.cells cs t)) (⟨w.heap.size,t,cs⟩::H) :=
 Mv.call (H:=[]) (R:=H) h (mv_alloc w t cs)
theorem Mv.below {B:Nat} (h:Mv w0 H0 w H) (hB:B≤w0.heap.size) (hK:∀ k∈keys H0,B≤k):Below B w0 w:=h.only.below hB hK
theorem Mv.below0 (h:Mv w0 [] w H):Below w0.heap.size w0 w:=h.below (Nat.le_refl _) (fun k hk=>by cases hk)
theorem Mv.frame (h:Mv w0 H0 w H) (hs:Sat w0 (H0++R)):Mv w0 (H0++R) w (H++R):=Mv.call (Mv.refl hs) h
theorem Mv.cell {g:Nat} {t:TypeId} {cs:Array Value} (h:Mv w0 H0 w H) (k:Nat) (hk:H[k]?=some ⟨g,t,cs⟩) (i:Nat):w.cell? ⟨g,i,none⟩=cs[i]?:=(h.sat.at_ k hk).cell i
theorem Mv.frozen {g:Nat} {t:TypeId} {cs:Array Value} (h:Mv w0 H0 w H) (k:Nat) (hk:H[k]?=some ⟨g,t,cs⟩) (i:Nat):w.frozen? ⟨g,i,none⟩=false:=(h.sat.at_ k hk).frozen i
theorem Mv.blk {g:Nat} {t:TypeId} {cs:Array Value} (h:Mv w0 H0 w H) (k:Nat) (hk:H[k]?=some ⟨g,t,cs⟩):Blk w g t cs:=h.sat.at_ k hk
theorem Mv.others (h:Mv w0 H0 w H) (hs:Sat w0 H0):∀ (k:Nat) (o:Obj),w0.heap[k]?=some o→(∀ c t f,o≠.cells c t f)→w.heap[k]?=some o:=by
 intro k o hk hn
 refine(h.only.block k (Array.getElem?_eq_some_iff.1 hk).1 fun e=>?_).trans hk
 obtain⟨b,hb,rfl⟩:=List.mem_map.1 e
 have:=hs.2 b hb
 unfold Blk at this
 rw[hk] at this
 cases this
 exact hn _ _ _ rfl
end
def RowH (e:TypeId) (size:Nat) (v:Value) (n:Nat) (xs:List Value) (H:List HB):Prop :=
  xs.length=n * size ∧
  ((v=.slice none 0 0∧n=0∧H=[]) ∨
   ∃ g cap cur,v=.slice (some ⟨g,0,none⟩) n cap∧n≤cap∧cap≤maxLen∧cur.size=cap * size∧cur.toList.take (n * size)=xs∧H=[⟨g,e,cur⟩])
section
variable {w0 w w':World} {H0 H R:List HB} {e:TypeId} {size n:Nat} {v:Value} {xs:List Value}
theorem RowH.nil (e:TypeId) (size:Nat):RowH e size (.slice none 0 0) 0 [] []:=⟨by simp,.inl ⟨rfl,rfl,rfl⟩⟩
theorem RowH.slice (h:RowH e size v n xs H):∃ a c,v=.slice a n c:=by
 rcases h.2 with ⟨rfl,rfl,-⟩ | ⟨g,cap,cur,rfl,-⟩
 ·exact⟨none,0,rfl⟩
 ·exact⟨_,cap,rfl⟩
theorem RowH.form (h:RowH e size v n xs H) (hn:0<n):∃ g cap cur,v=.slice (some ⟨g,0,none⟩) n cap∧n≤cap∧cap≤maxLen∧cur.size=cap * size∧cur.toList.take (n * size)=xs∧H=[⟨g,e,cur⟩]:=by
 rcases h.2 with ⟨-,rfl,-⟩ | h
 ·omega
 ·exact h
theorem RowH.new (e:TypeId) (g n:Nat) (arr:Array Value) (hs:arr.size=n * size) (hm:n≤maxLen):RowH e size (.slice (some ⟨g,0,none⟩) n n) n arr.toList [⟨g,e,arr⟩] :=
 ⟨by simpa using hs,.inr ⟨g,n,arr,rfl,Nat.le_refl _,hm,hs,by rw[← hs,← Array.length_toList,List.take_length],rfl⟩⟩
theorem RowH.owns (h:RowH e size v n xs H) (hs:Sat w H) {B:Nat} (hB:∀ g∈keys H,B≤g):w.ownsRow B e size v n xs:=by
 refine⟨h.1,?_⟩
 rcases h.2 with ⟨rfl,rfl,-⟩ | ⟨g,cap,cur,rfl,h1,h2,h3,h4,rfl⟩
 ·exact .inl ⟨rfl,rfl⟩
 ·exact .inr ⟨g,cap,cur,rfl,hB g (by simp[keys]),hs.mem List.mem_cons_self,h1,h2,h3,h4⟩
theorem RowH.block (h:RowH e size v n xs H) {k:Nat} (hk:v.ownBlock=some k):k∈keys H:=by
 rcases h.2 with ⟨rfl,rfl,-⟩ | ⟨g,cap,cur,rfl,h1,h2,h3,h4,rfl⟩
 ·simp[Value.ownBlock] at hk
 ·simp[Value.ownBlock] at hk;simp[keys,hk]
theorem RowH.of_owns {B:Nat} (h:w.ownsRow B e size v n xs):∃ H,RowH e size v n xs H∧Sat w H∧∀ g∈keys H,B≤g∧v.ownBlock=some g:=by
 obtain⟨h1,h2⟩:=h
 rcases h2 with ⟨rfl,rfl⟩ | ⟨g,cap,cur,rfl,hb,hg,hn,hc,hs,ht⟩
 ·exact⟨[],⟨h1,.inl ⟨rfl,rfl,rfl⟩⟩,Sat.nil w,fun g hg=>by cases hg⟩
 ·exact⟨[⟨g,e,cur⟩],⟨h1,.inr ⟨g,cap,cur,rfl,hn,hc,hs,ht,rfl⟩⟩,⟨by simp[keys],fun b h=>by simp only[List.mem_singleton] at h;subst h;exact hg⟩,fun k hk=>by simp[keys] at hk;subst hk;exact⟨hb,rfl⟩⟩
theorem mv_owns_grown (h:RowH e size v n xs H) {v':Value} {n':Nat} {xs':List Value} (h':w'.ownsRow 0 e size v' n' xs') (hg:w.grownBy w' v.ownBlock) (hat:v'.ownBlock=v.ownBlock∨v'.ownBlock=some w.heap.size) :
  ∃ H',RowH e size v' n' xs' H'∧Mv w H w' H':=by
 obtain⟨H',h1,h2,h3⟩:=RowH.of_owns h'
 refine⟨H',h1,h2,Only.grown hg fun k hk=>h.block hk,fun g hgk=>?_⟩
 have:=(h3 g hgk).2
 rcases hat with e | e
 ·exact .inl (h.block (by rw[← e,this]))
 ·rw[this] at e
  cases e
  exact .inr (Nat.le_refl _)
theorem RowH.set (h:RowH e size v n xs H) (hs:Sat w H) {g c:Nat} (hv:v=.slice (some ⟨g,0,none⟩) n c) (i:Nat) (u:Value) (_hi:i<n * size) :
  ∃ H',RowH e size v n (xs.set i u) H'∧Mv w H (w.setCell ⟨g,i,none⟩ u) H':=by
 have h1:=h.1
 rcases h.2 with ⟨h2,-,-⟩ | ⟨g',cap,cur,rfl,k1,k2,k3,k4,rfl⟩
 ·rw[hv] at h2;cases h2
 ·cases hv
  refine⟨[⟨g,e,cur.setIfInBounds i u⟩],⟨by simpa using h1,.inr ⟨g,_,_,rfl,k1,k2,by simpa using k3,?_,rfl⟩⟩,mv_set (hs.mem List.mem_cons_self) i u⟩
  rw[Array.toList_setIfInBounds,List.take_set,k4]
theorem RowH.cell (h:RowH e size v n xs H) (hs:Sat w H) {g c:Nat} (hv:v=.slice (some ⟨g,0,none⟩) n c) (i:Nat) (hi:i<n * size):w.cell? ⟨g,i,none⟩=xs[i]?∧w.frozen? ⟨g,i,none⟩=false:=by
 rcases h.2 with ⟨h2,-,-⟩ | ⟨g',cap,cur,rfl,k1,k2,k3,k4,rfl⟩
 ·rw[hv] at h2;cases h2
 ·cases hv
  have hb:Blk w g e cur:=hs.mem List.mem_cons_self
  refine⟨?_,hb.frozen i⟩
  rw[hb.cell i,← k4,List.getElem?_take,if_pos hi,Array.getElem?_toList]
end
end
section
open Go.RowKit
theorem infoU8:(Tryz.prog.info? 5).map (fun i=>(i.zero,i.size,i.bytes))=some (some (.int .u8 0),1,1):=by kernel_rfl
def RowB (v:Value) (l:List UInt8) (H:List HB):Prop:=RowH 5 1 v l.length (cellsB l) H
theorem RowB.slice {v:Value} {l:List UInt8} {H:List HB} (h:RowB v l H):∃ a c,v=.slice a l.length c:=RowH.slice h
theorem RowB.lit (g:Nat) (l:List UInt8) (n:Nat) (hn:n=l.length) (hm:n≤maxLen):RowB (.slice (some ⟨g,0,none⟩) n n) l [⟨g,5,(cellsB l).toArray⟩]:=by
 subst hn
 have:=RowH.new 5 g l.length (cellsB l).toArray (size:=1) (by simp[cellsB]) hm
 simpa [RowB] using this
theorem RowB.bv {w:World} {v:Value} {l:List UInt8} {H:List HB} (h:RowB v l H) (hs:Sat w H):BV w v l:=BV.of_owns (RowH.owns h hs (B:=0) (fun _ _=>Nat.zero_le _))
theorem RowB.last {w:World} {v:Value} {l:List UInt8} {H:List HB} (h:RowB v l H) (hs:Sat w H) (hl:0<l.length) :
  ∃ g c,v=.slice (some ⟨g,0,none⟩) l.length c∧w.cell? ⟨g,l.length - 1,none⟩=some (.int .u8 ((l.getLastD 0).toNat:Int))∧w.frozen? ⟨g,l.length - 1,none⟩=false:=by
 obtain⟨g,cap,cur,rfl,-⟩:=RowH.form h hl
 obtain⟨h1,h2⟩:=RowH.cell h hs rfl (l.length - 1) (by omega)
 refine⟨g,cap,rfl,?_,h2⟩
 rw[h1]
 refine cellsB_get l _ _ ?_
 rw[List.getLastD_eq_getLast?,List.getLast?_eq_getElem?,List.getElem?_eq_getElem (by omega)]
 rfl
theorem RowB.at_last {w:World} {g c n:Nat} {l:List UInt8} {H:List HB} (h:RowB (.slice (some ⟨g,0,none⟩) n c) l H) (hs:Sat w H) (hn:l.length=n) (hl:0<n) :
  w.cell? ⟨g,n - 1,none⟩=some (.int .u8 ((l.getLastD 0).toNat:Int))∧w.frozen? ⟨g,n - 1,none⟩=false:=by
 subst hn
 obtain⟨g',c',e,h1,h2⟩:=h.last hs hl
 cases e
 exact⟨h1,h2⟩
theorem RowB.len {g:Option Addr} {c n:Nat} {l:List UInt8} {H:List HB} (h:RowB (.slice g n c) l H):n=l.length:=by
 obtain⟨a,c',e⟩:=h.slice
 cases e
 rfl
theorem RowB.set_last {w:World} {g c:Nat} {l:List UInt8} {H:List HB} (h:RowB (.slice (some ⟨g,0,none⟩) l.length c) l H) (hs:Sat w H) (hl:0<l.length) (x:UInt8) :
  ∃ H',RowB (.slice (some ⟨g,0,none⟩) l.length c) (l.dropLast++[x]) H'∧Mv w H (w.setCell ⟨g,l.length - 1,none⟩ (.int .u8 (x.toNat:Int))) H':=by
 obtain⟨H',h1,h2⟩:=RowH.set h hs rfl (l.length - 1) (.int .u8 (x.toNat:Int)) (by omega)
 refine⟨H',?_,h2⟩
 have e2:(cellsB l).set (l.length - 1) (.int .u8 (x.toNat:Int))=cellsB (l.dropLast++[x]):=by
  have hl2:l=l.dropLast++[l.getLast (List.ne_nil_of_length_pos hl)]:=(List.dropLast_concat_getLast _).symm
  generalize l.getLast (List.ne_nil_of_length_pos hl)=y at hl2
  have e3:l.length - 1=l.dropLast.length:=by simp
  rw[e3]
  conv=>lhs;rw[hl2]
  simp only[cellsB,List.map_append]
  rw[List.set_append_right _ _ (by simp)]
  simp
 rw[e2] at h1
 have e1:(l.dropLast++[x]).length=l.length:=by simp;omega
 unfold RowB
 rw[e1]
 exact h1
theorem run_app {w:World} {v u:Value} {l r:List UInt8} {H:List HB} (h:RowB v l H) (hs:Sat w H) (hu:BV w u r) (hl:l.length+r.length≤100000000) (ty:TypeId) :
  ∃ v' w' H',(Builtin.append_ #[30,30] ty #[v,u]).run Tryz.prog w=.ok v' w'∧RowB v' (l++r) H'∧Mv w H w' H':=by
 obtain⟨A,c,rfl,h1,h2,h3⟩:=hu
 obtain⟨i0,hti,hz0,hz1,hz2⟩:=info_parts infoU8
 obtain⟨v',w',hrun,k1,k2,k3⟩:=run_append_any (P:=Tryz.prog) w 0 30 ty 5 i0 (.int .u8 0) 1 1 Tryz.underlying30 hti hz0 hz1 hz2 rfl (by decide) v l.length (cellsB l) (RowH.owns h hs (fun _ _=>Nat.zero_le _)) w.heap.size A r.length c (cellsB r) h3 (cellsB_one r) (by unfold maxLen;omega) (by omega) (Nat.zero_le _)
 obtain⟨H',k4,k5⟩:=mv_owns_grown h k1 k2 k3
 refine⟨v',w',H',hrun,?_,k5⟩
 unfold RowB
 rw[List.length_append,cellsB_append]
 exact k4
section
variable {ops:Array Oper} {rest:List Oper} {o:Oper} {a:Act} {w:World} {K:Act→World→Prop} {Q:Exit→Act→World→Prop} {E:Prop}
theorem wp_app (s x:Operand) (ho:o.op=.call { callee:=.builtin .append,args:=#[s,x],argTypes:=#[30,30] }) (v u:Value) (l r:List UInt8) (H:List HB)
  (hsv:a.eval s=v) (hxu:a.eval x=u) (h:RowB v l H) (hs:Sat w H) (hu:BV w u r) (hl:l.length+r.length≤100000000)
  (hK:∀ v' w' H',RowB v' (l++r) H'→Mv w H w' H'→K (a.put o.dst v') w'):o.wp Tryz.prog a w K Q:=by
 obtain⟨v',w',H',hrun,h1,h2⟩:=run_app h hs hu hl o.type
 unfold Oper.wp execOp
 simp only[ho,resolve,invoke,builtin,Sem.run_bind,Sem.run_pure,Result.andThen_ok,List.map_toArray,List.map_cons,List.map_nil,hsv,hxu,hrun]
 exact hK v' w' H' h1 h2
theorem wpList_appB (hgd:o.guard=none) (s x:Operand) (ho:o.op=.call { callee:=.builtin .append,args:=#[s,x],argTypes:=#[30,30] }) (v u:Value) (l r:List UInt8) (H:List HB)
  (hsv:a.eval s=v) (hxu:a.eval x=u) (h:RowB v l H) (hs:Sat w H) (hu:BV w u r) (hl:l.length+r.length≤100000000)
  (hK:∀ v' w' H',RowB v' (l++r) H'→Mv w H w' H'→wpList Tryz.prog ops Q rest (a.put o.dst v') w'):wpList Tryz.prog ops Q (o::rest) a w :=
 wpList_plain hgd fun _ hk=>wp_app s x ho v u l r H hsv hxu h hs hu hl fun v' w' H' h1 h2=>hk _ _ (hK v' w' H' h1 h2)
theorem step_appB (hgd:o.guard=none) (s x:Operand) (ho:o.op=.call { callee:=.builtin .append,args:=#[s,x],argTypes:=#[30,30] }) (v u:Value) (l r:List UInt8) (H:List HB)
  (hsv:a.eval s=v) (hxu:a.eval x=u) (h:RowB v l H) (hs:Sat w H) (hu:BV w u r) (hl:l.length+r.length≤100000000)
  (hK:∀ v' w' H',RowB v' (l++r) H'→Mv w H w' H'→K (a.put o.dst v') w'):if Region.wanted o (yielded ops a.tmps)=true then Oper.wp Tryz.prog o a w K Q else E:=by
 have hw:Region.wanted o (yielded ops a.tmps)=true:=by simp[Region.wanted,hgd]
 rw[if_pos hw]
 exact wp_app s x ho v u l r H hsv hxu h hs hu hl hK
end
theorem bv_one (w:World) (x:UInt8) (g:Nat) (hg:g=w.heap.size):BV (w.alloc (.cells #[.int .u8 (x.toNat:Int)] 5)) (.slice (some ⟨g,0,none⟩) 1 1) [x]:=by
 subst hg
 have h:=RowB.lit w.heap.size [x] 1 rfl (by decide)
 exact h.bv (mv_alloc w 5 _).sat
end
section
def wbit (s:List UInt8 × Nat) (b:Bool):List UInt8 × Nat :=
 let t:List UInt8 × Nat:=if s.2=0 then (s.1++[0],if s.1.getLast?=some 255 then 7 else 8) else s
 (t.1.dropLast++[t.1.getLastD 0 ||| (if b then (1:UInt8) <<< UInt8.ofNat (t.2 - 1) else 0)],t.2 - 1)
def wbits (bs:List Bool):List UInt8 × Nat:=bs.foldl wbit ([],0)
def wout (s:List UInt8 × Nat):List UInt8:=if s.1.getLast?=some 255 then s.1++[0] else s.1
def rbit (s:List UInt8 × UInt8 × Nat) (b:Bool):List UInt8 × UInt8 × Nat :=
 let c:=s.2.1 ||| (if b then (1:UInt8) <<< UInt8.ofNat (s.2.2 - 1) else 0)
 if s.2.2=1 then (s.1++[c],0,if c=255 then 7 else 8) else (s.1,c,s.2.2 - 1)
def rbits (bs:List Bool):List UInt8 × UInt8 × Nat:=bs.foldl rbit ([],0,8)
theorem wbits_snoc (bs:List Bool) (b:Bool):wbits (bs++[b])=wbit (wbits bs) b:=by simp[wbits]
def WR (s:List UInt8 × Nat) (r:List UInt8 × UInt8 × Nat):Prop :=
 (s.2=0∧s.1=r.1∧r.2.1=0∧r.2.2=(if r.1.getLast?=some 255 then 7 else 8)) ∨
 (1≤s.2∧s.2<(if r.1.getLast?=some 255 then 7 else 8)∧s.1=r.1++[r.2.1]∧r.2.2=s.2)
theorem WR.step {s:List UInt8 × Nat} {r:List UInt8 × UInt8 × Nat} (h:WR s r) (b:Bool):WR (wbit s b) (rbit r b):=by
 obtain⟨l,k⟩:=s
 obtain⟨B,c,f⟩:=r
 rcases h with ⟨h1,h2,h3,h4⟩ | ⟨h1,h2,h3,h4⟩
 ·simp only at h1 h2 h3 h4
  subst h1 h2 h3
  have hf:f=7∨f=8:=by rw[h4];split <;> simp
  right
  have hf1:¬ f=1:=by omega
  simp only[wbit,rbit,if_true,hf1,if_false]
  rw[← h4]
  exact⟨by omega,by omega,by simp,by first | rfl | trivial⟩
 ·simp only at h1 h2 h3 h4
  subst h3 h4
  have hk:¬ f=0:=by omega
  by_cases hf1:f=1
  ·subst hf1
   left
   simp[wbit,rbit]
  ·right
   simp only[wbit,rbit,hk,hf1,if_false]
   exact⟨by omega,by omega,by simp,by first | rfl | trivial⟩
theorem wr_bits (bs:List Bool):WR (wbits bs) (rbits bs):=by
 have h:∀ (l:List Bool) (s:List UInt8 × Nat) (r:List UInt8 × UInt8 × Nat),WR s r→WR (l.foldl wbit s) (l.foldl rbit r):=by
  intro l
  induction l with
  | nil=>intro s r h;exact h
  | cons b l ih=>intro s r h;exact ih _ _ (h.step b)
 exact h bs _ _ (.inl ⟨rfl,rfl,rfl,rfl⟩)
end
section
open Go.RowKit
theorem i64_and1 (n:Int):bits .and .i64 n 1=n % 2:=by
 have h1:(BitVec.ofInt 64 1).toNat=2 ^ 1 - 1:=by decide
 have key:(BitVec.ofInt 64 n &&& BitVec.ofInt 64 1).toNat=(n % ((2 ^ 64:Nat):Int)).toNat % 2 ^ 1:=by
  rw[BitVec.toNat_and,BitVec.toNat_ofInt,h1,Nat.and_two_pow_sub_one_eq_mod]
 show IntKind.i64.wrap ((BitVec.ofInt 64 n &&& BitVec.ofInt 64 1).toNat:Nat)=n % 2
 rw[key,IntKind.wrap_i64]
 omega
theorem shl_u8:∀ k,k<8→((1:UInt8) <<< UInt8.ofNat k).toNat=2 ^ k:=by decide
theorem byte_bit (x:UInt8) (b:Int) (k:Nat) (hk:k<8):bits .or .u8 (x.toNat:Int) (bits .and .i64 b 1 % 256 * 2 ^ k % 256)=((x ||| (if decide (b % 2=1)=true then (1:UInt8) <<< UInt8.ofNat k else 0)).toNat:Int):=by
 rw[i64_and1]
 have hx:=x.toNat_lt
 rcases(show b % 2=0∨b % 2=1 by omega) with h | h
 ·rw[h]
  have:=u8_or_nat x.toNat 0 (by omega) (by omega)
  simpa using this
 ·rw[h]
  have h2:(2:Nat) ^ k<256:=Nat.pow_lt_pow_right (by decide) hk
  have e:(1:Int) % 256 * 2 ^ k % 256=((2 ^ k:Nat):Int):=by
   have e0:(2:Int) ^ k=((2 ^ k:Nat):Int):=by simp
   rw[show (1:Int) % 256=1 from rfl,Int.one_mul,e0]
   exact Int.emod_eq_of_lt (Int.natCast_nonneg _) (by omega)
  rw[e,u8_or_nat x.toNat (2 ^ k) (by omega) h2,if_pos (by simp),UInt8.toNat_or,shl_u8 k hk]
theorem getLast_255 {l:List UInt8} (h:l.getLastD 0=255):(l.getLast?=some 255)=True:=by
 rw[List.getLastD_eq_getLast?] at h
 cases hl:l.getLast? with
 | none=>rw[hl] at h;simp at h
 | some x=>rw[hl] at h;simpa using h
theorem getLast_no255 {l:List UInt8} (h:¬ l.getLastD 0=255):(l.getLast?=some 255)=False:=by
 rw[List.getLastD_eq_getLast?] at h
 simp only[eq_iff_iff,iff_false]
 intro e
 rw[e] at h
 exact h rfl
theorem last_any (g:Nat) (v:Value) (l:List UInt8) (Hr:List HB) (w:World) (c0:w.cell? ⟨g,0,none⟩=some v) (hr:RowB v l Hr) (hs:Sat w Hr) (hl:l.length≤100000000) :
  Calls Tryz.prog 72 #[.pointer (some ⟨g,0,none⟩)] w fun e w'=>e=.returned (.int .u8 ((l.getLastD 0).toNat:Int))∧∃ n,w'=w.drewN n:=by
 by_cases h0:l.length=0
 ·have hl0:l=[]:=List.eq_nil_of_length_eq_zero h0
  subst hl0
  obtain⟨a,c,rfl⟩:=hr.slice
  have HO:=Lib.hid (And.intro hr hs)
  clear hr hs
  go_enter Tryz.func72,Tryz.ntmps72
  go_wp2_with fail
  go_ret
  exact⟨rfl,0,rfl⟩
 ·obtain⟨g2,c,rfl,hc,-⟩:=hr.last hs (by omega)
  have HO:=Lib.hid (And.intro hr hs)
  clear hr hs
  obtain⟨n,hn⟩:∃ n,l.length=n:=⟨_,rfl⟩
  rw[hn] at c0 hc h0 hl
  simp only[hn] at HO
  have d1:((n:Int) == 0)=false:=by simpa using h0
  have d2:(n:Int) - 1=((n - 1:Nat):Int):=by omega
  have d3:(((n - 1:Nat):Int))<(n:Int):=by omega
  generalize (l.getLastD 0)=lst at *
  go_enter Tryz.func72,Tryz.ntmps72
  go_upto_region 4 with fail
  go_region
  all_goals
   go_wp2_with fail
   go_ret
   exact⟨rfl,1,rfl⟩
def WrH (wb:Nat) (l:List UInt8) (r:Nat) (H:List HB):Prop:=∃ v Hr,H=⟨wb,148,#[v,.int .i64 (r:Int)]⟩::Hr∧RowB v l Hr
theorem put_any (wb:Nat) (l:List UInt8) (r:Nat) (c:UInt8) (w:World) (H:List HB) (h:WrH wb l r H) (hs:Sat w H) (hl:l.length≤90000000) :
  Calls Tryz.prog 109 #[.pointer (some ⟨wb,0,none⟩),.int .u8 (c.toNat:Int)] w fun e w'=>e=.returned (.tuple #[])∧∃ H',WrH wb (l++[c]) r H'∧Mv w H w' H':=by
 obtain⟨v,Hr,rfl,hr⟩:=h
 obtain⟨va,vc,rfl⟩:=hr.slice
 have c0:w.cell? ⟨wb,0,none⟩=some (.slice va l.length vc):=(hs.at_ 0 rfl).cell 0
 have M0:=(Mv.refl hs).alloc 5 #[.int .u8 (c.toNat:Int)]
 have H0:=Lib.hid (And.intro hr M0)
 clear hr hs M0
 go_enter Tryz.func109,Tryz.ntmps109
 go_wp2_with (at_builtin;refine wpList_appB rfl (.tmp 8) (.tmp 10) rfl _ _ l [c] Hr rfl rfl H0.out.1 ((H0.out.2.sat.right (A:=[_,_]))) (bv_one w c _ rfl) (by simp;omega) ?_;intro v8 w8 H8 hr8 m8;obtain⟨a8,c8,rfl⟩:=hr8.slice;have M8:=Mv.call (Mv.mv1 (A:=[_,_]) (B:=Hr) (R:=[]) (by simpa using H0.out.2)) m8;have y0:=(M8.mv1 (A:=H8) (B:=[_,_]) (R:=[])).cell 1 rfl 0;have yf:=(M8.mv1 (A:=H8) (B:=[_,_]) (R:=[])).frozen 1 rfl 0;have K8:=Lib.hid (And.intro hr8 M8);clear hr8 M8 m8;rw[List.length_append,List.length_cons,List.length_nil,Nat.zero_add] at *)
 go_end0
 obtain⟨hr8,M8⟩:=K8.out
 have M9:=((M8.mv1 (A:=H8) (B:=[_,_]) (R:=[])).drop1.set 0 (.slice a8 (l.length+1) c8))
 refine⟨rfl,_,⟨_,H8,rfl,?_⟩,by simpa using M9⟩
 simpa using hr8
theorem bit_wr (wb:Nat) (l:List UInt8) (r:Nat) (b:Int) (w:World) (H:List HB) (h:WrH wb l r H) (hs:Sat w H) (hl:l.length≤80000000) (hr8:r≤8) (h1:r≠0→l≠[]) :
    Calls Tryz.prog 71 #[.pointer (some ⟨wb,0,none⟩),.int .i64 b] w fun e w'=>e=.returned (.tuple #[])∧∃ H',WrH wb (wbit (l,r) (decide (b % 2=1))).1 (wbit (l,r) (decide (b % 2=1))).2 H'∧Mv w H w' H':=by
  by_cases h0:r=0
  case neg =>
    obtain⟨v,Hr,rfl,hr⟩:=h
    have hl0:0<l.length:=List.length_pos_iff.2 (h1 h0)
    have hr1:1≤r:=by omega
    obtain⟨g,c,rfl,-,-⟩:=hr.last (hs.right (A:=[_])) hl0
    have M0:=Mv.refl hs
    obtain⟨n,hn⟩:∃ n,l.length=n:=⟨_,rfl⟩
    have hn0:0<n:=by omega
    have hnl:n≤80000000:=by omega
    rw[hn] at hr M0 ⊢
    clear hs hl hl0 h1
    have c0:w.cell? ⟨wb,0,none⟩=some (.slice (some ⟨g,0,none⟩) n c):=M0.cell 0 rfl 0
    have c1:w.cell? ⟨wb,1,none⟩=some (.int .i64 (r:Int)):=M0.cell 0 rfl 1
    have f1:w.frozen? ⟨wb,1,none⟩=false:=M0.frozen 0 rfl 1
    have d1:IntKind.i64.wrap ((r:Int) - 1)=((r - 1:Nat):Int):=by rw[IntWalk.i64_in _ (by omega)];omega
    have d2:(n:Int) - 1=((n - 1:Nat):Int):=by omega
    have d3:(((n - 1:Nat):Int))<(n:Int):=by omega
    obtain⟨lst,hlst⟩:∃ x,(l).getLastD 0=x:=⟨_,rfl⟩
    have M2:=M0.set 1 (.int .i64 ((r - 1:Nat):Int))
    obtain⟨k1,k2⟩:=hr.at_last (M2.sat.right (A:=[_])) hn hn0
    rw[hlst] at k1
    have K:=Lib.hid (And.intro hr (And.intro M2 (And.intro hn hlst)))
    clear hn hlst hr M2 M0
    have d0:((r:Int) == 0)=false:=by simpa using h0
    go_enter Tryz.func71,Tryz.ntmps71
    go_upto_region 6 with fail
    obtain⟨w2,hw2⟩:∃ w2,w2=w.setCell ⟨wb,1,none⟩ (.int .i64 ((r - 1:Nat):Int)):=⟨_,rfl⟩
    obtain⟨hr,M2,hn,hlst⟩:=K.out
    rw[← hw2] at M2 k1 k2
    have e0:w2.cell? ⟨wb,0,none⟩=some (.slice (some ⟨g,0,none⟩) n c):=M2.cell 0 rfl 0
    have e1:w2.cell? ⟨wb,1,none⟩=some (.int .i64 ((r - 1:Nat):Int)):=M2.cell 0 rfl 1
    simp only[← hw2]
    have K2:=Lib.hid (And.intro hr (And.intro M2 (And.intro hn hlst)))
    clear K c0 c1 f1 hw2 d1 hr M2 hn hlst
    go_region
    all_goals
      go_wp2_with fail
      go_end0
      obtain⟨hr,M2,hn,hlst⟩:=K2.out
      rw[byte_bit lst b (r - 1) (by omega)]
      obtain⟨H',j1,j2⟩:=RowB.set_last (by rw[hn];exact hr) (M2.sat.right (A:=[_])) (by omega) (lst ||| (if decide (b % 2=1)=true then (1:UInt8) <<< UInt8.ofNat (r - 1) else 0))
      rw[hn] at j1 j2
      have M3:=Mv.call (Mv.mv1 (A:=[_]) (B:=Hr) (R:=[]) (by simpa using M2)) j2
      have M4:=(Mv.mv1 (A:=H') (B:=[_]) (R:=[]) M3).drew
      have e:wbit (l,r) (decide (b % 2=1))=((l).dropLast++[lst ||| (if decide (b % 2=1)=true then (1:UInt8) <<< UInt8.ofNat (r - 1) else 0)],r - 1):=by
        simp only[wbit,h0,if_false,hlst]
      rw[e]
      refine⟨rfl,_,⟨_,H',rfl,j1⟩,?_⟩
      simpa using M4
  case pos =>
    subst h0
    have HH:=Lib.hid (And.intro h hs)
    obtain⟨v,Hr,rfl,hr⟩:=h
    obtain⟨va,vc,rfl⟩:=hr.slice
    have M1:=(Mv.refl hs).set 1 (.int .i64 8)
    have c1:w.cell? ⟨wb,1,none⟩=some (.int .i64 0):=(hs.at_ 0 rfl).cell 1
    have f1:w.frozen? ⟨wb,1,none⟩=false:=(hs.at_ 0 rfl).frozen 1
    obtain⟨w1,hw1⟩:∃ w1,w1=w.setCell ⟨wb,1,none⟩ (.int .i64 8):=⟨_,rfl⟩
    rw[← hw1] at M1
    have LA:=Lib.hid (last_any wb _ l Hr w1 (M1.cell 0 rfl 0) hr (M1.sat.right (A:=[_])) (by omega))
    have K1:=Lib.hid (And.intro hr M1)
    clear hr hs M1
    go_enter Tryz.func71,Tryz.ntmps71
    go_upto_region 2 with fail
    simp only[← hw1]
    clear hw1 HH c1 f1
    have PU:Hid (∀ (r:Nat) (w:World) (H:List HB),WrH wb l r H→Sat w H→Calls Tryz.prog 109 #[.pointer (some ⟨wb,0,none⟩),.int .u8 0] w fun e w'=>e=.returned (.tuple #[])∧∃ H',WrH wb (l++[0]) r H'∧Mv w H w' H'):=Lib.hid (fun r w H h hs=>put_any wb l r 0 w H h hs (by omega))
    obtain⟨q,hq⟩:∃ q,l.getLastD 0=q:=⟨_,rfl⟩
    rw[hq] at LA
    have HQ:=Lib.hid hq
    clear hq
    by_cases h255:q=255
    case' pos=>have d0:((q.toNat:Int) == 255)=true:=by rw[h255];rfl
    case' neg => have d0 : ((q.toNat : Int) == 255) = false := by
                  have:q.toNat≠255:=fun e=>h255 (UInt8.toNat_inj.1 (by rw[e];rfl))
                  exact beq_eq_false_iff_ne.2 (by omega)
    case pos =>
      go_upto_region 4 with (go_at_call 72;refine LA.out.mono ?_;rintro e w' ⟨rfl,k,rfl⟩;have f1:(w1.drewN k).frozen? ⟨wb,1,none⟩=false:=(K1.out.2.drewN k).frozen 0 rfl 1;have c1:(w1.drewN k).cell? ⟨wb,1,none⟩=some (.int .i64 8):=(K1.out.2.drewN k).cell 0 rfl 1)
      obtain⟨w2,hw2⟩:∃ w2,w2=(w1.drewN k).setCell ⟨wb,1,none⟩ (.int .i64 7):=⟨_,rfl⟩
      simp only[← hw2]
      have M2:=(K1.out.2.drewN k).set 1 (.int .i64 7)
      rw[← hw2] at M2
      have K2:Hid (RowB (.slice va l.length vc) l Hr∧Mv w _ w2 (⟨wb,148,#[.slice va l.length vc,.int .i64 ((7:Nat):Int)]⟩::Hr)):=Lib.hid (And.intro K1.out.1 M2)
      clear hw2 c1 f1 M2 LA
      go_upto_region 5 with (go_at_call 109;refine(PU.out 7 w2 _ ⟨_,_,rfl,K2.out.1⟩ K2.out.2.sat).mono ?_;rintro e w3 ⟨rfl,H3,h3,m3⟩;have K3:=Lib.hid (And.intro h3 (K2.out.2.trans m3));clear h3 m3 K2 K1)
      obtain⟨h3,M3⟩:=K3.out
      clear K3
      obtain⟨v3,Hr,rfl,hr⟩:=h3
      have hl0:0<(l++[0]).length:=by simp
      obtain⟨g,c,rfl,-,-⟩:=hr.last (M3.sat.right (A:=[_])) hl0
      obtain⟨n,hn⟩:∃ n,(l++[0]).length=n:=⟨_,rfl⟩
      have hn0:0<n:=by omega
      have hnl : n ≤ 80000001 := by have : (l ++ [0]).length = l.length + 1 := by simp
                                    omega
      rw[hn] at hr M3
      have hr1:1≤7:=by omega
      have c0:w3.cell? ⟨wb,0,none⟩=some (.slice (some ⟨g,0,none⟩) n c):=M3.cell 0 rfl 0
      have c1:w3.cell? ⟨wb,1,none⟩=some (.int .i64 (7:Int)):=M3.cell 0 rfl 1
      have f1:w3.frozen? ⟨wb,1,none⟩=false:=M3.frozen 0 rfl 1
      have d1:IntKind.i64.wrap ((7:Int) - 1)=6:=by rw[IntWalk.i64_in _ (by omega)];omega
      have d2:(n:Int) - 1=((n - 1:Nat):Int):=by omega
      have d3:(((n - 1:Nat):Int))<(n:Int):=by omega
      obtain⟨lst,hlst⟩:∃ x,((l++[0])).getLastD 0=x:=⟨_,rfl⟩
      have M2:=M3.set 1 (.int .i64 6)
      obtain⟨k1,k2⟩:=hr.at_last (M2.sat.right (A:=[_])) hn hn0
      rw[hlst] at k1
      have K:=Lib.hid (And.intro hr (And.intro M2 (And.intro hn hlst)))
      clear hn hlst hr M2 M3
      go_upto_region 6 with fail
      obtain⟨w2,hw2⟩:∃ w2,w2=w3.setCell ⟨wb,1,none⟩ (.int .i64 6):=⟨_,rfl⟩
      obtain⟨hr,M2,hn,hlst⟩:=K.out
      rw[← hw2] at M2 k1 k2
      have e0:w2.cell? ⟨wb,0,none⟩=some (.slice (some ⟨g,0,none⟩) n c):=M2.cell 0 rfl 0
      have e1:w2.cell? ⟨wb,1,none⟩=some (.int .i64 6):=M2.cell 0 rfl 1
      simp only[← hw2]
      have K2:=Lib.hid (And.intro hr (And.intro M2 (And.intro hn hlst)))
      clear K c0 c1 f1 hw2 d1 hr M2 hn hlst
      go_region
      all_goals
        go_wp2_with fail
        go_end0
        obtain⟨hr,M2,hn,hlst⟩:=K2.out
        have bb:=byte_bit lst b 6 (by decide)
        rw[show (2:Int) ^ 6=64 from by decide] at bb
        rw[bb]
        obtain⟨H',j1,j2⟩:=RowB.set_last (by rw[hn];exact hr) (M2.sat.right (A:=[_])) (by omega) (lst ||| (if decide (b % 2=1)=true then (1:UInt8) <<< UInt8.ofNat 6 else 0))
        rw[hn] at j1 j2
        have M3:=Mv.call (Mv.mv1 (A:=[_]) (B:=Hr) (R:=[]) (by simpa using M2)) j2
        have M4:=(Mv.mv1 (A:=H') (B:=[_]) (R:=[]) M3).drew
        have e:wbit (l,0) (decide (b % 2=1))=(((l++[0])).dropLast++[lst ||| (if decide (b % 2=1)=true then (1:UInt8) <<< UInt8.ofNat 6 else 0)],6):=by
          simp only[wbit,if_true,getLast_255 (HQ.out.trans h255),hlst]
        rw[e]
        refine⟨rfl,_,⟨_,H',rfl,j1⟩,?_⟩
        simpa using M4
    case neg =>
      go_upto_region 4 with (go_at_call 72;refine LA.out.mono ?_;rintro e w' ⟨rfl,k,rfl⟩)
      have M2:=(K1.out.2.drewN k)
      have K2:Hid (RowB (.slice va l.length vc) l Hr∧Mv w _ (w1.drewN k) (⟨wb,148,#[.slice va l.length vc,.int .i64 ((8:Nat):Int)]⟩::Hr)):=Lib.hid (And.intro K1.out.1 M2)
      clear M2 LA
      go_upto_region 5 with (go_at_call 109;refine(PU.out 8 (w1.drewN k) _ ⟨_,_,rfl,K2.out.1⟩ K2.out.2.sat).mono ?_;rintro e w3 ⟨rfl,H3,h3,m3⟩;have K3:=Lib.hid (And.intro h3 (K2.out.2.trans m3));clear h3 m3 K2 K1)
      obtain⟨h3,M3⟩:=K3.out
      clear K3
      obtain⟨v3,Hr,rfl,hr⟩:=h3
      have hl0:0<(l++[0]).length:=by simp
      obtain⟨g,c,rfl,-,-⟩:=hr.last (M3.sat.right (A:=[_])) hl0
      obtain⟨n,hn⟩:∃ n,(l++[0]).length=n:=⟨_,rfl⟩
      have hn0:0<n:=by omega
      have hnl : n ≤ 80000001 := by have : (l ++ [0]).length = l.length + 1 := by simp
                                    omega
      rw[hn] at hr M3
      have hr1:1≤8:=by omega
      have c0:w3.cell? ⟨wb,0,none⟩=some (.slice (some ⟨g,0,none⟩) n c):=M3.cell 0 rfl 0
      have c1:w3.cell? ⟨wb,1,none⟩=some (.int .i64 (8:Int)):=M3.cell 0 rfl 1
      have f1:w3.frozen? ⟨wb,1,none⟩=false:=M3.frozen 0 rfl 1
      have d1:IntKind.i64.wrap ((8:Int) - 1)=7:=by rw[IntWalk.i64_in _ (by omega)];omega
      have d2:(n:Int) - 1=((n - 1:Nat):Int):=by omega
      have d3:(((n - 1:Nat):Int))<(n:Int):=by omega
      obtain⟨lst,hlst⟩:∃ x,((l++[0])).getLastD 0=x:=⟨_,rfl⟩
      have M2:=M3.set 1 (.int .i64 7)
      obtain⟨k1,k2⟩:=hr.at_last (M2.sat.right (A:=[_])) hn hn0
      rw[hlst] at k1
      have K:=Lib.hid (And.intro hr (And.intro M2 (And.intro hn hlst)))
      clear hn hlst hr M2 M3
      go_upto_region 6 with fail
      obtain⟨w2,hw2⟩:∃ w2,w2=w3.setCell ⟨wb,1,none⟩ (.int .i64 7):=⟨_,rfl⟩
      obtain⟨hr,M2,hn,hlst⟩:=K.out
      rw[← hw2] at M2 k1 k2
      have e0:w2.cell? ⟨wb,0,none⟩=some (.slice (some ⟨g,0,none⟩) n c):=M2.cell 0 rfl 0
      have e1:w2.cell? ⟨wb,1,none⟩=some (.int .i64 7):=M2.cell 0 rfl 1
      simp only[← hw2]
      have K2:=Lib.hid (And.intro hr (And.intro M2 (And.intro hn hlst)))
      clear K c0 c1 f1 hw2 d1 hr M2 hn hlst
      go_region
      all_goals
        go_wp2_with fail
        go_end0
        obtain⟨hr,M2,hn,hlst⟩:=K2.out
        have bb:=byte_bit lst b 7 (by decide)
        rw[show (2:Int) ^ 7=128 from by decide] at bb
        rw[bb]
        obtain⟨H',j1,j2⟩:=RowB.set_last (by rw[hn];exact hr) (M2.sat.right (A:=[_])) (by omega) (lst ||| (if decide (b % 2=1)=true then (1:UInt8) <<< UInt8.ofNat 7 else 0))
        rw[hn] at j1 j2
        have M3:=Mv.call (Mv.mv1 (A:=[_]) (B:=Hr) (R:=[]) (by simpa using M2)) j2
        have M4:=(Mv.mv1 (A:=H') (B:=[_]) (R:=[]) M3).drew
        have e:wbit (l,0) (decide (b % 2=1))=(((l++[0])).dropLast++[lst ||| (if decide (b % 2=1)=true then (1:UInt8) <<< UInt8.ofNat 7 else 0)],7):=by
          simp only[wbit,if_true,getLast_no255 (fun e=>h255 (HQ.out.symm.trans e)),if_false,hlst]
        rw[e]
        refine⟨rfl,_,⟨_,H',rfl,j1⟩,?_⟩
        simpa using M4
end
section
open Go.RowKit
theorem clone_any (v:Value) (l:List UInt8) (w:World) (hv:BV w v l) (hn:l.length≤100000000) :
  Calls Tryz.prog 31 #[v] w fun e w'=>∃ v' H',e=.returned v'∧RowB v' l H'∧Mv w [] w' H':=by
 obtain⟨A,c,rfl,h1,h2,hr⟩:=hv
 have HV:=Lib.hid hr
 have hq:∀ W,(binOp .eql 30 (.slice A l.length c) (.slice none 0 0)).run Tryz.prog W=.ok (.bool A.isNone) W:=fun W=>Lib.run_eql_slice_nil W 30 5 A l.length c 0 0 Tryz.underlying30
 rcases A with _ | ad
 ·have h0:l.length=0:=by
   rcases Nat.eq_zero_or_pos l.length with h | h
   ·exact h
   ·obtain⟨_,h,_⟩:=hr.2 h;cases h
  have hl:l=[]:=List.eq_nil_of_length_eq_zero h0
  subst hl
  clear hr HV hn h1 h0
  simp only[List.length_nil] at hq ⊢
  go_enter Tryz.func31,Tryz.ntmps31
  go_wp2
  go_ret
  exact⟨_,[],rfl,RowH.nil _ _,Mv.refl (Sat.nil w)⟩
 ·have M0:=mv_alloc w 5 #[]
  have B0:BV (w.alloc (.cells #[] 5)) (.slice (some ad) l.length c) l:=⟨some ad,c,rfl,h1,h2,(hr.alloc (Nat.le_refl _) _).more (by simp)⟩
  have R0:RowB (.slice (some ⟨w.heap.size,0,none⟩) 0 0) [] [⟨w.heap.size,5,#[]⟩]:=RowB.lit w.heap.size [] 0 rfl (by decide)
  have K:=Lib.hid (And.intro M0 (And.intro B0 R0))
  obtain⟨n,hnn⟩:∃ n,l.length=n:=⟨_,rfl⟩
  have HN:=Lib.hid hnn
  rw[hnn] at hq hn h1 K
  rw[hnn]
  clear hr HV M0 B0 R0 hnn
  go_enter Tryz.func31,Tryz.ntmps31
  go_wp2_with (at_builtin;go_must (refine wpList_appB rfl (.tmp 5) (.tmp 6) rfl _ _ [] l _ rfl rfl K.out.2.2 K.out.1.sat K.out.2.1 (by rw[HN.out];simp;omega) ?_;intro v' w1 H1 hr1 m1;obtain⟨a1,c1,rfl⟩:=hr1.slice;have K1:=Lib.hid (And.intro hr1 m1);clear hr1 m1))
  go_ret
  exact⟨_,H1,rfl,by simpa using K1.out.1,K.out.1.trans K1.out.2⟩
theorem wbits_inv (bs:List Bool):(wbits bs).2≤8∧((wbits bs).2≠0→(wbits bs).1≠[])∧(wbits bs).1.length≤bs.length:=by
 have h:=wr_bits bs
 refine⟨?_,?_,?_⟩
 ·rcases h with ⟨h1,-⟩ | ⟨-,h2,-⟩
  ·omega
  ·split at h2 <;> omega
 ·rcases h with ⟨h1,-⟩ | ⟨-,-,h3,-⟩
  ·intro e;exact absurd h1 e
  ·intro _;rw[h3];simp
 ·clear h
  have key:∀ (l:List Bool) (s:List UInt8 × Nat),(l.foldl wbit s).1.length≤s.1.length+l.length:=by
   intro l
   induction l with
   | nil=>intro s;simp
   | cons b l ih =>
    intro s
    have h1:=ih (wbit s b)
    have h2:(wbit s b).1.length≤s.1.length+1:=by
     simp only[wbit]
     split <;> simp <;> omega
    simp only[List.foldl_cons,List.length_cons]
    omega
  simpa [wbits] using key bs ([],0)
def WrB (wb:Nat) (bs:List Bool) (H:List HB):Prop:=WrH wb (wbits bs).1 (wbits bs).2 H
def bitI (n:Int) (k:Nat):Bool:=decide (n / 2 ^ k % 2=1)
def bitsN (n:Int) (size:Nat):List Bool:=(List.range size).map fun i=>bitI n (size - 1 - i)
def bitsG (n size:Int):List Bool:=if 1≤size∧size≤32 then bitsN n size.toNat else []
theorem bitsN_length (n:Int) (size:Nat):(bitsN n size).length=size:=by simp[bitsN]
theorem bitsG_length (n size:Int):(bitsG n size).length≤32:=by
 unfold bitsG
 split
 ·rw[bitsN_length];omega
 ·simp
theorem bit_any (wb:Nat) (bs:List Bool) (b:Int) (w:World) (H:List HB) (h:WrB wb bs H) (hs:Sat w H) (hl:bs.length≤80000000) :
  Calls Tryz.prog 71 #[.pointer (some ⟨wb,0,none⟩),.int .i64 b] w fun e w'=>e=.returned (.tuple #[])∧∃ H',WrB wb (bs++[decide (b % 2=1)]) H'∧Mv w H w' H':=by
 obtain⟨i1,i2,i3⟩:=wbits_inv bs
 have:=bit_wr wb (wbits bs).1 (wbits bs).2 b w H h hs (by omega) i1 i2
 unfold WrB
 rw[wbits_snoc]
 exact this
theorem new_writer (w:World):Calls Tryz.prog 25 #[] w fun e w'=>∃ wb H',e=.returned (.pointer (some ⟨wb,0,none⟩))∧WrB wb [] H'∧Mv w [] w' H':=by
 go_enter Tryz.func25,Tryz.ntmps25
 go_wp2_with fail
 go_ret
 exact⟨_,_,rfl,⟨_,[],rfl,RowH.nil _ _⟩,mv_alloc w _ _⟩
theorem bits_any (wb:Nat) (bs:List Bool) (n size:Int) (w:World) (H:List HB) (h:WrB wb bs H) (hs:Sat w H) (hl:bs.length≤70000000) :
  Calls Tryz.prog 26 #[.pointer (some ⟨wb,0,none⟩),.int .i64 n,.int .i64 size] w fun e w'=>e=.returned (.tuple #[])∧∃ H',WrB wb (bs++bitsG n size) H'∧Mv w H w' H':=by
 by_cases hz:1≤size∧size≤32
 ·obtain⟨z,rfl⟩:=Int.eq_ofNat_of_zero_le (a:=size) (by omega)
  have d1:decide ((z:Int)<1)=false:=by simp;omega
  have d2:decide ((32:Int)<(z:Int))=false:=by simp;omega
  have K:=Lib.hid (And.intro h (And.intro hs hz))
  have hz2:1≤z∧z≤32:=by omega
  have HG:Hid (bs++bitsG n (z:Int)=bs++bitsN n z):=Lib.hid (by unfold bitsG;rw[if_pos hz];simp)
  rw[HG.out]
  clear h hs hz HG
  go_enter Tryz.func26,Tryz.ntmps26
  go_wp2_with fail
  go_loopg [6] z (fun g s6 wx=>∃ i:Nat,i≤z∧g=z - i∧s6=.int .i64 ((z:Int) - 1 - i)∧∃ H',WrB wb (bs++(List.range i).map fun j=>bitI n (z - 1 - j)) H'∧Mv w H wx H')
  case atStart=>exact⟨0,Nat.zero_le _,rfl,by go_num,H,by simpa using K.out.1,Mv.refl K.out.2.1⟩
  case round =>
   obtain⟨wa,rfl⟩:∃ wa:World,wa=wr:=⟨_,rfl⟩
   obtain⟨i,hik,rfl,rfl,H1,h1,m1⟩:=hrel
   by_cases hlt:i<z
   ·have d3:decide ((0:Int)≤(z:Int) - 1 - i)=true:=by simp;omega
    obtain⟨q,hq⟩:∃ q,z - 1 - i=q:=⟨_,rfl⟩
    have hq2:(z:Int) - 1 - i=(q:Int):=by omega
    rw[hq2] at d3
    simp only[hq2]
    have hq3:q≤31:=by omega
    have HQ:=Lib.hid (And.intro hq hq2)
    have B1:=Lib.hid (bit_any wb _ (n / 2 ^ q) wa H1 h1 m1.sat (by simp;omega))
    have M1:=Lib.hid m1
    clear hq hq2 h1 m1
    go_wp2_with (go_at_call 71;refine B1.out.mono ?_;rintro e w2 ⟨rfl,H2,h2,m2⟩;have K2:=Lib.hid (And.intro h2 (M1.out.trans m2));clear h2 m2)
    go_roundg (z - (i+1))
    case measure=>omega
    case rel =>
     refine⟨i+1,hlt,rfl,?_,_,?_,K2.out.2⟩
     ·have:=HQ.out.2
      have h9:(q:Int) - 1=(z:Int) - 1 - ((i+1:Nat):Int):=by omega
      first | rw[h9] | go_num
     ·have:=K2.out.1
      rw[List.range_succ,List.map_append,← List.append_assoc]
      simpa [bitI,HQ.out.1] using this
   ·obtain rfl:i=z:=by omega
    have d3:decide ((0:Int)≤(i:Int) - 1 - i)=false:=by simp;omega
    go_wp2_with fail
    go_end0
    exact⟨rfl,H1,h1,m1⟩
 ·have hG:bs++bitsG n size=bs:=by unfold bitsG;rw[if_neg hz];simp
  rw[hG]
  by_cases h1:size<1
  ·have d1:decide (size<1)=true:=by simpa using h1
   have K:=Lib.hid (And.intro h hs)
   clear h hs hz h1
   go_enter Tryz.func26,Tryz.ntmps26
   go_wp2_with fail
   exact bodyPost_ret (results_none rfl _ _ _) rfl ⟨rfl,H,K.out.1,Mv.refl K.out.2⟩
  ·have d1:decide (size<1)=false:=by simpa using h1
   have d2:decide (32<size)=true:=by simp;omega
   have K:=Lib.hid (And.intro h hs)
   clear h hs hz h1
   go_enter Tryz.func26,Tryz.ntmps26
   go_wp2_with fail
   exact bodyPost_ret (results_none rfl _ _ _) rfl ⟨rfl,H,K.out.1,Mv.refl K.out.2⟩
end
section
open Go.RowKit
theorem bytes_any (wb:Nat) (bs:List Bool) (w:World) (H:List HB) (h:WrB wb bs H) (hs:Sat w H) (hl:bs.length≤70000000) :
  Calls Tryz.prog 28 #[.pointer (some ⟨wb,0,none⟩)] w fun e w'=>∃ v' Hn,e=.returned v'∧RowB v' (wout (wbits bs)) Hn∧Mv w H w' (Hn++H):=by
 obtain⟨v,Hr,rfl,hr⟩:=h
 have i3:=(wbits_inv bs).2.2
 unfold wout
 generalize (wbits bs).1=l at *
 generalize (wbits bs).2=r at *
 have hll:l.length≤70000000:=by omega
 clear i3 hl
 have c0:w.cell? ⟨wb,0,none⟩=some v:=(hs.at_ 0 rfl).cell 0
 have C1:=Lib.hid (clone_any v l w (hr.bv (hs.right (A:=[_]))) (by omega))
 have K0:=Lib.hid (And.intro hr hs)
 obtain⟨va,vc,rfl⟩:=hr.slice
 clear hr hs
 obtain⟨out,hout⟩:∃ o,(if l.getLast?=some 255 then l++[0] else l)=o:=⟨_,rfl⟩
 rw[hout]
 have HO:=Lib.hid hout
 obtain⟨q,hq⟩:∃ q,l.getLastD 0=q:=⟨_,rfl⟩
 have HQ:=Lib.hid hq
 have LA:=Lib.hid fun w3 c0 hs=>last_any wb (.slice va l.length vc) l Hr w3 c0 K0.out.1 hs (by omega)
 rw[hq] at LA
 clear hq hout
 go_enter Tryz.func28,Tryz.ntmps28
 go_upto_region 2 with (go_at_call 31;refine C1.out.mono ?_;rintro e w3 ⟨v3,H3,rfl,h3,m3⟩;have K3:=Lib.hid (And.intro h3 (Mv.call (H:=[]) (Mv.refl K0.out.2) m3));clear h3 m3)
 have c3:w3.cell? ⟨wb,0,none⟩=some (.slice va l.length vc):=(Mv.mv1 (A:=H3) (B:=_::Hr) (R:=[]) (by simpa using K3.out.2)).cell 0 rfl 0
 have L3:=Lib.hid (LA.out w3 c3 ((Mv.sub K3.out.2 (fun g=>by simp only[cnt_append,cnt_cons];omega) (fun b hb=>by simp[hb])).sat))
 clear LA C1 c0
 by_cases h255:q=255
 ·have d0:((q.toNat:Int) == 255)=true:=by rw[h255];rfl
  have e1:Hid (out=l++[0]):=Lib.hid (by rw[← HO.out,if_pos (of_eq_true (getLast_255 (HQ.out.trans h255)))])
  go_upto_region 3 with (go_at_call 72;refine L3.out.mono ?_;rintro e w4 ⟨rfl,k,rfl⟩)
  obtain⟨a3,n3,rfl⟩:=K3.out.1.slice
  have M4:=(K3.out.2.drewN k).alloc 5 #[.int .u8 ((0:UInt8).toNat:Int)]
  have A4:=Lib.hid (bv_one (w3.drewN k) 0 w3.heap.size rfl)
  have S4:Hid (Sat ((w3.drewN k).alloc (.cells #[.int .u8 ((0:UInt8).toNat:Int)] 5)) H3):=Lib.hid (Mv.sub M4 (fun g=>by simp only[cnt_append,cnt_cons];omega) (fun b hb=>by simp[hb])).sat
  have M4':=Lib.hid M4
  clear M4 L3
  go_upto_region 4 with (at_builtin;go_must (refine wpList_appB rfl (.tmp 15) (.tmp 16) rfl _ _ l [0] H3 rfl rfl K3.out.1 S4.out A4.out (by simp;omega) ?_;intro v5 w5 H5 hr5 m5;obtain⟨a5,c5,rfl⟩:=hr5.slice;have K5:=Lib.hid (And.intro hr5 (Mv.call (Mv.mv1 (A:=[_]) (B:=H3) (R:=_) M4'.out) m5));clear hr5 m5))
  have C5:=Lib.hid (clone_any _ (l++[0]) w5 (K5.out.1.bv K5.out.2.sat.left) (by simp;omega))
  simp only[List.length_append,List.length_cons,List.length_nil,Nat.zero_add] at C5
  go_wp2_with (go_at_call 31;refine C5.out.mono ?_;rintro e w6 ⟨v6,H6,rfl,h6,m6⟩;have K6:=Lib.hid (And.intro h6 (Mv.call (H:=[]) (K5.out.2) m6));clear h6 m6)
  go_ret
  exact⟨_,H6,rfl,by rw[e1.out];exact K6.out.1,Mv.drop2 (B:=[_]) (Mv.drop2 (B:=H5) K6.out.2)⟩
 ·have d0:((q.toNat:Int) == 255)=false:=by
   have:q.toNat≠255:=fun e=>h255 (UInt8.toNat_inj.1 (by rw[e];rfl))
   exact beq_eq_false_iff_ne.2 (by omega)
  have e1:Hid (out=l):=Lib.hid (by rw[← HO.out,if_neg (of_eq_false (getLast_no255 (fun e=>h255 (HQ.out.symm.trans e))))])
  go_upto_region 4 with (go_at_call 72;refine L3.out.mono ?_;rintro e w4 ⟨rfl,k,rfl⟩)
  obtain⟨a3,n3,rfl⟩:=K3.out.1.slice
  have C5:=Lib.hid (clone_any _ l (w3.drewN k) (K3.out.1.bv (K3.out.2.drewN k).sat.left) (by omega))
  go_wp2_with (go_at_call 31;refine C5.out.mono ?_;rintro e w6 ⟨v6,H6,rfl,h6,m6⟩;have K6:=Lib.hid (And.intro h6 (Mv.call (H:=[]) (K3.out.2.drewN k) m6));clear h6 m6)
  go_ret
  exact⟨_,H6,rfl,by rw[e1.out];exact K6.out.1,Mv.drop2 (B:=H3) K6.out.2⟩
structure RdM where
 begun:Nat
 left:Nat
 bad:Bool
def rdNew:RdM:=⟨0,0,false⟩
def prevB (l:List UInt8) (k:Nat):UInt8:=if k=0 then 0 else l.getD (k - 1) 0
def rdNext (l:List UInt8) (s:RdM):RdM :=
 if s.left=0 then (if prevB l s.begun=255 then ⟨s.begun+1,7,s.bad || decide (128≤(l.getD s.begun 0).toNat)⟩ else ⟨s.begun+1,8,s.bad⟩) else s
def rdBit (l:List UInt8) (s:RdM):Nat × RdM :=
 let t:=rdNext l s
 ((prevB l t.begun).toNat / 2 ^ (t.left - 1) % 2,⟨t.begun,t.left - 1,t.bad⟩)
def ReadH (rb:Nat) (l:List UInt8) (s:RdM) (H:List HB):Prop:=∃ v Hr,H=⟨rb,202,#[v,.int .i64 (s.begun:Int),.int .i64 (s.left:Int),.bool s.bad]⟩::Hr∧RowB v l Hr
theorem at_any (rb:Nat) (l:List UInt8) (v:Value) (Hr:List HB) (k:Int) (w:World) (c0:w.cell? ⟨rb,0,none⟩=some v) (hr:RowB v l Hr) (hs:Sat w Hr) (hl:l.length≤100000000) :
  Calls Tryz.prog 111 #[.pointer (some ⟨rb,0,none⟩),.int .i64 k] w fun e w'=>e=.returned (.int .u8 ((if k<0 then 0 else (l.getD k.toNat 0):UInt8).toNat:Int))∧w=w':=by
 obtain⟨va,vc,rfl⟩:=hr.slice
 by_cases hk:k<0
 ·have d1:decide (k<0)=true:=by simpa using hk
  rw[if_pos hk]
  clear hk
  go_enter Tryz.func111,Tryz.ntmps111
  go_wp2_with fail
  go_ret
  exact⟨rfl,rfl⟩
 ·have d1:decide (k<0)=false:=by simpa using hk
  obtain⟨k,rfl⟩:=Int.eq_ofNat_of_zero_le (a:=k) (by omega)
  rw[if_neg hk,Int.toNat_natCast]
  by_cases hlt:k<l.length
  ·have d2:decide ((l.length:Int)≤(k:Int))=false:=by simp;omega
   obtain⟨g,cap,cur,e,-⟩:=RowH.form hr (by omega)
   obtain rfl:va=some ⟨g,0,none⟩:=by cases e;rfl
   have c1:=(RowH.cell hr hs rfl k (by omega)).1
   rw[cellsB_get l k (l.getD k 0) (by rw[List.getElem?_eq_getElem hlt];simp[List.getD,List.getElem?_eq_getElem hlt])] at c1
   have hk2:(k:Int)<(l.length:Int):=by omega
   generalize l.getD k 0=q at *
   generalize l.length=n at *
   clear hk hr hs
   go_enter Tryz.func111,Tryz.ntmps111
   go_wp2_with fail
   go_ret
   exact⟨rfl,rfl⟩
  ·have d2:decide ((l.length:Int)≤(k:Int))=true:=by simp;omega
   have e0:l.getD k 0=0:=by rw[List.getD_eq_getElem?_getD,List.getElem?_eq_none (by omega)];rfl
   rw[e0]
   generalize l.length=n at *
   clear hk hr hs
   go_enter Tryz.func111,Tryz.ntmps111
   go_wp2_with fail
   go_ret
   exact⟨rfl,rfl⟩
end
end Go.Proofs.YtjngfhgakokejaaGreat
