/- Plain facts for this seat's walks: numbers, lists, and slices that are owned or read. No program in sight. Words for memory, after the guide's lemmas to copy: a slice that reads as a list, a block that is known whole, append onto a row of the call's own. No program in sight. Heaplets: what is known of memory, as a list of blocks; what a call may turn of it. No program in sight. Heaplets at this program's types: rows of bytes, appended to. -/
import Derived.WalkKit
import Derived.WalkSpells
import Derived.WalkLawsBesides
import Derived.Lib.Hide
import Derived.Deep.RegionLaw
import Derived.Deep.LoopGhost
import Derived.Deep.DeepCutAuto
import Derived.BigQuiet
import Derived.Deep.QuietTactic
import Derived.Laws.OwnMore
import Derived.Deep.AppendLies
import Derived.Deep.Draws
import Derived.Laws.Rows
import Derived.Maps.AppendAt
import Derived.RegionTactic
import Derived.OwnWalk
import Derived.ChangeSame
import Derived.Laws.BitsAllLaws
import Derived.Laws.BitsLemmas
import Derived.Test.YtnpoakabheeoeaaProg
import Derived.Laws.Bits64b
import Derived.BigRegion
import Derived.StillTailTactics
set_option maxRecDepth 100000
namespace Go.Proofs.Ytnpoakabheeoeaa
section
open Go.RowKit
theorem tmod_adj (x n : Int) (h : 1 ≤ n) : (if x.tmod n < 0 then x.tmod n + n else x.tmod n) = x % n := by
 have h0 := Int.emod_nonneg x (b := n) (by omega)
 have h1 := Int.emod_lt_of_pos x (b := n) (by omega)
 have h2 : x.tmod n = x % n ∨ x.tmod n = x % n - n := by
  rw [Int.tmod_eq_emod]
  split
  ·left; omega
  ·right; omega
 have h3 : -n < x.tmod n := by have := Int.lt_tmod_of_pos x (b := n) (by omega); omega
 have h4 : 0 ≤ x → x.tmod n = x % n := fun h => Int.tmod_eq_emod_of_nonneg h
 split
 ·rcases h2 with h2 | h2 <;> omega
 ·rcases h2 with h2 | h2 <;> omega
theorem tmod_bd (x n : Int) (h : 1 ≤ n) : -n < x.tmod n ∧ x.tmod n < n := by
 constructor
 ·have := Int.lt_tmod_of_pos x (b := n) (by omega); omega
 ·exact Int.tmod_lt_of_pos x (by omega)
theorem i64_small : ∀ n : Int,0 ≤ n → n < 2 ^ 63 → IntKind.i64.wrap n = n := by
 intro n h1 h2
 exact IntWalk.i64_in n (by simp only [show (2:Int)^63 = 9223372036854775808 from by decide] at h2; omega)
theorem and_mask (i : Nat) (hi : i ≤ 63) (n : Int) (h0 : 0 ≤ n) (h1 : n < 9223372036854775808) : bits .and .i64 n (2 ^ i - 1) = n % 2 ^ i := by
 have := bits_mask .i64 63 (by decide) i64_small i hi n h0 (by simpa using h1)
 simpa using this
theorem owns_slice {w : World} {B : Nat} {e : TypeId} {size : Nat} {v : Value} {n : Nat} {xs : List Value} (h : w.ownsRow B e size v n xs) : ∃ a cap,v = .slice a n cap := by
 rcases h.2 with ⟨rfl,rfl⟩ | ⟨g,cap,cur,rfl,_⟩
 ·exact ⟨none,0,rfl⟩
 ·exact ⟨_,cap,rfl⟩
section
variable {P : Program} {ops : Array Oper} {o : Oper} {a : Act} {w : World} {K : Act → World → Prop} {Q : Exit → Act → World → Prop} {E : Prop}
end
theorem news_block (w : World) (arr : Array Value) (t : TypeId) : ∀ (j : Nat) u,arr.toList[j]? = some u → (w.alloc (.cells arr t)).cell? ((⟨w.heap.size,0,none⟩ : Addr).add j) = some u := by
 intro j u hu
 have hadd : (⟨w.heap.size,0,none⟩ : Addr).add j = ⟨w.heap.size,j,none⟩ := by unfold Addr.add; split <;> simp_all
 rw [hadd,cell_of_row (w.alloc (.cells arr t)) w.heap.size j arr t (0,0) (heap_alloc_new w _)]
 simpa using hu
end
section
open Go.RowKit Go.WideShapes Go.ChangeShapes
theorem block_of_add (a : Addr) (n : Nat) : (a.add n).block = a.block := by unfold Addr.add; split <;> rfl
def Reads (w : World) (B size : Nat) (A : Option Addr) (n : Nat) (xs : List Value) : Prop :=
 xs.length = n * size ∧ (0 < n → ∃ ad,A = some ad ∧ ad.block < B ∧ ∀ j u,xs[j]? = some u → w.cell? (ad.add j) = some u)
section
variable {w w' : World} {B B' size n : Nat} {A : Option Addr} {xs : List Value}
theorem Reads.keep (h : Reads w B size A n xs) (hk : ∀ p : Addr,p.block < B → w'.cell? p = w.cell? p) : Reads w' B size A n xs :=
 ⟨h.1,fun hn => by
  obtain ⟨ad,e,hb,hc⟩ := h.2 hn
  exact ⟨ad,e,hb,fun j u hu => (hk _ (by rw [block_of_add]; exact hb)).trans (hc j u hu)⟩⟩
theorem Reads.more (h : Reads w B size A n xs) (hB : B ≤ B') : Reads w B' size A n xs :=
 ⟨h.1,fun hn => by
  obtain ⟨ad,e,hb,hc⟩ := h.2 hn
  exact ⟨ad,e,by omega,hc⟩⟩
theorem Reads.below (h : Reads w B size A n xs) (hb : Below B w w') : Reads w' B size A n xs := h.keep fun _ hp => hb.cell hp
theorem Reads.alloc (h : Reads w B size A n xs) (hB : B ≤ w.heap.size) (o : Obj) : Reads (w.alloc o) B size A n xs := h.keep fun p hp => World.cell?_alloc_lt w o p (by omega)
theorem Reads.of_own {base : Nat} {e : TypeId} {c : Nat} (h : w.ownsRow base e size (.slice A n c) n xs) : Reads w w.heap.size size A n xs := by
 refine ⟨h.1,fun hn => ?_⟩
 obtain ⟨g,cap,hv,_,hlt⟩ := h.form hn
 have hA : A = some ⟨g,0,none⟩ := by injection hv
 subst hA
 exact ⟨_,rfl,hlt,h.cells (g := g) rfl⟩
end
def Blk (w : World) (g : Nat) (t : TypeId) (cs : Array Value) : Prop := w.heap[g]? = some (.cells cs t (0,0))
section
variable {w w' : World} {g : Nat} {t : TypeId} {cs : Array Value}
theorem Blk.lt (h : Blk w g t cs) : g < w.heap.size := by
 rcases Nat.lt_or_ge g w.heap.size with hlt | hge
 ·exact hlt
 ·unfold Blk at h; rw [Array.getElem?_eq_none hge] at h; cases h
theorem Blk.cell (h : Blk w g t cs) (i : Nat) : w.cell? ⟨g,i,none⟩ = cs[i]? := cell_of_row w g i cs t (0,0) h
theorem Blk.frozen (h : Blk w g t cs) (i : Nat) : w.frozen? ⟨g,i,none⟩ = false := by
 unfold Blk at h
 simp [World.frozen?,h]
theorem Blk.new (w : World) (t : TypeId) (cs : Array Value) : Blk (w.alloc (.cells cs t)) w.heap.size t cs := heap_alloc_new w _
theorem Blk.set_ (h : Blk w g t cs) (i : Nat) (u : Value) : Blk (w.setCell ⟨g,i,none⟩ u) g t (cs.setIfInBounds i u) := by
 unfold Blk at h ⊢
 simp [World.setCell,Array.getElem?_modify,h]
theorem Blk.below {B : Nat} (h : Blk w g t cs) (hb : Below B w w') (hg : g < B) : Blk w' g t cs := (hb.block g hg).trans h
end
section
variable {P : Program} (w : World)
theorem run_append_of_nil (base : Nat) (t ty e : TypeId) (i : TypeInfo) (size : Nat) (ht : P.underlying t = some (.slice e)) (hi : P.info? e = some i)
  (v : Value) (n : Nat) (xs : List Value) (hown : w.ownsRow base e size v n xs) (c : Nat) : (Builtin.append_ #[t,t] ty #[v,.slice none 0 c]).run P w = .ok v w := by
 rcases hown.2 with ⟨rfl,rfl⟩ | ⟨g,cap,cur,rfl,_,_,hnc,_⟩
 ·simp [Builtin.append_,run_underlying ht,sizeOf,typeInfo,hi,Builtin.lenOf,Builtin.firstCells]
 ·simp [Builtin.append_,run_underlying ht,sizeOf,typeInfo,hi,Builtin.lenOf,Builtin.firstCells,hnc,storeCells]
theorem run_append_any (base : Nat) (t ty e : TypeId) (i : TypeInfo) (z : Value) (size bytes : Nat) (ht : P.underlying t = some (.slice e)) (hi : P.info? e = some i) (hz : i.zero = some z)
  (hsize : i.size = size) (hby : i.bytes = bytes) (hzs : z.cells.size = size) (hsz : 0 < size)
  (v : Value) (n : Nat) (xs : List Value) (hown : w.ownsRow base e size v n xs)
  (B : Nat) (A : Option Addr) (m c : Nat) (news : List Value) (hr : Reads w B size A m news) (h1 : ∀ u ∈ news,u.oneCell' = true)
  (h63 : n + m ≤ maxLen) (hbytes : (n + m) * bytes ≤ 140737488355328) (hbase : base ≤ w.heap.size) :
  ∃ v' w',(Builtin.append_ #[t,t] ty #[v,.slice A m c]).run P w = .ok v' w' ∧ w'.ownsRow base e size v' (n + m) (xs ++ news) ∧ w.grownBy w' v.ownBlock ∧
   (v'.ownBlock = v.ownBlock ∨ v'.ownBlock = some w.heap.size) := by
 rcases A with _ | ad
 ·have hm : m = 0 := by
   rcases Nat.eq_zero_or_pos m with h0 | h0
   ·exact h0
   ·obtain ⟨ad,h,_⟩ := hr.2 h0
    cases h
  subst hm
  have hn : news = [] := List.eq_nil_of_length_eq_zero (by simpa using hr.1)
  subst hn
  exact ⟨v,w,run_append_of_nil w base t ty e i size ht hi v n xs hown c,by simpa using hown,World.grownBy.refl w _,.inl rfl⟩
 ·have hcells : ∀ j u,news[j]? = some u → w.cell? (ad.add j) = some u := by
   intro j u hu
   rcases Nat.eq_zero_or_pos m with h0 | h0
   ·subst h0
    have hn : news = [] := List.eq_nil_of_length_eq_zero (by simpa using hr.1)
    subst hn
    simp at hu
   ·obtain ⟨ad',h,_,hc⟩ := hr.2 h0
    injection h with h
    subst h
    exact hc j u hu
  obtain ⟨v',w',hrun,h2,h3,_,h5⟩ := run_append_own_at (P := P) w base t ty e i z size bytes ht hi hz hsize hby hzs hsz v n xs hown ad m c news hr.1 hcells h1 h63 hbytes hbase
  exact ⟨v',w',hrun,h2,h3,h5⟩
end
theorem only_setCell {a w : World} {g : Nat} (h : a.grownBy w (some g)) {p : Addr} (hp : p.block = g ∨ a.heap.size ≤ p.block) (u : Value) : a.grownBy (w.setCell p u) (some g) :=
 ⟨h.os,h.tape,h.output,by simpa [World.setCell] using h.size,fun i hi hne => (Below.heap_setCell w p u i (by
  rintro rfl
  rcases hp with hp | hp
  ·exact hne (by rw [hp])
  ·omega)).trans (h.block i hi hne)⟩
theorem ofInt_i64 (a : Nat) (ha : a < 9223372036854775808) : (BitVec.ofInt 64 (a : Int)).toNat = a := by
 rw [BitVec.ofInt_natCast,BitVec.toNat_ofNat]; exact Nat.mod_eq_of_lt (by omega)
theorem i64_and_nat (a b : Nat) (ha : a < 9223372036854775808) (hb : b < 9223372036854775808) : bits .and .i64 (a : Int) (b : Int) = ((a &&& b : Nat) : Int) := by
 have hx : a &&& b < 2 ^ 63 := Nat.and_lt_two_pow _ (by omega)
 show IntKind.i64.wrap ((BitVec.ofInt 64 (a : Int) &&& BitVec.ofInt 64 (b : Int)).toNat : Int) = _
 rw [BitVec.toNat_and,ofInt_i64 a ha,ofInt_i64 b hb,IntKind.wrap_i64]
 omega
theorem i64_or_nat (a b : Nat) (ha : a < 9223372036854775808) (hb : b < 9223372036854775808) : bits .or .i64 (a : Int) (b : Int) = ((a ||| b : Nat) : Int) := by
 have hx : a ||| b < 2 ^ 63 := Nat.or_lt_two_pow (by omega) (by omega)
 show IntKind.i64.wrap ((BitVec.ofInt 64 (a : Int) ||| BitVec.ofInt 64 (b : Int)).toNat : Int) = _
 rw [BitVec.toNat_or,ofInt_i64 a ha,ofInt_i64 b hb,IntKind.wrap_i64]
 omega
theorem i64_xor_nat (a b : Nat) (ha : a < 9223372036854775808) (hb : b < 9223372036854775808) : bits .xor .i64 (a : Int) (b : Int) = ((a ^^^ b : Nat) : Int) := by
 have hx : a ^^^ b < 2 ^ 63 := Nat.xor_lt_two_pow (by omega) (by omega)
 show IntKind.i64.wrap ((BitVec.ofInt 64 (a : Int) ^^^ BitVec.ofInt 64 (b : Int)).toNat : Int) = _
 rw [BitVec.toNat_xor,ofInt_i64 a ha,ofInt_i64 b hb,IntKind.wrap_i64]
 omega
section
variable {H : Type} {enc : TypeId × Value → H} {P : Program}
end
def cellsB (l : List UInt8) : List Value := l.map fun c => .int .u8 (c.toNat : Int)
theorem cellsB_length (l : List UInt8) : (cellsB l).length = l.length := by simp [cellsB]
theorem cellsB_one (l : List UInt8) : ∀ u ∈ cellsB l,u.oneCell' = true := by
 intro u hu
 simp only [cellsB,List.mem_map] at hu
 obtain ⟨c,-,rfl⟩ := hu
 rfl
theorem cellsB_append (a b : List UInt8) : cellsB (a ++ b) = cellsB a ++ cellsB b := by simp [cellsB]
theorem cellsB_get (l : List UInt8) (k : Nat) (c : UInt8) (h : l[k]? = some c) : (cellsB l)[k]? = some (.int .u8 (c.toNat : Int)) := by simp [cellsB,h]
theorem Reads.cell {w : World} {B n k : Nat} {A : Option Addr} {l : List UInt8} (h : Reads w B 1 A n (cellsB l)) {c : UInt8} (hc : l[k]? = some c) :
  ∃ ad,A = some ad ∧ ad.block < B ∧ w.cell? (ad.add k) = some (.int .u8 (c.toNat : Int)) := by
 have hl : k < l.length := (List.getElem?_eq_some_iff.1 hc).1
 have hn := h.1
 rw [cellsB_length] at hn
 obtain ⟨ad,e,hb,hx⟩ := h.2 (by omega)
 exact ⟨ad,e,hb,hx k _ (cellsB_get l k c hc)⟩
theorem Reads.of_below {w w' : World} {size n : Nat} {A : Option Addr} {xs : List Value} (h : Reads w w.heap.size size A n xs) (hb : Below w.heap.size w w') : Reads w' w'.heap.size size A n xs :=
 (h.below hb).more hb.size
def BV (w : World) (v : Value) (l : List UInt8) : Prop := ∃ A c,v = .slice A l.length c ∧ l.length ≤ c ∧ c ≤ maxLen ∧ Reads w w.heap.size 1 A l.length (cellsB l)
theorem BV.keep {w w' : World} {v : Value} {l : List UInt8} (h : BV w v l) (hb : Below w.heap.size w w') : BV w' v l := by
 obtain ⟨A,c,e,h1,h2,h3⟩ := h
 exact ⟨A,c,e,h1,h2,h3.of_below hb⟩
theorem BV.of_owns {w : World} {B : Nat} {e : TypeId} {v : Value} {l : List UInt8} (h : w.ownsRow B e 1 v l.length (cellsB l)) : BV w v l := by
 obtain ⟨a,c,rfl⟩ := owns_slice h
 have hr := Reads.of_own h
 obtain ⟨hl,h⟩ := h
 rcases h with ⟨h1,h2⟩ | ⟨g,cap,cur,h1,hb,hg,hn,hc,hs,ht⟩
 ·injection h1 with e1 e2 e3
  exact ⟨a,c,rfl,by omega,by subst e3; simp [maxLen],hr⟩
 ·injection h1 with e1 e2 e3
  subst e3
  exact ⟨a,c,rfl,hn,hc,hr⟩
end
section
open Go.RowKit
structure HB where
 g : Nat
 t : TypeId
 cs : Array Value
def keys (H : List HB) : List Nat := H.map (·.g)
theorem keys_cons (b : HB) (H : List HB) : keys (b :: H) = b.g :: keys H := rfl
theorem keys_append (A B : List HB) : keys (A ++ B) = keys A ++ keys B := List.map_append
theorem mem_keys {H : List HB} {b : HB} (h : b ∈ H) : b.g ∈ keys H := List.mem_map.2 ⟨b,h,rfl⟩
def cnt (g : Nat) (H : List HB) : Nat := (keys H).count g
theorem cnt_nil (g : Nat) : cnt g [] = 0 := rfl
theorem cnt_cons (g : Nat) (b : HB) (H : List HB) : cnt g (b :: H) = (if b.g = g then 1 else 0) + cnt g H := by
 unfold cnt
 rw [keys_cons,List.count_cons]
 simp only [beq_iff_eq]
 omega
theorem cnt_append (g : Nat) (A B : List HB) : cnt g (A ++ B) = cnt g A + cnt g B := by
 unfold cnt
 rw [keys_append,List.count_append]
def Sat (w : World) (H : List HB) : Prop := (keys H).Nodup ∧ ∀ b ∈ H,Blk w b.g b.t b.cs
theorem Sat.nil (w : World) : Sat w [] := ⟨List.nodup_nil,fun _ h => by cases h⟩
theorem Sat.lt {w : World} {H : List HB} (h : Sat w H) {g : Nat} (hg : g ∈ keys H) : g < w.heap.size := by
 obtain ⟨b,hb,rfl⟩ := List.mem_map.1 hg
 exact (h.2 b hb).lt
theorem Sat.sub {w : World} {H H1 : List HB} (h : Sat w H) (hc : ∀ g,cnt g H1 ≤ cnt g H) (hm : ∀ b ∈ H1,b ∈ H) : Sat w H1 :=
 ⟨List.nodup_iff_count.2 fun g => Nat.le_trans (hc g) (List.nodup_iff_count.1 h.1 g),fun b hb => h.2 b (hm b hb)⟩
theorem Sat.left {w : World} {A B : List HB} (h : Sat w (A ++ B)) : Sat w A :=
 h.sub (fun g => by rw [cnt_append]; omega) (fun b hb => List.mem_append_left _ hb)
theorem Sat.right {w : World} {A B : List HB} (h : Sat w (A ++ B)) : Sat w B :=
 h.sub (fun g => by rw [cnt_append]; omega) (fun b hb => List.mem_append_right _ hb)
theorem Sat.apart {w : World} {A B : List HB} (h : Sat w (A ++ B)) {g : Nat} (ha : g ∈ keys A) (hb : g ∈ keys B) : False := by
 have h1 := List.nodup_iff_count.1 h.1 g
 rw [keys_append,List.count_append] at h1
 have h2 := List.count_pos_iff.2 ha
 have h3 := List.count_pos_iff.2 hb
 omega
theorem Sat.drew {w : World} {H : List HB} (h : Sat w H) : Sat w.drew H := h
theorem Sat.drewN {w : World} {H : List HB} (h : Sat w H) (n : Nat) : Sat (w.drewN n) H := h
theorem Sat.at_ {w : World} {H : List HB} (h : Sat w H) (k : Nat) {g : Nat} {t : TypeId} {cs : Array Value} (hk : H[k]? = some ⟨g,t,cs⟩) : Blk w g t cs := h.2 _ (List.mem_of_getElem? hk)
theorem Sat.mem {w : World} {H : List HB} (h : Sat w H) {g : Nat} {t : TypeId} {cs : Array Value} (hk : (⟨g,t,cs⟩ : HB) ∈ H) : Blk w g t cs := h.2 _ hk
structure Only (K : List Nat) (w w' : World) : Prop where
 os : w'.os = w.os
 tape : w'.tape = w.tape
 output : w'.output = w.output
 size : w.heap.size ≤ w'.heap.size
 block : ∀ k,k < w.heap.size → k ∉ K → w'.heap[k]? = w.heap[k]?
theorem Only.refl (K : List Nat) (w : World) : Only K w w := ⟨rfl,rfl,rfl,Nat.le_refl _,fun _ _ _ => rfl⟩
theorem Only.below {K : List Nat} {w w' : World} {B : Nat} (h : Only K w w') (hB : B ≤ w.heap.size) (hK : ∀ k ∈ K,B ≤ k) : Below B w w' :=
 ⟨h.os,h.tape,h.output,h.size,fun k hk => h.block k (by omega) (fun e => by have := hK k e; omega)⟩
theorem Only.grown {w w' : World} {K : List Nat} {row : Option Nat} (hg : w.grownBy w' row) (hr : ∀ k,row = some k → k ∈ K) : Only K w w' :=
 ⟨hg.os,hg.tape,hg.output,hg.size,fun k hk hn => hg.block k hk (fun e => hn (hr k e.symm))⟩
theorem Only.blk {K : List Nat} {w w' : World} {g : Nat} {t : TypeId} {cs : Array Value} (h : Only K w w') (hb : Blk w g t cs) (hn : g ∉ K) : Blk w' g t cs := (h.block g hb.lt hn).trans hb
structure Mv (w : World) (H : List HB) (w' : World) (H' : List HB) : Prop where
 sat : Sat w' H'
 only : Only (keys H) w w'
 new : ∀ g ∈ keys H',g ∈ keys H ∨ w.heap.size ≤ g
section
variable {w0 w w' : World} {H0 H H' H1 R : List HB}
theorem Mv.refl (h : Sat w H) : Mv w H w H := ⟨h,Only.refl _ _,fun _ hg => .inl hg⟩
theorem Mv.call (h : Mv w0 H0 w (H ++ R)) (m : Mv w H w' H') : Mv w0 H0 w' (H' ++ R) := by
 have hR : ∀ g ∈ keys R,g ∉ keys H := fun g h1 h2 => h.sat.apart h2 h1
 refine ⟨⟨?_,?_⟩,⟨m.only.os.trans h.only.os,m.only.tape.trans h.only.tape,m.only.output.trans h.only.output,Nat.le_trans h.only.size m.only.size,fun k hk hn => ?_⟩,fun g hg => ?_⟩
 ·rw [keys_append]
  refine List.nodup_append.2 ⟨m.sat.1,h.sat.right.1,fun a ha b hb e => ?_⟩
  subst e
  rcases m.new a ha with h1 | h1
  ·exact hR a hb h1
  ·have := h.sat.right.lt hb
   omega
 ·intro b hb
  rcases List.mem_append.1 hb with h1 | h1
  ·exact m.sat.2 b h1
  ·exact m.only.blk (h.sat.right.2 b h1) (hR _ (mem_keys h1))
 ·have hn2 : k ∉ keys H := fun e => by
   rcases h.new k (by rw [keys_append]; exact List.mem_append_left _ e) with h1 | h1
   ·exact hn h1
   ·omega
  exact (m.only.block k (Nat.lt_of_lt_of_le hk h.only.size) hn2).trans (h.only.block k hk hn)
 ·rw [keys_append] at hg
  rcases List.mem_append.1 hg with h1 | h1
  ·rcases m.new g h1 with h2 | h2
   ·exact h.new g (by rw [keys_append]; exact List.mem_append_left _ h2)
   ·exact .inr (Nat.le_trans h.only.size h2)
  ·exact h.new g (by rw [keys_append]; exact List.mem_append_right _ h1)
theorem Mv.sub (h : Mv w0 H0 w H) (hc : ∀ g,cnt g H1 ≤ cnt g H) (hm : ∀ b ∈ H1,b ∈ H) : Mv w0 H0 w H1 :=
 ⟨h.sat.sub hc hm,h.only,fun g hg => by
  obtain ⟨b,hb,rfl⟩ := List.mem_map.1 hg
  exact h.new _ (mem_keys (hm b hb))⟩
theorem Mv.mv1 {A B : List HB} (h : Mv w0 H0 w (A ++ (B ++ R))) : Mv w0 H0 w (B ++ (A ++ R)) :=
 h.sub (fun g => by simp only [cnt_append]; omega) (fun b hb => by simp only [List.mem_append] at hb ⊢; grind)
theorem Mv.mv2 {A B C : List HB} (h : Mv w0 H0 w (A ++ (B ++ (C ++ R)))) : Mv w0 H0 w (C ++ (A ++ (B ++ R))) :=
 h.sub (fun g => by simp only [cnt_append]; omega) (fun b hb => by simp only [List.mem_append] at hb ⊢; grind)
theorem Mv.trans (h : Mv w0 H0 w H) (m : Mv w H w' H') : Mv w0 H0 w' H' := by
 have := Mv.call (R := []) (by simpa using h) m
 simpa using this
theorem Mv.drewN (h : Mv w0 H0 w H) (n : Nat) : Mv w0 H0 (w.drewN n) H := ⟨h.sat.drewN n,⟨h.only.os,h.only.tape,h.only.output,h.only.size,h.only.block⟩,h.new⟩
theorem Mv.drew (h : Mv w0 H0 w H) : Mv w0 H0 w.drew H := ⟨h.sat.drew,⟨h.only.os,h.only.tape,h.only.output,h.only.size,h.only.block⟩,h.new⟩
theorem Mv.drop1 {b : HB} (h : Mv w0 H0 w (b :: H)) : Mv w0 H0 w H :=
 h.sub (fun g => by rw [cnt_cons]; omega) (fun _ hb => List.mem_cons_of_mem _ hb)
theorem Mv.drop {A : List HB} (h : Mv w0 H0 w (A ++ H)) : Mv w0 H0 w H :=
 h.sub (fun g => by rw [cnt_append]; omega) (fun _ hb => List.mem_append_right _ hb)
theorem Mv.drop2 {A B : List HB} (h : Mv w0 H0 w (A ++ (B ++ H))) : Mv w0 H0 w (A ++ H) :=
 h.sub (fun g => by simp only [cnt_append]; omega) (fun b hb => by simp only [List.mem_append] at hb ⊢; grind)
theorem Mv.of_grown {g : Nat} {t : TypeId} {cs cs' : Array Value} (hg : w.grownBy w' (some g)) (hb : Blk w' g t cs') : Mv w [⟨g,t,cs⟩] w' [⟨g,t,cs'⟩] :=
 ⟨⟨by simp [keys],fun b h => by simp only [List.mem_singleton] at h; subst h; exact hb⟩,Only.grown hg (by rintro k ⟨⟩; simp [keys]),fun g h => .inl (by simpa [keys] using h)⟩
theorem mv_set {g : Nat} {t : TypeId} {cs : Array Value} (hb : Blk w g t cs) (i : Nat) (v : Value) : Mv w [⟨g,t,cs⟩] (w.setCell ⟨g,i,none⟩ v) [⟨g,t,cs.setIfInBounds i v⟩] :=
 Mv.of_grown (only_setCell (World.grownBy.refl _ _) (p := ⟨g,i,none⟩) (.inl rfl) _) (hb.set_ i v)
theorem Mv.set {g : Nat} {t : TypeId} {cs : Array Value} (h : Mv w0 H0 w (⟨g,t,cs⟩ :: R)) (i : Nat) (v : Value) : Mv w0 H0 (w.setCell ⟨g,i,none⟩ v) (⟨g,t,cs.setIfInBounds i v⟩ :: R) :=
 Mv.call (H := [⟨g,t,cs⟩]) (R := R) h (mv_set (h.sat.mem List.mem_cons_self) i v)
theorem mv_alloc (w : World) (t : TypeId) (cs : Array Value) : Mv w [] (w.alloc (.cells cs t)) [⟨w.heap.size,t,cs⟩] :=
 ⟨⟨by simp [keys],fun b h => by simp only [List.mem_singleton] at h; subst h; exact Blk.new w t cs⟩,Only.grown (World.grownBy_alloc w _ none) (by rintro k ⟨⟩),fun g h => .inr (by simp [keys] at h; omega)⟩
theorem Mv.alloc (h : Mv w0 H0 w H) (t : TypeId) (cs : Array Value) : Mv w0 H0 (w.alloc (.cells cs t)) (⟨w.heap.size,t,cs⟩ :: H) :=
 Mv.call (H := []) (R := H) h (mv_alloc w t cs)
theorem Mv.below {B : Nat} (h : Mv w0 H0 w H) (hB : B ≤ w0.heap.size) (hK : ∀ k ∈ keys H0,B ≤ k) : Below B w0 w := h.only.below hB hK
theorem Mv.below0 (h : Mv w0 [] w H) : Below w0.heap.size w0 w := h.below (Nat.le_refl _) (fun k hk => by cases hk)
theorem Mv.frame (h : Mv w0 H0 w H) (hs : Sat w0 (H0 ++ R)) : Mv w0 (H0 ++ R) w (H ++ R) := Mv.call (Mv.refl hs) h
theorem Mv.cell {g : Nat} {t : TypeId} {cs : Array Value} (h : Mv w0 H0 w H) (k : Nat) (hk : H[k]? = some ⟨g,t,cs⟩) (i : Nat) : w.cell? ⟨g,i,none⟩ = cs[i]? := (h.sat.at_ k hk).cell i
theorem Mv.frozen {g : Nat} {t : TypeId} {cs : Array Value} (h : Mv w0 H0 w H) (k : Nat) (hk : H[k]? = some ⟨g,t,cs⟩) (i : Nat) : w.frozen? ⟨g,i,none⟩ = false := (h.sat.at_ k hk).frozen i
theorem Mv.blk {g : Nat} {t : TypeId} {cs : Array Value} (h : Mv w0 H0 w H) (k : Nat) (hk : H[k]? = some ⟨g,t,cs⟩) : Blk w g t cs := h.sat.at_ k hk
theorem Mv.others (h : Mv w0 H0 w H) (hs : Sat w0 H0) : ∀ (k : Nat) (o : Obj),w0.heap[k]? = some o → (∀ c t f,o ≠ .cells c t f) → w.heap[k]? = some o := by
 intro k o hk hn
 refine (h.only.block k (Array.getElem?_eq_some_iff.1 hk).1 fun e => ?_).trans hk
 obtain ⟨b,hb,rfl⟩ := List.mem_map.1 e
 have := hs.2 b hb
 unfold Blk at this
 rw [hk] at this
 cases this
 exact hn _ _ _ rfl
end
def RowH (e : TypeId) (size : Nat) (v : Value) (n : Nat) (xs : List Value) (H : List HB) : Prop :=
  xs.length = n * size ∧
  ((v = .slice none 0 0 ∧ n = 0 ∧ H = []) ∨
   ∃ g cap cur,v = .slice (some ⟨g,0,none⟩) n cap ∧ n ≤ cap ∧ cap ≤ maxLen ∧ cur.size = cap * size ∧ cur.toList.take (n * size) = xs ∧ H = [⟨g,e,cur⟩])
section
variable {w0 w w' : World} {H0 H R : List HB} {e : TypeId} {size n : Nat} {v : Value} {xs : List Value}
theorem RowH.nil (e : TypeId) (size : Nat) : RowH e size (.slice none 0 0) 0 [] [] := ⟨by simp,.inl ⟨rfl,rfl,rfl⟩⟩
theorem RowH.slice (h : RowH e size v n xs H) : ∃ a c,v = .slice a n c := by
 rcases h.2 with ⟨rfl,rfl,-⟩ | ⟨g,cap,cur,rfl,-⟩
 ·exact ⟨none,0,rfl⟩
 ·exact ⟨_,cap,rfl⟩
theorem RowH.form (h : RowH e size v n xs H) (hn : 0 < n) : ∃ g cap cur,v = .slice (some ⟨g,0,none⟩) n cap ∧ n ≤ cap ∧ cap ≤ maxLen ∧ cur.size = cap * size ∧ cur.toList.take (n * size) = xs ∧ H = [⟨g,e,cur⟩] := by
 rcases h.2 with ⟨-,rfl,-⟩ | h
 ·omega
 ·exact h
theorem RowH.new (e : TypeId) (g n : Nat) (arr : Array Value) (hs : arr.size = n * size) (hm : n ≤ maxLen) : RowH e size (.slice (some ⟨g,0,none⟩) n n) n arr.toList [⟨g,e,arr⟩] :=
 ⟨by simpa using hs,.inr ⟨g,n,arr,rfl,Nat.le_refl _,hm,hs,by rw [← hs,← Array.length_toList,List.take_length],rfl⟩⟩
theorem RowH.owns (h : RowH e size v n xs H) (hs : Sat w H) {B : Nat} (hB : ∀ g ∈ keys H,B ≤ g) : w.ownsRow B e size v n xs := by
 refine ⟨h.1,?_⟩
 rcases h.2 with ⟨rfl,rfl,-⟩ | ⟨g,cap,cur,rfl,h1,h2,h3,h4,rfl⟩
 ·exact .inl ⟨rfl,rfl⟩
 ·exact .inr ⟨g,cap,cur,rfl,hB g (by simp [keys]),hs.mem List.mem_cons_self,h1,h2,h3,h4⟩
theorem RowH.block (h : RowH e size v n xs H) {k : Nat} (hk : v.ownBlock = some k) : k ∈ keys H := by
 rcases h.2 with ⟨rfl,rfl,-⟩ | ⟨g,cap,cur,rfl,h1,h2,h3,h4,rfl⟩
 ·simp [Value.ownBlock] at hk
 ·simp [Value.ownBlock] at hk; simp [keys,hk]
theorem RowH.of_owns {B : Nat} (h : w.ownsRow B e size v n xs) : ∃ H,RowH e size v n xs H ∧ Sat w H ∧ ∀ g ∈ keys H,B ≤ g ∧ v.ownBlock = some g := by
 obtain ⟨h1,h2⟩ := h
 rcases h2 with ⟨rfl,rfl⟩ | ⟨g,cap,cur,rfl,hb,hg,hn,hc,hs,ht⟩
 ·exact ⟨[],⟨h1,.inl ⟨rfl,rfl,rfl⟩⟩,Sat.nil w,fun g hg => by cases hg⟩
 ·exact ⟨[⟨g,e,cur⟩],⟨h1,.inr ⟨g,cap,cur,rfl,hn,hc,hs,ht,rfl⟩⟩,⟨by simp [keys],fun b h => by simp only [List.mem_singleton] at h; subst h; exact hg⟩,fun k hk => by simp [keys] at hk; subst hk; exact ⟨hb,rfl⟩⟩
theorem mv_owns_grown (h : RowH e size v n xs H) {v' : Value} {n' : Nat} {xs' : List Value} (h' : w'.ownsRow 0 e size v' n' xs') (hg : w.grownBy w' v.ownBlock) (hat : v'.ownBlock = v.ownBlock ∨ v'.ownBlock = some w.heap.size) :
  ∃ H',RowH e size v' n' xs' H' ∧ Mv w H w' H' := by
 obtain ⟨H',h1,h2,h3⟩ := RowH.of_owns h'
 refine ⟨H',h1,h2,Only.grown hg fun k hk => h.block hk,fun g hgk => ?_⟩
 have := (h3 g hgk).2
 rcases hat with e | e
 ·exact .inl (h.block (by rw [← e,this]))
 ·rw [this] at e
  cases e
  exact .inr (Nat.le_refl _)
theorem RowH.set (h : RowH e size v n xs H) (hs : Sat w H) {g c : Nat} (hv : v = .slice (some ⟨g,0,none⟩) n c) (i : Nat) (u : Value) (_hi : i < n * size) :
  ∃ H',RowH e size v n (xs.set i u) H' ∧ Mv w H (w.setCell ⟨g,i,none⟩ u) H' := by
 have h1 := h.1
 rcases h.2 with ⟨h2,-,-⟩ | ⟨g',cap,cur,rfl,k1,k2,k3,k4,rfl⟩
 ·rw [hv] at h2; cases h2
 ·cases hv
  refine ⟨[⟨g,e,cur.setIfInBounds i u⟩],⟨by simpa using h1,.inr ⟨g,_,_,rfl,k1,k2,by simpa using k3,?_,rfl⟩⟩,mv_set (hs.mem List.mem_cons_self) i u⟩
  rw [Array.toList_setIfInBounds,List.take_set,k4]
theorem RowH.cell (h : RowH e size v n xs H) (hs : Sat w H) {g c : Nat} (hv : v = .slice (some ⟨g,0,none⟩) n c) (i : Nat) (hi : i < n * size) : w.cell? ⟨g,i,none⟩ = xs[i]? ∧ w.frozen? ⟨g,i,none⟩ = false := by
 rcases h.2 with ⟨h2,-,-⟩ | ⟨g',cap,cur,rfl,k1,k2,k3,k4,rfl⟩
 ·rw [hv] at h2; cases h2
 ·cases hv
  have hb : Blk w g e cur := hs.mem List.mem_cons_self
  refine ⟨?_,hb.frozen i⟩
  rw [hb.cell i,← k4,List.getElem?_take,if_pos hi,Array.getElem?_toList]
end
end
section
open Go.RowKit
theorem infoU8 : (Try.prog.info? 5).map (fun i => (i.zero,i.size,i.bytes)) = some (some (.int .u8 0),1,1) := by kernel_rfl
def RowB (v : Value) (l : List UInt8) (H : List HB) : Prop := RowH 5 1 v l.length (cellsB l) H
theorem RowB.slice {v : Value} {l : List UInt8} {H : List HB} (h : RowB v l H) : ∃ a c,v = .slice a l.length c := RowH.slice h
theorem RowB.lit (g : Nat) (l : List UInt8) (n : Nat) (hn : n = l.length) (hm : n ≤ maxLen) : RowB (.slice (some ⟨g,0,none⟩) n n) l [⟨g,5,(cellsB l).toArray⟩] := by
 subst hn
 have := RowH.new 5 g l.length (cellsB l).toArray (size := 1) (by simp [cellsB]) hm
 simpa [RowB] using this
theorem RowB.bv {w : World} {v : Value} {l : List UInt8} {H : List HB} (h : RowB v l H) (hs : Sat w H) : BV w v l := BV.of_owns (RowH.owns h hs (B := 0) (fun _ _ => Nat.zero_le _))
theorem RowB.last {w : World} {v : Value} {l : List UInt8} {H : List HB} (h : RowB v l H) (hs : Sat w H) (hl : 0 < l.length) :
  ∃ g c,v = .slice (some ⟨g,0,none⟩) l.length c ∧ w.cell? ⟨g,l.length - 1,none⟩ = some (.int .u8 ((l.getLastD 0).toNat : Int)) ∧ w.frozen? ⟨g,l.length - 1,none⟩ = false := by
 obtain ⟨g,cap,cur,rfl,-⟩ := RowH.form h hl
 obtain ⟨h1,h2⟩ := RowH.cell h hs rfl (l.length - 1) (by omega)
 refine ⟨g,cap,rfl,?_,h2⟩
 rw [h1]
 refine cellsB_get l _ _ ?_
 rw [List.getLastD_eq_getLast?,List.getLast?_eq_getElem?,List.getElem?_eq_getElem (by omega)]
 rfl
theorem RowB.at_last {w : World} {g c n : Nat} {l : List UInt8} {H : List HB} (h : RowB (.slice (some ⟨g,0,none⟩) n c) l H) (hs : Sat w H) (hn : l.length = n) (hl : 0 < n) :
  w.cell? ⟨g,n - 1,none⟩ = some (.int .u8 ((l.getLastD 0).toNat : Int)) ∧ w.frozen? ⟨g,n - 1,none⟩ = false := by
 subst hn
 obtain ⟨g',c',e,h1,h2⟩ := h.last hs hl
 cases e
 exact ⟨h1,h2⟩
theorem RowB.len {g : Option Addr} {c n : Nat} {l : List UInt8} {H : List HB} (h : RowB (.slice g n c) l H) : n = l.length := by
 obtain ⟨a,c',e⟩ := h.slice
 cases e
 rfl
theorem RowB.set_last {w : World} {g c : Nat} {l : List UInt8} {H : List HB} (h : RowB (.slice (some ⟨g,0,none⟩) l.length c) l H) (hs : Sat w H) (hl : 0 < l.length) (x : UInt8) :
  ∃ H',RowB (.slice (some ⟨g,0,none⟩) l.length c) (l.dropLast ++ [x]) H' ∧ Mv w H (w.setCell ⟨g,l.length - 1,none⟩ (.int .u8 (x.toNat : Int))) H' := by
 obtain ⟨H',h1,h2⟩ := RowH.set h hs rfl (l.length - 1) (.int .u8 (x.toNat : Int)) (by omega)
 refine ⟨H',?_,h2⟩
 have e2 : (cellsB l).set (l.length - 1) (.int .u8 (x.toNat : Int)) = cellsB (l.dropLast ++ [x]) := by
  have hl2 : l = l.dropLast ++ [l.getLast (List.ne_nil_of_length_pos hl)] := (List.dropLast_concat_getLast _).symm
  generalize l.getLast (List.ne_nil_of_length_pos hl) = y at hl2
  have e3 : l.length - 1 = l.dropLast.length := by simp
  rw [e3]
  conv => lhs; rw [hl2]
  simp only [cellsB,List.map_append]
  rw [List.set_append_right _ _ (by simp)]
  simp
 rw [e2] at h1
 have e1 : (l.dropLast ++ [x]).length = l.length := by simp; omega
 unfold RowB
 rw [e1]
 exact h1
theorem run_app {w : World} {v u : Value} {l r : List UInt8} {H : List HB} (h : RowB v l H) (hs : Sat w H) (hu : BV w u r) (hl : l.length + r.length ≤ 100000000) (ty : TypeId) :
  ∃ v' w' H',(Builtin.append_ #[30,30] ty #[v,u]).run Try.prog w = .ok v' w' ∧ RowB v' (l ++ r) H' ∧ Mv w H w' H' := by
 obtain ⟨A,c,rfl,h1,h2,h3⟩ := hu
 obtain ⟨i0,hti,hz0,hz1,hz2⟩ := info_parts infoU8
 obtain ⟨v',w',hrun,k1,k2,k3⟩ := run_append_any (P := Try.prog) w 0 30 ty 5 i0 (.int .u8 0) 1 1 Try.underlying30 hti hz0 hz1 hz2 rfl (by decide) v l.length (cellsB l) (RowH.owns h hs (fun _ _ => Nat.zero_le _)) w.heap.size A r.length c (cellsB r) h3 (cellsB_one r) (by unfold maxLen; omega) (by omega) (Nat.zero_le _)
 obtain ⟨H',k4,k5⟩ := mv_owns_grown h k1 k2 k3
 refine ⟨v',w',H',hrun,?_,k5⟩
 unfold RowB
 rw [List.length_append,cellsB_append]
 exact k4
section
variable {ops : Array Oper} {rest : List Oper} {o : Oper} {a : Act} {w : World} {K : Act → World → Prop} {Q : Exit → Act → World → Prop} {E : Prop}
theorem wp_app (s x : Operand) (ho : o.op = .call { callee := .builtin .append,args := #[s,x],argTypes := #[30,30] }) (v u : Value) (l r : List UInt8) (H : List HB)
  (hsv : a.eval s = v) (hxu : a.eval x = u) (h : RowB v l H) (hs : Sat w H) (hu : BV w u r) (hl : l.length + r.length ≤ 100000000)
  (hK : ∀ v' w' H',RowB v' (l ++ r) H' → Mv w H w' H' → K (a.put o.dst v') w') : o.wp Try.prog a w K Q := by
 obtain ⟨v',w',H',hrun,h1,h2⟩ := run_app h hs hu hl o.type
 unfold Oper.wp execOp
 simp only [ho,resolve,invoke,builtin,Sem.run_bind,Sem.run_pure,Result.andThen_ok,List.map_toArray,List.map_cons,List.map_nil,hsv,hxu,hrun]
 exact hK v' w' H' h1 h2
theorem wpList_appB (hgd : o.guard = none) (s x : Operand) (ho : o.op = .call { callee := .builtin .append,args := #[s,x],argTypes := #[30,30] }) (v u : Value) (l r : List UInt8) (H : List HB)
  (hsv : a.eval s = v) (hxu : a.eval x = u) (h : RowB v l H) (hs : Sat w H) (hu : BV w u r) (hl : l.length + r.length ≤ 100000000)
  (hK : ∀ v' w' H',RowB v' (l ++ r) H' → Mv w H w' H' → wpList Try.prog ops Q rest (a.put o.dst v') w') : wpList Try.prog ops Q (o :: rest) a w :=
 wpList_plain hgd fun _ hk => wp_app s x ho v u l r H hsv hxu h hs hu hl fun v' w' H' h1 h2 => hk _ _ (hK v' w' H' h1 h2)
theorem step_appB (hgd : o.guard = none) (s x : Operand) (ho : o.op = .call { callee := .builtin .append,args := #[s,x],argTypes := #[30,30] }) (v u : Value) (l r : List UInt8) (H : List HB)
  (hsv : a.eval s = v) (hxu : a.eval x = u) (h : RowB v l H) (hs : Sat w H) (hu : BV w u r) (hl : l.length + r.length ≤ 100000000)
  (hK : ∀ v' w' H',RowB v' (l ++ r) H' → Mv w H w' H' → K (a.put o.dst v') w') : if Region.wanted o (yielded ops a.tmps) = true then Oper.wp Try.prog o a w K Q else E := by
 have hw : Region.wanted o (yielded ops a.tmps) = true := by simp [Region.wanted,hgd]
 rw [if_pos hw]
 exact wp_app s x ho v u l r H hsv hxu h hs hu hl hK
end
theorem bv_one (w : World) (x : UInt8) (g : Nat) (hg : g = w.heap.size) : BV (w.alloc (.cells #[.int .u8 (x.toNat : Int)] 5)) (.slice (some ⟨g,0,none⟩) 1 1) [x] := by
 subst hg
 have h := RowB.lit w.heap.size [x] 1 rfl (by decide)
 exact h.bv (mv_alloc w 5 _).sat
end
end Go.Proofs.Ytnpoakabheeoeaa
