/- The document's planted trees are the program's: small shapes (by gen_Yr.py). Plain. A band set by the document, and one planted by the program. Plain. packet: a block's bytes up to a pass. -/
import Derived.Test.YtjngfhgakokejaaGreatCp19
import Derived.Test.YtjngfhgakokejaaGreatCp20
import Derived.Test.YtjngfhgakokejaaGreatCp16
import Derived.Test.YtjngfhgakokejaaGreatCp07
import Derived.Test.YtjngfhgakokejaaGreatCp13
set_option maxRecDepth 100000
set_option maxHeartbeats 8000000
set_option linter.all false
namespace Go.Proofs.YtjngfhgakokejaaGreat
section
open Go.RowKit
def plantA (w h:Nat) (v:Nat→Int):List LevM:=(List.range (w * h)).foldl (fun T k=>setLeaf T k (v k)) (treeOf w h)
def plantB (w h:Nat) (v:Nat→Int):List LevM:=(List.range (w * h)).foldl (fun T k=>setT T k (v k)) (treeOf w h)
theorem le_ext {a b:Int} (h:∀ x:Int,x≤a↔x≤b):a=b:=Int.le_antisymm ((h a).1 (Int.le_refl _)) ((h b).2 (Int.le_refl _))
theorem nodeOk0 (t:Int) (h:0≤t∧t≤1000):NodeOk ⟨t,0,false⟩:=⟨Int.le_refl _,h.1,Int.le_trans h.2 (by decide)⟩
def VOk (v:Nat→Int):Prop:=∀ k,0≤v k∧v k≤1000
def PlantOk (w h:Nat):Prop:=∀ v:Nat→Int,VOk v→fillT (plantA w h v)=plantB w h v∧Mono (plantB w h v)∧AllOk (plantB w h v)
theorem plant11:PlantOk 1 1:=by
 intro v hv
 have hb:∀ k,v k≤big:=fun k=>Int.le_trans (hv k).2 (by decide)
 have eB:plantB 1 1 v=[⟨1,1,[⟨(v 0),0,false⟩]⟩]:=by kernel_rfl
 have eA:fillT (plantA 1 1 v)=[⟨1,1,[⟨(v 0),0,false⟩]⟩]:=by kernel_rfl
 have eAB:fillT (plantA 1 1 v)=plantB 1 1 v:=by
  rw[eA,eB]
 refine⟨eAB,?_,?_⟩
 all_goals
  clear eA eAB hb
  rw[eB]
  clear eB
 ·refine⟨(fun M R e=>nomatch e),trivial⟩
 ·intro L hL
  simp only[List.mem_cons,List.not_mem_nil,or_false] at hL
  rcases hL with rfl
  ·intro i hi
   have hi2:i<1:=hi
   have hi3:i=0:=by omega
   rcases hi3 with rfl
   ·exact nodeOk0 _ (hv 0)
theorem plant12:PlantOk 1 2:=by
 intro v hv
 have hb:∀ k,v k≤big:=fun k=>Int.le_trans (hv k).2 (by decide)
 have eB:plantB 1 2 v=[⟨1,2,[⟨(v 0),0,false⟩,⟨(v 1),0,false⟩]⟩,⟨1,1,[⟨(min (min (v 0) (v 0)) (v 1)),0,false⟩]⟩]:=by kernel_rfl
 have eA:fillT (plantA 1 2 v)=[⟨1,2,[⟨(v 0),0,false⟩,⟨(v 1),0,false⟩]⟩,⟨1,1,[⟨(min (min (big) (v 0)) (v 1)),0,false⟩]⟩]:=by kernel_rfl
 have aE1_0:∀ x:Int,x≤(min (min (big) (v 0)) (v 1))↔x≤v 0∧x≤v 1:=by intro x;simp only[Int.le_min];have:=hb 0;constructor <;> intro h <;> omega
 have bE1_0:∀ x:Int,x≤(min (min (v 0) (v 0)) (v 1))↔x≤v 0∧x≤v 1:=by intro x;simp only[Int.le_min];constructor <;> intro h <;> omega
 have eAB:fillT (plantA 1 2 v)=plantB 1 2 v:=by
  rw[eA,eB]
  rw[le_ext fun x=>(aE1_0 x).trans (bE1_0 x).symm]
 refine⟨eAB,?_,?_⟩
 all_goals
  clear eA eAB hb
  rw[eB]
  clear eB
  clear aE1_0
  generalize (min (min (v 0) (v 0)) (v 1))=E1_0 at *
  have kE1_0:=(bE1_0 E1_0).1 (Int.le_refl _)
  have zE1_0:0≤E1_0∧E1_0≤1000:=⟨(bE1_0 0).2 ⟨(hv 0).1,(hv 1).1⟩,Int.le_trans kE1_0.1 (hv 0).2⟩
 ·refine⟨?_,(fun M R e=>nomatch e),trivial⟩
  ·intro M R e x y hx hy
   cases e
   have hx2:x<1:=hx
   have hy2:y<2:=hy
   have hx3:x=0:=by omega
   have hy3:y=0∨y=1:=by omega
   clear hx hy hx2 hy2
   rcases hx3 with rfl
   ·rcases hy3 with rfl | rfl
    ·exact kE1_0.1
    ·exact kE1_0.2
 ·intro L hL
  simp only[List.mem_cons,List.not_mem_nil,or_false] at hL
  rcases hL with rfl | rfl
  ·intro i hi
   have hi2:i<2:=hi
   have hi3:i=0∨i=1:=by omega
   rcases hi3 with rfl | rfl
   ·exact nodeOk0 _ (hv 0)
   ·exact nodeOk0 _ (hv 1)
  ·intro i hi
   have hi2:i<1:=hi
   have hi3:i=0:=by omega
   rcases hi3 with rfl
   ·exact nodeOk0 _ zE1_0
theorem plant13:PlantOk 1 3:=by
 intro v hv
 have hb:∀ k,v k≤big:=fun k=>Int.le_trans (hv k).2 (by decide)
 have eB:plantB 1 3 v=[⟨1,3,[⟨(v 0),0,false⟩,⟨(v 1),0,false⟩,⟨(v 2),0,false⟩]⟩,⟨1,2,[⟨(min (min (v 0) (v 0)) (v 1)),0,false⟩,⟨(min (v 2) (v 2)),0,false⟩]⟩,⟨1,1,[⟨(min (min (min (min (v 0) (v 0)) (v 1)) (min (min (v 0) (v 0)) (v 1))) (min (v 2) (v 2))),0,false⟩]⟩]:=by kernel_rfl
 have eA:fillT (plantA 1 3 v)=[⟨1,3,[⟨(v 0),0,false⟩,⟨(v 1),0,false⟩,⟨(v 2),0,false⟩]⟩,⟨1,2,[⟨(min (min (big) (v 0)) (v 1)),0,false⟩,⟨(min (big) (v 2)),0,false⟩]⟩,⟨1,1,[⟨(min (min (big) (min (min (big) (v 0)) (v 1))) (min (big) (v 2))),0,false⟩]⟩]:=by kernel_rfl
 have aE1_0:∀ x:Int,x≤(min (min (big) (v 0)) (v 1))↔x≤v 0∧x≤v 1:=by intro x;simp only[Int.le_min];have:=hb 0;constructor <;> intro h <;> omega
 have bE1_0:∀ x:Int,x≤(min (min (v 0) (v 0)) (v 1))↔x≤v 0∧x≤v 1:=by intro x;simp only[Int.le_min];constructor <;> intro h <;> omega
 have aE1_1:∀ x:Int,x≤(min (big) (v 2))↔x≤v 2:=by intro x;simp only[Int.le_min];have:=hb 2;constructor <;> intro h <;> omega
 have bE1_1:∀ x:Int,x≤(min (v 2) (v 2))↔x≤v 2:=by intro x;simp only[Int.le_min];constructor <;> intro h <;> omega
 have aE2_0:∀ x:Int,x≤(min (min (big) (min (min (big) (v 0)) (v 1))) (min (big) (v 2)))↔x≤v 0∧x≤v 1∧x≤v 2:=by intro x;simp only[Int.le_min];have:=hb 0;constructor <;> intro h <;> omega
 have bE2_0:∀ x:Int,x≤(min (min (min (min (v 0) (v 0)) (v 1)) (min (min (v 0) (v 0)) (v 1))) (min (v 2) (v 2)))↔x≤v 0∧x≤v 1∧x≤v 2:=by intro x;simp only[Int.le_min];constructor <;> intro h <;> omega
 have eAB:fillT (plantA 1 3 v)=plantB 1 3 v:=by
  rw[eA,eB]
  rw[le_ext fun x=>(aE2_0 x).trans (bE2_0 x).symm,le_ext fun x=>(aE1_1 x).trans (bE1_1 x).symm,le_ext fun x=>(aE1_0 x).trans (bE1_0 x).symm]
 refine⟨eAB,?_,?_⟩
 all_goals
  clear eA eAB hb
  rw[eB]
  clear eB
  clear aE1_0
  clear aE1_1
  clear aE2_0
  generalize (min (min (min (min (v 0) (v 0)) (v 1)) (min (min (v 0) (v 0)) (v 1))) (min (v 2) (v 2)))=E2_0 at *
  generalize (min (v 2) (v 2))=E1_1 at *
  generalize (min (min (v 0) (v 0)) (v 1))=E1_0 at *
  have kE1_0:=(bE1_0 E1_0).1 (Int.le_refl _)
  have zE1_0:0≤E1_0∧E1_0≤1000:=⟨(bE1_0 0).2 ⟨(hv 0).1,(hv 1).1⟩,Int.le_trans kE1_0.1 (hv 0).2⟩
  have kE1_1:=(bE1_1 E1_1).1 (Int.le_refl _)
  have zE1_1:0≤E1_1∧E1_1≤1000:=⟨(bE1_1 0).2 (hv 2).1,Int.le_trans kE1_1 (hv 2).2⟩
  have kE2_0:=(bE2_0 E2_0).1 (Int.le_refl _)
  have zE2_0:0≤E2_0∧E2_0≤1000:=⟨(bE2_0 0).2 ⟨(hv 0).1,(hv 1).1,(hv 2).1⟩,Int.le_trans kE2_0.1 (hv 0).2⟩
 ·refine⟨?_,?_,(fun M R e=>nomatch e),trivial⟩
  ·intro M R e x y hx hy
   cases e
   have hx2:x<1:=hx
   have hy2:y<3:=hy
   have hx3:x=0:=by omega
   have hy3:y=0∨y=1∨y=2:=by omega
   clear hx hy hx2 hy2
   rcases hx3 with rfl
   ·rcases hy3 with rfl | rfl | rfl
    ·exact kE1_0.1
    ·exact kE1_0.2
    ·exact kE1_1
  ·intro M R e x y hx hy
   cases e
   have hx2:x<1:=hx
   have hy2:y<2:=hy
   have hx3:x=0:=by omega
   have hy3:y=0∨y=1:=by omega
   clear hx hy hx2 hy2
   rcases hx3 with rfl
   ·rcases hy3 with rfl | rfl
    ·exact(bE1_0 E2_0).2 ⟨kE2_0.1,kE2_0.2.1⟩
    ·exact(bE1_1 E2_0).2 kE2_0.2.2
 ·intro L hL
  simp only[List.mem_cons,List.not_mem_nil,or_false] at hL
  rcases hL with rfl | rfl | rfl
  ·intro i hi
   have hi2:i<3:=hi
   have hi3:i=0∨i=1∨i=2:=by omega
   rcases hi3 with rfl | rfl | rfl
   ·exact nodeOk0 _ (hv 0)
   ·exact nodeOk0 _ (hv 1)
   ·exact nodeOk0 _ (hv 2)
  ·intro i hi
   have hi2:i<2:=hi
   have hi3:i=0∨i=1:=by omega
   rcases hi3 with rfl | rfl
   ·exact nodeOk0 _ zE1_0
   ·exact nodeOk0 _ zE1_1
  ·intro i hi
   have hi2:i<1:=hi
   have hi3:i=0:=by omega
   rcases hi3 with rfl
   ·exact nodeOk0 _ zE2_0
theorem plant21:PlantOk 2 1:=by
 intro v hv
 have hb:∀ k,v k≤big:=fun k=>Int.le_trans (hv k).2 (by decide)
 have eB:plantB 2 1 v=[⟨2,1,[⟨(v 0),0,false⟩,⟨(v 1),0,false⟩]⟩,⟨1,1,[⟨(min (min (v 0) (v 0)) (v 1)),0,false⟩]⟩]:=by kernel_rfl
 have eA:fillT (plantA 2 1 v)=[⟨2,1,[⟨(v 0),0,false⟩,⟨(v 1),0,false⟩]⟩,⟨1,1,[⟨(min (min (big) (v 0)) (v 1)),0,false⟩]⟩]:=by kernel_rfl
 have aE1_0:∀ x:Int,x≤(min (min (big) (v 0)) (v 1))↔x≤v 0∧x≤v 1:=by intro x;simp only[Int.le_min];have:=hb 0;constructor <;> intro h <;> omega
 have bE1_0:∀ x:Int,x≤(min (min (v 0) (v 0)) (v 1))↔x≤v 0∧x≤v 1:=by intro x;simp only[Int.le_min];constructor <;> intro h <;> omega
 have eAB:fillT (plantA 2 1 v)=plantB 2 1 v:=by
  rw[eA,eB]
  rw[le_ext fun x=>(aE1_0 x).trans (bE1_0 x).symm]
 refine⟨eAB,?_,?_⟩
 all_goals
  clear eA eAB hb
  rw[eB]
  clear eB
  clear aE1_0
  generalize (min (min (v 0) (v 0)) (v 1))=E1_0 at *
  have kE1_0:=(bE1_0 E1_0).1 (Int.le_refl _)
  have zE1_0:0≤E1_0∧E1_0≤1000:=⟨(bE1_0 0).2 ⟨(hv 0).1,(hv 1).1⟩,Int.le_trans kE1_0.1 (hv 0).2⟩
 ·refine⟨?_,(fun M R e=>nomatch e),trivial⟩
  ·intro M R e x y hx hy
   cases e
   have hx2:x<2:=hx
   have hy2:y<1:=hy
   have hx3:x=0∨x=1:=by omega
   have hy3:y=0:=by omega
   clear hx hy hx2 hy2
   rcases hx3 with rfl | rfl
   ·rcases hy3 with rfl
    ·exact kE1_0.1
   ·rcases hy3 with rfl
    ·exact kE1_0.2
 ·intro L hL
  simp only[List.mem_cons,List.not_mem_nil,or_false] at hL
  rcases hL with rfl | rfl
  ·intro i hi
   have hi2:i<2:=hi
   have hi3:i=0∨i=1:=by omega
   rcases hi3 with rfl | rfl
   ·exact nodeOk0 _ (hv 0)
   ·exact nodeOk0 _ (hv 1)
  ·intro i hi
   have hi2:i<1:=hi
   have hi3:i=0:=by omega
   rcases hi3 with rfl
   ·exact nodeOk0 _ zE1_0
theorem plant22:PlantOk 2 2:=by
 intro v hv
 have hb:∀ k,v k≤big:=fun k=>Int.le_trans (hv k).2 (by decide)
 have eB:plantB 2 2 v=[⟨2,2,[⟨(v 0),0,false⟩,⟨(v 1),0,false⟩,⟨(v 2),0,false⟩,⟨(v 3),0,false⟩]⟩,⟨1,1,[⟨(min (min (min (min (v 0) (v 0)) (v 1)) (v 2)) (v 3)),0,false⟩]⟩]:=by kernel_rfl
 have eA:fillT (plantA 2 2 v)=[⟨2,2,[⟨(v 0),0,false⟩,⟨(v 1),0,false⟩,⟨(v 2),0,false⟩,⟨(v 3),0,false⟩]⟩,⟨1,1,[⟨(min (min (min (min (big) (v 0)) (v 1)) (v 2)) (v 3)),0,false⟩]⟩]:=by kernel_rfl
 have aE1_0:∀ x:Int,x≤(min (min (min (min (big) (v 0)) (v 1)) (v 2)) (v 3))↔x≤v 0∧x≤v 1∧x≤v 2∧x≤v 3:=by intro x;simp only[Int.le_min];have:=hb 0;constructor <;> intro h <;> omega
 have bE1_0:∀ x:Int,x≤(min (min (min (min (v 0) (v 0)) (v 1)) (v 2)) (v 3))↔x≤v 0∧x≤v 1∧x≤v 2∧x≤v 3:=by intro x;simp only[Int.le_min];constructor <;> intro h <;> omega
 have eAB:fillT (plantA 2 2 v)=plantB 2 2 v:=by
  rw[eA,eB]
  rw[le_ext fun x=>(aE1_0 x).trans (bE1_0 x).symm]
 refine⟨eAB,?_,?_⟩
 all_goals
  clear eA eAB hb
  rw[eB]
  clear eB
  clear aE1_0
  generalize (min (min (min (min (v 0) (v 0)) (v 1)) (v 2)) (v 3))=E1_0 at *
  have kE1_0:=(bE1_0 E1_0).1 (Int.le_refl _)
  have zE1_0:0≤E1_0∧E1_0≤1000:=⟨(bE1_0 0).2 ⟨(hv 0).1,(hv 1).1,(hv 2).1,(hv 3).1⟩,Int.le_trans kE1_0.1 (hv 0).2⟩
 ·refine⟨?_,(fun M R e=>nomatch e),trivial⟩
  ·intro M R e x y hx hy
   cases e
   have hx2:x<2:=hx
   have hy2:y<2:=hy
   have hx3:x=0∨x=1:=by omega
   have hy3:y=0∨y=1:=by omega
   clear hx hy hx2 hy2
   rcases hx3 with rfl | rfl
   ·rcases hy3 with rfl | rfl
    ·exact kE1_0.1
    ·exact kE1_0.2.2.1
   ·rcases hy3 with rfl | rfl
    ·exact kE1_0.2.1
    ·exact kE1_0.2.2.2
 ·intro L hL
  simp only[List.mem_cons,List.not_mem_nil,or_false] at hL
  rcases hL with rfl | rfl
  ·intro i hi
   have hi2:i<4:=hi
   have hi3:i=0∨i=1∨i=2∨i=3:=by omega
   rcases hi3 with rfl | rfl | rfl | rfl
   ·exact nodeOk0 _ (hv 0)
   ·exact nodeOk0 _ (hv 1)
   ·exact nodeOk0 _ (hv 2)
   ·exact nodeOk0 _ (hv 3)
  ·intro i hi
   have hi2:i<1:=hi
   have hi3:i=0:=by omega
   rcases hi3 with rfl
   ·exact nodeOk0 _ zE1_0
theorem plant23:PlantOk 2 3:=by
 intro v hv
 have hb:∀ k,v k≤big:=fun k=>Int.le_trans (hv k).2 (by decide)
 have eB:plantB 2 3 v=[⟨2,3,[⟨(v 0),0,false⟩,⟨(v 1),0,false⟩,⟨(v 2),0,false⟩,⟨(v 3),0,false⟩,⟨(v 4),0,false⟩,⟨(v 5),0,false⟩]⟩,⟨1,2,[⟨(min (min (min (min (v 0) (v 0)) (v 1)) (v 2)) (v 3)),0,false⟩,⟨(min (min (v 4) (v 4)) (v 5)),0,false⟩]⟩,⟨1,1,[⟨(min (min (min (min (min (min (v 0) (v 0)) (v 1)) (v 2)) (v 3)) (min (min (min (min (v 0) (v 0)) (v 1)) (v 2)) (v 3))) (min (min (v 4) (v 4)) (v 5))),0,false⟩]⟩]:=by kernel_rfl
 have eA:fillT (plantA 2 3 v)=[⟨2,3,[⟨(v 0),0,false⟩,⟨(v 1),0,false⟩,⟨(v 2),0,false⟩,⟨(v 3),0,false⟩,⟨(v 4),0,false⟩,⟨(v 5),0,false⟩]⟩,⟨1,2,[⟨(min (min (min (min (big) (v 0)) (v 1)) (v 2)) (v 3)),0,false⟩,⟨(min (min (big) (v 4)) (v 5)),0,false⟩]⟩,⟨1,1,[⟨(min (min (big) (min (min (min (min (big) (v 0)) (v 1)) (v 2)) (v 3))) (min (min (big) (v 4)) (v 5))),0,false⟩]⟩]:=by kernel_rfl
 have aE1_0:∀ x:Int,x≤(min (min (min (min (big) (v 0)) (v 1)) (v 2)) (v 3))↔x≤v 0∧x≤v 1∧x≤v 2∧x≤v 3:=by intro x;simp only[Int.le_min];have:=hb 0;constructor <;> intro h <;> omega
 have bE1_0:∀ x:Int,x≤(min (min (min (min (v 0) (v 0)) (v 1)) (v 2)) (v 3))↔x≤v 0∧x≤v 1∧x≤v 2∧x≤v 3:=by intro x;simp only[Int.le_min];constructor <;> intro h <;> omega
 have aE1_1:∀ x:Int,x≤(min (min (big) (v 4)) (v 5))↔x≤v 4∧x≤v 5:=by intro x;simp only[Int.le_min];have:=hb 4;constructor <;> intro h <;> omega
 have bE1_1:∀ x:Int,x≤(min (min (v 4) (v 4)) (v 5))↔x≤v 4∧x≤v 5:=by intro x;simp only[Int.le_min];constructor <;> intro h <;> omega
 have aE2_0:∀ x:Int,x≤(min (min (big) (min (min (min (min (big) (v 0)) (v 1)) (v 2)) (v 3))) (min (min (big) (v 4)) (v 5)))↔x≤v 0∧x≤v 1∧x≤v 2∧x≤v 3∧x≤v 4∧x≤v 5:=by intro x;simp only[Int.le_min];have:=hb 0;constructor <;> intro h <;> omega
 have bE2_0:∀ x:Int,x≤(min (min (min (min (min (min (v 0) (v 0)) (v 1)) (v 2)) (v 3)) (min (min (min (min (v 0) (v 0)) (v 1)) (v 2)) (v 3))) (min (min (v 4) (v 4)) (v 5)))↔x≤v 0∧x≤v 1∧x≤v 2∧x≤v 3∧x≤v 4∧x≤v 5:=by intro x;simp only[Int.le_min];constructor <;> intro h <;> omega
 have eAB:fillT (plantA 2 3 v)=plantB 2 3 v:=by
  rw[eA,eB]
  rw[le_ext fun x=>(aE2_0 x).trans (bE2_0 x).symm,le_ext fun x=>(aE1_1 x).trans (bE1_1 x).symm,le_ext fun x=>(aE1_0 x).trans (bE1_0 x).symm]
 refine⟨eAB,?_,?_⟩
 all_goals
  clear eA eAB hb
  rw[eB]
  clear eB
  clear aE1_0
  clear aE1_1
  clear aE2_0
  generalize (min (min (min (min (min (min (v 0) (v 0)) (v 1)) (v 2)) (v 3)) (min (min (min (min (v 0) (v 0)) (v 1)) (v 2)) (v 3))) (min (min (v 4) (v 4)) (v 5)))=E2_0 at *
  generalize (min (min (v 4) (v 4)) (v 5))=E1_1 at *
  generalize (min (min (min (min (v 0) (v 0)) (v 1)) (v 2)) (v 3))=E1_0 at *
  have kE1_0:=(bE1_0 E1_0).1 (Int.le_refl _)
  have zE1_0:0≤E1_0∧E1_0≤1000:=⟨(bE1_0 0).2 ⟨(hv 0).1,(hv 1).1,(hv 2).1,(hv 3).1⟩,Int.le_trans kE1_0.1 (hv 0).2⟩
  have kE1_1:=(bE1_1 E1_1).1 (Int.le_refl _)
  have zE1_1:0≤E1_1∧E1_1≤1000:=⟨(bE1_1 0).2 ⟨(hv 4).1,(hv 5).1⟩,Int.le_trans kE1_1.1 (hv 4).2⟩
  have kE2_0:=(bE2_0 E2_0).1 (Int.le_refl _)
  have zE2_0:0≤E2_0∧E2_0≤1000:=⟨(bE2_0 0).2 ⟨(hv 0).1,(hv 1).1,(hv 2).1,(hv 3).1,(hv 4).1,(hv 5).1⟩,Int.le_trans kE2_0.1 (hv 0).2⟩
 ·refine⟨?_,?_,(fun M R e=>nomatch e),trivial⟩
  ·intro M R e x y hx hy
   cases e
   have hx2:x<2:=hx
   have hy2:y<3:=hy
   have hx3:x=0∨x=1:=by omega
   have hy3:y=0∨y=1∨y=2:=by omega
   clear hx hy hx2 hy2
   rcases hx3 with rfl | rfl
   ·rcases hy3 with rfl | rfl | rfl
    ·exact kE1_0.1
    ·exact kE1_0.2.2.1
    ·exact kE1_1.1
   ·rcases hy3 with rfl | rfl | rfl
    ·exact kE1_0.2.1
    ·exact kE1_0.2.2.2
    ·exact kE1_1.2
  ·intro M R e x y hx hy
   cases e
   have hx2:x<1:=hx
   have hy2:y<2:=hy
   have hx3:x=0:=by omega
   have hy3:y=0∨y=1:=by omega
   clear hx hy hx2 hy2
   rcases hx3 with rfl
   ·rcases hy3 with rfl | rfl
    ·exact(bE1_0 E2_0).2 ⟨kE2_0.1,kE2_0.2.1,kE2_0.2.2.1,kE2_0.2.2.2.1⟩
    ·exact(bE1_1 E2_0).2 ⟨kE2_0.2.2.2.2.1,kE2_0.2.2.2.2.2⟩
 ·intro L hL
  simp only[List.mem_cons,List.not_mem_nil,or_false] at hL
  rcases hL with rfl | rfl | rfl
  ·intro i hi
   have hi2:i<6:=hi
   have hi3:i=0∨i=1∨i=2∨i=3∨i=4∨i=5:=by omega
   rcases hi3 with rfl | rfl | rfl | rfl | rfl | rfl
   ·exact nodeOk0 _ (hv 0)
   ·exact nodeOk0 _ (hv 1)
   ·exact nodeOk0 _ (hv 2)
   ·exact nodeOk0 _ (hv 3)
   ·exact nodeOk0 _ (hv 4)
   ·exact nodeOk0 _ (hv 5)
  ·intro i hi
   have hi2:i<2:=hi
   have hi3:i=0∨i=1:=by omega
   rcases hi3 with rfl | rfl
   ·exact nodeOk0 _ zE1_0
   ·exact nodeOk0 _ zE1_1
  ·intro i hi
   have hi2:i<1:=hi
   have hi3:i=0:=by omega
   rcases hi3 with rfl
   ·exact nodeOk0 _ zE2_0
theorem plant31:PlantOk 3 1:=by
 intro v hv
 have hb:∀ k,v k≤big:=fun k=>Int.le_trans (hv k).2 (by decide)
 have eB:plantB 3 1 v=[⟨3,1,[⟨(v 0),0,false⟩,⟨(v 1),0,false⟩,⟨(v 2),0,false⟩]⟩,⟨2,1,[⟨(min (min (v 0) (v 0)) (v 1)),0,false⟩,⟨(min (v 2) (v 2)),0,false⟩]⟩,⟨1,1,[⟨(min (min (min (min (v 0) (v 0)) (v 1)) (min (min (v 0) (v 0)) (v 1))) (min (v 2) (v 2))),0,false⟩]⟩]:=by kernel_rfl
 have eA:fillT (plantA 3 1 v)=[⟨3,1,[⟨(v 0),0,false⟩,⟨(v 1),0,false⟩,⟨(v 2),0,false⟩]⟩,⟨2,1,[⟨(min (min (big) (v 0)) (v 1)),0,false⟩,⟨(min (big) (v 2)),0,false⟩]⟩,⟨1,1,[⟨(min (min (big) (min (min (big) (v 0)) (v 1))) (min (big) (v 2))),0,false⟩]⟩]:=by kernel_rfl
 have aE1_0:∀ x:Int,x≤(min (min (big) (v 0)) (v 1))↔x≤v 0∧x≤v 1:=by intro x;simp only[Int.le_min];have:=hb 0;constructor <;> intro h <;> omega
 have bE1_0:∀ x:Int,x≤(min (min (v 0) (v 0)) (v 1))↔x≤v 0∧x≤v 1:=by intro x;simp only[Int.le_min];constructor <;> intro h <;> omega
 have aE1_1:∀ x:Int,x≤(min (big) (v 2))↔x≤v 2:=by intro x;simp only[Int.le_min];have:=hb 2;constructor <;> intro h <;> omega
 have bE1_1:∀ x:Int,x≤(min (v 2) (v 2))↔x≤v 2:=by intro x;simp only[Int.le_min];constructor <;> intro h <;> omega
 have aE2_0:∀ x:Int,x≤(min (min (big) (min (min (big) (v 0)) (v 1))) (min (big) (v 2)))↔x≤v 0∧x≤v 1∧x≤v 2:=by intro x;simp only[Int.le_min];have:=hb 0;constructor <;> intro h <;> omega
 have bE2_0:∀ x:Int,x≤(min (min (min (min (v 0) (v 0)) (v 1)) (min (min (v 0) (v 0)) (v 1))) (min (v 2) (v 2)))↔x≤v 0∧x≤v 1∧x≤v 2:=by intro x;simp only[Int.le_min];constructor <;> intro h <;> omega
 have eAB:fillT (plantA 3 1 v)=plantB 3 1 v:=by
  rw[eA,eB]
  rw[le_ext fun x=>(aE2_0 x).trans (bE2_0 x).symm,le_ext fun x=>(aE1_1 x).trans (bE1_1 x).symm,le_ext fun x=>(aE1_0 x).trans (bE1_0 x).symm]
 refine⟨eAB,?_,?_⟩
 all_goals
  clear eA eAB hb
  rw[eB]
  clear eB
  clear aE1_0
  clear aE1_1
  clear aE2_0
  generalize (min (min (min (min (v 0) (v 0)) (v 1)) (min (min (v 0) (v 0)) (v 1))) (min (v 2) (v 2)))=E2_0 at *
  generalize (min (v 2) (v 2))=E1_1 at *
  generalize (min (min (v 0) (v 0)) (v 1))=E1_0 at *
  have kE1_0:=(bE1_0 E1_0).1 (Int.le_refl _)
  have zE1_0:0≤E1_0∧E1_0≤1000:=⟨(bE1_0 0).2 ⟨(hv 0).1,(hv 1).1⟩,Int.le_trans kE1_0.1 (hv 0).2⟩
  have kE1_1:=(bE1_1 E1_1).1 (Int.le_refl _)
  have zE1_1:0≤E1_1∧E1_1≤1000:=⟨(bE1_1 0).2 (hv 2).1,Int.le_trans kE1_1 (hv 2).2⟩
  have kE2_0:=(bE2_0 E2_0).1 (Int.le_refl _)
  have zE2_0:0≤E2_0∧E2_0≤1000:=⟨(bE2_0 0).2 ⟨(hv 0).1,(hv 1).1,(hv 2).1⟩,Int.le_trans kE2_0.1 (hv 0).2⟩
 ·refine⟨?_,?_,(fun M R e=>nomatch e),trivial⟩
  ·intro M R e x y hx hy
   cases e
   have hx2:x<3:=hx
   have hy2:y<1:=hy
   have hx3:x=0∨x=1∨x=2:=by omega
   have hy3:y=0:=by omega
   clear hx hy hx2 hy2
   rcases hx3 with rfl | rfl | rfl
   ·rcases hy3 with rfl
    ·exact kE1_0.1
   ·rcases hy3 with rfl
    ·exact kE1_0.2
   ·rcases hy3 with rfl
    ·exact kE1_1
  ·intro M R e x y hx hy
   cases e
   have hx2:x<2:=hx
   have hy2:y<1:=hy
   have hx3:x=0∨x=1:=by omega
   have hy3:y=0:=by omega
   clear hx hy hx2 hy2
   rcases hx3 with rfl | rfl
   ·rcases hy3 with rfl
    ·exact(bE1_0 E2_0).2 ⟨kE2_0.1,kE2_0.2.1⟩
   ·rcases hy3 with rfl
    ·exact(bE1_1 E2_0).2 kE2_0.2.2
 ·intro L hL
  simp only[List.mem_cons,List.not_mem_nil,or_false] at hL
  rcases hL with rfl | rfl | rfl
  ·intro i hi
   have hi2:i<3:=hi
   have hi3:i=0∨i=1∨i=2:=by omega
   rcases hi3 with rfl | rfl | rfl
   ·exact nodeOk0 _ (hv 0)
   ·exact nodeOk0 _ (hv 1)
   ·exact nodeOk0 _ (hv 2)
  ·intro i hi
   have hi2:i<2:=hi
   have hi3:i=0∨i=1:=by omega
   rcases hi3 with rfl | rfl
   ·exact nodeOk0 _ zE1_0
   ·exact nodeOk0 _ zE1_1
  ·intro i hi
   have hi2:i<1:=hi
   have hi3:i=0:=by omega
   rcases hi3 with rfl
   ·exact nodeOk0 _ zE2_0
theorem plant32:PlantOk 3 2:=by
 intro v hv
 have hb:∀ k,v k≤big:=fun k=>Int.le_trans (hv k).2 (by decide)
 have eB:plantB 3 2 v=[⟨3,2,[⟨(v 0),0,false⟩,⟨(v 1),0,false⟩,⟨(v 2),0,false⟩,⟨(v 3),0,false⟩,⟨(v 4),0,false⟩,⟨(v 5),0,false⟩]⟩,⟨2,1,[⟨(min (min (min (min (v 0) (v 0)) (v 1)) (v 3)) (v 4)),0,false⟩,⟨(min (min (v 2) (v 2)) (v 5)),0,false⟩]⟩,⟨1,1,[⟨(min (min (min (min (min (min (v 0) (v 0)) (v 1)) (v 3)) (v 4)) (min (min (min (min (v 0) (v 0)) (v 1)) (v 3)) (v 4))) (min (min (v 2) (v 2)) (v 5))),0,false⟩]⟩]:=by kernel_rfl
 have eA:fillT (plantA 3 2 v)=[⟨3,2,[⟨(v 0),0,false⟩,⟨(v 1),0,false⟩,⟨(v 2),0,false⟩,⟨(v 3),0,false⟩,⟨(v 4),0,false⟩,⟨(v 5),0,false⟩]⟩,⟨2,1,[⟨(min (min (min (min (big) (v 0)) (v 1)) (v 3)) (v 4)),0,false⟩,⟨(min (min (big) (v 2)) (v 5)),0,false⟩]⟩,⟨1,1,[⟨(min (min (big) (min (min (min (min (big) (v 0)) (v 1)) (v 3)) (v 4))) (min (min (big) (v 2)) (v 5))),0,false⟩]⟩]:=by kernel_rfl
 have aE1_0:∀ x:Int,x≤(min (min (min (min (big) (v 0)) (v 1)) (v 3)) (v 4))↔x≤v 0∧x≤v 1∧x≤v 3∧x≤v 4:=by intro x;simp only[Int.le_min];have:=hb 0;constructor <;> intro h <;> omega
 have bE1_0:∀ x:Int,x≤(min (min (min (min (v 0) (v 0)) (v 1)) (v 3)) (v 4))↔x≤v 0∧x≤v 1∧x≤v 3∧x≤v 4:=by intro x;simp only[Int.le_min];constructor <;> intro h <;> omega
 have aE1_1:∀ x:Int,x≤(min (min (big) (v 2)) (v 5))↔x≤v 2∧x≤v 5:=by intro x;simp only[Int.le_min];have:=hb 2;constructor <;> intro h <;> omega
 have bE1_1:∀ x:Int,x≤(min (min (v 2) (v 2)) (v 5))↔x≤v 2∧x≤v 5:=by intro x;simp only[Int.le_min];constructor <;> intro h <;> omega
 have aE2_0:∀ x:Int,x≤(min (min (big) (min (min (min (min (big) (v 0)) (v 1)) (v 3)) (v 4))) (min (min (big) (v 2)) (v 5)))↔x≤v 0∧x≤v 1∧x≤v 2∧x≤v 3∧x≤v 4∧x≤v 5:=by intro x;simp only[Int.le_min];have:=hb 0;constructor <;> intro h <;> omega
 have bE2_0:∀ x:Int,x≤(min (min (min (min (min (min (v 0) (v 0)) (v 1)) (v 3)) (v 4)) (min (min (min (min (v 0) (v 0)) (v 1)) (v 3)) (v 4))) (min (min (v 2) (v 2)) (v 5)))↔x≤v 0∧x≤v 1∧x≤v 2∧x≤v 3∧x≤v 4∧x≤v 5:=by intro x;simp only[Int.le_min];constructor <;> intro h <;> omega
 have eAB:fillT (plantA 3 2 v)=plantB 3 2 v:=by
  rw[eA,eB]
  rw[le_ext fun x=>(aE2_0 x).trans (bE2_0 x).symm,le_ext fun x=>(aE1_1 x).trans (bE1_1 x).symm,le_ext fun x=>(aE1_0 x).trans (bE1_0 x).symm]
 refine⟨eAB,?_,?_⟩
 all_goals
  clear eA eAB hb
  rw[eB]
  clear eB
  clear aE1_0
  clear aE1_1
  clear aE2_0
  generalize (min (min (min (min (min (min (v 0) (v 0)) (v 1)) (v 3)) (v 4)) (min (min (min (min (v 0) (v 0)) (v 1)) (v 3)) (v 4))) (min (min (v 2) (v 2)) (v 5)))=E2_0 at *
  generalize (min (min (v 2) (v 2)) (v 5))=E1_1 at *
  generalize (min (min (min (min (v 0) (v 0)) (v 1)) (v 3)) (v 4))=E1_0 at *
  have kE1_0:=(bE1_0 E1_0).1 (Int.le_refl _)
  have zE1_0:0≤E1_0∧E1_0≤1000:=⟨(bE1_0 0).2 ⟨(hv 0).1,(hv 1).1,(hv 3).1,(hv 4).1⟩,Int.le_trans kE1_0.1 (hv 0).2⟩
  have kE1_1:=(bE1_1 E1_1).1 (Int.le_refl _)
  have zE1_1:0≤E1_1∧E1_1≤1000:=⟨(bE1_1 0).2 ⟨(hv 2).1,(hv 5).1⟩,Int.le_trans kE1_1.1 (hv 2).2⟩
  have kE2_0:=(bE2_0 E2_0).1 (Int.le_refl _)
  have zE2_0:0≤E2_0∧E2_0≤1000:=⟨(bE2_0 0).2 ⟨(hv 0).1,(hv 1).1,(hv 2).1,(hv 3).1,(hv 4).1,(hv 5).1⟩,Int.le_trans kE2_0.1 (hv 0).2⟩
 ·refine⟨?_,?_,(fun M R e=>nomatch e),trivial⟩
  ·intro M R e x y hx hy
   cases e
   have hx2:x<3:=hx
   have hy2:y<2:=hy
   have hx3:x=0∨x=1∨x=2:=by omega
   have hy3:y=0∨y=1:=by omega
   clear hx hy hx2 hy2
   rcases hx3 with rfl | rfl | rfl
   ·rcases hy3 with rfl | rfl
    ·exact kE1_0.1
    ·exact kE1_0.2.2.1
   ·rcases hy3 with rfl | rfl
    ·exact kE1_0.2.1
    ·exact kE1_0.2.2.2
   ·rcases hy3 with rfl | rfl
    ·exact kE1_1.1
    ·exact kE1_1.2
  ·intro M R e x y hx hy
   cases e
   have hx2:x<2:=hx
   have hy2:y<1:=hy
   have hx3:x=0∨x=1:=by omega
   have hy3:y=0:=by omega
   clear hx hy hx2 hy2
   rcases hx3 with rfl | rfl
   ·rcases hy3 with rfl
    ·exact(bE1_0 E2_0).2 ⟨kE2_0.1,kE2_0.2.1,kE2_0.2.2.2.1,kE2_0.2.2.2.2.1⟩
   ·rcases hy3 with rfl
    ·exact(bE1_1 E2_0).2 ⟨kE2_0.2.2.1,kE2_0.2.2.2.2.2⟩
 ·intro L hL
  simp only[List.mem_cons,List.not_mem_nil,or_false] at hL
  rcases hL with rfl | rfl | rfl
  ·intro i hi
   have hi2:i<6:=hi
   have hi3:i=0∨i=1∨i=2∨i=3∨i=4∨i=5:=by omega
   rcases hi3 with rfl | rfl | rfl | rfl | rfl | rfl
   ·exact nodeOk0 _ (hv 0)
   ·exact nodeOk0 _ (hv 1)
   ·exact nodeOk0 _ (hv 2)
   ·exact nodeOk0 _ (hv 3)
   ·exact nodeOk0 _ (hv 4)
   ·exact nodeOk0 _ (hv 5)
  ·intro i hi
   have hi2:i<2:=hi
   have hi3:i=0∨i=1:=by omega
   rcases hi3 with rfl | rfl
   ·exact nodeOk0 _ zE1_0
   ·exact nodeOk0 _ zE1_1
  ·intro i hi
   have hi2:i<1:=hi
   have hi3:i=0:=by omega
   rcases hi3 with rfl
   ·exact nodeOk0 _ zE2_0
theorem plant33:PlantOk 3 3:=by
 intro v hv
 have hb:∀ k,v k≤big:=fun k=>Int.le_trans (hv k).2 (by decide)
 have eB:plantB 3 3 v=[⟨3,3,[⟨(v 0),0,false⟩,⟨(v 1),0,false⟩,⟨(v 2),0,false⟩,⟨(v 3),0,false⟩,⟨(v 4),0,false⟩,⟨(v 5),0,false⟩,⟨(v 6),0,false⟩,⟨(v 7),0,false⟩,⟨(v 8),0,false⟩]⟩,⟨2,2,[⟨(min (min (min (min (v 0) (v 0)) (v 1)) (v 3)) (v 4)),0,false⟩,⟨(min (min (v 2) (v 2)) (v 5)),0,false⟩,⟨(min (min (v 6) (v 6)) (v 7)),0,false⟩,⟨(min (v 8) (v 8)),0,false⟩]⟩,⟨1,1,[⟨(min (min (min (min (min (min (min (min (v 0) (v 0)) (v 1)) (v 3)) (v 4)) (min (min (min (min (v 0) (v 0)) (v 1)) (v 3)) (v 4))) (min (min (v 2) (v 2)) (v 5))) (min (min (v 6) (v 6)) (v 7))) (min (v 8) (v 8))),0,false⟩]⟩]:=by kernel_rfl
 have eA:fillT (plantA 3 3 v)=[⟨3,3,[⟨(v 0),0,false⟩,⟨(v 1),0,false⟩,⟨(v 2),0,false⟩,⟨(v 3),0,false⟩,⟨(v 4),0,false⟩,⟨(v 5),0,false⟩,⟨(v 6),0,false⟩,⟨(v 7),0,false⟩,⟨(v 8),0,false⟩]⟩,⟨2,2,[⟨(min (min (min (min (big) (v 0)) (v 1)) (v 3)) (v 4)),0,false⟩,⟨(min (min (big) (v 2)) (v 5)),0,false⟩,⟨(min (min (big) (v 6)) (v 7)),0,false⟩,⟨(min (big) (v 8)),0,false⟩]⟩,⟨1,1,[⟨(min (min (min (min (big) (min (min (min (min (big) (v 0)) (v 1)) (v 3)) (v 4))) (min (min (big) (v 2)) (v 5))) (min (min (big) (v 6)) (v 7))) (min (big) (v 8))),0,false⟩]⟩]:=by kernel_rfl
 have aE1_0:∀ x:Int,x≤(min (min (min (min (big) (v 0)) (v 1)) (v 3)) (v 4))↔x≤v 0∧x≤v 1∧x≤v 3∧x≤v 4:=by intro x;simp only[Int.le_min];have:=hb 0;constructor <;> intro h <;> omega
 have bE1_0:∀ x:Int,x≤(min (min (min (min (v 0) (v 0)) (v 1)) (v 3)) (v 4))↔x≤v 0∧x≤v 1∧x≤v 3∧x≤v 4:=by intro x;simp only[Int.le_min];constructor <;> intro h <;> omega
 have aE1_1:∀ x:Int,x≤(min (min (big) (v 2)) (v 5))↔x≤v 2∧x≤v 5:=by intro x;simp only[Int.le_min];have:=hb 2;constructor <;> intro h <;> omega
 have bE1_1:∀ x:Int,x≤(min (min (v 2) (v 2)) (v 5))↔x≤v 2∧x≤v 5:=by intro x;simp only[Int.le_min];constructor <;> intro h <;> omega
 have aE1_2:∀ x:Int,x≤(min (min (big) (v 6)) (v 7))↔x≤v 6∧x≤v 7:=by intro x;simp only[Int.le_min];have:=hb 6;constructor <;> intro h <;> omega
 have bE1_2:∀ x:Int,x≤(min (min (v 6) (v 6)) (v 7))↔x≤v 6∧x≤v 7:=by intro x;simp only[Int.le_min];constructor <;> intro h <;> omega
 have aE1_3:∀ x:Int,x≤(min (big) (v 8))↔x≤v 8:=by intro x;simp only[Int.le_min];have:=hb 8;constructor <;> intro h <;> omega
 have bE1_3:∀ x:Int,x≤(min (v 8) (v 8))↔x≤v 8:=by intro x;simp only[Int.le_min];constructor <;> intro h <;> omega
 have aE2_0:∀ x:Int,x≤(min (min (min (min (big) (min (min (min (min (big) (v 0)) (v 1)) (v 3)) (v 4))) (min (min (big) (v 2)) (v 5))) (min (min (big) (v 6)) (v 7))) (min (big) (v 8)))↔x≤v 0∧x≤v 1∧x≤v 2∧x≤v 3∧x≤v 4∧x≤v 5∧x≤v 6∧x≤v 7∧x≤v 8:=by intro x;simp only[Int.le_min];have:=hb 0;constructor <;> intro h <;> omega
 have bE2_0:∀ x:Int,x≤(min (min (min (min (min (min (min (min (v 0) (v 0)) (v 1)) (v 3)) (v 4)) (min (min (min (min (v 0) (v 0)) (v 1)) (v 3)) (v 4))) (min (min (v 2) (v 2)) (v 5))) (min (min (v 6) (v 6)) (v 7))) (min (v 8) (v 8)))↔x≤v 0∧x≤v 1∧x≤v 2∧x≤v 3∧x≤v 4∧x≤v 5∧x≤v 6∧x≤v 7∧x≤v 8:=by intro x;simp only[Int.le_min];constructor <;> intro h <;> omega
 have eAB:fillT (plantA 3 3 v)=plantB 3 3 v:=by
  rw[eA,eB]
  rw[le_ext fun x=>(aE2_0 x).trans (bE2_0 x).symm,le_ext fun x=>(aE1_3 x).trans (bE1_3 x).symm,le_ext fun x=>(aE1_2 x).trans (bE1_2 x).symm,le_ext fun x=>(aE1_1 x).trans (bE1_1 x).symm,le_ext fun x=>(aE1_0 x).trans (bE1_0 x).symm]
 refine⟨eAB,?_,?_⟩
 all_goals
  clear eA eAB hb
  rw[eB]
  clear eB
  clear aE1_0
  clear aE1_1
  clear aE1_2
  clear aE1_3
  clear aE2_0
  generalize (min (min (min (min (min (min (min (min (v 0) (v 0)) (v 1)) (v 3)) (v 4)) (min (min (min (min (v 0) (v 0)) (v 1)) (v 3)) (v 4))) (min (min (v 2) (v 2)) (v 5))) (min (min (v 6) (v 6)) (v 7))) (min (v 8) (v 8)))=E2_0 at *
  generalize (min (v 8) (v 8))=E1_3 at *
  generalize (min (min (v 6) (v 6)) (v 7))=E1_2 at *
  generalize (min (min (v 2) (v 2)) (v 5))=E1_1 at *
  generalize (min (min (min (min (v 0) (v 0)) (v 1)) (v 3)) (v 4))=E1_0 at *
  have kE1_0:=(bE1_0 E1_0).1 (Int.le_refl _)
  have zE1_0:0≤E1_0∧E1_0≤1000:=⟨(bE1_0 0).2 ⟨(hv 0).1,(hv 1).1,(hv 3).1,(hv 4).1⟩,Int.le_trans kE1_0.1 (hv 0).2⟩
  have kE1_1:=(bE1_1 E1_1).1 (Int.le_refl _)
  have zE1_1:0≤E1_1∧E1_1≤1000:=⟨(bE1_1 0).2 ⟨(hv 2).1,(hv 5).1⟩,Int.le_trans kE1_1.1 (hv 2).2⟩
  have kE1_2:=(bE1_2 E1_2).1 (Int.le_refl _)
  have zE1_2:0≤E1_2∧E1_2≤1000:=⟨(bE1_2 0).2 ⟨(hv 6).1,(hv 7).1⟩,Int.le_trans kE1_2.1 (hv 6).2⟩
  have kE1_3:=(bE1_3 E1_3).1 (Int.le_refl _)
  have zE1_3:0≤E1_3∧E1_3≤1000:=⟨(bE1_3 0).2 (hv 8).1,Int.le_trans kE1_3 (hv 8).2⟩
  have kE2_0:=(bE2_0 E2_0).1 (Int.le_refl _)
  have zE2_0:0≤E2_0∧E2_0≤1000:=⟨(bE2_0 0).2 ⟨(hv 0).1,(hv 1).1,(hv 2).1,(hv 3).1,(hv 4).1,(hv 5).1,(hv 6).1,(hv 7).1,(hv 8).1⟩,Int.le_trans kE2_0.1 (hv 0).2⟩
 ·refine⟨?_,?_,(fun M R e=>nomatch e),trivial⟩
  ·intro M R e x y hx hy
   cases e
   have hx2:x<3:=hx
   have hy2:y<3:=hy
   have hx3:x=0∨x=1∨x=2:=by omega
   have hy3:y=0∨y=1∨y=2:=by omega
   clear hx hy hx2 hy2
   rcases hx3 with rfl | rfl | rfl
   ·rcases hy3 with rfl | rfl | rfl
    ·exact kE1_0.1
    ·exact kE1_0.2.2.1
    ·exact kE1_2.1
   ·rcases hy3 with rfl | rfl | rfl
    ·exact kE1_0.2.1
    ·exact kE1_0.2.2.2
    ·exact kE1_2.2
   ·rcases hy3 with rfl | rfl | rfl
    ·exact kE1_1.1
    ·exact kE1_1.2
    ·exact kE1_3
  ·intro M R e x y hx hy
   cases e
   have hx2:x<2:=hx
   have hy2:y<2:=hy
   have hx3:x=0∨x=1:=by omega
   have hy3:y=0∨y=1:=by omega
   clear hx hy hx2 hy2
   rcases hx3 with rfl | rfl
   ·rcases hy3 with rfl | rfl
    ·exact(bE1_0 E2_0).2 ⟨kE2_0.1,kE2_0.2.1,kE2_0.2.2.2.1,kE2_0.2.2.2.2.1⟩
    ·exact(bE1_2 E2_0).2 ⟨kE2_0.2.2.2.2.2.2.1,kE2_0.2.2.2.2.2.2.2.1⟩
   ·rcases hy3 with rfl | rfl
    ·exact(bE1_1 E2_0).2 ⟨kE2_0.2.2.1,kE2_0.2.2.2.2.2.1⟩
    ·exact(bE1_3 E2_0).2 kE2_0.2.2.2.2.2.2.2.2
 ·intro L hL
  simp only[List.mem_cons,List.not_mem_nil,or_false] at hL
  rcases hL with rfl | rfl | rfl
  ·intro i hi
   have hi2:i<9:=hi
   have hi3:i=0∨i=1∨i=2∨i=3∨i=4∨i=5∨i=6∨i=7∨i=8:=by omega
   rcases hi3 with rfl | rfl | rfl | rfl | rfl | rfl | rfl | rfl | rfl
   ·exact nodeOk0 _ (hv 0)
   ·exact nodeOk0 _ (hv 1)
   ·exact nodeOk0 _ (hv 2)
   ·exact nodeOk0 _ (hv 3)
   ·exact nodeOk0 _ (hv 4)
   ·exact nodeOk0 _ (hv 5)
   ·exact nodeOk0 _ (hv 6)
   ·exact nodeOk0 _ (hv 7)
   ·exact nodeOk0 _ (hv 8)
  ·intro i hi
   have hi2:i<4:=hi
   have hi3:i=0∨i=1∨i=2∨i=3:=by omega
   rcases hi3 with rfl | rfl | rfl | rfl
   ·exact nodeOk0 _ zE1_0
   ·exact nodeOk0 _ zE1_1
   ·exact nodeOk0 _ zE1_2
   ·exact nodeOk0 _ zE1_3
  ·intro i hi
   have hi2:i<1:=hi
   have hi3:i=0:=by omega
   rcases hi3 with rfl
   ·exact nodeOk0 _ zE2_0
theorem plant_all {w h:Nat} (hw:1≤w∧w≤3) (hh:1≤h∧h≤3):PlantOk w h:=by
 obtain rfl | rfl | rfl:w=1∨w=2∨w=3:=by omega
 all_goals obtain rfl | rfl | rfl:h=1∨h=2∨h=3:=by omega
 ·exact plant11
 ·exact plant12
 ·exact plant13
 ·exact plant21
 ·exact plant22
 ·exact plant23
 ·exact plant31
 ·exact plant32
 ·exact plant33
end
section
open Go.RowKit
def vF (count:Nat) (m:BandM) (k:Nat):Int:=match m.ss[k]? with | some s=>(frN count s.ps.length:Nat) | none=>0
def vZ (m:BandM) (k:Nat):Int:=match m.ss[k]? with | some s=>m.planes - s.pl | none=>0
theorem rplantTo_trees (count:Nat) (m:BandM):∀ k,k≤m.ss.length→(rplantTo count m k).ss=m.ss∧(rplantTo count m k).planes=m.planes∧(rplantTo count m k).set=true∧(rplantTo count m k).w=m.w∧(rplantTo count m k).h=m.h ∧
  (rplantTo count m k).first=(List.range k).foldl (fun T j=>setLeaf T j (vF count m j)) m.first∧(rplantTo count m k).zeros=(List.range k).foldl (fun T j=>setLeaf T j (vZ m j)) m.zeros
 | 0,_=>⟨rfl,rfl,rfl,rfl,rfl,rfl,rfl⟩
 | k+1,hk=>by
  obtain⟨h1,h2,h3,h4,h5,h6,h7⟩:=rplantTo_trees count m k (by omega)
  obtain⟨s,hs⟩:∃ s,m.ss[k]?=some s:=⟨_,List.getElem?_eq_getElem (by omega)⟩
  have e:rplantTo count m (k+1)={ rplantTo count m k with first:=setLeaf (rplantTo count m k).first k (frN count s.ps.length:Nat),zeros:=setLeaf (rplantTo count m k).zeros k ((rplantTo count m k).planes - s.pl) }:=by
   have h:=rplantTo_succ count m k
   unfold rplantStep at h
   rw[h1] at h
   simp only[hs] at h
   exact h.trans (by rw[← h1])
  have eF:vF count m k=(frN count s.ps.length:Nat):=by unfold vF;rw[hs]
  have eZ:vZ m k=m.planes - s.pl:=by unfold vZ;rw[hs]
  refine⟨by rw[e];exact h1,by rw[e];exact h2,by rw[e];exact h3,by rw[e];exact h4,by rw[e];exact h5,?_,?_⟩
  ·rw[e,List.range_succ,List.foldl_append,← h6]
   simp only[List.foldl_cons,List.foldl_nil,eF]
  ·rw[e,List.range_succ,List.foldl_append,← h7,h2]
   simp only[List.foldl_cons,List.foldl_nil,eZ]
theorem plantTo_trees (count:Nat) (m:BandM) (hp:∀ s∈m.ss,s.pl≤m.planes):∀ k,k≤m.ss.length→∃ P,(List.range k).foldl (plantStep count) { m with set:=true }=P∧P.ss=m.ss∧P.planes=m.planes∧P.set=true∧P.w=m.w∧P.h=m.h ∧
  P.first=(List.range k).foldl (fun T j=>setT T j (vF count m j)) m.first∧P.zeros=(List.range k).foldl (fun T j=>setT T j (vZ m j)) m.zeros
 | 0,_=>⟨_,rfl,rfl,rfl,rfl,rfl,rfl,rfl,rfl⟩
 | k+1,hk=>by
  obtain⟨P,h0,h1,h2,h3,h4,h5,h6,h7⟩:=plantTo_trees count m hp k (by omega)
  obtain⟨s,hs⟩:∃ s,m.ss[k]?=some s:=⟨_,List.getElem?_eq_getElem (by omega)⟩
  have e:plantStep count P k={ P with first:=setT P.first k (frN count s.ps.length:Nat),zeros:=setT P.zeros k (max (P.planes - s.pl) 0) }:=by
   unfold plantStep
   rw[h1]
   simp only[hs]
  have eF:vF count m k=(frN count s.ps.length:Nat):=by unfold vF;rw[hs]
  have eZ:vZ m k=m.planes - s.pl:=by unfold vZ;rw[hs]
  have hpl:=hp s (List.mem_of_getElem? hs)
  refine⟨_,by rw[List.range_succ,List.foldl_append,h0],?_⟩
  simp only[List.foldl_cons,List.foldl_nil]
  rw[e]
  refine⟨h1,h2,h3,h4,h5,?_,?_⟩
  ·rw[List.range_succ,List.foldl_append,← h6]
   simp only[List.foldl_cons,List.foldl_nil,eF]
  ·rw[List.range_succ,List.foldl_append,← h7,h2]
   simp only[List.foldl_cons,List.foldl_nil,eZ]
   rw[show max (m.planes - s.pl) 0=m.planes - s.pl by omega]
theorem frGo_le (count np:Int):∀ f n,frGo count np f n≤n+f
 | 0,n=>Nat.le_refl _
 | f+1,n=>by
  rw[frGo]
  split
  ·have:=frGo_le count np f (n+1);omega
  ·omega
theorem vF_ok (count:Nat) (m:BandM) (hc:count≤100):VOk (vF count m):=by
 intro k
 unfold vF
 split
 ·rename_i s _
  have:=frGo_le (count:Int) (s.ps.length:Int) count 0
  unfold frN
  omega
 ·omega
theorem vZ_ok (m:BandM) (hp:∀ s∈m.ss,s.pl≤m.planes∧m.planes≤s.pl+1000):VOk (vZ m):=by
 intro k
 unfold vZ
 split
 ·rename_i s h
  have:=hp s (List.mem_of_getElem? h)
  omega
 ·omega
theorem planted (count:Nat) (m:BandM) (hc:count≤100) (hset:m.set=false) (hw:1≤m.w∧m.w≤3) (hh:1≤m.h∧m.h≤3) (hn:m.ss.length=m.w * m.h) (h1:m.first=treeOf m.w m.h) (h2:m.zeros=treeOf m.w m.h) (hp:∀ s∈m.ss,s.pl≤m.planes∧m.planes≤s.pl+1000) :
  plantM count m={ rplantTo count m m.ss.length with first:=fillT (rplantTo count m m.ss.length).first,zeros:=fillT (rplantTo count m m.ss.length).zeros } ∧
  (Mono (plantM count m).first∧AllOk (plantM count m).first)∧(Mono (plantM count m).zeros∧AllOk (plantM count m).zeros):=by
 obtain⟨g1,g2,g3,g4,g5,g6,g7⟩:=rplantTo_trees count m m.ss.length (Nat.le_refl _)
 obtain⟨P,f0,f1,f2,f3,f4,f5,f6,f7⟩:=plantTo_trees count m (fun s hs=>(hp s hs).1) m.ss.length (Nat.le_refl _)
 have eP:plantM count m=P:=by unfold plantM;rw[if_neg (by rw[hset];exact Bool.false_ne_true)];exact f0
 have a1:=plant_all hw hh (vF count m) (vF_ok count m hc)
 have a2:=plant_all hw hh (vZ m) (vZ_ok m hp)
 unfold plantA plantB at a1 a2
 rw[hn,h1] at g6 f6
 rw[hn,h2] at g7 f7
 rw[← g6,← f6] at a1
 rw[← g7,← f7] at a2
 rw[← hn] at a1 a2
 rw[eP]
 refine⟨?_,a1.2,a2.2⟩
 obtain⟨w0,h0,p0,fi0,ze0,se0,ss0⟩:=P
 simp only at f1 f2 f3 f4 f5 a1 a2
 simp only[BandM.mk.injEq]
 exact⟨by rw[g4,f4],by rw[g5,f5],by rw[g2,f2],a1.1.symm,a2.1.symm,by rw[g3,f3],by rw[g1,f1]⟩
end
section
open Go.RowKit
def bodyFrom (ps:List (Int × Bool)) (said:Nat):Int:=if said=0 then 0 else (ps.map (·.1)).getD (said - 1) 0
def bodyLo (ps:List (Int × Bool)) (said n:Nat):Nat:=min (bodyFrom ps said).toNat n
def bodyHi (ps:List (Int × Bool)) (said to_ n:Nat):Nat:=min (max ((ps.map (·.1)).getD (to_ - 1) 0) (bodyFrom ps said)).toNat n
def bodyM (ps:List (Int × Bool)) (bs:List UInt8) (said to_:Nat):List UInt8:=(bs.drop (bodyLo ps said bs.length)).take (bodyHi ps said to_ bs.length - bodyLo ps said bs.length)
theorem bodyLo_le (ps:List (Int × Bool)) (said to_ n:Nat):bodyLo ps said n≤bodyHi ps said to_ n∧bodyHi ps said to_ n≤n:=by
 unfold bodyLo bodyHi
 omega
def bodyW (bg vc lo hi_:Nat):Value:=if vc=lo then .slice (some ⟨bg,0,none⟩) 0 0 else .slice (some ⟨bg,lo,none⟩) (hi_ - lo) (vc - lo)
theorem bodyW_bv {w:World} {bg n vc:Nat} {ps:List (Int × Bool)} {bs:List UInt8} {said to_:Nat} (h:BV w (.slice (some ⟨bg,0,none⟩) n vc) bs) (hn:bs.length=n) (hv:n≤vc):BV w (bodyW bg vc (bodyLo ps said n) (bodyHi ps said to_ n)) (bodyM ps bs said to_):=by
 obtain⟨l1,l2⟩:=bodyLo_le ps said to_ n
 unfold bodyW
 split
 ·rename_i he
  have e:bodyM ps bs said to_=[]:=by unfold bodyM;rw[hn,show bodyHi ps said to_ n - bodyLo ps said n=0 by omega,List.take_zero]
  rw[e]
  exact⟨_,0,rfl,Nat.le_refl _,by decide,rfl,fun h=>absurd h (by decide)⟩
 ·have b2:=BV.mid h (bodyLo ps said n) (bodyHi ps said to_ n) l1 l2
  rw[Nat.zero_add] at b2
  unfold bodyM
  rw[hn]
  exact b2
theorem body_w1 (x:SpotX) (vp:Value) (ps:List (Int × Bool)) (said to_ bg vc n:Nat) (Hp:List HB) (w:World) (hc1:w.cell? ⟨x.d.lb,x.k * 5+1,none⟩=some vp) (hc2:w.cell? ⟨x.d.lb,x.k * 5+2,none⟩=some (.slice (some ⟨bg,0,none⟩) n vc)) (hc3:w.cell? ⟨x.d.lb,x.k * 5+3,none⟩=some (.int .i64 (said:Int)))
    (hp:RowP vp ps Hp) (hsp:Sat w Hp) (hn:ps.length≤1000) (hm:n≤10000000) (hvc:n≤vc) (he:∀ p∈ps,0≤p.1∧p.1≤100000000) (hx:x.k≤100000) (hst:said<to_) (hto:to_≤ps.length) :
    Calls Tryz.prog 30 #[x.v,.int .i64 (to_:Int)] w fun e w'=>e=.returned (bodyW bg vc (bodyLo ps said n) (bodyHi ps said to_ n))∧Mv w [] w' []:=by
  have hlt:=World.block_lt_of_cell? w _ hc1
  have M0:=mv_alloc w 66 x.cells
  obtain⟨w1,hw1⟩:∃ w1,w1=w.alloc (.cells x.cells 66):=⟨_,rfl⟩
  rw[← hw1] at M0
  have SE:=Lib.hid (fun (W:World) (m:Mv w [] W [⟨w.heap.size,66,x.cells⟩])=>spot_ends x vp ps Hp W (m.drop1.old hc1 hlt) hp (Mv.drop (A:=[_]) (Mv.frame (R:=Hp) m (by simpa using hsp))).sat hn hx)
  have b0:w1.cell? ⟨w.heap.size,0,none⟩=x.cells[0]?:=M0.cell 0 rfl 0
  have b1:w1.cell? ⟨w.heap.size,1,none⟩=x.cells[1]?:=M0.cell 0 rfl 1
  have b2:w1.cell? ⟨w.heap.size,2,none⟩=x.cells[2]?:=M0.cell 0 rfl 2
  obtain⟨l,hle⟩:∃ l,ps.map (·.1)=l:=⟨_,rfl⟩
  have hll:l.length=ps.length:=by rw[← hle,List.length_map]
  have hlb:∀ i,0≤l.getD i 0∧l.getD i 0≤100000000:=getD_bd l (by rw[← hle];intro e h;obtain⟨p,hp,rfl⟩:=List.mem_map.1 h;exact he p hp)
  have hlg:∀ i,i<ps.length→l[i]?=some (l.getD i 0):=by
    intro i hi
    rw[List.getD_eq_getElem?_getD,List.getElem?_eq_getElem (by rw[hll];exact hi)]
    rfl
  obtain⟨fr,hfr⟩:∃ fr,bodyFrom ps said=fr:=⟨_,rfl⟩
  obtain⟨e1,he1⟩:∃ e1,l.getD (to_ - 1) 0=e1:=⟨_,rfl⟩
  have hfrb:0≤fr∧fr≤100000000:=by
    rw[← hfr]
    unfold bodyFrom
    rw[hle]
    split
    · exact⟨by omega,by omega⟩
    · exact hlb _
  have he1b:0≤e1∧e1≤100000000:=by rw[← he1];exact hlb _
  obtain⟨lo,hlo⟩:∃ lo,bodyLo ps said n=lo:=⟨_,rfl⟩
  obtain⟨hi_,hhi⟩:∃ hi_,bodyHi ps said to_ n=hi_:=⟨_,rfl⟩
  have hlh:=bodyLo_le ps said to_ n
  rw[hlo,hhi] at hlh ⊢
  obtain⟨mx,hmx⟩:∃ mx,max e1 fr=mx:=⟨_,rfl⟩
  have elo:(if (n:Int)<fr then (n:Int) else fr)=(lo:Int):=by
    rw[← hlo];unfold bodyLo;rw[hfr];split <;> omega
  have emx:(if e1<fr then fr else e1)=mx:=by
    rw[← hmx];split <;> omega
  have ehi:(if (n:Int)<mx then (n:Int) else mx)=(hi_:Int):=by
    rw[← hhi];unfold bodyHi;rw[hfr,hle,he1,hmx];split <;> omega
  have KL:=Lib.hid (And.intro hfr (And.intro hle (And.intro he1 (And.intro hlo hhi))))
  have KG:=Lib.hid hlg
  have KB:=Lib.hid hlb
  have K0:=Lib.hid M0
  have HW:=Lib.hid (show w1=w.alloc (.cells #[.pointer (some ⟨x.d.lb,x.k * 5,none⟩),.pointer (some ⟨x.d.bb,0,none⟩),.int .i64 (x.k:Int)] 66) from hw1)
  have HST:=Lib.hid (And.intro hc1 (And.intro hc2 hc3))
  have hel:(ps.map (·.1)).length=ps.length:=List.length_map _
  rw[hle] at SE
  obtain⟨np,hnp⟩:∃ np,ps.length=np:=⟨_,rfl⟩
  rw[hnp] at hto hll KG hn
  unfold SpotX.cells at b0 b1 b2
  unfold SpotX.v
  unfold SpotX.v at SE
  have R:Hid (∀ W v Hn,RowI v l Hn→Mv w1 [] W Hn→∃ eg ec,v=.slice (some ⟨eg,0,none⟩) np ec∧(Mv w [] W [])∧(∀ i,i<np→W.cell? ⟨eg,i,none⟩=some (.int .i64 (l.getD i 0))) ∧
      W.cell? ⟨w.heap.size,0,none⟩=some (.pointer (some ⟨x.d.lb,x.k * 5,none⟩))∧W.cell? ⟨x.d.lb,x.k * 5+2,none⟩=some (.slice (some ⟨bg,0,none⟩) n vc)∧W.cell? ⟨x.d.lb,x.k * 5+3,none⟩=some (.int .i64 (said:Int))):=Lib.hid (by
    intro W v Hn r m
    obtain⟨A,c,rfl⟩:=r.slice
    obtain⟨eg,rfl⟩:=r.form (by omega)
    have m2:Mv w [] W (Hn++[⟨w.heap.size,66,x.cells⟩]):=Mv.call (H:=[]) K0.out m
    have old:=fun (q:Addr) (u:Value) (h:w.cell? q=some u)=>m2.old h (World.block_lt_of_cell? w q h)
    refine⟨eg,c,by rw[hll],(m2.drop).drop1,fun i hi=>r.at_ m.sat (KG.out i hi),?_,old _ _ HST.out.2.1,old _ _ HST.out.2.2⟩
    exact(m2.drop).cell 0 rfl 0)
  clear hw1 M0 hc1 hc2 hc3 hp hsp he hlg hlb hfr hle he1 hlo hhi hlt hel hll hmx hfrb he1b
  go_enter Tryz.func30,Tryz.ntmps30
  go_upto_region 1 with fail
  rw[← HW.out]
  go_upto_if 14 with (go_at_call 76;with_reducible refine(SE.out _ K0.out).mono ?_;rintro e w2 ⟨v,Hn,rfl,hr,m2⟩;obtain⟨eg,ec,rfl,m3,y1,y2,y3,y4⟩:=R.out _ _ _ hr m2;have Y:=Lib.hid y1;have M3:=Lib.hid m3;clear hr m2 m3 y1)
  have hYto:=Y.out (to_ - 1) (by omega)
  rw[KL.out.2.2.1] at hYto
  have ect:(to_:Int) - 1=((to_ - 1:Nat):Int):=by omega
  have hct:((to_ - 1:Nat):Int)<(np:Int):=by omega
  have hcn:to_ - 1<np:=by omega
  go_cut [6,14] from 15 (fun s6 s14 wx=>s6=.int .i64 fr∧wx=w2)
  case first =>
    by_cases h0:said=0
    · subst h0
      have e:fr=0:=by rw[← KL.out.1];rfl
      have E:=Lib.hid e
      clear e
      go_wp2_with fail
      go_meet
      exact⟨by rw[E.out],rfl⟩
    · have hYs:=Y.out (said - 1) (by omega)
      have e:l.getD (said - 1) 0=fr:=by rw[← KL.out.1];unfold bodyFrom;rw[if_neg h0,KL.out.2.1]
      rw[e] at hYs
      have h1:0<said:=by omega
      have d1:decide ((0:Int)<(said:Int))=true:=by simp;omega
      have es:(said:Int) - 1=((said - 1:Nat):Int):=by omega
      have h2:said - 1<np:=by omega
      clear e h0
      go_wp2_with fail
      go_meet
      exact⟨rfl,rfl⟩
  case rest =>
    obtain⟨rfl,rfl⟩:=hcut
    go_upto_region 5 with fail
    go_quiet (fail)
    go_wp2_with fail
    all_goals
      go_ret
      refine⟨?_,M3.out.drewN nq⟩
      refine congrArg Ending.returned ?_
      unfold bodyW
      first
      | (rw[if_neg (by omega)];rfl)
      | (have e0:hi_ - lo=0:=by omega
         rw[if_pos (by omega)]
         simp[e0])
      | (have e0:hi_ - lo=0:=by omega
         have e1:vc - lo=0:=by omega
         rw[if_pos (by omega)]
         simp[e0,e1])
theorem body_w0 (x:SpotX) (vp:Value) (ps:List (Int × Bool)) (said to_:Nat) (Hp:List HB) (w:World) (hc1:w.cell? ⟨x.d.lb,x.k * 5+1,none⟩=some vp) (hc2:w.cell? ⟨x.d.lb,x.k * 5+2,none⟩=some (.slice none 0 0)) (hc3:w.cell? ⟨x.d.lb,x.k * 5+3,none⟩=some (.int .i64 (said:Int)))
  (hp:RowP vp ps Hp) (hsp:Sat w Hp) (hn:ps.length≤1000) (he:∀ p∈ps,0≤p.1∧p.1≤100000000) (hx:x.k≤100000) (hst:said<to_) (hto:to_≤ps.length) :
  Calls Tryz.prog 30 #[x.v,.int .i64 (to_:Int)] w fun e w'=>e=.returned (.slice none 0 0)∧Mv w [] w' []:=by
 have hlt:=World.block_lt_of_cell? w _ hc1
 have M0:=mv_alloc w 66 x.cells
 obtain⟨w1,hw1⟩:∃ w1,w1=w.alloc (.cells x.cells 66):=⟨_,rfl⟩
 rw[← hw1] at M0
 have SE:=Lib.hid (fun (W:World) (m:Mv w [] W [⟨w.heap.size,66,x.cells⟩])=>spot_ends x vp ps Hp W (m.drop1.old hc1 hlt) hp (Mv.drop (A:=[_]) (Mv.frame (R:=Hp) m (by simpa using hsp))).sat hn hx)
 have b0:w1.cell? ⟨w.heap.size,0,none⟩=x.cells[0]?:=M0.cell 0 rfl 0
 have b1:w1.cell? ⟨w.heap.size,1,none⟩=x.cells[1]?:=M0.cell 0 rfl 1
 have b2:w1.cell? ⟨w.heap.size,2,none⟩=x.cells[2]?:=M0.cell 0 rfl 2
 obtain⟨l,hle⟩:∃ l,ps.map (·.1)=l:=⟨_,rfl⟩
 have hll:l.length=ps.length:=by rw[← hle,List.length_map]
 have hlb:∀ i,0≤l.getD i 0∧l.getD i 0≤100000000:=getD_bd l (by rw[← hle];intro e h;obtain⟨p,hp,rfl⟩:=List.mem_map.1 h;exact he p hp)
 have hlg:∀ i,i<ps.length→l[i]?=some (l.getD i 0):=by
  intro i hi
  rw[List.getD_eq_getElem?_getD,List.getElem?_eq_getElem (by rw[hll];exact hi)]
  rfl
 obtain⟨fr,hfr⟩:∃ fr,bodyFrom ps said=fr:=⟨_,rfl⟩
 obtain⟨e1,he1⟩:∃ e1,l.getD (to_ - 1) 0=e1:=⟨_,rfl⟩
 have hfrb:0≤fr∧fr≤100000000:=by
  rw[← hfr]
  unfold bodyFrom
  rw[hle]
  split
  ·exact⟨by omega,by omega⟩
  ·exact hlb _
 have he1b:0≤e1∧e1≤100000000:=by rw[← he1];exact hlb _
 obtain⟨lo,hlo⟩:∃ lo,bodyLo ps said 0=lo:=⟨_,rfl⟩
 obtain⟨hi_,hhi⟩:∃ hi_,bodyHi ps said to_ 0=hi_:=⟨_,rfl⟩
 have hlh:=bodyLo_le ps said to_ 0
 rw[hlo,hhi] at hlh
 obtain rfl:lo=0:=by omega
 obtain rfl:hi_=0:=by omega
 obtain⟨mx,hmx⟩:∃ mx,max e1 fr=mx:=⟨_,rfl⟩
 have elo:(if (0:Int)<fr then (0:Int) else fr)=(0:Int):=by
  split <;> omega
 have emx:(if e1<fr then fr else e1)=mx:=by
  rw[← hmx];split <;> omega
 have ehi:(if (0:Int)<mx then (0:Int) else mx)=(0:Int):=by
  split <;> omega
 have KL:=Lib.hid (And.intro hfr (And.intro hle (And.intro he1 (And.intro hlo hhi))))
 have KG:=Lib.hid hlg
 have KB:=Lib.hid hlb
 have K0:=Lib.hid M0
 have HW:=Lib.hid (show w1=w.alloc (.cells #[.pointer (some ⟨x.d.lb,x.k * 5,none⟩),.pointer (some ⟨x.d.bb,0,none⟩),.int .i64 (x.k:Int)] 66) from hw1)
 have HST:=Lib.hid (And.intro hc1 (And.intro hc2 hc3))
 have hel:(ps.map (·.1)).length=ps.length:=List.length_map _
 rw[hle] at SE
 obtain⟨np,hnp⟩:∃ np,ps.length=np:=⟨_,rfl⟩
 rw[hnp] at hto hll KG hn
 unfold SpotX.cells at b0 b1 b2
 unfold SpotX.v
 unfold SpotX.v at SE
 have R:Hid (∀ W v Hn,RowI v l Hn→Mv w1 [] W Hn→∃ eg ec,v=.slice (some ⟨eg,0,none⟩) np ec∧(Mv w [] W [])∧(∀ i,i<np→W.cell? ⟨eg,i,none⟩=some (.int .i64 (l.getD i 0))) ∧
   W.cell? ⟨w.heap.size,0,none⟩=some (.pointer (some ⟨x.d.lb,x.k * 5,none⟩))∧W.cell? ⟨x.d.lb,x.k * 5+2,none⟩=some (.slice none 0 0)∧W.cell? ⟨x.d.lb,x.k * 5+3,none⟩=some (.int .i64 (said:Int))):=Lib.hid (by
  intro W v Hn r m
  obtain⟨A,c,rfl⟩:=r.slice
  obtain⟨eg,rfl⟩:=r.form (by omega)
  have m2:Mv w [] W (Hn++[⟨w.heap.size,66,x.cells⟩]):=Mv.call (H:=[]) K0.out m
  have old:=fun (q:Addr) (u:Value) (h:w.cell? q=some u)=>m2.old h (World.block_lt_of_cell? w q h)
  refine⟨eg,c,by rw[hll],(m2.drop).drop1,fun i hi=>r.at_ m.sat (KG.out i hi),?_,old _ _ HST.out.2.1,old _ _ HST.out.2.2⟩
  exact(m2.drop).cell 0 rfl 0)
 clear hw1 M0 hc1 hc2 hc3 hp hsp he hlg hlb hfr hle he1 hlo hhi hlt hel hll hmx hfrb he1b
 go_enter Tryz.func30,Tryz.ntmps30
 go_upto_region 1 with fail
 rw[← HW.out]
 go_upto_if 14 with (go_at_call 76;with_reducible refine(SE.out _ K0.out).mono ?_;rintro e w2 ⟨v,Hn,rfl,hr,m2⟩;obtain⟨eg,ec,rfl,m3,y1,y2,y3,y4⟩:=R.out _ _ _ hr m2;have Y:=Lib.hid y1;have M3:=Lib.hid m3;clear hr m2 m3 y1)
 have hYto:=Y.out (to_ - 1) (by omega)
 rw[KL.out.2.2.1] at hYto
 have ect:(to_:Int) - 1=((to_ - 1:Nat):Int):=by omega
 have hct:((to_ - 1:Nat):Int)<(np:Int):=by omega
 have hcn:to_ - 1<np:=by omega
 go_cut [6,14] from 15 (fun s6 s14 wx=>s6=.int .i64 fr∧wx=w2)
 case first =>
  by_cases h0:said=0
  ·subst h0
   have e:fr=0:=by rw[← KL.out.1];rfl
   have E:=Lib.hid e
   clear e
   go_wp2_with fail
   go_meet
   exact⟨by rw[E.out],rfl⟩
  ·have hYs:=Y.out (said - 1) (by omega)
   have e:l.getD (said - 1) 0=fr:=by rw[← KL.out.1];unfold bodyFrom;rw[if_neg h0,KL.out.2.1]
   rw[e] at hYs
   have h1:0<said:=by omega
   have d1:decide ((0:Int)<(said:Int))=true:=by simp;omega
   have es:(said:Int) - 1=((said - 1:Nat):Int):=by omega
   have h2:said - 1<np:=by omega
   clear e h0
   go_wp2_with fail
   go_meet
   exact⟨rfl,rfl⟩
 case rest =>
  obtain⟨rfl,rfl⟩:=hcut
  go_upto_region 5 with fail
  go_quiet (fail)
  go_wp2_with fail
  all_goals
   go_ret
   refine⟨?_,M3.out.drewN nq⟩
   refine congrArg Ending.returned ?_
   first | rfl | simp
theorem body_any (x:SpotX) (vp vb:Value) (ps:List (Int × Bool)) (bs:List UInt8) (said to_:Nat) (Hp Hb:List HB) (hp:RowP vp ps Hp) (hb:RowB vb bs Hb) (hn:ps.length≤1000) (hm:bs.length≤10000000) (he:∀ p∈ps,0≤p.1∧p.1≤100000000) (hx:x.k≤100000) (hst:said<to_) (hto:to_≤ps.length) :
  ∃ v0,(∀ W,Sat W Hb→BV W v0 (bodyM ps bs said to_))∧∀ w,w.cell? ⟨x.d.lb,x.k * 5+1,none⟩=some vp→w.cell? ⟨x.d.lb,x.k * 5+2,none⟩=some vb→w.cell? ⟨x.d.lb,x.k * 5+3,none⟩=some (.int .i64 (said:Int))→Sat w Hp →
   Calls Tryz.prog 30 #[x.v,.int .i64 (to_:Int)] w fun e w'=>e=.returned v0∧Mv w [] w' []:=by
 rcases hb.2 with ⟨rfl,h0,h1⟩ | ⟨bg,vc,cur,rfl,h1,h2,-⟩
 ·have e0:bs=[]:=List.eq_nil_of_length_eq_zero h0
  subst e0
  refine⟨.slice none 0 0,fun W hW=>?_,fun w c1 c2 c3 sp=>body_w0 x vp ps said to_ Hp w c1 c2 c3 hp sp hn he hx hst hto⟩
  have e:bodyM ps [] said to_=[]:=by simp[bodyM]
  rw[e]
  exact⟨none,0,rfl,Nat.le_refl _,by decide,rfl,fun h=>absurd h (by decide)⟩
 ·exact⟨_,fun W hW=>bodyW_bv (hb.bv hW) rfl h1,fun w c1 c2 c3 sp=>body_w1 x vp ps said to_ bg vc bs.length Hp w c1 c2 c3 hp sp hn hm h1 he hx hst hto⟩
end
end Go.Proofs.YtjngfhgakokejaaGreat
