/- A band's trees are laid: the walk. Packets of which no block has anything new: written. A new band. A new band: the walk. A head whose first bit is 0: read as nothing. A packet of nothing: decoded. -/
import Derived.Test.YtjngfhgakokejaaGreatCp07
import Derived.Test.YtjngfhgakokejaaGreatCp11
import Derived.Sort.QuietIn
import Derived.Sort.CutIn
import Derived.Sort.LoopGhostIn
import Derived.Test.YtjngfhgakokejaaGreatCp01
import Derived.Test.YtjngfhgakokejaaGreatCp02
set_option maxRecDepth 100000
set_option maxHeartbeats 8000000
set_option linter.all false
namespace Go.Proofs.YtjngfhgakokejaaGreat
section
open Go.RowKit Go.Shelf
attribute [local go_sem] Oper.semAt_some
theorem spots_any (A:Option Addr) (n c:Nat) (w:World):Calls Tryz.prog 22 #[.slice A n c] w fun e w'=>e=.returned (.func (.func 68) #[] #[.pointer (some ⟨w.heap.size,0,none⟩)])∧w'=w.alloc (.cells #[.slice A n c] 26):=by
 go_enter Tryz.func22,Tryz.ntmps22
 go_wp2_with fail
 go_ret
 exact⟨rfl,rfl⟩
theorem plant_set (d:BandA) (b:BandG) (W:World) (H:List HB) (_:b.ok d) (hH:H=b.heap d) (hs:Sat W H) (hset:b.set=true) (count:Int) :
  Calls Tryz.prog 23 #[.pointer (some ⟨d.bb,0,none⟩),.int .i64 count] W fun e W'=>e=.returned (.tuple #[])∧Mv W H W' H:=by
 subst hH
 have e4:=(hs.2 _ (b.mem_band d)).cell 4
 simp only[bandB,hset] at e4
 have M:=((Mv.refl hs).alloc 43 #[.pointer (some ⟨d.bb,0,none⟩)]).drop1
 have M2:=(M.alloc 3 #[.int .i64 count]).drop1
 have K:=Lib.hid M2
 have c1:=(Mv.blkm M (b.mem_band d)).cell 4
 have c2:=(Mv.blkm M2 (b.mem_band d)).cell 4
 simp only[bandB,hset] at c1 c2
 clear M M2 hs
 go_enter Tryz.func23,Tryz.ntmps23
 go_wp2_with fail
 exact bodyPost_ret (results_none rfl _ _ _) rfl ⟨rfl,K.out⟩
def planX (n0:Nat) (d:BandA) (count:Int):List HB:=[⟨n0+3,26,#[.slice (some ⟨n0+2,0,none⟩) 1 1]⟩,⟨n0+2,43,#[.pointer (some ⟨d.bb,0,none⟩)]⟩,⟨n0+1,3,#[.int .i64 count]⟩,⟨n0,43,#[.pointer (some ⟨d.bb,0,none⟩)]⟩]
def planP (n0:Nat) (d:BandA) (count:Nat) (m:BandM) (pre:List (SpotIn [d])) (H:List HB):Prop :=
 ∃ b:BandG,b.model=pre.foldl (fun m x=>plantStep count m x.1.k) m∧b.ok d∧H=planX n0 d count++b.heap d
theorem planP_sp (n0:Nat) (d:BandA) (count:Nat) (m:BandM) (pre:List (SpotIn [d])) (H:List HB) (W:World) (h:planP n0 d count m pre H) (hs:Sat W H):SpR W (n0+3) (some ⟨n0+2,0,none⟩) 1 [d]:=by
 obtain⟨b,-,-,rfl⟩:=h
 have k1:=(hs.2 _ (List.mem_append_left _ (show _∈planX n0 d count from List.mem_cons_self))).cell 0
 have k2:=(hs.2 ⟨n0+2,43,#[.pointer (some ⟨d.bb,0,none⟩)]⟩ (List.mem_append_left _ (show _∈planX n0 d count from List.mem_cons_of_mem _ List.mem_cons_self))).cell 0
 have k3:=(hs.2 _ (List.mem_append_right _ (b.mem_band d))).cell 0
 refine⟨k1,fun j e hj=>?_,fun e he=>?_⟩
 ·obtain⟨rfl,rfl⟩:j=0∧d=e:=by
   cases j with
   | zero=>simpa using hj
   | succ j=>simp at hj
  exact⟨_,rfl,k2⟩
 ·simp only[List.mem_singleton] at he
  subst he
  exact k3
theorem planP_no (n0:Nat) (d:BandA) (count:Nat) (m:BandM) (pre:List (SpotIn [d])) (H:List HB) (h:planP n0 d count m pre H):NoSpot H:=by
 obtain⟨b,-,hk,rfl⟩:=h
 refine NoSpot.append ?_ (BandR.noSpot (m:=b.model) ⟨b,rfl,hk,rfl⟩)
 intro x hx
 simp only[planX,List.mem_cons,List.not_mem_nil,or_false] at hx
 rcases hx with rfl | rfl | rfl | rfl
 ·exact(show 26≠66 by decide)
 ·exact(show 43≠66 by decide)
 ·exact(show 3≠66 by decide)
 ·exact(show 43≠66 by decide)
theorem frGo_step (count np:Int) (f n:Nat):frGo count np (f+1) n=if passN np count ((n:Int)+1)=0 then frGo count np f (n+1) else n:=rfl
theorem StG.ok.passes {s:StG} (h:s.ok):∃ A c,s.vp=.slice A s.m.ps.length c:=h.1.slice
theorem mem_spots1 {d:BandA} {x:SpotX} (h:x∈spotsOf [d]):∃ k,k<d.n∧x=⟨d,k⟩:=by
 simp only[spotsOf,spotsB,List.flatMap_cons,List.flatMap_nil,List.append_nil,List.mem_map,List.mem_range] at h
 obtain⟨k,hk,rfl⟩:=h
 exact⟨k,hk,rfl⟩
theorem band_setF {d:BandA} {b:BandG} {w0 w:World} {H0 X:List HB} (ok:b.ok d) (m:Mv w0 H0 w (X++b.heap d)) (k:Nat) (hk:k<d.n) (n:Int) :
  Calls Tryz.prog 69 #[.pointer (some ⟨b.ft,0,none⟩),.int .i64 (k:Int),.int .i64 n] w fun e w2=>e=.returned (.tuple #[]) ∧
   ∃ b':BandG,b'.ok d∧b'.model={ b.model with first:=setT b.model.first k n }∧b'.G=b.G∧b'.zt=b.zt∧b'.planes=b.planes∧Mv w0 H0 w2 (X++b'.heap d):=by
 have hkw:k<b.w * b.h:=by rw[← ok.n];exact hk
 obtain⟨p0,h0,hw,hh⟩:=ok.kf.2.2 (by omega)
 have m1:Mv w0 H0 w (b.Hf++(X++bandB b d::statesB b d::(b.Hz++b.G.flatMap StG.heap))) :=
  m.sub (fun g=>by simp only[BandG.heap,cnt_append,cnt_cons];omega) (fun c hc=>by simp only[BandG.heap,List.mem_append,List.mem_cons] at hc ⊢;grind)
 refine(set_tree b.ft b.Pf k n p0 w b.Hf ok.tf m1.sat.left ok.kf.1 ok.kf.2.1 h0 (by rw[hw,hh];exact hkw)).mono ?_
 rintro e w2 ⟨rfl,H',hT,hM⟩
 have sh:=setP_shape b.Pf (k % p0.2.w) (k / p0.2.w) n
 refine⟨rfl,{ b with Pf:=setP b.Pf (k % p0.2.w) (k / p0.2.w) n,Hf:=H' },⟨hT,ok.tz,ok.kf.congr sh.1,ok.kz,ok.st,ok.len,ok.n,ok.pl,ok.hw,ok.hh⟩,?_,rfl,rfl,rfl,?_⟩
 ·simp only[BandG.model,setP_map b.Pf k n p0 h0]
 ·exact(Mv.call m1 hM).sub (fun g=>by simp only[BandG.heap,cnt_append,cnt_cons,bandB,statesB];omega) (fun c hc=>by simp only[BandG.heap,List.mem_append,List.mem_cons,bandB,statesB] at hc ⊢;grind)
theorem band_setZ {d:BandA} {b:BandG} {w0 w:World} {H0 X:List HB} (ok:b.ok d) (m:Mv w0 H0 w (X++b.heap d)) (k:Nat) (hk:k<d.n) (n:Int) :
  Calls Tryz.prog 69 #[.pointer (some ⟨b.zt,0,none⟩),.int .i64 (k:Int),.int .i64 n] w fun e w2=>e=.returned (.tuple #[]) ∧
   ∃ b':BandG,b'.ok d∧b'.model={ b.model with zeros:=setT b.model.zeros k n }∧b'.G=b.G∧Mv w0 H0 w2 (X++b'.heap d):=by
 have hkw:k<b.w * b.h:=by rw[← ok.n];exact hk
 obtain⟨p0,h0,hw,hh⟩:=ok.kz.2.2 (by omega)
 have m1:Mv w0 H0 w (b.Hz++(X++bandB b d::statesB b d::(b.Hf++b.G.flatMap StG.heap))) :=
  m.sub (fun g=>by simp only[BandG.heap,cnt_append,cnt_cons];omega) (fun c hc=>by simp only[BandG.heap,List.mem_append,List.mem_cons] at hc ⊢;grind)
 refine(set_tree b.zt b.Pz k n p0 w b.Hz ok.tz m1.sat.left ok.kz.1 ok.kz.2.1 h0 (by rw[hw,hh];exact hkw)).mono ?_
 rintro e w2 ⟨rfl,H',hT,hM⟩
 have sh:=setP_shape b.Pz (k % p0.2.w) (k / p0.2.w) n
 refine⟨rfl,{ b with Pz:=setP b.Pz (k % p0.2.w) (k / p0.2.w) n,Hz:=H' },⟨ok.tf,hT,ok.kf,ok.kz.congr sh.1,ok.st,ok.len,ok.n,ok.pl,ok.hw,ok.hh⟩,?_,rfl,?_⟩
 ·simp only[BandG.model,setP_map b.Pz k n p0 h0]
 ·exact(Mv.call m1 hM).sub (fun g=>by simp only[BandG.heap,cnt_append,cnt_cons,bandB,statesB];omega) (fun c hc=>by simp only[BandG.heap,List.mem_append,List.mem_cons,bandB,statesB] at hc ⊢;grind)
theorem plant_new (d:BandA) (b:BandG) (W:World) (hk:b.ok d) (hs:Sat W (b.heap d)) (hset:b.set=false) (count:Nat) (hct:count≤100000) :
  Calls Tryz.prog 23 #[.pointer (some ⟨d.bb,0,none⟩),.int .i64 (count:Int)] W fun e W'=>e=.returned (.tuple #[])∧∃ b':BandG,b'.model=plantM count b.model∧b'.ok d∧Mv W (b.heap d) W' (b'.heap d):=by
 refine(callsIn_wide (n:=8)).1 ?_
 refine callsIn_of_wp_marks Tryz.func23 rfl trivial ?_ rfl
 simp only[Tryz.ntmps23,List.size_toArray,List.length_cons,List.length_nil,Nat.reduceAdd,Nat.reduceSub,Array.replicate_succ,Array.replicate_zero,List.push_toArray,List.append_toArray,List.nil_append,List.cons_append]
 have e4:=(hs.2 _ (b.mem_band d)).cell 4
 simp only[bandB,hset] at e4
 have M:=((Mv.refl hs).alloc 43 #[.pointer (some ⟨d.bb,0,none⟩)])
 have M2:=(M.alloc 3 #[.int .i64 (count:Int)])
 have K:=Lib.hid M2
 have c1:=(Mv.blkm M (List.mem_cons_of_mem _ (b.mem_band d))).cell 4
 have c2:=(Mv.blkm M2 (List.mem_cons_of_mem _ (List.mem_cons_of_mem _ (b.mem_band d)))).cell 4
 have f2:=(Mv.blkm M2 (List.mem_cons_of_mem _ (List.mem_cons_of_mem _ (b.mem_band d)))).frozen 4
 simp only[bandB,hset] at c1 c2 f2
 have KO:=Lib.hid hk
 clear M M2 hs
 gi_wp2_with (refine⟨trivial,?_⟩;gi_at_call 22;refine(callsIn_wide.2 (spots_any _ _ _ _)).mono ?_;rintro e w' ⟨rfl,rfl⟩)
 have hs0:(b.heap d)=bandB b d::(statesB b d::(b.Hf++(b.Hz++b.G.flatMap StG.heap))):=rfl
 obtain⟨b1,hb1⟩:∃ b1:BandG,b1={ b with set:=true }:=⟨_,rfl⟩
 have K1:=K.out
 rw[hs0] at K1
 unfold bandB at K1
 have K2:=Mv.setAt (A:=[_,_]) K1 4 (.bool true)
 have K3:=(K2.alloc 43 #[.pointer (some ⟨d.bb,0,none⟩)]).alloc 26 #[.slice (some ⟨W.heap.size+1+1,0,none⟩) 1 1]
 simp only[World.size_alloc,World.size_setCell] at K3
 have hok1:b1.ok d:=by
  subst hb1
  exact⟨KO.out.tf,KO.out.tz,KO.out.kf,KO.out.kz,KO.out.st,KO.out.len,KO.out.n,KO.out.pl,KO.out.hw,KO.out.hh⟩
 have K4:=Lib.hid (show _ from K3)
 clear K1 K2 K3 e4 c1 c2 f2
 refine range_spots1 (by omega) 4 W (b.heap d) (by simp;omega) (box:=W.heap.size+3) (c:=1) (A:=some ⟨W.heap.size+2,0,none⟩) (D:=[d]) rfl (by simp) (fun e he=>by simp only[List.mem_singleton] at he;subst he;have:=KO.out.small;omega)
  (planP W.heap.size d count b1.model) (fun _ _=>False) (planP_sp _ _ _ _) (planP_no _ _ _ _) ⟨_,⟨b1,rfl,hok1,rfl⟩,?start⟩ ?assign ?body ?done ?stop
 case start =>
  subst hb1
  exact K4.out
 case assign =>
  intro l x y z w K hK
  simp only[List.setIfInBounds_toArray,List.set_cons_succ,List.set_cons_zero] at hK ⊢
  gi_wp2
  exact hK
 case body =>
  intro l pre x hx B w H hr hP hs hlen
  simp only[List.setIfInBounds_toArray,List.set_cons_succ,List.set_cons_zero]
  obtain⟨bg,hm,ok,rfl⟩:=hP
  obtain⟨k,hk,hxe⟩:=mem_spots1 hx
  subst hxe
  obtain⟨PS,hPS⟩:∃ PS,spPost w (⟨B,66,SpotX.cells ⟨d,k⟩⟩::(planX W.heap.size d count++bg.heap d)) (planP W.heap.size d count b1.model) (fun _ _=>False) (pre++[⟨⟨d,k⟩,hx⟩])=PS:=⟨_,rfl⟩
  rw[hPS]
  have HP:=Lib.hid hPS
  have HL:Hid (¬LetsOut PS):=Lib.hid (by rw[← hPS];rintro⟨a,w,h⟩;exact h)
  clear hPS
  have hkw:=hk
  rw[ok.n] at hkw
  have hkn:k<4096:=Nat.lt_of_lt_of_le hk ok.small
  obtain⟨st,hst⟩:∃ st,bg.G[k]?=some st:=⟨_,List.getElem?_eq_getElem (by rw[ok.len];exact hk)⟩
  have hso:=ok.st st (List.mem_of_getElem? hst)
  obtain⟨A,cp,hvp⟩:=hso.passes
  obtain⟨np,hnp⟩:∃ np,st.m.ps.length=np:=⟨_,rfl⟩
  have hnpl:np≤1000000:=by have:=hso.2.2.np;omega
  obtain⟨HH,hHH⟩:∃ HH,HH=(⟨B,66,SpotX.cells ⟨d,k⟩⟩::(planX W.heap.size d count++bg.heap d):List HB):=⟨_,rfl⟩
  have M0:Mv w HH w HH:=Mv.refl (by rw[hHH];exact hs)
  have BX:Hid (∀ w',Mv w HH w' HH→w'.cell? ⟨B,0,none⟩=some (.pointer (some ⟨d.lb,k * 5,none⟩))∧w'.cell? ⟨B,1,none⟩=some (.pointer (some ⟨d.bb,0,none⟩))∧w'.cell? ⟨B,2,none⟩=some (.int .i64 (k:Int))∧w'.cell? ⟨W.heap.size+1,0,none⟩=some (.int .i64 (count:Int))∧w'.cell? ⟨W.heap.size,0,none⟩=some (.pointer (some ⟨d.bb,0,none⟩)) ∧
    w'.cell? ⟨d.bb,2,none⟩=some (.pointer (some ⟨bg.ft,0,none⟩))∧w'.cell? ⟨d.lb,k * 5+1,none⟩=some (.slice A np cp)):=Lib.hid (by
   intro w' m
   have a1:=Mv.blkm m (by rw[hHH];exact List.mem_cons_self)
   have a2:=Mv.blkm m (x:=⟨W.heap.size+1,3,#[.int .i64 (count:Int)]⟩) (by rw[hHH];simp[planX])
   have a3:=Mv.blkm m (x:=⟨W.heap.size,43,#[.pointer (some ⟨d.bb,0,none⟩)]⟩) (by rw[hHH];simp[planX])
   have a4:=Mv.blkm m (by rw[hHH];exact List.mem_cons_of_mem _ (List.mem_append_right _ (bg.mem_band d)))
   have a5:=Mv.blkm m (by rw[hHH];exact List.mem_cons_of_mem _ (List.mem_append_right _ (bg.mem_states d)))
   have a6:=state_cells a5 hst
   rw[hvp,hnp] at a6
   exact⟨a1.cell 0,a1.cell 1,a1.cell 2,a2.cell 0,a3.cell 0,a4.cell 2,a6.2.1⟩)
  have FR:Hid (∀ w',Mv w HH w' HH→∀ j:Nat,j≤count→Calls Tryz.prog 24 #[.agg #[.pointer (some ⟨d.lb,k * 5,none⟩),.pointer (some ⟨d.bb,0,none⟩),.int .i64 (k:Int)],.int .i64 (count:Int),.int .i64 (j:Int)] w' fun e w2=>e=.returned (.int .i64 (passN np count ((j:Int)+1)))∧Mv w HH w2 HH):=Lib.hid (by
   intro w' m j hj
   refine(fresh_any ⟨d,k⟩ count j w' A np cp (BX.out w' m).2.2.2.2.2.2 (by simp;omega) hnpl ⟨by omega,by omega⟩ ⟨by omega,by omega⟩).mono ?_
   rintro e w2 ⟨rfl,m2⟩
   exact⟨rfl,Mv.call (H:=[]) (H':=[]) m m2⟩)
  obtain⟨XX,hXX⟩:∃ XX,XX=(⟨B,66,SpotX.cells ⟨d,k⟩⟩::planX W.heap.size d count:List HB):=⟨_,rfl⟩
  have hHX:HH=XX++bg.heap d:=by rw[hHH,hXX];rfl
  -- what the walk knows of memory behind each Set
  have BY:Hid (∀ (b2:BandG) w',b2.G=bg.G→Mv w HH w' (XX++b2.heap d)→w'.cell? ⟨B,0,none⟩=some (.pointer (some ⟨d.lb,k * 5,none⟩))∧w'.cell? ⟨B,2,none⟩=some (.int .i64 (k:Int))∧w'.cell? ⟨W.heap.size,0,none⟩=some (.pointer (some ⟨d.bb,0,none⟩)) ∧
    w'.cell? ⟨d.bb,1,none⟩=some (.int .i64 b2.planes)∧w'.cell? ⟨d.bb,3,none⟩=some (.pointer (some ⟨b2.zt,0,none⟩))∧w'.cell? ⟨d.lb,k * 5,none⟩=some (.int .i64 st.m.pl)):=Lib.hid (by
   intro b2 w' hG m
   have a1:=Mv.blkm m (List.mem_append_left _ (by rw[hXX];exact List.mem_cons_self))
   have a3:=Mv.blkm m (x:=⟨W.heap.size,43,#[.pointer (some ⟨d.bb,0,none⟩)]⟩) (List.mem_append_left _ (by rw[hXX];simp[planX]))
   have a4:=Mv.blkm m (List.mem_append_right _ (b2.mem_band d))
   have a5:=Mv.blkm m (List.mem_append_right _ (b2.mem_states d))
   have a6:=state_cells a5 (by rw[hG];exact hst)
   exact⟨a1.cell 0,a1.cell 2,a3.cell 0,a4.cell 1,a4.cell 3,a6.1⟩)
  have SF:Hid (∀ w',Mv w HH w' HH→∀ n:Nat,Calls Tryz.prog 69 #[.pointer (some ⟨bg.ft,0,none⟩),.int .i64 (k:Int),.int .i64 (n:Int)] w' fun e w2=>e=.returned (.tuple #[]) ∧
    ∃ b2:BandG,(b2.ok d∧b2.model={ bg.model with first:=setT bg.model.first k n }∧b2.G=bg.G∧Mv w HH w2 (XX++b2.heap d))∧b2.planes=bg.planes∧w2.cell? ⟨B,0,none⟩=some (.pointer (some ⟨d.lb,k * 5,none⟩))∧w2.cell? ⟨B,2,none⟩=some (.int .i64 (k:Int))∧w2.cell? ⟨W.heap.size,0,none⟩=some (.pointer (some ⟨d.bb,0,none⟩)) ∧
    w2.cell? ⟨d.bb,1,none⟩=some (.int .i64 b2.planes)∧w2.cell? ⟨d.bb,3,none⟩=some (.pointer (some ⟨b2.zt,0,none⟩))∧w2.cell? ⟨d.lb,k * 5,none⟩=some (.int .i64 st.m.pl)):=Lib.hid (by
   intro w' m n
   refine(band_setF ok (by rw[← hHX];exact m) k hk n).mono ?_
   rintro e w2 ⟨rfl,b2,o1,o2,o3,-,o5,o6⟩
   exact⟨rfl,b2,⟨o1,o2,o3,o6⟩,o5,BY.out b2 w2 o3 o6⟩)
  have SZ:Hid (∀ (b2:BandG) w',b2.ok d→Mv w HH w' (XX++b2.heap d)→∀ n:Int,Calls Tryz.prog 69 #[.pointer (some ⟨b2.zt,0,none⟩),.int .i64 (k:Int),.int .i64 n] w' fun e w2=>e=.returned (.tuple #[]) ∧
    ∃ b3:BandG,b3.ok d∧b3.model={ b2.model with zeros:=setT b2.model.zeros k n }∧b3.G=b2.G∧Mv w HH w2 (XX++b3.heap d)):=Lib.hid (by
   intro b2 w' o1 m n
   exact band_setZ o1 m k hk n)
  have hpl:=ok.pl
  have hspl:=hso.2.2.pl
  obtain⟨spl,hspe⟩:∃ spl,st.m.pl=spl:=⟨_,rfl⟩
  obtain⟨pls,hpls⟩:∃ pls,bg.planes=pls:=⟨_,rfl⟩
  rw[hspe] at hspl SF
  rw[hpls] at hpl SF
  have FIN:Hid (∀ (a:Act) (bz b3:BandG) (j:Nat) (z:Int) (w4:World),frGo count np count 0=j→z=max (pls - spl) 0→bz.model={ bg.model with first:=setT bg.model.first k j }→b3.ok d→b3.model={ bz.model with zeros:=setT bz.model.zeros k z }→Mv w HH w4 (XX++b3.heap d)→PS .normal a w4):=Lib.hid (by
   intro a bz b3 j z w4 e1 e2 e3 e4 e5 m4
   rw[← HP.out]
   rw[hHH,hXX] at m4
   refine⟨planX W.heap.size d count++b3.heap d,⟨b3,?_,e4,rfl⟩,Mv.drop1 m4⟩
   rw[List.foldl_append]
   show b3.model=plantStep count (pre.foldl _ b1.model) k
   rw[← hm,e5,e3,e2,← e1]
   unfold plantStep frN
   rw[show bg.model.ss[k]?=some st.m from by simp[BandG.model,hst]]
   simp only[hnp,hspe,show bg.model.planes=pls from hpls])
  have KM:=Lib.hid M0
  have KS:=Lib.hid (And.intro hm (And.intro ok (And.intro hst (And.intro hso (And.intro hkw (And.intro hHX (And.intro hHH (And.intro hspe hpls))))))))
  obtain⟨NN,hNN⟩:∃ NN,frGo count np count 0=NN:=⟨_,rfl⟩
  have HN:=Lib.hid hNN
  obtain⟨b0,b1',b2,b3,b4,b5,b6⟩:=BX.out w M0
  clear M0 hs hm ok hso hvp hnp hkw hst K KO K4 hok1 hb1 hs0 hlen hHX hHH hXX hspe hpls BY
  gi_wp2_with fail
  gi_loopw [5] (fun s5 wr=>∃ j:Nat,j≤count∧s5=.int .i64 (j:Int)∧frGo count np (count - j) j=NN∧Mv w HH wr HH) (fun s5 _=>count - (intOf s5).toNat)
  case atStart=>exact⟨0,by omega,rfl,hNN,KM.out⟩
  case round =>
   obtain⟨wa,rfl⟩:∃ wa:World,wa=wr:=⟨_,rfl⟩
   obtain⟨j,hj,rfl,hfr,ma⟩:=hrel
   clear b0 b1' b2 b3 b4 b5 b6
   obtain⟨b0,b1',b2,b3,b4,b5,b6⟩:=BX.out wa ma
   have FJ:=Lib.hid (FR.out wa ma j hj)
   have KA:=Lib.hid (And.intro hfr ma)
   clear ma hfr hNN
   by_cases hlt:j<count
   ·have d1:decide ((j:Int)<(count:Int))=true:=by simp;omega
    have EF:=Lib.hid (frGo_step count np (count - j - 1) j)
    gi_wp2_with (refine⟨trivial,?_⟩;gi_at_call 24;refine(CallsIn.inRound l (callsIn_wide.2 FJ.out)).mono ?_;rintro e w2 ⟨rfl,m2⟩;have K2:=Lib.hid m2;clear m2)
    case roundEnd =>
     rename_i hz
     have hz2:passN np count ((j:Int)+1)=0:=by simpa using hz
     refine⟨⟨j+1,by omega,by push_cast;rfl,?_,K2.out⟩,by simp[intOf];omega⟩
     have h1:=KA.out.1
     rw[show count - j=count - j - 1+1 from by omega,EF.out,if_pos hz2] at h1
     rw[show count - (j+1)=count - j - 1 from by omega]
     exact h1
    rename_i hz kk hq
    have hjn:j=NN:=by
     have hz2:¬passN np count ((j:Int)+1)=0:=by simpa using hz
     have h1:=KA.out.1
     rw[show count - j=count - j - 1+1 from by omega,EF.out,if_neg hz2] at h1
     exact h1
    subst hjn
    clear b0 b1' b2 b3 b4 b5 b6 hz EF FJ KA
    obtain⟨b0,b1',b2,b3,b4,b5,b6⟩:=BX.out w2 K2.out
    have hmx:Tryz.prog.follows .mixedOrders=true:=by kernel_rfl
    have C1:=Lib.hid (SF.out w2.drew K2.out.drew j)
    (refine round_still_tail 7 hmx (by kernel_rfl) ((fun ⟨a,w,h⟩=>HL.out ⟨a,w,h⟩)) (by kernel_rfl) ?_;simp only[List.take_succ_cons,List.take_zero,List.drop_succ_cons,List.drop_zero];(repeat still_step);(try refine wpStill_nil ?_))
    go_wp2_with (go_at_call 69;refine C1.out.mono ?_;rintro e w3 ⟨rfl,bz,o1,o2,o3,o4,o6,o5,o7,o8⟩;have K3:=Lib.hid o1;clear o1)
    rw[o2] at o5
    have C2:=Lib.hid fun n=>SZ.out bz w3.drew K3.out.1 (Mv.drew K3.out.2.2.2) n
    clear b0 b1' b2 b3 b4 b5 b6 C1
    (refine round_still_tail 18 hmx (by kernel_rfl) ((fun ⟨a,w,h⟩=>HL.out ⟨a,w,h⟩)) (by kernel_rfl) ?_;simp only[List.take_succ_cons,List.take_zero,List.drop_succ_cons,List.drop_zero];(repeat still_step);(try refine wpStill_nil ?_))
    go_wp2_with (go_at_call 69;refine(C2.out _).mono ?_;rintro e w4 ⟨rfl,b3,p1,p2,p3,p4⟩;have K4:=Lib.hid (And.intro p1 (And.intro p2 (And.intro p3 p4)));clear p1 p2 p3 p4)
    all_goals
     rename_i hmx2
     refine FIN.out _ bz b3 j _ w4 HN.out ?_ K3.out.2.1 K4.out.1 K4.out.2.1 K4.out.2.2.2
     split <;> omega
   ·have d1:decide ((j:Int)<(count:Int))=false:=by simp;omega
    gi_wp2_with fail
    refine⟨trivial,?_⟩
    gi_wp2_with fail
    have hjn:j=NN:=by
     have h1:=KA.out.1
     rw[show count - j=0 from by omega] at h1
     exact h1
    subst hjn
    have K2:=Lib.hid KA.out.2
    obtain⟨w2,rfl⟩:∃ w2:World,w2=wa:=⟨_,rfl⟩
    clear b0 b1' b2 b3 b4 b5 b6 FJ KA
    obtain⟨b0,b1',b2,b3,b4,b5,b6⟩:=BX.out w2 K2.out
    have hmx:Tryz.prog.follows .mixedOrders=true:=by kernel_rfl
    have C1:=Lib.hid (SF.out w2.drew K2.out.drew j)
    (refine round_still_tail 7 hmx (by kernel_rfl) ((fun ⟨a,w,h⟩=>HL.out ⟨a,w,h⟩)) (by kernel_rfl) ?_;simp only[List.take_succ_cons,List.take_zero,List.drop_succ_cons,List.drop_zero];(repeat still_step);(try refine wpStill_nil ?_))
    go_wp2_with (go_at_call 69;refine C1.out.mono ?_;rintro e w3 ⟨rfl,bz,o1,o2,o3,o4,o6,o5,o7,o8⟩;have K3:=Lib.hid o1;clear o1)
    rw[o2] at o5
    have C2:=Lib.hid fun n=>SZ.out bz w3.drew K3.out.1 (Mv.drew K3.out.2.2.2) n
    clear b0 b1' b2 b3 b4 b5 b6 C1
    (refine round_still_tail 18 hmx (by kernel_rfl) ((fun ⟨a,w,h⟩=>HL.out ⟨a,w,h⟩)) (by kernel_rfl) ?_;simp only[List.take_succ_cons,List.take_zero,List.drop_succ_cons,List.drop_zero];(repeat still_step);(try refine wpStill_nil ?_))
    go_wp2_with (go_at_call 69;refine(C2.out _).mono ?_;rintro e w4 ⟨rfl,b3,p1,p2,p3,p4⟩;have K4:=Lib.hid (And.intro p1 (And.intro p2 (And.intro p3 p4)));clear p1 p2 p3 p4)
    all_goals
     rename_i hmx2
     refine FIN.out _ bz b3 j _ w4 HN.out ?_ K3.out.2.1 K4.out.1 K4.out.2.1 K4.out.2.2.2
     split <;> omega
 case done =>
  intro K ys w H hK hy hP hM hd
  gi_wp2
  obtain⟨b2,e1,e2,rfl⟩:=hP
  refine⟨by simp,.inl ⟨_,_,rfl,run_takeDeferred hd,?_⟩⟩
  refine⟨_,results_none rfl _ _ _,rfl,b2,?_,e2,(Mv.drop hM).putObj _ hK hd rfl⟩
  rw[e1]
  unfold plantM
  rw[show b.model.set=false from hset,if_neg (by simp),show b1.model={ b.model with set:=true } from by rw[hb1];rfl]
  rw[show b.model.ss.length=d.n from by simp[BandG.model,KO.out.len]]
  have e3:(fun (m:BandM) (x:SpotIn [d])=>plantStep count m x.1.k)=fun m x=>(fun (m:BandM) (k:Nat)=>plantStep count m k) m ((fun x:SpotX=>x.k) x.1):=rfl
  rw[e3,← List.foldl_map (f:=fun x:SpotIn [d]=>x.1.k),show ys.map (fun x=>x.1.k)=List.range d.n from ?_]
  have e4:=congrArg (List.map (fun x:SpotX=>x.k)) hy
  rw[List.map_map] at e4
  refine e4.trans ?_
  simp[spotsOf,spotsB,Function.comp_def]
 case stop =>
  intro K pre w H _ _ h
  exact h.elim
theorem plantM_set (count:Nat) (m:BandM) (h:m.set=true):plantM count m=m:=by unfold plantM;rw[if_pos h]
theorem plant_any (d:BandA) (m:BandM) (W:World) (H:List HB) (h:BandR d m H) (hs:Sat W H) (count:Nat) (hct:count≤100000) :
  Calls Tryz.prog 23 #[.pointer (some ⟨d.bb,0,none⟩),.int .i64 (count:Int)] W fun e W'=>e=.returned (.tuple #[])∧∃ H',BandR d (plantM count m) H'∧Mv W H W' H':=by
 obtain⟨b,rfl,hk,rfl⟩:=h
 cases hset:b.set with
 | true =>
  refine(plant_set d b W _ hk rfl hs hset count).mono ?_
  rintro e W' ⟨rfl,hM⟩
  exact⟨rfl,_,⟨b,(plantM_set count _ hset).symm,hk,rfl⟩,hM⟩
 | false =>
  refine(plant_new d b W hk hs hset count hct).mono ?_
  rintro e W' ⟨rfl,b',h1,h2,hM⟩
  exact⟨rfl,_,⟨b',h1,h2,rfl⟩,hM⟩
end
section
open Go.RowKit Go.Shelf
attribute [local go_sem] Oper.semAt_some
theorem plantStep_ss (c:Nat) (m:BandM) (k:Nat):(plantStep c m k).ss=m.ss∧(plantStep c m k).planes=m.planes:=by unfold plantStep;split <;> exact⟨rfl,rfl⟩
theorem plantM_ss (c:Nat) (m:BandM):(plantM c m).ss=m.ss∧(plantM c m).planes=m.planes:=by
 unfold plantM
 split
 ·exact⟨rfl,rfl⟩
 ·have:∀ (l:List Nat) (n:BandM),(l.foldl (plantStep c) n).ss=n.ss∧(l.foldl (plantStep c) n).planes=n.planes:=by
   intro l
   induction l with
   | nil=>intro n;exact⟨rfl,rfl⟩
   | cons k l ih=>intro n;rw[List.foldl_cons,(ih _).1,(ih _).2];exact plantStep_ss c n k
  exact this _ _
def encM (c:Nat) (M:Nat→BandM) (x:SpotX):Nat→BandM:=updM M x.d.bb (plantM c (M x.d.bb))
theorem encM_ss (c:Nat) (l:List SpotX) (M:Nat→BandM) (b:Nat):((l.foldl (encM c) M) b).ss=(M b).ss:=by
 induction l generalizing M with
 | nil=>rfl
 | cons x l ih =>
  rw[List.foldl_cons,ih]
  unfold encM updM
  split
  ·rename_i h;rw[h];exact(plantM_ss _ _).1
  ·rfl
theorem mem_spots {D:List BandA} {x:SpotX} (h:x∈spotsOf D):x.d∈D∧x.k<x.d.n:=by
 simp only[spotsOf,spotsB,List.mem_flatMap,List.mem_map,List.mem_range] at h
 obtain⟨d,hd,k,hk,rfl⟩:=h
 exact⟨hd,hk⟩
def ListH (v:Value) (D:List BandA) (H:List HB):Prop:=RowH 43 1 v D.length (D.map fun d=>.pointer (some ⟨d.bb,0,none⟩)) H
theorem BandsR.band {D:List BandA} {M:Nat→BandM} {H:List HB} (h:BandsR D M H) {d:BandA} (hd:d∈D):∃ b:BandG,b.model=M d.bb∧b.ok d∧∀ x∈b.heap d,x∈H:=by
 induction D generalizing H with
 | nil=>cases hd
 | cons e D ih =>
  obtain⟨H1,H2,rfl,⟨b,k1,k2,rfl⟩,h2⟩:=h
  rcases List.mem_cons.1 hd with rfl | hd
  ·exact⟨b,k1,k2,fun x hx=>List.mem_append_left _ hx⟩
  ·obtain⟨b,k1,k2,k3⟩:=ih h2 hd
   exact⟨b,k1,k2,fun x hx=>List.mem_append_right _ (k3 x hx)⟩
theorem ListH.sp {A:Option Addr} {c box:Nat} {D:List BandA} {M:Nat→BandM} {HL H Hall:List HB} {W:World} (h:ListH (.slice A D.length c) D HL) (k:BandsR D M H) (hs:Sat W Hall) (hb:(⟨box,26,#[.slice A D.length c]⟩:HB)∈Hall) (h1:∀ x∈HL,x∈Hall) (h2:∀ x∈H,x∈Hall):SpR W box A c D:=by
 refine⟨(hs.2 _ hb).cell 0,fun j d hj=>?_,fun d hd=>?_⟩
 ·have hn:0<D.length:=by have:=(List.getElem?_eq_some_iff.1 hj).1;omega
  obtain⟨g,cap,cur,hv,e1,e2,e3,e4,hH⟩:=RowH.form h hn
  cases hv
  refine⟨g,rfl,?_⟩
  have:=(hs.2 _ (h1 _ (by rw[hH];exact List.mem_cons_self))).cell j
  rw[this]
  have hj2:=(List.getElem?_eq_some_iff.1 hj).1
  have e5:(cur.toList.take (D.length * 1))[j]?=some (.pointer (some ⟨d.bb,0,none⟩)):=by rw[e4,List.getElem?_map,hj];rfl
  rw[List.getElem?_take,if_pos (by omega),Array.getElem?_toList] at e5
  exact e5
 ·obtain⟨b,k1,k2,k3⟩:=k.band hd
  exact(hs.2 _ (h2 _ (k3 _ (b.mem_band d)))).cell 0
def encX (n0:Nat) (A:Option Addr) (n c:Nat) (style count layer:Int) (more:Bool):List HB:=[⟨n0+5,26,#[.slice A n c]⟩,⟨n0+4,4,#[.bool more]⟩,⟨n0+3,30,#[.slice none 0 0]⟩,⟨n0+2,3,#[.int .i64 layer]⟩,⟨n0+1,3,#[.int .i64 count]⟩,⟨n0,3,#[.int .i64 style]⟩]
theorem encX_no (n0:Nat) (A:Option Addr) (n c:Nat) (style count layer:Int) (more:Bool):NoSpot (encX n0 A n c style count layer more):=by
 intro x hx
 simp only[encX,List.mem_cons,List.not_mem_nil,or_false] at hx
 rcases hx with rfl | rfl | rfl | rfl | rfl | rfl
 ·exact(show 26≠66 by decide)
 ·exact(show 4≠66 by decide)
 ·exact(show 30≠66 by decide)
 ·exact(show 3≠66 by decide)
 ·exact(show 3≠66 by decide)
 ·exact(show 3≠66 by decide)
def encP1 (n0:Nat) (A:Option Addr) (c:Nat) (D:List BandA) (style layer:Int) (count:Nat) (HL:List HB) (M:Nat→BandM) (pre:List (SpotIn D)) (H:List HB):Prop :=
 ∃ HB',H=encX n0 A D.length c style count layer false++(HL++HB')∧BandsR D ((pre.map (·.1)).foldl (encM count) M) HB'
def NoneNew (D:List BandA) (M:Nat→BandM) (count:Nat) (layer:Int):Prop:=∀ d∈D,∀ s∈(M d.bb).ss,passN s.ps.length count (layer+1)≤s.said
theorem results_tmp_cell {fn:Func} {p u:Tmp} {ty:TypeId} (h:fn.results=#[.tmp u,.cell p ty]) (tmps:Array Value) (P:Program) (w:World) :
  (results fn tmps).run P w=((asAddr (tmps.getD p undef)).run P w).andThen fun a w₁=>((loadVar ty a).run P w₁).andThen fun v w₂=>.ok (.tuple #[tmps.getD u undef,v]) w₂:=by
 simp only[results,h]
 simp[Sem.run_bind,Result.andThen]
theorem enc_results (tmps:Array Value) (w:World) (v:Value) (g:Nat) (h8:tmps.getD 8 undef=v) (h9:tmps.getD 9 undef=.pointer (some ⟨g,0,none⟩)) (hb:Blk w g 30 #[.slice none 0 0]) :
  (results Tryz.f10 tmps).run Tryz.prog w=.ok (.tuple #[v,.slice none 0 0]) w:=by
 rw[results_tmp_cell (u:=8) (p:=9) (ty:=30) rfl,h8,h9]
 have c0:=hb.cell 0
 simp only[asAddr]
 go_simp
theorem enc_none (A:Option Addr) (c:Nat) (D:List BandA) (M:Nat→BandM) (style layer:Int) (count:Nat) (HL HB0:List HB) (W:World) (hD:D.length≤1000) (hL:ListH (.slice A D.length c) D HL) (hB:BandsR D M HB0) (hs:Sat W (HL++HB0)) (hct:count≤100000) (hly:0≤layer∧layer≤10000) (hno:NoneNew D M count layer) :
  Calls Tryz.prog 10 #[.slice A D.length c,.int .i64 style,.int .i64 (count:Int),.int .i64 layer] W fun e W'=>∃ v H1 HB',e=.returned (.tuple #[v,.slice none 0 0])∧RowB v [0] H1∧BandsR D ((spotsOf D).foldl (encM count) M) HB'∧Mv W (HL++HB0) W' (H1++(HL++HB')):=by
 refine(callsIn_wide (n:=8)).1 ?_
 refine callsIn_of_wp_marks Tryz.func10 rfl trivial ?_ rfl
 simp only[Tryz.ntmps10,List.size_toArray,List.length_cons,List.length_nil,Nat.reduceAdd,Nat.reduceSub,Array.replicate_succ,Array.replicate_zero,List.push_toArray,List.append_toArray,List.nil_append,List.cons_append]
 have K1:=((((((Mv.refl hs).alloc 3 #[.int .i64 style]).alloc 3 #[.int .i64 (count:Int)]).alloc 3 #[.int .i64 layer]).alloc 30 #[.slice none 0 0]).alloc 4 #[.bool false]).alloc 26 #[.slice A D.length c]
 simp only[World.size_alloc] at K1
 have K:=Lib.hid K1
 have KI:=Lib.hid (And.intro hL (And.intro hB (And.intro hno hs)))
 clear K1 hs hL hB hno
 gi_wp2_with (refine⟨trivial,?_⟩;gi_at_call 22;refine(callsIn_wide.2 (spots_any _ _ _ _)).mono ?_;rintro e w' ⟨rfl,rfl⟩)
 refine range_spots1 (by omega) 11 W (HL++HB0) (by simp;omega) (box:=W.heap.size+5) (c:=c) (A:=A) (D:=D) rfl (by omega) (fun e he=>by obtain⟨b,-,k2,-⟩:=KI.out.2.1.band he;have:=k2.small;omega)
  (encP1 W.heap.size A c D style layer count HL M) (fun _ _=>False) ?sp ?no ⟨_,⟨HB0,rfl,KI.out.2.1⟩,K.out⟩ ?assign ?body ?done ?stop
 case sp =>
  rintro pre H w ⟨HB',rfl,h2⟩ hs
  exact ListH.sp KI.out.1 h2 hs (List.mem_append_left _ List.mem_cons_self) (fun x hx=>List.mem_append_right _ (List.mem_append_left _ hx)) (fun x hx=>List.mem_append_right _ (List.mem_append_right _ hx))
 case no =>
  rintro pre H ⟨HB',rfl,h2⟩
  exact(encX_no _ _ _ _ _ _ _ _).append ((NoSpot.row KI.out.1 (by decide)).append h2.noSpot)
 case assign =>
  intro l x y z w K hK
  simp only[List.setIfInBounds_toArray,List.set_cons_succ,List.set_cons_zero] at hK ⊢
  gi_wp2
  exact hK
 case body =>
  intro l pre x hx B w H hr hP hs hlen
  simp only[List.setIfInBounds_toArray,List.set_cons_succ,List.set_cons_zero]
  obtain⟨HB1,rfl,hBs⟩:=hP
  obtain⟨hxd,hxk⟩:=mem_spots hx
  obtain⟨d,k⟩:=x
  simp only at hxd hxk
  obtain⟨PS,hPS⟩:∃ PS,spPost w (⟨B,66,SpotX.cells ⟨d,k⟩⟩::(encX W.heap.size A D.length c style count layer false++(HL++HB1))) (encP1 W.heap.size A c D style layer count HL M) (fun _ _=>False) (pre++[⟨⟨d,k⟩,hx⟩])=PS:=⟨_,rfl⟩
  have LP:Hid (¬LetsOut PS):=Lib.hid (by rw[← hPS];rintro⟨a,w,h⟩;exact h)
  rw[hPS]
  obtain⟨M1,hM1⟩:∃ M1,(pre.map (·.1)).foldl (encM count) M=M1:=⟨_,rfl⟩
  rw[hM1] at hBs
  obtain⟨XX,hXX⟩:∃ XX,XX=(⟨B,66,SpotX.cells ⟨d,k⟩⟩::encX W.heap.size A D.length c style count layer false:List HB):=⟨_,rfl⟩
  obtain⟨HH,hHH⟩:∃ HH,HH=XX++(HL++HB1):=⟨_,rfl⟩
  have M0:Mv w HH w HH:=Mv.refl (by rw[hHH,hXX];exact hs)
  have hkn:k<4096:=by obtain⟨b,-,k2,-⟩:=hBs.band hxd;exact Nat.lt_of_lt_of_le hxk k2.small
  have PL:Hid (Calls Tryz.prog 23 #[.pointer (some ⟨d.bb,0,none⟩),.int .i64 (count:Int)] w fun e w2=>e=.returned (.tuple #[])∧∃ HB2,BandsR D (encM count M1 ⟨d,k⟩) HB2∧Mv w HH w2 (XX++(HL++HB2))):=Lib.hid (by
   obtain⟨H1,R,r1,sm,back⟩:=hBs.split (Sat.right (Sat.right (A:=XX) (by rw[← hHH];exact M0.sat))).1 hxd
   have m1:Mv w HH w (H1++(XX++(HL++R))):=by
    refine M0.sub (fun g=>?_) (fun y hy=>?_)
    ·have:=sm.1 g
     rw[hHH]
     simp only[cnt_append] at this ⊢
     omega
    ·have:=sm.2 y
     rw[hHH]
     simp only[List.mem_append] at this hy ⊢
     grind
   refine(plant_any d _ w H1 r1 m1.sat.left count hct).mono ?_
   rintro e w2 ⟨rfl,H1',h1,h2⟩
   obtain⟨HB2,h3,h4⟩:=back _ _ h1
   refine⟨rfl,HB2,h3,(Mv.call m1 h2).sub (fun g=>?_) (fun y hy=>?_)⟩
   ·have:=h4.1 g
    simp only[cnt_append] at this ⊢
    omega
   ·have:=h4.2 y
    simp only[List.mem_append] at this hy ⊢
    grind)
  have BX:Hid (∀ w' HB2,Mv w HH w' (XX++(HL++HB2))→w'.cell? ⟨B,0,none⟩=some (.pointer (some ⟨d.lb,k * 5,none⟩))∧w'.cell? ⟨B,1,none⟩=some (.pointer (some ⟨d.bb,0,none⟩))∧w'.cell? ⟨B,2,none⟩=some (.int .i64 (k:Int))∧w'.cell? ⟨W.heap.size+1,0,none⟩=some (.int .i64 (count:Int))∧w'.cell? ⟨W.heap.size+2,0,none⟩=some (.int .i64 layer) ∧
    w'.cell? ⟨W.heap.size+4,0,none⟩=some (.bool false)∧w'.frozen? ⟨W.heap.size+4,0,none⟩=false):=Lib.hid (by
   intro w' HB2 m
   have a1:=Mv.blkm m (List.mem_append_left _ (by rw[hXX];exact List.mem_cons_self))
   have a2:=Mv.blkm m (x:=⟨W.heap.size+1,3,#[.int .i64 (count:Int)]⟩) (List.mem_append_left _ (by rw[hXX];simp[encX]))
   have a3:=Mv.blkm m (x:=⟨W.heap.size+2,3,#[.int .i64 layer]⟩) (List.mem_append_left _ (by rw[hXX];simp[encX]))
   have a4:=Mv.blkm m (x:=⟨W.heap.size+4,4,#[.bool false]⟩) (List.mem_append_left _ (by rw[hXX];simp[encX]))
   exact⟨a1.cell 0,a1.cell 1,a1.cell 2,a2.cell 0,a3.cell 0,a4.cell 0,a4.frozen 0⟩)
  have BS:Hid (∀ HB2,BandsR D (encM count M1 ⟨d,k⟩) HB2→∃ (np cp:Nat) (A':Option Addr) (said:Int),np≤1000∧passN np count (layer+1)≤said∧∀ w',Mv w HH w' (XX++(HL++HB2))→w'.cell? ⟨d.lb,k * 5+1,none⟩=some (.slice A' np cp)∧w'.cell? ⟨d.lb,k * 5+3,none⟩=some (.int .i64 said)):=Lib.hid (by
   intro HB2 h2
   obtain⟨b,k1,k2,k3⟩:=h2.band hxd
   obtain⟨st,hst⟩:∃ st,b.G[k]?=some st:=⟨_,List.getElem?_eq_getElem (by rw[k2.len];exact hxk)⟩
   have hso:=k2.st st (List.mem_of_getElem? hst)
   obtain⟨A',cp,hvp⟩:=hso.passes
   refine⟨st.m.ps.length,cp,A',st.m.said,hso.2.2.np,?_,fun w' m=>?_⟩
   ·refine KI.out.2.2.1 d hxd st.m ?_
    have e1:(encM count M1 ⟨d,k⟩ d.bb).ss=(M d.bb).ss:=by
     have:=encM_ss count (pre.map (·.1)++[⟨d,k⟩]) M d.bb
     rw[List.foldl_append,hM1] at this
     exact this
    rw[← e1,← k1]
    exact List.mem_map.2 ⟨st,List.mem_of_getElem? hst,rfl⟩
   ·have a5:=Mv.blkm m (List.mem_append_right _ (List.mem_append_right _ (k3 _ (b.mem_states d))))
    have a6:=state_cells a5 hst
    rw[hvp] at a6
    exact⟨a6.2.1,a6.2.2.2.1⟩)
  have FIN:Hid (∀ (a:Act) (w4:World) (HB2:List HB),BandsR D (encM count M1 ⟨d,k⟩) HB2→Mv w HH w4 (XX++(HL++HB2))→PS .normal a w4):=Lib.hid (by
   intro a w4 HB2 h2 m4
   rw[← hPS]
   rw[hHH,hXX] at m4
   refine⟨encX W.heap.size A D.length c style count layer false++(HL++HB2),⟨HB2,rfl,?_⟩,Mv.drop1 m4⟩
   rw[List.map_append,List.foldl_append,hM1]
   exact h2)
  have ST:Hid (∀ w4 HB2,Mv w HH w4 (XX++(HL++HB2))→Mv w HH (w4.setCell ⟨W.heap.size+4,0,none⟩ (.bool false)) (XX++(HL++HB2))):=Lib.hid (by
   intro w4 HB2 m4
   rw[hXX] at m4 ⊢
   exact Mv.setAt (A:=[_,_]) m4 0 (.bool false))
  obtain⟨b0,b1,b2,b3,b4,b5,b6⟩:=BX.out w HB1 (by rw[← hHH];exact M0)
  clear M0 hs hBs K KI hlen hXX hHH hM1 hPS
  gi_wp2_with (refine⟨trivial,?_⟩;gi_at_call 23;refine(CallsIn.inRound l (callsIn_wide.2 PL.out)).mono ?_;rintro e w2 ⟨rfl,HB2,h2,m2⟩;have K2:=Lib.hid (And.intro h2 m2);clear h2 m2)
  clear b0 b1 b2 b3 b4 b5 b6
  obtain⟨np,cp,A',said,hnp,hsd,BC⟩:=BS.out HB2 K2.out.1
  obtain⟨b0,b1,b2,b3,b4,b5,b6⟩:=BX.out w2 HB2 K2.out.2
  obtain⟨c1,c3⟩:=BC w2 K2.out.2
  have BC:=Lib.hid BC
  have d1:decide (said<passN np count (layer+1))=false:=by simp;omega
  have C1:Hid (Calls Tryz.prog 24 #[.agg #[.pointer (some ⟨d.lb,k * 5,none⟩),.pointer (some ⟨d.bb,0,none⟩),.int .i64 (k:Int)],.int .i64 (count:Int),.int .i64 layer] w2.drew fun e w3=>e=.returned (.int .i64 (passN np count (layer+1)))∧Hid (Mv w HH w3 (XX++(HL++HB2)))∧w3.cell? ⟨B,0,none⟩=some (.pointer (some ⟨d.lb,k * 5,none⟩)) ∧
    w3.cell? ⟨W.heap.size+4,0,none⟩=some (.bool false)∧w3.frozen? ⟨W.heap.size+4,0,none⟩=false∧w3.cell? ⟨d.lb,k * 5+3,none⟩=some (.int .i64 said)∧w3.cell? ⟨W.heap.size+1,0,none⟩=some (.int .i64 (count:Int))∧w3.cell? ⟨W.heap.size+2,0,none⟩=some (.int .i64 layer)):=Lib.hid (by
   refine(fresh_any ⟨d,k⟩ count layer w2.drew A' np cp c1 (by simp;omega) (by omega) ⟨by omega,by omega⟩ ⟨by omega,by omega⟩).mono ?_
   rintro e w3 ⟨rfl,m3⟩
   have m4:=Mv.call (H:=[]) (H':=[]) (Mv.drew K2.out.2) m3
   obtain⟨a0,a1,a2,a3,a4,a5,a6⟩:=BX.out w3 HB2 m4
   exact⟨rfl,Lib.hid m4,a0,a5,a6,(BC.out w3 m4).2,a3,a4⟩)
  have hmx:Tryz.prog.follows .mixedOrders=true:=by kernel_rfl
  obtain⟨C,hC⟩:∃ C:World→Prop,C=fun w'=>Hid (Mv w HH w' (XX++(HL++HB2))):=⟨_,rfl⟩
  have CF:∀ w',C w'→w'.cell? ⟨B,0,none⟩=some (.pointer (some ⟨d.lb,k * 5,none⟩))∧w'.cell? ⟨B,1,none⟩=some (.pointer (some ⟨d.bb,0,none⟩))∧w'.cell? ⟨B,2,none⟩=some (.int .i64 (k:Int))∧w'.cell? ⟨W.heap.size+4,0,none⟩=some (.bool false)∧w'.frozen? ⟨W.heap.size+4,0,none⟩=false∧w'.cell? ⟨d.lb,k * 5+3,none⟩=some (.int .i64 said)∧w'.cell? ⟨W.heap.size+1,0,none⟩=some (.int .i64 (count:Int))∧w'.cell? ⟨W.heap.size+2,0,none⟩=some (.int .i64 layer):=by
   intro w' h
   rw[hC] at h
   obtain⟨a0,a1,a2,a3,a4,a5,a6⟩:=BX.out w' HB2 h.out
   exact⟨a0,a1,a2,a5,a6,(BC.out w' h.out).2,a3,a4⟩
  have CK:∀ w',C w'→Calls Tryz.prog 24 #[.agg #[.pointer (some ⟨d.lb,k * 5,none⟩),.pointer (some ⟨d.bb,0,none⟩),.int .i64 (k:Int)],.int .i64 (count:Int),.int .i64 layer] w' fun e w3=>e=.returned (.int .i64 (passN np count (layer+1)))∧C w3:=by
   intro w' h
   rw[hC] at h ⊢
   refine(fresh_any ⟨d,k⟩ count layer w' A' np cp (BC.out w' h.out).1 (by simp;omega) (by omega) ⟨by omega,by omega⟩ ⟨by omega,by omega⟩).mono ?_
   rintro e w3 ⟨rfl,m3⟩
   exact⟨rfl,Lib.hid (Mv.call (H:=[]) (H':=[]) h.out m3)⟩
  have CD:C w2.drew:=by rw[hC];exact Lib.hid (Mv.drew K2.out.2)
  replace CF:=Lib.hid CF
  replace CK:=Lib.hid CK
  have HC:=Lib.hid hC
  clear hC
  clear hnp hsd b0 b1 b2 b3 b4 b5 b6 c1 c3 C1
  refine round_quiet_tail 13 C hmx (by kernel_rfl) (fun ⟨a,w,h⟩=>LP.out ⟨a,w,h⟩) CD (by kernel_rfl) ?_
  simp only[List.take_succ_cons,List.take_zero,List.drop_succ_cons,List.drop_zero]
  iterate 13 (first | ((with_reducible refine qc_pass ?_ ?_);(next=>(go_simp;done));(try simp only[Act.put,List.setIfInBounds_toArray,List.set_cons_zero,List.set_cons_succ])) | ((with_reducible refine qc_one ?_ ?_ (fun w' hw'=>?_) ?_);rotate_left;(next=>(go_simp;done));(next=>(first | (refine qc_val ?_;(obtain⟨a0,a1,a2,a3,a4,a5,a6,a7⟩:=CF.out w' hw');clear hw';go_simp;done) | (refine qc_val ?_;(obtain⟨a0,a1,a2,a3,a4,a5,a6,a7⟩:=CF.out w' hw');clear hw';go_simp;rfl) | (refine qc_call (f:=?_) (args:=?_) ?_ ?_;rotate_left 2;(next=>((obtain⟨a0,a1,a2,a3,a4,a5,a6,a7⟩:=CF.out w' hw');go_simp;constructor <;> rfl));(next=>(exact CK.out w' hw'))) | (refine qc_skip ?_;(obtain⟨a0,a1,a2,a3,a4,a5,a6,a7⟩:=CF.out w' hw');clear hw';go_simp;done)));(try simp only[Act.put,List.setIfInBounds_toArray,List.set_cons_zero,List.set_cons_succ])))
  refine wpQuiet_nil ?_
  intro w' hw'
  obtain⟨a0,a1,a2,a3,a4,a5,a6,a7⟩:=CF.out w' hw'
  have m4:Hid (Mv w HH w' (XX++(HL++HB2))):=by rw[HC.out] at hw';exact hw'
  clear hw'
  go_wp2_with fail
  exact FIN.out _ _ HB2 K2.out.1 (ST.out _ HB2 m4.out)
 case done =>
  intro K ys w H hK hy hP hM hd
  obtain⟨HB2,rfl,h2⟩:=hP
  rw[hy] at h2
  have b9:=(Mv.blkm hM (x:=⟨W.heap.size+4,4,#[.bool false]⟩) (List.mem_append_left _ (by simp[encX]))).cell 0
  have KD:=Lib.hid (And.intro h2 hd)
  have KD2:=Lib.hid h2
  have NW:Hid (Calls Tryz.prog 25 #[] w fun e w'=>∃ wb H',e=.returned (.pointer (some ⟨wb,0,none⟩))∧Hid (WrB wb [] H'∧Mv W (HL++HB0) w' (H'++(encX W.heap.size A D.length c style count layer false++(HL++HB2)))∧w'.heap[K]?=some (.deferred (some [])))∧w'.cell? ⟨W.heap.size+4,0,none⟩=some (.bool false)):=Lib.hid (by
   refine(new_writer w).mono ?_
   rintro e w' ⟨wb,H',rfl,h3,m3⟩
   have m4:Mv W (HL++HB0) w' (H'++(encX W.heap.size A D.length c style count layer false++(HL++HB2))):=Mv.call (H:=[]) hM m3
   exact⟨wb,H',rfl,Lib.hid ⟨h3,m4,m3.others (Sat.nil _) K _ hd (fun c t f e=>by cases e)⟩,(Mv.blkm m4 (x:=⟨W.heap.size+4,4,#[.bool false]⟩) (List.mem_append_right _ (List.mem_append_left _ (by simp[encX])))).cell 0⟩)
  clear h2 hd hM
  gi_wp2_with (refine⟨trivial,?_⟩;gi_at_call 25;refine(callsIn_wide.2 NW.out).mono ?_;rintro e w2 ⟨wb,HW,rfl,K2,b8⟩)
  obtain⟨w3,hw3⟩:∃ w3,w3=w2.alloc (.cells #[.pointer (some ⟨wb,0,none⟩)] 70):=⟨_,rfl⟩
  have hK2:w2.heap[K]?=some (.deferred (some [])):=K2.out.2.2
  have M3:Mv W (HL++HB0) w3 (⟨w2.heap.size,70,#[.pointer (some ⟨wb,0,none⟩)]⟩::(HW++(encX W.heap.size A D.length c style count layer false++(HL++HB2)))):=by rw[hw3];exact K2.out.2.1.alloc _ _
  have hK3:w3.heap[K]?=some (.deferred (some [])):=by rw[hw3];exact(Below.heap_alloc _ _ _ (Array.getElem?_eq_some_iff.1 hK2).1).trans hK2
  have c0:=(Mv.blkm M3 List.mem_cons_self).cell 0
  have c1:w3.cell? ⟨W.heap.size+4,0,none⟩=some (.bool false):=(Mv.blkm M3 (x:=⟨W.heap.size+4,4,#[.bool false]⟩) (List.mem_cons_of_mem _ (List.mem_append_right _ (List.mem_append_left _ (by simp[encX]))))).cell 0
  have BI:Hid (Calls Tryz.prog 26 #[.pointer (some ⟨wb,0,none⟩),.int .i64 0,.int .i64 1] w3.drew fun e w4=>e=.returned (.tuple #[])∧∃ HW',Hid (WrB wb [false] HW'∧Mv W (HL++HB0) w4 (⟨w2.heap.size,70,#[.pointer (some ⟨wb,0,none⟩)]⟩::(HW'++(encX W.heap.size A D.length c style count layer false++(HL++HB2))))∧w4.heap[K]?=some (.deferred (some []))) ∧
    w4.cell? ⟨w2.heap.size,0,none⟩=some (.pointer (some ⟨wb,0,none⟩))∧w4.cell? ⟨W.heap.size+4,0,none⟩=some (.bool false)):=Lib.hid (by
   have m1:Mv W (HL++HB0) w3.drew (HW++(⟨w2.heap.size,70,#[.pointer (some ⟨wb,0,none⟩)]⟩::(encX W.heap.size A D.length c style count layer false++(HL++HB2)))) :=
    (Mv.drew M3).sub (fun g=>by simp only[cnt_append,cnt_cons];omega) (fun c hc=>by simp only[List.mem_append,List.mem_cons] at hc ⊢;grind)
   refine(bits_any wb [] 0 1 w3.drew HW K2.out.1 m1.sat.left (by simp)).mono ?_
   rintro e w4 ⟨rfl,HW',h4,m4⟩
   have m5:Mv W (HL++HB0) w4 (⟨w2.heap.size,70,#[.pointer (some ⟨wb,0,none⟩)]⟩::(HW'++(encX W.heap.size A D.length c style count layer false++(HL++HB2)))) :=
    (Mv.call m1 m4).sub (fun g=>by simp only[cnt_append,cnt_cons];omega) (fun c hc=>by simp only[List.mem_append,List.mem_cons] at hc ⊢;grind)
   exact⟨rfl,HW',Lib.hid ⟨h4,m5,m4.others m1.sat.left K _ hK3 (fun c t f e=>by cases e)⟩,(Mv.blkm m5 List.mem_cons_self).cell 0,(Mv.blkm m5 (x:=⟨W.heap.size+4,4,#[.bool false]⟩) (List.mem_cons_of_mem _ (List.mem_append_right _ (List.mem_append_left _ (by simp[encX]))))).cell 0⟩)
  simp only[← hw3]
  clear hw3 M3 hK2 hK3 NW KD
  have hmx:Tryz.prog.follows .mixedOrders=true:=by kernel_rfl
  gi_region_with_o (first | (refine⟨trivial,?_⟩;gi_at_call 27;refine(callsIn_wide.2 (flag_any false _)).mono ?_;rintro e w' ⟨rfl,rfl⟩) | (refine⟨trivial,?_⟩;gi_at_call 26;refine(callsIn_wide.2 BI.out).mono ?_;rintro e w4 ⟨rfl,HW',K4,d0,d1⟩))
  all_goals
   have BY:Hid (Calls Tryz.prog 28 #[.pointer (some ⟨wb,0,none⟩)] w4 fun e w5=>∃ g c5 H1,e=.returned (.slice g 1 c5)∧Hid (RowB (.slice g 1 c5) [0] H1∧Mv W (HL++HB0) w5 (H1++(encX W.heap.size A D.length c style count layer false++(HL++HB2)))∧w5.heap[K]?=some (.deferred (some []))) ∧
     w5.cell? ⟨W.heap.size+3,0,none⟩=some (.slice none 0 0)∧w5.frozen? ⟨W.heap.size+3,0,none⟩=false):=Lib.hid (by
    obtain⟨q1,q2,q3⟩:=K4.out
    have m1:Mv W (HL++HB0) w4 (HW'++(encX W.heap.size A D.length c style count layer false++(HL++HB2))):=q2.drop1
    refine(bytes_any wb [false] w4 HW' q1 m1.sat.left (by simp)).mono ?_
    rintro e w5 ⟨v',Hn,rfl,h5,m5⟩
    have h6:RowB v' [0] Hn:=h5
    obtain⟨g,c5,rfl⟩:=h6.slice
    have m6:Mv W (HL++HB0) w5 (Hn++(encX W.heap.size A D.length c style count layer false++(HL++HB2))) :=
     (Mv.call m1 m5).sub (fun g=>by simp only[cnt_append];omega) (fun c hc=>by simp only[List.mem_append] at hc ⊢;grind)
    have m7:=Mv.blkm m6 (x:=⟨W.heap.size+3,30,#[.slice none 0 0]⟩) (List.mem_append_right _ (List.mem_append_left _ (by simp[encX])))
    exact⟨g,c5,Hn,rfl,Lib.hid ⟨h6,m6,m5.others m1.sat.left K _ q3 (fun c t f e=>by cases e)⟩,m7.cell 0,m7.frozen 0⟩)
   gi_wp2_with (refine⟨trivial,?_⟩;gi_at_call 28;refine(callsIn_wide.2 BY.out).mono ?_;rintro e w5 ⟨g5,c5,H1,rfl,K5,e0,e1⟩)
   have hk:(w5.setCell ⟨W.heap.size+1+1+1,0,none⟩ (.slice none 0 0)).heap[K]?=some (.deferred (some [])):=(KeepsOthers.setCell w5 ⟨W.heap.size+3,0,none⟩ _).same K _ K5.out.2.2 rfl
   have m8:Mv W (HL++HB0) (w5.setCell ⟨W.heap.size+1+1+1,0,none⟩ (.slice none 0 0)) (H1++(encX W.heap.size A D.length c style count layer false++(HL++HB2))):=by
    have m9:=K5.out.2.1
    have e9:H1++(encX W.heap.size A D.length c style count layer false++(HL++HB2))=(H1++[⟨W.heap.size+5,26,#[.slice A D.length c]⟩,⟨W.heap.size+4,4,#[.bool false]⟩])++⟨W.heap.size+3,30,#[.slice none 0 0]⟩::([⟨W.heap.size+2,3,#[.int .i64 layer]⟩,⟨W.heap.size+1,3,#[.int .i64 count]⟩,⟨W.heap.size,3,#[.int .i64 style]⟩]++(HL++HB2)):=by simp[encX]
    rw[e9] at m9 ⊢
    exact Mv.setAt m9 0 (.slice none 0 0)
   have m10:=m8.putObj (.deferred none) hK hk rfl
   refine⟨by simp,.inl ⟨_,_,rfl,run_takeDeferred hk,?_⟩⟩
   refine⟨_,enc_results _ _ _ (W.heap.size+3) rfl rfl (Mv.blkm m10 (x:=⟨W.heap.size+3,30,#[.slice none 0 0]⟩) (List.mem_append_right _ (List.mem_append_left _ (by simp[encX])))),_,H1,HB2,rfl,K5.out.1,KD2.out,?_⟩
   exact m10.sub (fun g=>by simp only[cnt_append];omega) (fun c hc=>by simp only[List.mem_append] at hc ⊢;grind)
 case stop =>
  intro K pre w H _ _ h
  exact h.elim
end
section
open Go.RowKit
def stNew:StG:=⟨⟨0,[],[],0,3⟩,.slice none 0 0,.slice none 0 0,[],[]⟩
theorem stNew_ok:stNew.ok:=⟨RowH.nil _ _,RowH.nil _ _,⟨by simp[stNew],by simp[stNew],by simp[stNew],by simp[stNew],by simp[stNew],by simp[stNew]⟩⟩
theorem infoSt:(Tryz.prog.info? 69).map (fun i=>(i.zero,i.size,i.bytes))=some (some (.agg #[.int .i64 0,.slice none 0 0,.slice none 0 0,.int .i64 0,.int .i64 0]),5,72):=by kernel_rfl
def st0:StG:=⟨⟨0,[],[],0,0⟩,.slice none 0 0,.slice none 0 0,[],[]⟩
def newBandM (w h:Nat) (planes:Int):BandM:=⟨w,h,planes,treeOf w h,treeOf w h,false,List.replicate (w * h) stNew.m⟩
def stMid (n j:Nat):List StG:=List.replicate j stNew++List.replicate (n - j) st0
theorem stMid_get (n j:Nat) (h:j<n):(stMid n j)[j]?=some st0:=by
 unfold stMid
 rw[List.getElem?_append_right (by simp),List.length_replicate,Nat.sub_self,List.getElem?_replicate,if_pos (by omega)]
theorem stMid_set (n j:Nat) (h:j<n):(stMid n j).set j stNew=stMid n (j+1):=by
 unfold stMid
 apply List.ext_getElem?
 intro i
 simp only[List.getElem?_set,List.length_append,List.length_replicate,List.getElem?_append,List.getElem?_replicate]
 grind
theorem stMid_step (n j:Nat) (h:j<n):((stMid n j).flatMap StG.v).set (j * 5+4) (.int .i64 3)=(stMid n (j+1)).flatMap StG.v:=by
 rw[← stMid_set n j h]
 exact flat_set StG.v 5 StG.v_length _ _ st0 stNew (stMid_get n j h) 4 (by omega) _ rfl
theorem stMid_made (n:Nat):(List.replicate n (Value.agg #[.int .i64 0,.slice none 0 0,.slice none 0 0,.int .i64 0,.int .i64 0]).cells.toList).flatten=(stMid n 0).flatMap StG.v:=by
 unfold stMid
 simp only[List.replicate_zero,List.nil_append,Nat.sub_zero]
 induction n with
 | zero=>rfl
 | succ n ih=>rw[List.replicate_succ,List.replicate_succ,List.flatten_cons,List.flatMap_cons,ih];rfl
end
section
open Go.RowKit
theorem band_new (x y:Nat) (planes:Int) (W:World) (hx:x≤64) (hy:y≤64) (hp : -1000≤planes∧planes≤1000) :
  Calls Tryz.prog 15 #[.int .i64 (x:Int),.int .i64 (y:Int),.int .i64 planes] W fun e W'=>∃ d H,e=.returned (.pointer (some ⟨d.bb,0,none⟩))∧d.n=x * y∧BandR d (newBandM x y planes) H∧Mv W [] W' H:=by
 have T1:=Lib.hid (tree_new x y)
 obtain⟨n,hn⟩:∃ n,x * y=n:=⟨_,rfl⟩
 have hn4:n≤4096:=by rw[← hn];exact Nat.mul_le_mul hx hy
 have hmul:(x:Int) * (y:Int)=(n:Int):=by rw[← hn];push_cast;rfl
 obtain⟨i0,hi,hz0,hz1,hz2⟩:=info_parts infoSt
 have MK:∀ V:World,(Instr.makeSlice 114 (.int .i64 ((x:Int) * (y:Int))) (.int .i64 ((x:Int) * (y:Int)))).run Tryz.prog V=.ok (.slice (some ⟨V.heap.size,0,none⟩) n n) (V.alloc (.cells ((stMid n 0).flatMap StG.v).toArray 69)):=by
  intro V
  rw[hmul,← stMid_made]
  exact run_made _ _ i0 _ 5 72 n Tryz.underlying114 hi hz0 hz1 hz2 rfl (by omega) (by omega) (by omega) V
 have ub:(x:Int) * (y:Int)≤4096:=by rw[hmul];omega
 have lb:0≤(x:Int) * (y:Int):=by rw[hmul];omega
 have HN:=Lib.hid (And.intro hn hmul)
 clear hn hmul hi hz0 hz1 hz2
 have b1:decide ((x:Int)<0)=false:=by simp
 have b2:decide ((y:Int)<0)=false:=by simp
 have b3:decide (64<(x:Int))=false:=by simp;omega
 have b4:decide (64<(y:Int))=false:=by simp;omega
 go_enter Tryz.func15,Tryz.ntmps15
 go_upto_region 4 with (go_at_call 50;refine(T1.out _).mono ?_;rintro e w2 ⟨tb,P,H,rfl,q1,q2,q3⟩;have KT:=Lib.hid (And.intro q1 (And.intro q2 q3));clear q1 q2 q3)
 rename_i w1 t1 P1 H1 KT1 kk1 kk2
 have M2:Mv W [] w2 (H++H1):=Mv.call (H:=[]) (R:=H1) KT1.out.2.2 KT.out.2.2
 obtain⟨w3,hw3⟩:∃ w3,w3=w2.alloc (.cells #[.slice none 0 0,.int .i64 planes,.pointer (some ⟨t1,0,none⟩),.pointer (some ⟨tb,0,none⟩),.bool false] 118):=⟨_,rfl⟩
 have M3:Mv W [] w3 (⟨w2.heap.size,118,#[.slice none 0 0,.int .i64 planes,.pointer (some ⟨t1,0,none⟩),.pointer (some ⟨tb,0,none⟩),.bool false]⟩::(H++H1)):=by rw[hw3];exact M2.alloc _ _
 have M4:=M3.alloc 69 ((stMid n 0).flatMap StG.v).toArray
 have c0:=(Mv.blkm M4 (List.mem_cons_of_mem _ List.mem_cons_self)).cell 0
 have f0:=(Mv.blkm M4 (List.mem_cons_of_mem _ List.mem_cons_self)).frozen 0
 have M5:=Mv.setAt (A:=[_]) M4 0 (.slice (some ⟨w3.heap.size,0,none⟩) n n)
 simp only[← hw3]
 have K5:=Lib.hid M5
 clear hw3 M2 M3 M4 M5
 go_wp2_with fail
 obtain⟨lb,hlb⟩:∃ lb,w3.heap.size=lb:=⟨_,rfl⟩
 obtain⟨bb,hbb⟩:∃ bb,w2.heap.size=bb:=⟨_,rfl⟩
 rw[hlb,hbb] at K5
 simp only[hlb,hbb]
 obtain⟨BB,hBB⟩:∃ BB:HB,BB=⟨bb,118,#[.slice (some ⟨lb,0,none⟩) n n,.int .i64 planes,.pointer (some ⟨t1,0,none⟩),.pointer (some ⟨tb,0,none⟩),.bool false]⟩:=⟨_,rfl⟩
 have K6:Hid (Mv W [] _ (⟨lb,69,((stMid n 0).flatMap StG.v).toArray⟩::BB::(H++H1))):=Lib.hid (by rw[hBB];exact K5.out)
 have FX:Hid (∀ wx j,j<n→Mv W [] wx (⟨lb,69,((stMid n j).flatMap StG.v).toArray⟩::BB::(H++H1))→wx.cell? ⟨bb,0,none⟩=some (.slice (some ⟨lb,0,none⟩) n n)∧wx.cell? ⟨lb,j * 5+4,none⟩=some (.int .i64 0)∧wx.frozen? ⟨lb,j * 5+4,none⟩=false ∧
   Hid (Mv W [] (wx.setCell ⟨lb,j * 5+4,none⟩ (.int .i64 3)) (⟨lb,69,((stMid n (j+1)).flatMap StG.v).toArray⟩::BB::(H++H1)))):=Lib.hid (by
  intro wx j hj m
  have a1:=Mv.blkm m (x:=BB) (List.mem_cons_of_mem _ List.mem_cons_self)
  rw[hBB] at a1
  have a2:=state_cells (Mv.blkm m List.mem_cons_self) (stMid_get n j hj)
  have m2:=m.set (j * 5+4) (.int .i64 3)
  rw[← stMid_step n j hj]
  refine⟨a1.cell 0,a2.2.2.2.2.1,a2.2.2.2.2.2 _,Lib.hid ?_⟩
  simpa using m2)
 clear K5 c0 f0
 go_loopg [46] n (fun m s46 wx=>∃ j:Nat,j≤n∧m=n - j∧s46=.int .i64 (j:Int)∧Mv W [] wx (⟨lb,69,((stMid n j).flatMap StG.v).toArray⟩::BB::(H++H1)))
 case atStart=>exact⟨0,by omega,rfl,rfl,K6.out⟩
 case round =>
  obtain⟨j,hj,rfl,rfl,m⟩:=hrel
  have KM:=Lib.hid m
  clear m
  by_cases hlt:j<n
  ·have d1:decide ((j:Int)<(n:Int))=true:=by simp;omega
   obtain⟨e1,e2,e3,e4⟩:=FX.out wr j hlt KM.out
   go_wp2_with fail
   all_goals
    go_roundg (n - (j+1))
    case measure=>omega
    case rel=>exact⟨j+1,by omega,rfl,by push_cast;rfl,e4.out⟩
  ·have d1:decide ((j:Int)<(n:Int))=false:=by simp;omega
   go_wp2_with fail
   obtain rfl:j=n:=by omega
   have e1:stMid j j=List.replicate j stNew:=by simp[stMid]
   have m:=KM.out
   rw[e1,hBB] at m
   go_ret
   refine⟨⟨bb,lb,j⟩,_,rfl,HN.out.1.symm,⟨⟨t1,tb,P1,P,H1,H,List.replicate j stNew,planes,false,x,y⟩,?_,?_,rfl⟩,?_⟩
   ·simp only[BandG.model,newBandM,KT.out.1,KT1.out.1,List.map_replicate,HN.out.1]
   ·exact⟨KT1.out.2.1,KT.out.2.1,treeOk_new _ _ _ hx hy KT1.out.1,treeOk_new _ _ _ hx hy KT.out.1,fun s hs=>by rw[List.eq_of_mem_replicate hs];exact stNew_ok,by simp,HN.out.1.symm,hp,hx,hy⟩
   ·have e2:(List.replicate j stNew).flatMap StG.heap=[]:=by
     induction j with
     | zero=>rfl
     | succ j ih=>simp[StG.heap,stNew]
    refine m.sub (fun g=>?_) (fun c hc=>?_)
    ·simp only[BandG.heap,bandB,statesB,e2,cnt_append,cnt_cons,cnt_nil]
     omega
    ·simp only[BandG.heap,bandB,statesB,e2,List.mem_append,List.mem_cons,List.not_mem_nil,or_false] at hc ⊢
     grind
end
section
open Go.RowKit
theorem results_cell3 {P:Program} {fn:Func} {p q r:Tmp} {tp tq tr:TypeId} (h:fn.results=#[.cell p tp,.cell q tq,.cell r tr]) (tmps:Array Value) (w:World) :
  (results fn tmps).run P w=((asAddr (tmps.getD p undef)).run P w).andThen fun a w₁=>((loadVar tp a).run P w₁).andThen fun u w₂=>((asAddr (tmps.getD q undef)).run P w₂).andThen fun b w₃=>((loadVar tq b).run P w₃).andThen fun v w₄ =>
   ((asAddr (tmps.getD r undef)).run P w₄).andThen fun c w₅=>((loadVar tr c).run P w₅).andThen fun x w₆=>.ok (.tuple #[u,v,x]) w₆:=by
 simp only[results,h]
 simp[Sem.run_bind,Result.andThen]
end
section
open Go.RowKit
theorem marked_none (A:Option Addr) (n c:Nat) (w:World):Calls Tryz.prog 40 #[.slice A n c,.bool false] w fun e w'=>e=.returned (.tuple #[.int .i64 0,.int .i64 0])∧w'=w:=by
 go_enter Tryz.func40,Tryz.ntmps40
 go_wp2_with fail
 go_ret2
 exact⟨rfl,rfl⟩
end
end Go.Proofs.YtjngfhgakokejaaGreat
