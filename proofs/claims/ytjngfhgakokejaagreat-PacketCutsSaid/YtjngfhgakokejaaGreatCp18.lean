/- packet: how many planes has a block? Rows grow: any elements. Pieces that a head tells. What a head says of a block, read: the plain model. packet: a piece is told: a region of read, whatever its order. -/
import Derived.Test.YtjngfhgakokejaaGreatCp17
import Derived.Test.YtjngfhgakokejaaGreatCp11
import Derived.Test.YtjngfhgakokejaaGreatCp15
set_option maxRecDepth 100000
set_option maxHeartbeats 8000000
set_option linter.all false
namespace Go.Proofs.YtjngfhgakokejaaGreat
section
open Go.RowKit
def TreeNN (T:List LevM):Prop:=∀ L∈T,∀ z∈L.l,0≤z.n
theorem at_nn {L:LevM} (h:∀ z∈L.l,0≤z.n) (x y:Nat):0≤(L.at_ x y).n:=by
 unfold LevM.at_
 rw[List.getD_eq_getElem?_getD]
 cases hg:L.l[y * L.w+x]? with
 | none=>exact Int.le_refl _
 | some z=>exact h z (List.mem_of_getElem? hg)
theorem decL_nn (l:List UInt8):∀ (f:Nat) (x:NodeM) (b:Int) (r:RdM),0≤x.n→0≤x.low→0≤(decL l f x b r).1.n
 | 0,x,b,r,h,_=>h
 | f+1,x,b,r,h,h2=>by
  unfold decL
  split
  ·split
   ·exact h2
   ·exact decL_nn l f _ b _ h (by simp only;omega)
  ·exact h
theorem decT_nn (l:List UInt8) (T:List LevM) (x y:Nat) (b:Int) (r:RdM) (h8:r.left≤8) (h:TreeNN T):TreeNN (decT l T x y b r).1:=by
 induction T generalizing x y with
 | nil=>exact h
 | cons L R ih =>
  have hR:=ih (x / 2) (y / 2) (fun L' hL'=>h L' (List.mem_cons_of_mem _ hL'))
  have h0:=(decT_inv l R (x / 2) (y / 2) b r h8).2.1
  intro L' hL' z hz
  simp only[decT,List.mem_cons] at hL'
  rcases hL' with rfl | hL'
  ·rcases List.mem_or_eq_of_mem_set hz with hz | rfl
   ·exact h L List.mem_cons_self z hz
   ·exact decL_nn l _ _ b _ (at_nn (h L List.mem_cons_self) x y) (by simp only;omega)
  ·exact hR L' hL' z hz
theorem decAt_nn (l:List UInt8) (T:List LevM) (k:Nat) (b:Int) (r:RdM) (h8:r.left≤8) (h:TreeNN T):TreeNN (decAt l T k b r).1:=by
 cases T with
 | nil=>exact h
 | cons L R=>exact decT_nn l _ _ _ b r h8 h
theorem decAt_true (l:List UInt8) (T:List LevM) (k:Nat) (b:Int) (r:RdM) (h8:r.left≤8) (h:TreeNN T) (ht:(decAt l T k b r).2.1=true):0≤knownAt (decAt l T k b r).1 k∧knownAt (decAt l T k b r).1 k<b:=by
 cases T with
 | nil=>simp[decAt] at ht
 | cons L R =>
  have hn:=decAt_nn l (L::R) k b r h8 h
  obtain⟨q,hq⟩:∃ q,decT l (L::R) (k % L.w) (k / L.w) b r=q:=⟨_,rfl⟩
  obtain⟨L',R',e1,e2⟩:∃ L' R',q.1=L'::R'∧L'.w=L.w:=by rw[← hq];exact⟨_,_,rfl,rfl⟩
  have ed:decAt l (L::R) k b r=(q.1,belowM (leafT q.1 (k % L.w) (k / L.w)) b,q.2.2):=by rw[← hq];rfl
  rw[ed] at ht hn ⊢
  simp only at ht hn ⊢
  rw[e1] at ht hn ⊢
  obtain⟨z,hz⟩:∃ z,L'.at_ (k % L.w) (k / L.w)=z:=⟨_,rfl⟩
  have z0:0≤z.n:=by rw[← hz];exact at_nn (hn L' List.mem_cons_self) _ _
  have ek:knownAt (L'::R') k=knownM z:=by rw[← hz,← e2];rfl
  have ht2:belowM z b=true:=by rw[← hz];exact ht
  unfold belowM at ht2
  simp only[Bool.and_eq_true,decide_eq_true_eq] at ht2
  rw[ek]
  unfold knownM
  rw[if_pos ht2.1]
  exact⟨z0,ht2.2⟩
def beginGo (l:List UInt8) (planes:Int) (k:Nat):Nat→Int→List LevM→RdM→List LevM × Option Int × RdM
 | 0,_,T,r=>(T,none,r)
 | f+1,n,T,r=>if (decAt l T k n r).2.1=true then ((decAt l T k n r).1,some (planes - knownAt (decAt l T k n r).1 k),(decAt l T k n r).2.2) else beginGo l planes k f (n+1) (decAt l T k n r).1 (decAt l T k n r).2.2
theorem beginGo_succ (l:List UInt8) (planes:Int) (k f:Nat) (n:Int) (T:List LevM) (r:RdM):beginGo l planes k (f+1) n T r=if (decAt l T k n r).2.1=true then ((decAt l T k n r).1,some (planes - knownAt (decAt l T k n r).1 k),(decAt l T k n r).2.2) else beginGo l planes k f (n+1) (decAt l T k n r).1 (decAt l T k n r).2.2:=rfl
def beginM (l:List UInt8) (m:BandM) (k:Nat) (r:RdM):List LevM × Option Int × RdM:=beginGo l m.planes k m.planes.toNat 1 m.zeros r
def begS (s:StM):Option Int→StM
 | none=>s
 | some p=>{ s with pl:=p }
def begOk:Option Int→Bool
 | none=>false
 | some p=>decide (1≤p) && decide (p≤30)
def begB (m:BandM) (s:StM) (k:Nat) (q:List LevM × Option Int × RdM):BandM:={ m with zeros:=q.1,ss:=m.ss.set k (begS s q.2.1) }
theorem beginGo_inv (l:List UInt8) (planes:Int) (k:Nat) (hp:planes≤60):∀ (f:Nat) (n:Int) (T:List LevM) (r:RdM),r.left≤8→T.length≤20→TreeNN T→0≤n→n+f=planes+1 →
  (beginGo l planes k f n T r).1.length=T.length∧TreeNN (beginGo l planes k f n T r).1∧(∀ p,(beginGo l planes k f n T r).2.1=some p→1≤p∧p≤planes)∧(beginGo l planes k f n T r).2.2.left≤8∧(beginGo l planes k f n T r).2.2.begun≤r.begun+f * 1200
 | 0,n,T,r,h8,hT,hn,_,_=>⟨rfl,hn,by simp[beginGo],h8,by simp[beginGo]⟩
 | f+1,n,T,r,h8,hT,hn,hn0,hf=>by
  obtain⟨i1,i2,i3⟩:=decAt_inv l T k n r h8 hT (by omega)
  have i4:=decAt_nn l T k n r h8 hn
  have i5:(decAt l T k n r).2.2.begun≤r.begun+1200:=by omega
  unfold beginGo
  split
  ·rename_i ht
   have i6:=decAt_true l T k n r h8 hn ht
   refine⟨i1,i4,fun p hp=>?_,i2,?_⟩
   ·simp only[Option.some.injEq] at hp
    omega
   ·simp only
    omega
  ·obtain⟨j1,j2,j3,j4,j5⟩:=beginGo_inv l planes k hp f (n+1) _ (decAt l T k n r).2.2 i2 (by rw[i1];exact hT) i4 (by omega) (by omega)
   exact⟨by rw[j1,i1],j2,j3,j4,by omega⟩
def BandG.putS (b:BandG) (k:Nat) (s':StG):BandG:={ b with G:=b.G.set k s' }
theorem BandG.putS_mv {b:BandG} {d:BandA} {w0 w:World} {H0 A:List HB} (M:Mv w0 H0 w (A++b.heap d)) {k:Nat} {s s':StG} (hg:b.G[k]?=some s) (i:Nat) (v:Value) (hi:i<5) (hh:s'.heap=s.heap) (hv:s'.v=s.v.set i v) :
  Mv w0 H0 (w.setCell ⟨d.lb,k * 5+i,none⟩ v) (A++(b.putS k s').heap d):=by
 have m1:Mv w0 H0 w ((A++[bandB b d])++statesB b d::(b.Hf++(b.Hz++b.G.flatMap StG.heap))):=by
  simpa [BandG.heap] using M
 have m2:=Mv.setAt m1 (k * 5+i) v
 have e:(b.G.flatMap StG.v).toArray.setIfInBounds (k * 5+i) v=((b.G.set k s').flatMap StG.v).toArray:=by
  rw[List.setIfInBounds_toArray,flat_set StG.v 5 StG.v_length b.G k s _ hg i hi v hv]
 rw[e] at m2
 have e2:(b.putS k s').heap d=bandB b d::⟨d.lb,69,((b.G.set k s').flatMap StG.v).toArray⟩::(b.Hf++(b.Hz++b.G.flatMap StG.heap)):=by
  unfold BandG.heap
  rw[show (b.putS k s').G.flatMap StG.heap=b.G.flatMap StG.heap from flatMap_set_same StG.heap (x:=s) (x':=s') hh _ _ hg]
  rfl
 rw[e2]
 simpa using m2
theorem BandG.putS_ok {b:BandG} {d:BandA} (ok:b.ok d) {k:Nat} {s':StG} (hs:s'.ok):(b.putS k s').ok d:=by
 refine⟨ok.tf,ok.tz,ok.kf,ok.kz,?_,?_,ok.n,ok.pl,ok.hw,ok.hh⟩
 ·intro x hx
  rcases List.mem_or_eq_of_mem_set hx with h | rfl
  ·exact ok.st x h
  ·exact hs
 ·exact(List.length_set ..).trans ok.len
theorem BandG.putS_model (b:BandG) (k:Nat) (s':StG):(b.putS k s').model={ b.model with ss:=b.model.ss.set k s'.m }:=by
 simp only[BandG.putS,BandG.model,List.map_set]
theorem BandG.putS_get {b:BandG} {k:Nat} {s s':StG} (hg:b.G[k]?=some s):(b.putS k s').G[k]?=some s' :=
 List.getElem?_set_self (List.getElem?_eq_some_iff.1 hg).1
theorem set_self_get {α:Type} {l:List α} {k:Nat} {x:α} (h:l[k]?=some x):l.set k x=l:=by
 obtain⟨h1,h2⟩:=List.getElem?_eq_some_iff.1 h
 rw[← h2]
 exact List.set_getElem_self h1
def BegR (d:BandA) (b:BandG) (k rb:Nat) (st:StG) (l:List UInt8) (q:List LevM × Option Int × RdM) (HR:List HB) (w w':World):Prop :=
 ∃ (b':BandG) (HR':List HB),b'.ok d∧b'.model=begB b.model st.m k q∧b'.G[k]?=some { st with m:=begS st.m q.2.1 }∧ReadH rb l q.2.2 HR'∧Mv w (HR++b.heap d) w' (HR'++b'.heap d)
theorem pbegin_any (d:BandA) (b:BandG) (k rb:Nat) (st:StG) (l:List UInt8) (r:RdM) (HR:List HB) (w:World)
  (ok:b.ok d) (hkn:k<d.n) (hst:b.G[k]?=some st) (hr:ReadH rb l r HR) (hs:Sat w (HR++b.heap d)) (hpl:0≤b.planes∧b.planes≤60) (hnn:TreeNN b.model.zeros) (hll:l.length≤90000000) (hrb:r.begun≤70000000) (hr8:r.left≤8) :
  Calls Tryz.prog 113 #[SpotX.v ⟨d,k⟩,.pointer (some ⟨rb,0,none⟩)] w fun e w'=>e=.returned (.bool (begOk (beginM l b.model k r).2.1))∧BegR d b k rb st l (beginM l b.model k r) HR w w':=by
 have hkk:k<4096:=Nat.lt_of_lt_of_le hkn ok.small
 have hkn0:=hkn
 obtain⟨g,hg⟩:∃ g,w.heap.size=g:=⟨_,rfl⟩
 obtain⟨X,hX⟩:∃ X:List HB,[⟨g,66,SpotX.cells ⟨d,k⟩⟩]=X:=⟨_,rfl⟩
 obtain⟨w1,hw1⟩:∃ w1,w1=w.alloc (.cells (SpotX.cells ⟨d,k⟩) 66):=⟨_,rfl⟩
 have M1:Mv w (HR++b.heap d) w1 (HR++(X++b.heap d)):=by
  have m:=(Mv.refl hs).alloc 66 (SpotX.cells ⟨d,k⟩)
  rw[hg,← hw1] at m
  rw[← hX]
  exact m.sub (fun g=>by simp only[cnt_append,cnt_cons,cnt_nil];omega) (fun c hc=>by simp only[List.mem_append,List.mem_cons,List.not_mem_nil,or_false] at hc ⊢;grind)
 have hx:⟨g,66,SpotX.cells ⟨d,k⟩⟩∈X:=by rw[← hX];exact List.mem_cons_self
 have DRP:Hid (∀ W A H1,Mv w (HR++b.heap d) W (A++(X++H1))→Mv w (HR++b.heap d) W (A++H1)):=Lib.hid (fun W A H1 m=>m.sub (fun g=>by simp only[cnt_append];omega) (fun c hc=>by simp only[List.mem_append] at hc ⊢;grind))
 obtain⟨pn,hpn⟩:∃ pn:Nat,b.planes=(pn:Int):=⟨b.planes.toNat,(Int.toNat_of_nonneg hpl.1).symm⟩
 have hpn60:pn≤60:=by omega
 have hT0:b.model.zeros.length≤20:=by have:=ok.kz.1;simpa [BandG.model] using this
 have KF:=Lib.hid (And.intro ok (And.intro M1 (And.intro hr (And.intro hnn (And.intro hst (And.intro hx hT0))))))
 have HW1:=Lib.hid (show w1=w.alloc (.cells #[.pointer (some ⟨d.lb,k * 5,none⟩),.pointer (some ⟨d.bb,0,none⟩),.int .i64 (k:Int)] 66) from hw1)
 have eB:beginM l b.model k r=beginGo l (pn:Int) k pn 1 b.model.zeros r:=by
  show beginGo l b.planes k b.planes.toNat 1 b.model.zeros r=_
  rw[hpn]
  rfl
 rw[eB]
 unfold SpotX.v
 clear hw1 ok hst hx M1 hs hX hr hnn hT0 eB hpl
 go_enter Tryz.func113,Tryz.ntmps113
 go_upto_region 1 with fail
 rw[← HW1.out]
 clear HW1
 go_wp2_with fail
 go_loopg [5] pn (fun gg s5 wx=>∃ (i:Nat) (b1:BandG) (HR1:List HB) (r1:RdM),i≤pn∧gg=pn - i∧s5=.int .i64 ((i:Int)+1)∧b1.ok d∧b1.model={ b.model with zeros:=b1.model.zeros }∧b1.G=b.G∧b1.planes=(pn:Int)∧ReadH rb l r1 HR1∧Mv w (HR++b.heap d) wx (HR1++(X++b1.heap d)) ∧
  beginGo l (pn:Int) k pn 1 b.model.zeros r=beginGo l (pn:Int) k (pn - i) ((i:Int)+1) b1.model.zeros r1∧r1.left≤8∧r1.begun≤r.begun+1200 * i∧TreeNN b1.model.zeros)
 case atStart=>exact⟨0,b,HR,r,Nat.zero_le _,rfl,rfl,KF.out.1,rfl,rfl,hpn,KF.out.2.2.1,KF.out.2.1,rfl,hr8,Nat.le_refl _,KF.out.2.2.2.1⟩
 case round =>
  obtain⟨wa,rfl⟩:∃ wa:World,wa=wr:=⟨_,rfl⟩
  obtain⟨i,b1,HR1,r1,hi,rfl,rfl,ok1,hm1,hG1,hp1,q1,m1,hE,h8,hb1,hn1⟩:=hrel
  have hst1:b1.G[k]?=some st:=by rw[hG1];exact KF.out.2.2.2.2.1
  obtain⟨⟨x0,x1,x2⟩,⟨y1,y2,y3⟩,z0,z1,-,z3,z4,-⟩:=hd_cells m1 KF.out.2.2.2.2.2.1 hst1
  rw[hp1] at y1
  have hT1:b1.model.zeros.length≤20:=by have:=ok1.kz.1;simpa [BandG.model] using this
  by_cases hlt:i<pn
  ·have d1:((i:Int)+1)≤(pn:Int):=by omega
   have EZ:=Lib.hid (band_decZ ok1 q1 m1.drew k hkn ((i:Int)+1) (by omega) hll (by omega) h8)
   have DI:=decAt_inv l b1.model.zeros k ((i:Int)+1) r1 h8 hT1 (by omega)
   have DN:=decAt_nn l b1.model.zeros k ((i:Int)+1) r1 h8 hn1
   have DT:=decAt_true l b1.model.zeros k ((i:Int)+1) r1 h8 hn1
   have hi60:i≤60:=by omega
   rw[show pn - i=(pn - i - 1)+1 by omega] at hE
   rw[beginGo_succ] at hE
   have hbz:({ b1.model with zeros:=(decAt l b1.model.zeros k ((i:Int)+1) r1).1 }:BandM)={ b.model with zeros:=(decAt l b1.model.zeros k ((i:Int)+1) r1).1 }:=by rw[hm1]
   rw[hbz] at EZ
   obtain⟨qt,hqt⟩:∃ q,(decAt l b1.model.zeros k ((i:Int)+1) r1).1=q:=⟨_,rfl⟩
   obtain⟨qr,hqr⟩:∃ q,(decAt l b1.model.zeros k ((i:Int)+1) r1).2.2=q:=⟨_,rfl⟩
   have KE:=Lib.hid hE
   rw[hqt,hqr] at KE EZ DI
   rw[hqt] at DN DT
   obtain⟨qb,hqb⟩:∃ q,(decAt l b1.model.zeros k ((i:Int)+1) r1).2.1=q:=⟨_,rfl⟩
   rw[hqb] at KE EZ DT
   have KG:=Lib.hid hG1
   have KB:=Lib.hid hb1
   clear hE hbz hqt hqr hqb hG1 q1 hst1 ok1 hm1
   go_upto_region 4 with fail
   go_still_tail 9,(by kernel_rfl)
   change wpList _ _ _ _ _ wa.drew
   have KP:=Lib.hid (And.intro DN (And.intro DT DI))
   clear DN DT DI hn1 hT1 m1 hb1 h8
   cases qb with
   | false =>
    go_wp2_with (go_at_call 112;(with_reducible refine EZ.out.mono ?_);rintro e w2 ⟨rfl,b2,HR2,q1,q2,q3,q4,q5⟩;have K2:=Lib.hid (And.intro q1 (And.intro q2 (And.intro q3 (And.intro q4 q5))));clear q1 q2 q3 q4 q5)
    go_roundg (pn - (i+1))
    case measure=>omega
    case rel =>
     have hz:b2.model.zeros=qt:=by rw[K2.out.2.1]
     have hp2:b2.planes=(pn:Int):=by rw[← hpn];exact congrArg BandM.planes K2.out.2.1
     refine⟨i+1,b2,HR2,qr,by omega,rfl,by push_cast;rfl,K2.out.1,by rw[hz];exact K2.out.2.1,K2.out.2.2.1.trans KG.out,hp2,K2.out.2.2.2.1,K2.out.2.2.2.2,?_,KP.out.2.2.2.1,?_,by rw[hz];exact KP.out.1⟩
     ·rw[KE.out,hz,if_neg (by simp),Nat.sub_sub]
      push_cast
      rfl
     ·have:=KP.out.2.2.2.2
      have:=KB.out
      omega
   | true =>
    go_upto_region 5 with (go_at_call 112;(with_reducible refine EZ.out.mono ?_);rintro e w2 ⟨rfl,b2,HR2,q1,q2,q3,q4,q5⟩;have K2:=Lib.hid (And.intro q1 (And.intro q2 (And.intro q3 (And.intro q4 q5))));clear q1 q2 q3 q4 q5)
    have hz:b2.model.zeros=qt:=by rw[K2.out.2.1]
    have hp2:b2.planes=(pn:Int):=by rw[← hpn];exact congrArg BandM.planes K2.out.2.1
    have hst2:b2.G[k]?=some st:=by rw[K2.out.2.2.1,KG.out];exact KF.out.2.2.2.2.1
    obtain⟨kn,hkn⟩:∃ kn,knownAt qt k=kn:=⟨_,rfl⟩
    have hkb:=KP.out.2.1 (by first | rfl | trivial)
    rw[hkn] at hkb
    have hmx:Tryz.prog.follows .mixedOrders=true:=by kernel_rfl
    obtain⟨C,hC⟩:∃ C:World→Prop,C=fun w'=>Hid (Mv w (HR++b.heap d) w' (HR2++(X++b2.heap d))):=⟨_,rfl⟩
    have CF:∀ w',C w'→w'.cell? ⟨g,0,none⟩=some (.pointer (some ⟨d.lb,k * 5,none⟩))∧w'.cell? ⟨g,1,none⟩=some (.pointer (some ⟨d.bb,0,none⟩))∧w'.cell? ⟨g,2,none⟩=some (.int .i64 (k:Int))∧w'.cell? ⟨d.bb,1,none⟩=some (.int .i64 (pn:Int))∧w'.cell? ⟨d.bb,3,none⟩=some (.pointer (some ⟨b2.zt,0,none⟩))∧w'.cell? ⟨d.lb,k * 5,none⟩=some (.int .i64 st.m.pl)∧w'.frozen? ⟨d.lb,k * 5,none⟩=false:=by
     intro w' h
     rw[hC] at h
     obtain⟨⟨x0,x1,x2⟩,⟨y1,y2,y3⟩,z0,z1,-,z3,z4,z5⟩:=hd_cells h.out KF.out.2.2.2.2.2.1 hst2
     rw[hp2] at y1
     exact⟨x0,x1,x2,y1,y3,z0,z5 _⟩
    have CK:∀ w',C w'→Calls Tryz.prog 129 #[.pointer (some ⟨b2.zt,0,none⟩),.int .i64 (k:Int)] w' fun e w3=>e=.returned (.int .i64 kn)∧C w3:=by
     intro w' h
     rw[hC] at h ⊢
     refine(band_known K2.out.1 h.out.sat.right.right k hkn0).mono ?_
     rintro e w3 ⟨rfl,m3⟩
     exact⟨by rw[hz,hkn],Lib.hid (Mv.call (H:=[]) (H':=[]) h.out m3)⟩
    have CD:C w2.drew:=by rw[hC];exact Lib.hid (Mv.drew K2.out.2.2.2.2)
    replace CF:=Lib.hid CF
    replace CK:=Lib.hid CK
    have HC:=Lib.hid hC
    have HKN:=Lib.hid hkn
    have HZ:=Lib.hid (And.intro hz (And.intro hp2 hst2))
    clear hC hkn hz hp2 hst2 x0 x1 x2 y1 y2 y3 z0 z1 z3 z4
    refine plain_quiet_tail 19 C hmx CD (by kernel_rfl) ?_
    simp only[List.take_succ_cons,List.take_zero,List.drop_succ_cons,List.drop_zero]
    iterate 19 (first | ((with_reducible refine qc_pass ?_ ?_);(next=>(go_simp;done));(try simp only[Act.put,List.setIfInBounds_toArray,List.set_cons_zero,List.set_cons_succ])) | ((with_reducible refine qc_one ?_ ?_ (fun w' hw'=>?_) ?_);rotate_left;(next=>(go_simp;done));(next=>(first | (refine qc_val ?_;(obtain⟨a0,a1,a2,a3,a4,a5,a6⟩:=CF.out w' hw');clear hw';go_simp;done) | (refine qc_val ?_;(obtain⟨a0,a1,a2,a3,a4,a5,a6⟩:=CF.out w' hw');clear hw';go_simp;rfl) | (refine qc_call (f:=?_) (args:=?_) ?_ ?_;rotate_left 2;(next=>((obtain⟨a0,a1,a2,a3,a4,a5,a6⟩:=CF.out w' hw');go_simp;constructor <;> rfl));(next=>(exact CK.out w' hw'))) | (refine qc_skip ?_;(obtain⟨a0,a1,a2,a3,a4,a5,a6⟩:=CF.out w' hw');clear hw';go_simp;done)));(try simp only[Act.put,List.setIfInBounds_toArray,List.set_cons_zero,List.set_cons_succ])))
    refine wpQuiet_nil ?_
    intro w3 hw3
    obtain⟨a0,a1,a2,a3,a4,a5,a6⟩:=CF.out w3 hw3
    have m3:Hid (Mv w (HR++b.heap d) w3 (HR2++(X++b2.heap d))):=by rw[HC.out] at hw3;exact hw3
    clear hw3 CD CK CF HC C
    obtain⟨pp,hpp⟩:∃ pp,(pn:Int) - kn=pp:=⟨_,rfl⟩
    have hp1:1≤pp∧pp≤60:=by omega
    obtain⟨st',hst'⟩:∃ st':StG,st'={ st with m:={ st.m with pl:=pp } }:=⟨_,rfl⟩
    have M4:=BandG.putS_mv (A:=HR2++X) (by rw[List.append_assoc];exact m3.out) HZ.out.2.2 (s':=st') 0 (.int .i64 pp) (by omega) (by rw[hst'];rfl) (by rw[hst'];rfl)
    rw[List.append_assoc] at M4
    have ok4:(b2.putS k st').ok d:=BandG.putS_ok K2.out.1 (by
     have h:=K2.out.1.st st (List.mem_of_getElem? HZ.out.2.2)
     rw[hst']
     exact⟨h.1,h.2.1,⟨h.2.2.np,h.2.2.nb,by simp only;omega,h.2.2.said,h.2.2.lb,h.2.2.ends⟩⟩)
    obtain⟨w4,hw4⟩:∃ w4,w4=w3.setCell ⟨d.lb,k * 5,none⟩ (.int .i64 pp):=⟨_,rfl⟩
    rw[Nat.add_zero,← hw4] at M4
    obtain⟨⟨x0,x1,x2⟩,-,z0,-⟩:=hd_cells M4 KF.out.2.2.2.2.2.1 (BandG.putS_get HZ.out.2.2)
    have e0:st'.m.pl=pp:=by rw[hst']
    rw[e0] at z0
    obtain⟨bb,hbb⟩:∃ bb,decide (pp≤30)=bb:=⟨_,rfl⟩
    have hE2:beginGo l (pn:Int) k pn 1 b.model.zeros r=(qt,some pp,qr):=by rw[KE.out,if_pos (by first | rfl | trivial),HKN.out,hpp]
    have hok:begOk (some pp)=bb:=by show (decide (1≤pp) && decide (pp≤30))=bb;rw[decide_eq_true hp1.1,Bool.true_and,hbb]
    have K4:=Lib.hid (And.intro ok4 (And.intro M4 (And.intro hE2 (And.intro hok hst'))))
    have HW4:=Lib.hid hw4
    have HPP:=Lib.hid hpp
    clear ok4 M4 hE2 hok hst' e0 hw4 hpp
    go_upto_region 6 with fail
    all_goals rw[HPP.out,← HW4.out]
    clear a0 a1 a2 a3 a4 a5 a6
    go_wp2_with fail
    go_ret
    rw[K4.out.2.2.1]
    exact⟨by show Ending.returned (.bool bb)=_;rw[K4.out.2.2.2.1],b2.putS k st',HR2,K4.out.1,by rw[BandG.putS_model,K2.out.2.1,K4.out.2.2.2.2];rfl,by rw[BandG.putS_get HZ.out.2.2,K4.out.2.2.2.2];rfl,K2.out.2.2.2.1,DRP.out _ _ _ K4.out.2.1⟩
  ·obtain rfl:i=pn:=by omega
   have d1:¬ (i:Int)+1≤(i:Int):=by omega
   have hE2:beginGo l (i:Int) k i 1 b.model.zeros r=(b1.model.zeros,none,r1):=by rw[hE,Nat.sub_self];rfl
   have K4:=Lib.hid (And.intro ok1 (And.intro m1 (And.intro hE2 (And.intro hm1 (And.intro hst1 q1)))))
   clear hE hE2 ok1 m1 hm1 hG1 hst1 q1 hn1 hT1
   go_wp2_with fail
   go_ret
   rw[K4.out.2.2.1]
   refine⟨rfl,b1,HR1,K4.out.1,?_,K4.out.2.2.2.2.1,K4.out.2.2.2.2.2,DRP.out _ _ _ K4.out.2.1⟩
   rw[K4.out.2.2.2.1]
   unfold begB begS
   simp only
   rw[set_self_get (by simp[BandG.model,KF.out.2.2.2.2.1])]
end
section
open Go.RowKit
section
variable {t e:TypeId} {size bytes:Nat} {z:Value}
theorem run_appR (hu:Tryz.prog.underlying t=some (.slice e)) (hi:(Tryz.prog.info? e).map (fun i=>(i.zero,i.size,i.bytes))=some (some z,size,bytes)) (hzs:z.cells.size=size) (h0:0<size) (hb:bytes≤1000) {w:World} {v:Value} {n:Nat} {xs:List Value} {H:List HB} (h:RowH e size v n xs H) (hs:Sat w H)
  {A:Option Addr} {m c:Nat} {news:List Value} (hr:Reads w w.heap.size size A m news) (h1:∀ u∈news,u.oneCell'=true) (hl:n+m≤1000000) (ty:TypeId) :
  ∃ v' w' H',(Builtin.append_ #[t,t] ty #[v,.slice A m c]).run Tryz.prog w=.ok v' w'∧RowH e size v' (n+m) (xs++news) H'∧Mv w H w' H':=by
 obtain⟨i0,hti,hz0,hz1,hz2⟩:=info_parts hi
 have hq:(n+m) * bytes≤1000000 * 1000:=Nat.mul_le_mul hl hb
 obtain⟨v',w',hrun,k1,k2,k3⟩:=run_append_any (P:=Tryz.prog) w 0 t ty e i0 z size bytes hu hti hz0 hz1 hz2 hzs h0 v n xs (RowH.owns h hs (fun _ _=>Nat.zero_le _)) w.heap.size A m c news hr h1 (by unfold maxLen;omega) (by omega) (Nat.zero_le _)
 obtain⟨H',k4,k5⟩:=mv_owns_grown h k1 k2 k3
 exact⟨v',w',H',hrun,k4,k5⟩
variable {ops:Array Oper} {rest:List Oper} {o:Oper} {a:Act} {w:World} {K:Act→World→Prop} {Q:Exit→Act→World→Prop} {E:Prop}
theorem wp_appR (hu:Tryz.prog.underlying t=some (.slice e)) (hi:(Tryz.prog.info? e).map (fun i=>(i.zero,i.size,i.bytes))=some (some z,size,bytes)) (hzs:z.cells.size=size) (h0:0<size) (hb:bytes≤1000)
  (s x:Operand) (ho:o.op=.call { callee:=.builtin .append,args:=#[s,x],argTypes:=#[t,t] }) (v:Value) {n:Nat} {xs:List Value} {H:List HB} {A:Option Addr} {m c:Nat} {news:List Value}
  (hsv:a.eval s=v) (hxu:a.eval x=.slice A m c) (h:RowH e size v n xs H) (hs:Sat w H) (hr:Reads w w.heap.size size A m news) (h1:∀ u∈news,u.oneCell'=true) (hl:n+m≤1000000)
  (hK:∀ v' w' H',RowH e size v' (n+m) (xs++news) H'→Mv w H w' H'→K (a.put o.dst v') w'):o.wp Tryz.prog a w K Q:=by
 obtain⟨v',w',H',hrun,h2,h3⟩:=run_appR hu hi hzs h0 hb h hs hr h1 hl (c:=c) o.type
 unfold Oper.wp execOp
 simp only[ho,resolve,invoke,builtin,Sem.run_bind,Sem.run_pure,Result.andThen_ok,List.map_toArray,List.map_cons,List.map_nil,hsv,hxu,hrun]
 exact hK v' w' H' h2 h3
theorem wpList_appR (hu:Tryz.prog.underlying t=some (.slice e)) (hi:(Tryz.prog.info? e).map (fun i=>(i.zero,i.size,i.bytes))=some (some z,size,bytes)) (hzs:z.cells.size=size) (h0:0<size) (hb:bytes≤1000) (hgd:o.guard=none)
  (s x:Operand) (ho:o.op=.call { callee:=.builtin .append,args:=#[s,x],argTypes:=#[t,t] }) (v:Value) {n:Nat} {xs:List Value} {H:List HB} {A:Option Addr} {m c:Nat} {news:List Value}
  (hsv:a.eval s=v) (hxu:a.eval x=.slice A m c) (h:RowH e size v n xs H) (hs:Sat w H) (hr:Reads w w.heap.size size A m news) (h1:∀ u∈news,u.oneCell'=true) (hl:n+m≤1000000)
  (hK:∀ v' w' H',RowH e size v' (n+m) (xs++news) H'→Mv w H w' H'→wpList Tryz.prog ops Q rest (a.put o.dst v') w'):wpList Tryz.prog ops Q (o::rest) a w :=
 wpList_plain hgd fun _ hk=>wp_appR hu hi hzs h0 hb s x ho v hsv hxu h hs hr h1 hl fun v' w' H' h2 h3=>hk _ _ (hK v' w' H' h2 h3)
theorem step_appR (hu:Tryz.prog.underlying t=some (.slice e)) (hi:(Tryz.prog.info? e).map (fun i=>(i.zero,i.size,i.bytes))=some (some z,size,bytes)) (hzs:z.cells.size=size) (h0:0<size) (hb:bytes≤1000) (hgd:o.guard=none)
  (s x:Operand) (ho:o.op=.call { callee:=.builtin .append,args:=#[s,x],argTypes:=#[t,t] }) (v:Value) {n:Nat} {xs:List Value} {H:List HB} {A:Option Addr} {m c:Nat} {news:List Value}
  (hsv:a.eval s=v) (hxu:a.eval x=.slice A m c) (h:RowH e size v n xs H) (hs:Sat w H) (hr:Reads w w.heap.size size A m news) (h1:∀ u∈news,u.oneCell'=true) (hl:n+m≤1000000)
  (hK:∀ v' w' H',RowH e size v' (n+m) (xs++news) H'→Mv w H w' H'→K (a.put o.dst v') w'):if Region.wanted o (yielded ops a.tmps)=true then Oper.wp Tryz.prog o a w K Q else E:=by
 have hw:Region.wanted o (yielded ops a.tmps)=true:=by simp[Region.wanted,hgd]
 rw[if_pos hw]
 exact wp_appR hu hi hzs h0 hb s x ho v hsv hxu h hs hr h1 hl hK
theorem reads_new {wb:World} {cs:Array Value} (hw:w=wb.alloc (.cells cs e)) (hc:cs.size=size):Reads w w.heap.size size (some ⟨wb.heap.size,0,none⟩) 1 cs.toList:=by
 refine⟨by simp[hc],fun _=>⟨_,rfl,by rw[hw];simp,fun j u hu=>?_⟩⟩
 rw[hw]
 exact news_block wb cs _ j u (by simpa using hu)
end
structure PcM where
 x:SpotX
 p:Nat
 n:Nat
def pieceV (q:PcM):List Value:=[.pointer (some ⟨q.x.d.lb,q.x.k * 5,none⟩),.pointer (some ⟨q.x.d.bb,0,none⟩),.int .i64 (q.x.k:Int),.int .i64 (q.p:Int),.int .i64 (q.n:Int)]
def pcsV (l:List PcM):List Value:=l.flatMap pieceV
theorem pcsV_append (a b:List PcM):pcsV (a++b)=pcsV a++pcsV b:=by simp[pcsV]
theorem pcsV_one (l:List PcM):∀ u∈pcsV l,u.oneCell'=true:=by
 intro u hu
 simp only[pcsV,pieceV,List.mem_flatMap,List.mem_cons,List.not_mem_nil,or_false] at hu
 obtain⟨q,-,rfl | rfl | rfl | rfl | rfl⟩:=hu <;> rfl
def RowPc (v:Value) (l:List PcM) (H:List HB):Prop:=RowH 96 5 v l.length (pcsV l) H
theorem infoPc:(Tryz.prog.info? 96).map (fun i=>(i.zero,i.size,i.bytes))=some (some (.agg #[.pointer none,.pointer none,.int .i64 0,.int .i64 0,.int .i64 0]),5,40):=by kernel_rfl
theorem RowPc.slice {v:Value} {l:List PcM} {H:List HB} (h:RowPc v l H):∃ a c,v=.slice a l.length c:=RowH.slice h
def lbGo (l:List UInt8):Nat→Nat→RdM→Option Nat × RdM
 | 0,_,r=>(none,r)
 | f+1,lb,r=>if (rdBit l r).1=1 then (if 24<lb+1 then (none,(rdBit l r).2) else lbGo l f (lb+1) (rdBit l r).2) else (some lb,(rdBit l r).2)
theorem lbGo_succ (l:List UInt8) (f lb:Nat) (r:RdM):lbGo l (f+1) lb r=if (rdBit l r).1=1 then (if 24<lb+1 then (none,(rdBit l r).2) else lbGo l f (lb+1) (rdBit l r).2) else (some lb,(rdBit l r).2):=rfl
theorem lbGo_inv (l:List UInt8):∀ (f lb:Nat) (r:RdM),r.left≤8→lb≤24→(lbGo l f lb r).2.left≤8∧(lbGo l f lb r).2.begun≤r.begun+f∧∀ b,(lbGo l f lb r).1=some b→lb≤b∧b≤24
 | 0,lb,r,h,_=>⟨h,Nat.le_refl _,by simp[lbGo]⟩
 | f+1,lb,r,h,h2=>by
  obtain⟨k1,k2,k3⟩:=rdBit_inv l r h
  rw[lbGo_succ]
  split
  ·split
   ·exact⟨k2,by simp only;omega,by simp⟩
   ·obtain⟨i1,i2,i3⟩:=lbGo_inv l f (lb+1) (rdBit l r).2 k2 (by omega)
    exact⟨i1,by omega,fun b hb=>by have:=i3 b hb;omega⟩
  ·refine⟨k2,by simp only;omega,fun b hb=>?_⟩
   simp only[Option.some.injEq] at hb
   omega
def pcGo (l:List UInt8) (x:SpotX) (lb:Nat):List Int→RdM→List PcM × RdM
 | [],r=>([],r)
 | p::ps,r=>(⟨x,p.toNat,(rdG l ((lb+p.toNat.log2:Nat):Int) r).1⟩::(pcGo l x lb ps (rdG l ((lb+p.toNat.log2:Nat):Int) r).2).1,(pcGo l x lb ps (rdG l ((lb+p.toNat.log2:Nat):Int) r).2).2)
theorem pcGo_snoc (l:List UInt8) (x:SpotX) (lb:Nat):∀ (ps:List Int) (p:Int) (r:RdM),pcGo l x lb (ps++[p]) r=((pcGo l x lb ps r).1++[⟨x,p.toNat,(rdG l ((lb+p.toNat.log2:Nat):Int) (pcGo l x lb ps r).2).1⟩],(rdG l ((lb+p.toNat.log2:Nat):Int) (pcGo l x lb ps r).2).2)
 | [],p,r=>rfl
 | q::ps,p,r=>by
  rw[List.cons_append]
  simp only[pcGo,pcGo_snoc l x lb ps p,List.cons_append]
theorem rdG_inv (l:List UInt8) (s:Int) (r:RdM) (h:r.left≤8):(rdG l s r).2.left≤8∧(rdG l s r).2.begun≤r.begun+32∧(rdG l s r).1<4294967296:=by
 unfold rdG
 split
 ·rename_i hs
  obtain⟨h1,h2,h3⟩:=rdB_inv l r h s.toNat
  have h4:2 ^ s.toNat≤2 ^ 32:=Nat.pow_le_pow_right (n:=2) (by decide) (by omega)
  exact⟨h2,by omega,by omega⟩
 ·exact⟨h,by simp only;omega,by simp⟩
theorem pcGo_inv (l:List UInt8) (x:SpotX) (lb:Nat):∀ (ps:List Int) (r:RdM),r.left≤8→(pcGo l x lb ps r).1.length=ps.length∧(pcGo l x lb ps r).2.left≤8∧(pcGo l x lb ps r).2.begun≤r.begun+32 * ps.length∧∀ q∈(pcGo l x lb ps r).1,q.x=x∧q.n<4294967296
 | [],r,h=>⟨rfl,h,by simp[pcGo],by simp[pcGo]⟩
 | p::ps,r,h=>by
  obtain⟨g1,g2,g3⟩:=rdG_inv l ((lb+p.toNat.log2:Nat):Int) r h
  obtain⟨i1,i2,i3,i4⟩:=pcGo_inv l x lb ps _ g1
  simp only[pcGo]
  refine⟨by rw[List.length_cons,List.length_cons,i1],i2,by simp only[List.length_cons];omega,fun q hq=>?_⟩
  rcases List.mem_cons.1 hq with rfl | hq
  ·exact⟨rfl,g3⟩
  ·exact i4 q hq
def readM (l:List UInt8) (style:Nat) (m:BandM) (d:BandA) (k:Nat) (s:StM) (r:RdM):Option (BandM × List PcM × RdM) :=
 let q:=beginM l m k r
 let (m1,s1,r1,ok):=if s.ps.length=0 then (begB m s k q,begS s q.2.1,q.2.2,begOk q.2.1) else (m,s,r,true)
 if ok=false then none else
 let n:=(toldM l r1).1
 if 3 * s1.pl - 2<(s1.ps.length+n:Nat) then none else
 match lbGo l (25 - s1.lb.toNat) s1.lb.toNat (toldM l r1).2 with
 | (none,_)=>none
 | (some lb,r3) =>
  let pg:=pcGo l ⟨d,k⟩ lb (lensM (piecesM style s1.ps.length (s1.ps.length+n))) r3
  some ({ m1 with ss:=m1.ss.set k { s1 with lb:=(lb:Int) } },pg.1,pg.2)
end
section
open Go.RowKit
inductive read_r16_S (d:BandA) (bG:BandG) (k g rb lb en ln qn i pc9:Nat) (pa9:Option Addr) (l:List UInt8) (r r9:RdM) (PL:List PcM) (HRi Hv H1 X H0:List YtjngfhgakokejaaGreat.HB) (w0:World) (w:World) (s0 s2 s4 s5 s6 s7 s8 s9 s10 s11 s13 s15 s16 s17 s18 s19 s20 s21 s22 s23 s24 s25 s26 s27 s28 s29 s30 s31 s32 s33 s34 s35 s36 s37 s38 s39 s40 s41 s42 s43 s44 s45 s46 s47 s48 s49 s50 s51 s52 s53 s54 s55 s56 s57 s58 s59 s60 s61 s62 s63 s64 s65 s66 s67 s68 s69 s70 s71 s72 s73 s74 s75 s76 s77 s78 s79 s80 s81 s82 s83 s84 s85 s86 s87 s88 s89 s90 s91 s92 s93 s94 s95 s96 s97 s98 s99 s100 s101 s102 s103:Value) (listed:Array Bool) (a:Act) (W:World):Prop
 | mk (b0 b1 b2 b3 b4 b5 b6 b7 b8 b9 b10 b11 b12 b13 b14 b15 b16:Bool) (u86 u87 u88 u89 u90 u91 u92 u93 u94 u95 u96 u97 u98 u99 u100 u101 u12:Value) (g8:Nat) (HB:List YtjngfhgakokejaaGreat.HB) (HRx:List YtjngfhgakokejaaGreat.HB) (hl:listed=#[b0,b1,b2,b3,b4,b5,b6,b7,b8,b9,b10,b11,b12,b13,b14,b15,b16]) (ha:a=⟨List.toArray (s0::(.pointer (some ⟨rb,0,none⟩))::s2::(.pointer (some ⟨g,0,none⟩))::s4::s5::s6::s7::s8::s9::s10::s11::u12::s13::(.int .i64 (en:Int))::s15::s16::s17::s18::s19::s20::s21::s22::s23::s24::s25::s26::s27::s28::s29::s30::s31::s32::s33::s34::s35::s36::s37::s38::s39::s40::s41::s42::s43::s44::s45::s46::s47::s48::s49::s50::s51::s52::s53::s54::s55::s56::s57::s58::s59::s60::s61::s62::s63::s64::s65::s66::s67::s68::s69::s70::s71::s72::s73::s74::s75::s76::s77::s78::s79::s80::s81::s82::s83::s84::s85::u86::u87::u88::u89::u90::u91::u92::u93::u94::u95::u96::u97::u98::u99::u100::u101::s102::s103::[]),[]⟩) (HW:(Mv w0 H0 W (HRx++(oh b14 ⟨g8,96,#[.pointer (some ⟨d.lb,k * 5,none⟩),.pointer (some ⟨d.bb,0,none⟩),.int .i64 (k:Int),.int .i64 (en:Int),.int .i64 (qn:Int)]⟩++(HB++(H1++(X++bG.heap d)))))∧(b12=false→HRx=HRi)∧(b15=false→HB=Hv)∧(b16=false→u12=.slice pa9 i pc9)∧(b15=true→b14=true∧b0=true)∧(b13=true→b12=true)∧(b14=true→b13=true)∧(b16=true→b15=true))) (h0:Hid (b0=true→u86=.slice pa9 i pc9)) (h1:Hid (b1=true→u87=.agg #[.pointer (some ⟨d.lb,k * 5,none⟩),.pointer (some ⟨d.bb,0,none⟩),.int .i64 (k:Int)])) (h2:Hid (b2=true→u88=.int .i64 (en:Int))) (h3:Hid (b3=true→u89=.pointer (some ⟨rb,0,none⟩))) (h4:Hid (b4=true→u90=.pointer (some ⟨g,0,none⟩))) (h5:Hid (b5=true→u91=.pointer (some ⟨d.lb,k * 5,none⟩))) (h6:Hid (b6=true→u92=.pointer (some ⟨d.lb,k * 5,none⟩))) (h7:Hid (b7=true→u93=.pointer (some ⟨d.lb,k * 5+4,none⟩))) (h8:Hid (b8=true→u94=.int .i64 (lb:Int))) (h9:Hid (b9=true→u95=.int .i64 (en:Int))) (h10:Hid (b10=true→u96=.int .i64 (ln:Int))) (h11:Hid (b11=true→u97=.int .i64 ((lb:Int)+(ln:Int)))) (h12:Hid (b12=true→u98=.int .i64 (qn:Int)∧ReadH rb l r9 HRx)) (h13:Hid (b13=true→u99=.agg #[.pointer (some ⟨d.lb,k * 5,none⟩),.pointer (some ⟨d.bb,0,none⟩),.int .i64 (k:Int),.int .i64 (en:Int),.int .i64 (qn:Int)])) (h14:Hid (b14=true→u100=.slice (some ⟨g8,0,none⟩) 1 1)) (h15:Hid (b15=true→RowH 96 5 u101 (i+1) (pcsV (PL++[⟨⟨d,k⟩,en,qn⟩])) HB)) (h16:Hid (b16=true→u12=u101)):read_r16_S d bG k g rb lb en ln qn i pc9 pa9 l r r9 PL HRi Hv H1 X H0 w0 w s0 s2 s4 s5 s6 s7 s8 s9 s10 s11 s13 s15 s16 s17 s18 s19 s20 s21 s22 s23 s24 s25 s26 s27 s28 s29 s30 s31 s32 s33 s34 s35 s36 s37 s38 s39 s40 s41 s42 s43 s44 s45 s46 s47 s48 s49 s50 s51 s52 s53 s54 s55 s56 s57 s58 s59 s60 s61 s62 s63 s64 s65 s66 s67 s68 s69 s70 s71 s72 s73 s74 s75 s76 s77 s78 s79 s80 s81 s82 s83 s84 s85 s86 s87 s88 s89 s90 s91 s92 s93 s94 s95 s96 s97 s98 s99 s100 s101 s102 s103 listed a W
theorem read_r16 (K:Act→World→Prop) (d:BandA) (bG:BandG) (k g rb lb en ln qn i pc9:Nat) (pa9:Option Addr) (l:List UInt8) (r r9:RdM) (PL:List PcM) (HRi Hv H1 X H0:List YtjngfhgakokejaaGreat.HB) (w0:World) (w:World) (s0 s2 s4 s5 s6 s7 s8 s9 s10 s11 s13 s15 s16 s17 s18 s19 s20 s21 s22 s23 s24 s25 s26 s27 s28 s29 s30 s31 s32 s33 s34 s35 s36 s37 s38 s39 s40 s41 s42 s43 s44 s45 s46 s47 s48 s49 s50 s51 s52 s53 s54 s55 s56 s57 s58 s59 s60 s61 s62 s63 s64 s65 s66 s67 s68 s69 s70 s71 s72 s73 s74 s75 s76 s77 s78 s79 s80 s81 s82 s83 s84 s85 s86 s87 s88 s89 s90 s91 s92 s93 s94 s95 s96 s97 s98 s99 s100 s101 s102 s103:Value) (CE:Hid (∀ V A',Mv w0 H0 V (A'++(X++bG.heap d))→V.cell? ⟨g,0,none⟩=some (.pointer (some ⟨d.lb,k * 5,none⟩))∧V.cell? ⟨g,1,none⟩=some (.pointer (some ⟨d.bb,0,none⟩))∧V.cell? ⟨g,2,none⟩=some (.int .i64 (k:Int))∧V.cell? ⟨d.lb,k * 5+4,none⟩=some (.int .i64 (lb:Int)))) (LG:Hid (∀ V,Calls Tryz.prog 77 #[.int .i64 (en:Int)] V fun e w'=>e=.returned (.int .i64 (ln:Int))∧w'=V)) (BI:Hid (∀ V R,Mv w0 H0 V (HRi++R)→Calls Tryz.prog 115 #[.pointer (some ⟨rb,0,none⟩),.int .i64 ((lb:Int)+(ln:Int))] V fun e w'=>e=.returned (.int .i64 (qn:Int))∧∃ HR',ReadH rb l r9 HR'∧Mv w0 H0 w' (HR'++R))) (hl2:lb≤24) (hln:ln≤10) (hi:i≤1000) (hrow:RowH 96 5 (.slice pa9 i pc9) i (pcsV PL) Hv) (hM:Mv w0 H0 w (HRi++(Hv++(H1++(X++bG.heap d)))))
  (hk:∀ (u86 u87 u88 u89 u90 u91 u92 u93 u94 u95 u96 u97 u98 u99 u100 u101 u12:Value) (g8:Nat) (HB:List YtjngfhgakokejaaGreat.HB) (HRx:List YtjngfhgakokejaaGreat.HB) (W:World),(Mv w0 H0 W (HRx++(oh true ⟨g8,96,#[.pointer (some ⟨d.lb,k * 5,none⟩),.pointer (some ⟨d.bb,0,none⟩),.int .i64 (k:Int),.int .i64 (en:Int),.int .i64 (qn:Int)]⟩++(HB++(H1++(X++bG.heap d)))))∧(true=false→HRx=HRi)∧(true=false→HB=Hv)∧(true=false→u12=.slice pa9 i pc9)∧(true=true→true=true∧true=true)∧(true=true→true=true)∧(true=true→true=true)∧(true=true→true=true))→(u98=.int .i64 (qn:Int)∧ReadH rb l r9 HRx)→(RowH 96 5 u101 (i+1) (pcsV (PL++[⟨⟨d,k⟩,en,qn⟩])) HB)→(u12=u101) →  K ⟨List.toArray (s0::(.pointer (some ⟨rb,0,none⟩))::s2::(.pointer (some ⟨g,0,none⟩))::s4::s5::s6::s7::s8::s9::s10::s11::u12::s13::(.int .i64 (en:Int))::s15::s16::s17::s18::s19::s20::s21::s22::s23::s24::s25::s26::s27::s28::s29::s30::s31::s32::s33::s34::s35::s36::s37::s38::s39::s40::s41::s42::s43::s44::s45::s46::s47::s48::s49::s50::s51::s52::s53::s54::s55::s56::s57::s58::s59::s60::s61::s62::s63::s64::s65::s66::s67::s68::s69::s70::s71::s72::s73::s74::s75::s76::s77::s78::s79::s80::s81::s82::s83::s84::s85::u86::u87::u88::u89::u90::u91::u92::u93::u94::u95::u96::u97::u98::u99::u100::u101::s102::s103::[]),[]⟩ W) :
  (regionOf 16 Tryz.f90).wp Tryz.prog (Exit.then K noQ) ⟨List.toArray (s0::(.pointer (some ⟨rb,0,none⟩))::s2::(.pointer (some ⟨g,0,none⟩))::s4::s5::s6::s7::s8::s9::s10::s11::(.slice pa9 i pc9)::s13::(.int .i64 (en:Int))::s15::s16::s17::s18::s19::s20::s21::s22::s23::s24::s25::s26::s27::s28::s29::s30::s31::s32::s33::s34::s35::s36::s37::s38::s39::s40::s41::s42::s43::s44::s45::s46::s47::s48::s49::s50::s51::s52::s53::s54::s55::s56::s57::s58::s59::s60::s61::s62::s63::s64::s65::s66::s67::s68::s69::s70::s71::s72::s73::s74::s75::s76::s77::s78::s79::s80::s81::s82::s83::s84::s85::s86::s87::s88::s89::s90::s91::s92::s93::s94::s95::s96::s97::s98::s99::s100::s101::s102::s103::[]),[]⟩ w:=by
 conv in (regionOf _ _)=>whnf
 unfold noQ
 have HK:=Lib.hid hk
 clear hk
 refine wp_region_inv (by kernel_rfl) (read_r16_S d bG k g rb lb en ln qn i pc9 pa9 l r r9 PL HRi Hv H1 X H0 w0 w s0 s2 s4 s5 s6 s7 s8 s9 s10 s11 s13 s15 s16 s17 s18 s19 s20 s21 s22 s23 s24 s25 s26 s27 s28 s29 s30 s31 s32 s33 s34 s35 s36 s37 s38 s39 s40 s41 s42 s43 s44 s45 s46 s47 s48 s49 s50 s51 s52 s53 s54 s55 s56 s57 s58 s59 s60 s61 s62 s63 s64 s65 s66 s67 s68 s69 s70 s71 s72 s73 s74 s75 s76 s77 s78 s79 s80 s81 s82 s83 s84 s85 s86 s87 s88 s89 s90 s91 s92 s93 s94 s95 s96 s97 s98 s99 s100 s101 s102 s103) ?_ ?_ ?_
 ·exact⟨false,false,false,false,false,false,false,false,false,false,false,false,false,false,false,false,false,s86,s87,s88,s89,s90,s91,s92,s93,s94,s95,s96,s97,s98,s99,s100,s101,(.slice pa9 i pc9),0,Hv,HRi,rfl,rfl,⟨by simpa [oh_false] using hM.drew,fun _=>rfl,fun _=>rfl,fun _=>rfl,(fun e=>nomatch e),(fun e=>nomatch e),(fun e=>nomatch e),(fun e=>nomatch e)⟩,Lib.hid nofun,Lib.hid nofun,Lib.hid nofun,Lib.hid nofun,Lib.hid nofun,Lib.hid nofun,Lib.hid nofun,Lib.hid nofun,Lib.hid nofun,Lib.hid nofun,Lib.hid nofun,Lib.hid nofun,Lib.hid nofun,Lib.hid nofun,Lib.hid nofun,Lib.hid nofun,Lib.hid nofun⟩
 ·rintro listed a W ⟨b0,b1,b2,b3,b4,b5,b6,b7,b8,b9,b10,b11,b12,b13,b14,b15,b16,u86,u87,u88,u89,u90,u91,u92,u93,u94,u95,u96,u97,u98,u99,u100,u101,u12,g8,HB,HRx,rfl,rfl,HW,h0,h1,h2,h3,h4,h5,h6,h7,h8,h9,h10,h11,h12,h13,h14,h15,h16⟩ hr
  obtain rfl:b0=true:=by cases b0;exact(not_ready2 hr 0 _ rfl rfl (by simp[Region.binds])).elim;rfl
  obtain rfl:b1=true:=by cases b1;exact(not_ready2 hr 1 _ rfl rfl (by simp[Region.binds])).elim;rfl
  obtain rfl:b2=true:=by cases b2;exact(not_ready2 hr 2 _ rfl rfl (by simp[Region.binds])).elim;rfl
  obtain rfl:b3=true:=by cases b3;exact(not_ready2 hr 3 _ rfl rfl (by simp[Region.binds])).elim;rfl
  obtain rfl:b4=true:=by cases b4;exact(not_ready2 hr 4 _ rfl rfl (by simp[Region.binds])).elim;rfl
  obtain rfl:b5=true:=by cases b5;exact(not_ready2 hr 5 _ rfl rfl (by simp[Region.binds])).elim;rfl
  obtain rfl:b6=true:=by cases b6;exact(not_ready2 hr 6 _ rfl rfl (by simp[Region.binds])).elim;rfl
  obtain rfl:b7=true:=by cases b7;exact(not_ready2 hr 7 _ rfl rfl (by simp[Region.binds])).elim;rfl
  obtain rfl:b8=true:=by cases b8;exact(not_ready2 hr 8 _ rfl rfl (by simp[Region.binds])).elim;rfl
  obtain rfl:b9=true:=by cases b9;exact(not_ready2 hr 9 _ rfl rfl (by simp[Region.binds])).elim;rfl
  obtain rfl:b10=true:=by cases b10;exact(not_ready2 hr 10 _ rfl rfl (by simp[Region.binds])).elim;rfl
  obtain rfl:b11=true:=by cases b11;exact(not_ready2 hr 11 _ rfl rfl (by simp[Region.binds])).elim;rfl
  obtain rfl:b12=true:=by cases b12;exact(not_ready2 hr 12 _ rfl rfl (by simp[Region.binds])).elim;rfl
  obtain rfl:b13=true:=by cases b13;exact(not_ready2 hr 13 _ rfl rfl (by simp[Region.binds])).elim;rfl
  obtain rfl:b14=true:=by cases b14;exact(not_ready2 hr 14 _ rfl rfl (by simp[Region.binds])).elim;rfl
  obtain rfl:b15=true:=by cases b15;exact(not_ready2 hr 15 _ rfl rfl (by simp[Region.binds])).elim;rfl
  obtain rfl:b16=true:=by cases b16;exact(not_ready2 hr 16 _ rfl rfl (by simp[Region.binds])).elim;rfl
  exact HK.out u86 u87 u88 u89 u90 u91 u92 u93 u94 u95 u96 u97 u98 u99 u100 u101 u12 g8 HB HRx W HW (h12.out rfl) (h15.out rfl) (h16.out rfl)
 ·rintro listed a W i ⟨b0,b1,b2,b3,b4,b5,b6,b7,b8,b9,b10,b11,b12,b13,b14,b15,b16,u86,u87,u88,u89,u90,u91,u92,u93,u94,u95,u96,u97,u98,u99,u100,u101,u12,g8,HB,HRx,rfl,rfl,HW,h0,h1,h2,h3,h4,h5,h6,h7,h8,h9,h10,h11,h12,h13,h14,h15,h16⟩ hi
  obtain⟨hi1,hi2,hi3⟩:=mem_ready hi
  clear hi
  have hi4:i=0∨i=1∨i=2∨i=3∨i=4∨i=5∨i=6∨i=7∨i=8∨i=9∨i=10∨i=11∨i=12∨i=13∨i=14∨i=15∨i=16:=by
   have:i<17:=hi1
   omega
  clear hi1
  rcases hi4 with rfl | rfl | rfl | rfl | rfl | rfl | rfl | rfl | rfl | rfl | rfl | rfl | rfl | rfl | rfl | rfl | rfl
  ·obtain rfl:b0=false:=hi2
   clear hi3
   obtain rfl:b15=false:=by cases b15;rfl;cases (HW.2.2.2.2.1 rfl).2
   obtain rfl:b16=false:=by cases b16;rfl;cases (HW.2.2.2.2.2.2.2 rfl)
   obtain rfl:=HW.2.2.2.1 rfl
   refine wpOp_step rfl (fun K hK=>?_)
   go_simp
   refine hK _ _ ⟨true,_,_,_,_,_,_,_,_,_,_,_,_,_,_,_,_,(.slice pa9 i pc9),_,_,_,_,_,_,_,_,_,_,_,_,_,_,_,_,_,_,_,rfl,rfl,⟨HW.1,HW.2.1,HW.2.2.1,HW.2.2.2.1,(fun e=>nomatch e),HW.2.2.2.2.2.1,HW.2.2.2.2.2.2.1,HW.2.2.2.2.2.2.2⟩,Lib.hid (fun _=>rfl),h1,h2,h3,h4,h5,h6,h7,h8,h9,h10,h11,h12,h13,h14,h15,h16⟩
  ·obtain rfl:b1=false:=hi2
   clear hi3
   obtain⟨y0,y1,y2,y4⟩:=CE.out W (HRx++(oh b14 ⟨g8,96,#[.pointer (some ⟨d.lb,k * 5,none⟩),.pointer (some ⟨d.bb,0,none⟩),.int .i64 (k:Int),.int .i64 (en:Int),.int .i64 (qn:Int)]⟩++(HB++H1))) (by simpa only[List.append_assoc] using HW.1)
   refine wpOp_step rfl (fun K hK=>?_)
   go_simp
   refine hK _ _ ⟨_,true,_,_,_,_,_,_,_,_,_,_,_,_,_,_,_,_,(.agg #[.pointer (some ⟨d.lb,k * 5,none⟩),.pointer (some ⟨d.bb,0,none⟩),.int .i64 (k:Int)]),_,_,_,_,_,_,_,_,_,_,_,_,_,_,_,_,_,_,rfl,rfl,HW,h0,Lib.hid (fun _=>rfl),h2,h3,h4,h5,h6,h7,h8,h9,h10,h11,h12,h13,h14,h15,h16⟩
  ·obtain rfl:b2=false:=hi2
   clear hi3
   refine wpOp_step rfl (fun K hK=>?_)
   go_simp
   refine hK _ _ ⟨_,_,true,_,_,_,_,_,_,_,_,_,_,_,_,_,_,_,_,(.int .i64 (en:Int)),_,_,_,_,_,_,_,_,_,_,_,_,_,_,_,_,_,rfl,rfl,HW,h0,h1,Lib.hid (fun _=>rfl),h3,h4,h5,h6,h7,h8,h9,h10,h11,h12,h13,h14,h15,h16⟩
  ·obtain rfl:b3=false:=hi2
   clear hi3
   refine wpOp_step rfl (fun K hK=>?_)
   go_simp
   refine hK _ _ ⟨_,_,_,true,_,_,_,_,_,_,_,_,_,_,_,_,_,_,_,_,(.pointer (some ⟨rb,0,none⟩)),_,_,_,_,_,_,_,_,_,_,_,_,_,_,_,_,rfl,rfl,HW,h0,h1,h2,Lib.hid (fun _=>rfl),h4,h5,h6,h7,h8,h9,h10,h11,h12,h13,h14,h15,h16⟩
  ·obtain rfl:b4=false:=hi2
   clear hi3
   refine wpOp_step rfl (fun K hK=>?_)
   go_simp
   refine hK _ _ ⟨_,_,_,_,true,_,_,_,_,_,_,_,_,_,_,_,_,_,_,_,_,(.pointer (some ⟨g,0,none⟩)),_,_,_,_,_,_,_,_,_,_,_,_,_,_,_,rfl,rfl,HW,h0,h1,h2,h3,Lib.hid (fun _=>rfl),h5,h6,h7,h8,h9,h10,h11,h12,h13,h14,h15,h16⟩
  ·obtain rfl:b5=false:=hi2
   obtain rfl:b4=true:=hi3 _ rfl ⟨4,.data⟩ (by simp) rfl
   obtain rfl:=h4.out rfl
   clear hi3
   obtain⟨y0,y1,y2,y4⟩:=CE.out W (HRx++(oh b14 ⟨g8,96,#[.pointer (some ⟨d.lb,k * 5,none⟩),.pointer (some ⟨d.bb,0,none⟩),.int .i64 (k:Int),.int .i64 (en:Int),.int .i64 (qn:Int)]⟩++(HB++H1))) (by simpa only[List.append_assoc] using HW.1)
   refine wpOp_step rfl (fun K hK=>?_)
   go_simp
   refine hK _ _ ⟨_,_,_,_,_,true,_,_,_,_,_,_,_,_,_,_,_,_,_,_,_,_,(.pointer (some ⟨d.lb,k * 5,none⟩)),_,_,_,_,_,_,_,_,_,_,_,_,_,_,rfl,rfl,HW,h0,h1,h2,h3,h4,Lib.hid (fun _=>rfl),h6,h7,h8,h9,h10,h11,h12,h13,h14,h15,h16⟩
  ·obtain rfl:b6=false:=hi2
   obtain rfl:b5=true:=hi3 _ rfl ⟨5,.data⟩ (by simp) rfl
   obtain rfl:=h5.out rfl
   clear hi3
   refine wpOp_step rfl (fun K hK=>?_)
   go_simp
   refine hK _ _ ⟨_,_,_,_,_,_,true,_,_,_,_,_,_,_,_,_,_,_,_,_,_,_,_,(.pointer (some ⟨d.lb,k * 5,none⟩)),_,_,_,_,_,_,_,_,_,_,_,_,_,rfl,rfl,HW,h0,h1,h2,h3,h4,h5,Lib.hid (fun _=>rfl),h7,h8,h9,h10,h11,h12,h13,h14,h15,h16⟩
  ·obtain rfl:b7=false:=hi2
   obtain rfl:b6=true:=hi3 _ rfl ⟨6,.data⟩ (by simp) rfl
   obtain rfl:=h6.out rfl
   clear hi3
   refine wpOp_step rfl (fun K hK=>?_)
   go_simp
   refine hK _ _ ⟨_,_,_,_,_,_,_,true,_,_,_,_,_,_,_,_,_,_,_,_,_,_,_,_,(.pointer (some ⟨d.lb,k * 5+4,none⟩)),_,_,_,_,_,_,_,_,_,_,_,_,rfl,rfl,HW,h0,h1,h2,h3,h4,h5,h6,Lib.hid (fun _=>rfl),h8,h9,h10,h11,h12,h13,h14,h15,h16⟩
  ·obtain rfl:b8=false:=hi2
   obtain rfl:b7=true:=hi3 _ rfl ⟨7,.data⟩ (by simp) rfl
   obtain rfl:=h7.out rfl
   clear hi3
   obtain⟨y0,y1,y2,y4⟩:=CE.out W (HRx++(oh b14 ⟨g8,96,#[.pointer (some ⟨d.lb,k * 5,none⟩),.pointer (some ⟨d.bb,0,none⟩),.int .i64 (k:Int),.int .i64 (en:Int),.int .i64 (qn:Int)]⟩++(HB++H1))) (by simpa only[List.append_assoc] using HW.1)
   refine wpOp_step rfl (fun K hK=>?_)
   go_simp
   refine hK _ _ ⟨_,_,_,_,_,_,_,_,true,_,_,_,_,_,_,_,_,_,_,_,_,_,_,_,_,(.int .i64 (lb:Int)),_,_,_,_,_,_,_,_,_,_,_,rfl,rfl,HW,h0,h1,h2,h3,h4,h5,h6,h7,Lib.hid (fun _=>rfl),h9,h10,h11,h12,h13,h14,h15,h16⟩
  ·obtain rfl:b9=false:=hi2
   clear hi3
   refine wpOp_step rfl (fun K hK=>?_)
   go_simp
   refine hK _ _ ⟨_,_,_,_,_,_,_,_,_,true,_,_,_,_,_,_,_,_,_,_,_,_,_,_,_,_,(.int .i64 (en:Int)),_,_,_,_,_,_,_,_,_,_,rfl,rfl,HW,h0,h1,h2,h3,h4,h5,h6,h7,h8,Lib.hid (fun _=>rfl),h10,h11,h12,h13,h14,h15,h16⟩
  ·obtain rfl:b10=false:=hi2
   obtain rfl:b9=true:=hi3 _ rfl ⟨9,.data⟩ (by simp) rfl
   obtain rfl:=h9.out rfl
   clear hi3
   refine wpOp_step rfl (fun K hK=>?_)
   go_simp
   go_at_call 77
   (with_reducible refine(LG.out _).mono ?_)
   rintro e w10 ⟨rfl,rfl⟩
   refine hK _ _ ⟨_,_,_,_,_,_,_,_,_,_,true,_,_,_,_,_,_,_,_,_,_,_,_,_,_,_,_,(.int .i64 (ln:Int)),_,_,_,_,_,_,_,_,_,rfl,rfl,HW,h0,h1,h2,h3,h4,h5,h6,h7,h8,h9,Lib.hid (fun _=>rfl),h11,h12,h13,h14,h15,h16⟩
  ·obtain rfl:b11=false:=hi2
   obtain rfl:b8=true:=hi3 _ rfl ⟨8,.data⟩ (by simp) rfl
   obtain rfl:b10=true:=hi3 _ rfl ⟨10,.data⟩ (by simp) rfl
   obtain rfl:=h8.out rfl
   obtain rfl:=h10.out rfl
   clear hi3
   have ew:=IntWalk.i64_in ((lb:Int)+(ln:Int)) ⟨by omega,by omega⟩
   refine wpOp_step rfl (fun K hK=>?_)
   go_simp
   refine hK _ _ ⟨_,_,_,_,_,_,_,_,_,_,_,true,_,_,_,_,_,_,_,_,_,_,_,_,_,_,_,_,(.int .i64 ((lb:Int)+(ln:Int))),_,_,_,_,_,_,_,_,rfl,rfl,HW,h0,h1,h2,h3,h4,h5,h6,h7,h8,h9,h10,Lib.hid (fun _=>rfl),h12,h13,h14,h15,h16⟩
  ·obtain rfl:b12=false:=hi2
   obtain rfl:b3=true:=hi3 _ rfl ⟨3,.data⟩ (by simp) rfl
   obtain rfl:b11=true:=hi3 _ rfl ⟨11,.data⟩ (by simp) rfl
   obtain rfl:b10=true:=hi3 _ rfl ⟨10,.chain⟩ (by simp) rfl
   obtain rfl:=h3.out rfl
   obtain rfl:=h10.out rfl
   obtain rfl:=h11.out rfl
   clear hi3
   obtain rfl:b13=false:=by cases b13;rfl;cases (HW.2.2.2.2.2.1 rfl)
   obtain rfl:b14=false:=by cases b14;rfl;cases (HW.2.2.2.2.2.2.1 rfl)
   obtain rfl:=HW.2.1 rfl
   refine wpOp_step rfl (fun K hK=>?_)
   go_simp
   go_at_call 115
   refine(BI.out W _ HW.1).mono ?_
   rintro e w11 ⟨rfl,HR',p1,p2⟩
   refine hK _ _ ⟨_,_,_,_,_,_,_,_,_,_,_,_,true,_,_,_,_,_,_,_,_,_,_,_,_,_,_,_,_,(.int .i64 (qn:Int)),_,_,_,_,g8,HB,HR',rfl,rfl,⟨p2,(fun e=>nomatch e),HW.2.2.1,HW.2.2.2.1,HW.2.2.2.2.1,(fun e=>nomatch e),HW.2.2.2.2.2.2.1,HW.2.2.2.2.2.2.2⟩,h0,h1,h2,h3,h4,h5,h6,h7,h8,h9,h10,h11,Lib.hid (fun _=>⟨rfl,p1⟩),h13,h14,h15,h16⟩
  ·obtain rfl:b13=false:=hi2
   obtain rfl:b1=true:=hi3 _ rfl ⟨1,.data⟩ (by simp) rfl
   obtain rfl:b2=true:=hi3 _ rfl ⟨2,.data⟩ (by simp) rfl
   obtain rfl:b12=true:=hi3 _ rfl ⟨12,.data⟩ (by simp) rfl
   obtain rfl:=h1.out rfl
   obtain rfl:=h2.out rfl
   clear hi3
   obtain rfl:=(h12.out rfl).1
   refine wpOp_step rfl (fun K hK=>?_)
   go_simp
   refine hK _ _ ⟨_,_,_,_,_,_,_,_,_,_,_,_,_,true,_,_,_,_,_,_,_,_,_,_,_,_,_,_,_,_,(.agg #[.pointer (some ⟨d.lb,k * 5,none⟩),.pointer (some ⟨d.bb,0,none⟩),.int .i64 (k:Int),.int .i64 (en:Int),.int .i64 (qn:Int)]),_,_,_,_,_,_,rfl,rfl,⟨HW.1,HW.2.1,HW.2.2.1,HW.2.2.2.1,HW.2.2.2.2.1,fun _=>rfl,fun _=>rfl,HW.2.2.2.2.2.2.2⟩,h0,h1,h2,h3,h4,h5,h6,h7,h8,h9,h10,h11,h12,Lib.hid (fun _=>rfl),h14,h15,h16⟩
  ·obtain rfl:b14=false:=hi2
   obtain rfl:b13=true:=hi3 _ rfl ⟨13,.data⟩ (by simp) rfl
   obtain rfl:=h13.out rfl
   clear hi3
   obtain rfl:b15=false:=by cases b15;rfl;cases (HW.2.2.2.2.1 rfl).1
   obtain rfl:=HW.2.2.1 rfl
   have M9:=HW.1.alloc 96 #[.pointer (some ⟨d.lb,k * 5,none⟩),.pointer (some ⟨d.bb,0,none⟩),.int .i64 (k:Int),.int .i64 (en:Int),.int .i64 (qn:Int)]
   refine wpOp_step rfl (fun K hK=>?_)
   go_simp
   refine hK _ _ ⟨_,_,_,_,_,_,_,_,_,_,_,_,_,_,true,_,_,_,_,_,_,_,_,_,_,_,_,_,_,_,_,(.slice (some ⟨W.heap.size,0,none⟩) 1 1),_,_,W.heap.size,_,HRx,rfl,rfl,⟨M9.sub (fun g=>by simp only[oh_true,oh_false,cnt_append,cnt_cons,cnt_nil];omega) (fun c hc=>by simp only[oh_true,oh_false,List.mem_append,List.mem_cons,List.not_mem_nil,or_false] at hc ⊢;grind),HW.2.1,HW.2.2.1,HW.2.2.2.1,(fun e=>nomatch e),HW.2.2.2.2.2.1,fun _=>rfl,HW.2.2.2.2.2.2.2⟩,h0,h1,h2,h3,h4,h5,h6,h7,h8,h9,h10,h11,h12,h13,Lib.hid (fun _=>rfl),h15,h16⟩
  ·obtain rfl:b15=false:=hi2
   obtain rfl:b0=true:=hi3 _ rfl ⟨0,.data⟩ (by simp) rfl
   obtain rfl:b14=true:=hi3 _ rfl ⟨14,.data⟩ (by simp) rfl
   obtain rfl:b12=true:=hi3 _ rfl ⟨12,.chain⟩ (by simp) rfl
   obtain rfl:=h0.out rfl
   obtain rfl:=h14.out rfl
   clear hi3
   obtain rfl:=HW.2.2.1 rfl
   obtain rfl:b16=false:=by cases b16;rfl;cases (HW.2.2.2.2.2.2.2 rfl)
   have M9:Mv w0 H0 W (HB++(⟨g8,96,#[.pointer (some ⟨d.lb,k * 5,none⟩),.pointer (some ⟨d.bb,0,none⟩),.int .i64 (k:Int),.int .i64 (en:Int),.int .i64 (qn:Int)]⟩::(HRx++(H1++(X++bG.heap d))))):=HW.1.sub (fun g=>by simp only[oh_true,cnt_append,cnt_cons,cnt_nil];omega) (fun c hc=>by simp only[oh_true,List.mem_append,List.mem_cons,List.not_mem_nil,or_false] at hc ⊢;grind)
   have RD:Reads W W.heap.size 5 (some ⟨g8,0,none⟩) 1 (pieceV ⟨⟨d,k⟩,en,qn⟩):=Reads.of_own (RowH.owns (H:=[⟨g8,96,#[.pointer (some ⟨d.lb,k * 5,none⟩),.pointer (some ⟨d.bb,0,none⟩),.int .i64 (k:Int),.int .i64 (en:Int),.int .i64 (qn:Int)]⟩]) (RowH.new 96 g8 1 #[.pointer (some ⟨d.lb,k * 5,none⟩),.pointer (some ⟨d.bb,0,none⟩),.int .i64 (k:Int),.int .i64 (en:Int),.int .i64 (qn:Int)] rfl (by decide)) (M9.sat.sub (fun g=>by simp only[cnt_append,cnt_cons,cnt_nil];omega) (fun c hc=>by simp only[List.mem_append,List.mem_cons,List.not_mem_nil,or_false] at hc ⊢;grind)) (B:=0) (fun _ _=>Nat.zero_le _))
   refine wpOp_step rfl (fun K hK=>?_)
   refine step_appR (A:=some ⟨g8,0,none⟩) (m:=1) (c:=1) Tryz.underlying91 infoPc rfl (by decide) (by decide) rfl (.tmp 86) (.tmp 100) rfl (.slice pa9 i pc9) (by simp[Act.eval]) (by simp[Act.eval]) hrow M9.sat.left RD (fun u hu=>pcsV_one [⟨⟨d,k⟩,en,qn⟩] u (by simpa [pcsV] using hu)) (by omega) ?_
   intro v9 w9 H9 r10 m9
   have N9:=Mv.call M9 m9
   refine hK _ _ ⟨_,_,_,_,_,_,_,_,_,_,_,_,_,_,_,true,_,_,_,_,_,_,_,_,_,_,_,_,_,_,_,_,v9,_,g8,H9,HRx,rfl,rfl,⟨N9.sub (fun g=>by simp only[oh_true,cnt_append,cnt_cons,cnt_nil];omega) (fun c hc=>by simp only[oh_true,List.mem_append,List.mem_cons,List.not_mem_nil,or_false] at hc ⊢;grind),HW.2.1,(fun e=>nomatch e),HW.2.2.2.1,fun _=>⟨rfl,rfl⟩,HW.2.2.2.2.2.1,HW.2.2.2.2.2.2.1,(fun e=>nomatch e)⟩,h0,h1,h2,h3,h4,h5,h6,h7,h8,h9,h10,h11,h12,h13,h14,Lib.hid (fun _=>by rw[pcsV_append];exact r10),Lib.hid ((fun e=>nomatch e))⟩
  ·obtain rfl:b16=false:=hi2
   obtain rfl:b15=true:=hi3 _ rfl ⟨15,.data⟩ (by simp) rfl
   obtain rfl:b0=true:=hi3 _ rfl ⟨0,.phase⟩ (by simp) rfl
   obtain rfl:b1=true:=hi3 _ rfl ⟨1,.phase⟩ (by simp) rfl
   obtain rfl:b2=true:=hi3 _ rfl ⟨2,.phase⟩ (by simp) rfl
   obtain rfl:b3=true:=hi3 _ rfl ⟨3,.phase⟩ (by simp) rfl
   obtain rfl:b4=true:=hi3 _ rfl ⟨4,.phase⟩ (by simp) rfl
   obtain rfl:b5=true:=hi3 _ rfl ⟨5,.phase⟩ (by simp) rfl
   obtain rfl:b6=true:=hi3 _ rfl ⟨6,.phase⟩ (by simp) rfl
   obtain rfl:b7=true:=hi3 _ rfl ⟨7,.phase⟩ (by simp) rfl
   obtain rfl:b8=true:=hi3 _ rfl ⟨8,.phase⟩ (by simp) rfl
   obtain rfl:b9=true:=hi3 _ rfl ⟨9,.phase⟩ (by simp) rfl
   obtain rfl:b10=true:=hi3 _ rfl ⟨10,.phase⟩ (by simp) rfl
   obtain rfl:b11=true:=hi3 _ rfl ⟨11,.phase⟩ (by simp) rfl
   obtain rfl:b12=true:=hi3 _ rfl ⟨12,.phase⟩ (by simp) rfl
   obtain rfl:b13=true:=hi3 _ rfl ⟨13,.phase⟩ (by simp) rfl
   obtain rfl:b14=true:=hi3 _ rfl ⟨14,.phase⟩ (by simp) rfl
   obtain rfl:=h0.out rfl
   obtain rfl:=h1.out rfl
   obtain rfl:=h2.out rfl
   obtain rfl:=h3.out rfl
   obtain rfl:=h4.out rfl
   obtain rfl:=h5.out rfl
   obtain rfl:=h6.out rfl
   obtain rfl:=h7.out rfl
   obtain rfl:=h8.out rfl
   obtain rfl:=h9.out rfl
   obtain rfl:=h10.out rfl
   obtain rfl:=h11.out rfl
   obtain rfl:=h13.out rfl
   obtain rfl:=h14.out rfl
   clear hi3
   refine wpOp_step rfl (fun K hK=>?_)
   go_simp
   refine hK _ _ ⟨_,_,_,_,_,_,_,_,_,_,_,_,_,_,_,_,true,_,_,_,_,_,_,_,_,_,_,_,_,_,_,_,_,_,_,_,_,rfl,rfl,⟨HW.1,HW.2.1,HW.2.2.1,(fun e=>nomatch e),HW.2.2.2.2.1,HW.2.2.2.2.2.1,HW.2.2.2.2.2.2.1,fun _=>rfl⟩,h0,h1,h2,h3,h4,h5,h6,h7,h8,h9,h10,h11,h12,h13,h14,h15,Lib.hid (fun _=>rfl)⟩
end
end Go.Proofs.YtjngfhgakokejaaGreat
