/- Bands of blocks in memory. Tag trees of the program: Decode, Known, of a band's trees; how many passes are told. -/
import Derived.Test.YtjngfhgakokejaaGreatCp04
set_option maxRecDepth 100000
set_option maxHeartbeats 8000000
set_option linter.all false
namespace Go.Proofs.YtjngfhgakokejaaGreat
section
open Go.RowKit
theorem flat_length {α:Type} (f:α→List Value) (n:Nat) (hf:∀ x,(f x).length=n) (l:List α):(l.flatMap f).length=l.length * n:=by
 induction l with
 | nil=>simp
 | cons x l ih=>rw[List.flatMap_cons,List.length_append,ih,hf,List.length_cons,Nat.succ_mul,Nat.add_comm]
theorem flat_get {α:Type} (f:α→List Value) (n:Nat) (hf:∀ x,(f x).length=n) (l:List α) (i:Nat) (x:α) (h:l[i]?=some x) (j:Nat) (hj:j<n):(l.flatMap f)[i * n+j]?=(f x)[j]?:=by
 induction l generalizing i with
 | nil=>simp at h
 | cons y l ih =>
  rw[List.flatMap_cons]
  cases i with
  | zero =>
   simp at h
   subst h
   rw[List.getElem?_append_left (by rw[hf];omega)]
   simp
  | succ i =>
   rw[List.getElem?_append_right (by rw[hf,Nat.succ_mul];omega),hf,show (i+1) * n+j - n=i * n+j from by rw[Nat.succ_mul];omega]
   exact ih i (by simpa using h)
theorem flat_set {α:Type} (f:α→List Value) (n:Nat) (hf:∀ x,(f x).length=n) (l:List α) (i:Nat) (x y:α) (h:l[i]?=some x) (j:Nat) (hj:j<n) (v:Value) (hv:f y=(f x).set j v):(l.flatMap f).set (i * n+j) v=(l.set i y).flatMap f:=by
 induction l generalizing i with
 | nil=>simp at h
 | cons z l ih =>
  cases i with
  | zero =>
   simp at h
   subst h
   rw[List.set_cons_zero,List.flatMap_cons,List.flatMap_cons,hv,List.set_append_left _ _ (by rw[hf];omega)]
   simp
  | succ i =>
   rw[List.set_cons_succ,List.flatMap_cons,List.flatMap_cons,List.set_append_right _ _ (by rw[hf,Nat.succ_mul];omega),hf,show (i+1) * n+j - n=i * n+j from by rw[Nat.succ_mul];omega,ih i (by simpa using h)]
structure StM where
 pl:Int
 ps:List (Int × Bool)
 bs:List UInt8
 said:Int
 lb:Int
def passV (p:Int × Bool):List Value:=[.int .i64 p.1,.bool p.2]
def passesV (l:List (Int × Bool)):List Value:=l.flatMap passV
theorem passV_length (p:Int × Bool):(passV p).length=2:=rfl
structure StG where
 m:StM
 vp:Value
 vb:Value
 Hp:List HB
 Hb:List HB
structure StM.Fits (m:StM):Prop where
 np:m.ps.length≤1000
 nb:m.bs.length≤10000000
 pl : -1000≤m.pl∧m.pl≤1000
 said:0≤m.said∧m.said≤m.ps.length
 lb:0≤m.lb∧m.lb≤1000
 ends:∀ p∈m.ps,0≤p.1∧p.1≤100000000
def StG.ok (s:StG):Prop:=RowH 142 2 s.vp s.m.ps.length (passesV s.m.ps) s.Hp∧RowB s.vb s.m.bs s.Hb∧s.m.Fits
def StG.v (s:StG):List Value:=[.int .i64 s.m.pl,s.vp,s.vb,.int .i64 s.m.said,.int .i64 s.m.lb]
def StG.heap (s:StG):List HB:=s.Hp++s.Hb
theorem StG.v_length (s:StG):s.v.length=5:=rfl
def TreeOk (P:List LvG) (w h:Nat):Prop:=P.length≤20∧PDims P∧(0<w * h→∃ p0,P[0]?=some p0∧p0.2.w=w∧p0.2.h=h)
theorem TreeOk.congr {P Q:List LvG} {w h:Nat} (k:TreeOk P w h) (e:Q.map (fun p=>shapeL p.2)=P.map (fun p=>shapeL p.2)):TreeOk Q w h:=by
 have hl:Q.length=P.length:=by simpa using congrArg List.length e
 refine⟨by rw[hl];exact k.1,k.2.1.congr e,fun h0=>?_⟩
 obtain⟨p0,h1,h2,h3⟩:=k.2.2 h0
 have h4:=congrArg (fun l=>l[0]?) e
 simp only[List.getElem?_map,h1,Option.map_some] at h4
 obtain⟨q,hq,h5⟩:=Option.map_eq_some_iff.1 h4
 simp only[shapeL,Prod.mk.injEq] at h5
 exact⟨q,hq,by omega,by omega⟩
theorem dims_new:∀ (k w h:Nat),1≤w→1≤h→w≤2 ^ k→h≤2 ^ k→Dims (treeNew (k+1) w h)∧(∃ T,treeNew (k+1) w h=levNew w h::T)∧(treeNew (k+1) w h).length≤k+1∧∀ L∈treeNew (k+1) w h,1≤L.w∧L.w≤w∧1≤L.h∧L.h≤h:=by
 intro k
 induction k with
 | zero =>
  intro w h h1 h2 h3 h4
  obtain rfl:w=1:=by omega
  obtain rfl:h=1:=by omega
  refine⟨?_,⟨[],by simp[treeNew]⟩,by simp[treeNew],?_⟩
  ·simp[treeNew,Dims,levNew]
  ·intro L hL
   simp[treeNew] at hL
   subst hL
   simp[levNew]
 | succ k ih =>
  intro w h h1 h2 h3 h4
  by_cases hb:w=1∧h=1
  ·obtain⟨rfl,rfl⟩:=hb
   refine⟨?_,⟨[],by simp[treeNew]⟩,by simp[treeNew],?_⟩
   ·simp[treeNew,Dims,levNew]
   ·intro L hL
    simp[treeNew] at hL
    subst hL
    simp[levNew]
  ·have e:treeNew (k+1+1) w h=levNew w h::treeNew (k+1) ((w+1) / 2) ((h+1) / 2):=by
    conv=>lhs;unfold treeNew
    rw[if_neg hb]
   have hp:2 ^ (k+1)=2 * 2 ^ k:=by rw[Nat.pow_succ,Nat.mul_comm]
   obtain⟨i1,⟨T,i2⟩,i3,i4⟩:=ih ((w+1) / 2) ((h+1) / 2) (by omega) (by omega) (by omega) (by omega)
   rw[e]
   refine⟨?_,⟨_,rfl⟩,by simp;omega,?_⟩
   ·rw[i2] at i1 ⊢
    exact⟨h1,h2,by simp[levNew],rfl,rfl,i1⟩
   ·intro L hL
    rcases List.mem_cons.1 hL with rfl | hL
    ·exact⟨h1,Nat.le_refl _,h2,Nat.le_refl _⟩
    ·have:=i4 L hL
     omega
theorem treeOk_new (P:List LvG) (w h:Nat) (hw:w≤64) (hh:h≤64) (e:P.map (·.2)=treeOf w h):TreeOk P w h:=by
 by_cases hb:(w:Int)<1∨(h:Int)<1∨64<(w:Int)∨64<(h:Int)
 ·have e0:treeOf w h=[]:=by unfold treeOf;rw[if_pos hb]
  rw[e0] at e
  obtain rfl:=List.map_eq_nil_iff.1 e
  refine⟨by simp,⟨by simp[Dims],by simp⟩,fun h0=>?_⟩
  have h1:=Nat.pos_of_mul_pos_left h0
  have h2:=Nat.pos_of_mul_pos_right h0
  omega
 ·have e0:treeOf w h=treeNew 7 w h:=by unfold treeOf;rw[if_neg hb];simp
  rw[e0] at e
  obtain⟨i1,⟨T,i2⟩,i3,i4⟩:=dims_new 6 w h (by omega) (by omega) (by omega) (by omega)
  rw[← e] at i1 i2 i3 i4
  refine⟨by simp at i3;omega,⟨i1,fun p hp=>?_⟩,fun _=>?_⟩
  ·have:=i4 p.2 (List.mem_map.2 ⟨p,hp,rfl⟩)
   omega
  ·have h4:=congrArg (fun l=>l[0]?) i2
   simp only[List.getElem?_map,List.getElem?_cons_zero] at h4
   obtain⟨q,hq,h5⟩:=Option.map_eq_some_iff.1 h4
   exact⟨q,hq,by rw[h5];rfl,by rw[h5];rfl⟩
structure BandM where
 w:Nat
 h:Nat
 planes:Int
 first:List LevM
 zeros:List LevM
 set:Bool
 ss:List StM
structure BandG where
 ft:Nat
 zt:Nat
 Pf:List LvG
 Pz:List LvG
 Hf:List HB
 Hz:List HB
 G:List StG
 planes:Int
 set:Bool
 w:Nat
 h:Nat
def BandG.model (b:BandG):BandM:=⟨b.w,b.h,b.planes,b.Pf.map (·.2),b.Pz.map (·.2),b.set,b.G.map (·.m)⟩
structure BandG.ok (b:BandG) (d:BandA):Prop where
 tf:TreeH b.ft b.Pf b.Hf
 tz:TreeH b.zt b.Pz b.Hz
 kf:TreeOk b.Pf b.w b.h
 kz:TreeOk b.Pz b.w b.h
 st:∀ s∈b.G,s.ok
 len:b.G.length=d.n
 n:d.n=b.w * b.h
 pl : -1000≤b.planes∧b.planes≤1000
 hw:b.w≤64
 hh:b.h≤64
def bandB (b:BandG) (d:BandA):HB:=⟨d.bb,118,#[.slice (some ⟨d.lb,0,none⟩) d.n d.n,.int .i64 b.planes,.pointer (some ⟨b.ft,0,none⟩),.pointer (some ⟨b.zt,0,none⟩),.bool b.set]⟩
def statesB (b:BandG) (d:BandA):HB:=⟨d.lb,69,(b.G.flatMap StG.v).toArray⟩
def BandG.heap (b:BandG) (d:BandA):List HB:=bandB b d::statesB b d::(b.Hf++(b.Hz++b.G.flatMap StG.heap))
def BandR (d:BandA) (m:BandM) (H:List HB):Prop:=∃ b:BandG,b.model=m∧b.ok d∧H=b.heap d
theorem BandG.ok.small {b:BandG} {d:BandA} (h:b.ok d):d.n≤4096:=by
 rw[h.n]
 exact Nat.mul_le_mul h.hw h.hh
theorem RowH.types {e:TypeId} {size n:Nat} {v:Value} {xs:List Value} {H:List HB} (h:RowH e size v n xs H):∀ b∈H,b.t=e:=by
 rcases h.2 with ⟨-,-,rfl⟩ | ⟨g,cap,cur,-,-,-,-,-,rfl⟩
 ·intro b hb;cases hb
 ·intro b hb
  simp only[List.mem_singleton] at hb
  subst hb
  rfl
theorem TreeH.types {tb:Nat} {P:List LvG} {H:List HB} (h:TreeH tb P H):∀ b∈H,b.t=178∨b.t=181∨b.t=184:=by
 obtain⟨v,Hl,rfl,hr⟩:=h
 intro b hb
 rcases List.mem_cons.1 hb with rfl | hb
 ·exact .inl rfl
 ·rcases List.mem_append.1 hb with hb | hb
  ·exact .inr (.inl (hr.types b hb))
  ·obtain⟨p,-,rfl⟩:=List.mem_map.1 hb
   exact .inr (.inr rfl)
def NoSpot (H:List HB):Prop:=∀ b∈H,b.t≠66
theorem NoSpot.append {A B:List HB} (h:NoSpot A) (k:NoSpot B):NoSpot (A++B):=fun b hb=>(List.mem_append.1 hb).elim (h b) (k b)
theorem NoSpot.cons {a:HB} {B:List HB} (h:a.t≠66) (k:NoSpot B):NoSpot (a::B):=fun b hb=>by
 rcases List.mem_cons.1 hb with rfl | hb
 ·exact h
 ·exact k b hb
theorem NoSpot.nil:NoSpot []:=fun b hb=>by cases hb
theorem NoSpot.tree {tb:Nat} {P:List LvG} {H:List HB} (h:TreeH tb P H):NoSpot H:=fun b hb=>by
 rcases h.types b hb with e | e | e <;> rw[e] <;> decide
theorem NoSpot.row {e:TypeId} {size n:Nat} {v:Value} {xs:List Value} {H:List HB} (h:RowH e size v n xs H) (he:e≠66):NoSpot H:=fun b hb=>by rw[h.types b hb];exact he
theorem NoSpot.states {G:List StG} (h:∀ s∈G,s.ok):NoSpot (G.flatMap StG.heap):=by
 intro b hb
 obtain⟨s,hs,hb⟩:=List.mem_flatMap.1 hb
 have:=h s hs
 exact(NoSpot.row this.1 (by decide)).append (NoSpot.row this.2.1 (by decide)) b hb
theorem BandR.noSpot {d:BandA} {m:BandM} {H:List HB} (h:BandR d m H):NoSpot H:=by
 obtain⟨b,-,hk,rfl⟩:=h
 exact NoSpot.cons (show 118≠66 by decide) (NoSpot.cons (show 69≠66 by decide) ((NoSpot.tree hk.tf).append ((NoSpot.tree hk.tz).append (NoSpot.states hk.st))))
def updM (M:Nat→BandM) (b:Nat) (m:BandM):Nat→BandM:=fun k=>if k=b then m else M k
theorem updM_same (M:Nat→BandM) (b:Nat) (m:BandM):updM M b m b=m:=by simp[updM]
theorem updM_other (M:Nat→BandM) {b k:Nat} (m:BandM) (h:k≠b):updM M b m k=M k:=by simp[updM,h]
theorem updM_updM (M:Nat→BandM) (b:Nat) (m m':BandM):updM (updM M b m) b m'=updM M b m':=by funext k;simp only[updM];split <;> rfl
theorem updM_self (M:Nat→BandM) (b:Nat):updM M b (M b)=M:=by funext k;simp only[updM];split <;> simp_all
def BandsR:List BandA→(Nat→BandM)→List HB→Prop
 | [],_,H=>H=[]
 | d::D,M,H=>∃ H1 H2,H=H1++H2∧BandR d (M d.bb) H1∧BandsR D M H2
theorem BandR.key {d:BandA} {m:BandM} {H:List HB} (h:BandR d m H):d.bb∈keys H:=by
 obtain⟨b,-,-,rfl⟩:=h
 simp[BandG.heap,bandB,keys]
theorem BandsR.noSpot {D:List BandA} {M:Nat→BandM} {H:List HB} (h:BandsR D M H):NoSpot H:=by
 induction D generalizing H with
 | nil=>cases h;exact NoSpot.nil
 | cons d D ih =>
  obtain⟨H1,H2,rfl,h1,h2⟩:=h
  exact h1.noSpot.append (ih h2)
theorem BandsR.key {D:List BandA} {M:Nat→BandM} {H:List HB} (h:BandsR D M H) {d:BandA} (hd:d∈D):d.bb∈keys H:=by
 induction D generalizing H with
 | nil=>cases hd
 | cons e D ih =>
  obtain⟨H1,H2,rfl,h1,h2⟩:=h
  rw[keys_append,List.mem_append]
  rcases List.mem_cons.1 hd with rfl | hd
  ·exact .inl h1.key
  ·exact .inr (ih h2 hd)
theorem BandsR.congr {D:List BandA} {M M':Nat→BandM} {H:List HB} (h:BandsR D M H) (e:∀ d∈D,M' d.bb=M d.bb):BandsR D M' H:=by
 induction D generalizing H with
 | nil=>exact h
 | cons d D ih =>
  obtain⟨H1,H2,rfl,h1,h2⟩:=h
  exact⟨H1,H2,rfl,by rw[e d List.mem_cons_self];exact h1,ih h2 fun x hx=>e x (List.mem_cons_of_mem _ hx)⟩
def Same (A B:List HB):Prop:=(∀ g,cnt g A=cnt g B)∧∀ b,b∈A↔b∈B
theorem Same.mv {w0 w:World} {H0 A B:List HB} (h:Same A B) (m:Mv w0 H0 w A):Mv w0 H0 w B:=m.sub (fun g=>by rw[h.1 g];exact Nat.le_refl _) (fun b hb=>(h.2 b).2 hb)
theorem Same.symm {A B:List HB} (h:Same A B):Same B A:=⟨fun g=>(h.1 g).symm,fun b=>(h.2 b).symm⟩
theorem BandsR.split {D:List BandA} {M:Nat→BandM} {H:List HB} (h:BandsR D M H) (hk:(keys H).Nodup) {d:BandA} (hd:d∈D):∃ H1 R,BandR d (M d.bb) H1∧Same H (H1++R)∧∀ m' H1',BandR d m' H1'→∃ H',BandsR D (updM M d.bb m') H'∧Same (H1'++R) H':=by
 induction D generalizing H with
 | nil=>cases hd
 | cons e D ih =>
  obtain⟨H1,H2,rfl,h1,h2⟩:=h
  rw[keys_append] at hk
  obtain⟨k1,k2,k3⟩:=List.nodup_append.1 hk
  by_cases he:e=d
  ·subst he
   refine⟨H1,H2,h1,⟨fun _=>rfl,fun _=>Iff.rfl⟩,fun m' H1' h'=>⟨H1'++H2,⟨H1',H2,rfl,by rw[updM_same];exact h',h2.congr fun x hx=>?_⟩,⟨fun _=>rfl,fun _=>Iff.rfl⟩⟩⟩
   exact updM_other _ _ fun e2=>k3 _ h1.key _ (h2.key hx) e2.symm
  ·have hd':d∈D:=by
    rcases List.mem_cons.1 hd with e2 | e2
    ·exact absurd e2.symm he
    ·exact e2
   obtain⟨A,R,i1,i2,i3⟩:=ih h2 k2 hd'
   refine⟨A,H1++R,i1,⟨fun g=>?_,fun b=>?_⟩,fun m' H1' h'=>?_⟩
   ·have:=i2.1 g
    simp only[cnt_append] at this ⊢
    omega
   ·have:=i2.2 b
    simp only[List.mem_append] at this ⊢
    grind
   ·obtain⟨H',j1,j2⟩:=i3 m' H1' h'
    refine⟨H1++H',⟨H1,H',rfl,?_,j1⟩,⟨fun g=>?_,fun b=>?_⟩⟩
    ·rw[updM_other]
     ·exact h1
     ·intro e2
      exact k3 _ h1.key _ (h2.key hd') e2
    ·have:=j2.1 g
     simp only[cnt_append] at this ⊢
     omega
    ·have:=j2.2 b
     simp only[List.mem_append] at this ⊢
     grind
end
section
open Go.RowKit
def decT (l:List UInt8):List LevM→Nat→Nat→Int→RdM→List LevM × Int × RdM
 | [],_,_,_,r=>([],0,r)
 | L::R,x,y,b,r =>
  let q:=decT l R (x / 2) (y / 2) b r
  let e:=decNode l (L.at_ x y) q.2.1 b q.2.2
  (L.set_ x y e.1::q.1,e.1.low,e.2)
theorem decP_map (l:List UInt8) (P:List LvG) (x y:Nat) (b:Int) (r:RdM):decT l (P.map (·.2)) x y b r=((decP l P x y b r).t.map (·.2),(decP l P x y b r).low,(decP l P x y b r).rd):=by
 induction P generalizing x y with
 | nil=>rfl
 | cons p R ih=>simp only[List.map_cons,decT,decP,ih]
def leafT (T:List LevM) (x y:Nat):NodeM:=match T with
 | []=>⟨0,0,false⟩
 | L::_=>L.at_ x y
theorem leafT_map (P:List LvG) (x y:Nat):leafT (P.map (·.2)) x y=leafD P x y:=by cases P <;> rfl
def decAt (l:List UInt8) (T:List LevM) (k:Nat) (b:Int) (r:RdM):List LevM × Bool × RdM :=
 match T with
 | []=>([],false,r)
 | L::R=>((decT l (L::R) (k % L.w) (k / L.w) b r).1,belowM (leafT (decT l (L::R) (k % L.w) (k / L.w) b r).1 (k % L.w) (k / L.w)) b,(decT l (L::R) (k % L.w) (k / L.w) b r).2.2)
theorem decAt_map (l:List UInt8) (P:List LvG) (k:Nat) (b:Int) (r:RdM) (p0:LvG) (h:P[0]?=some p0):decAt l (P.map (·.2)) k b r=((decP l P (k % p0.2.w) (k / p0.2.w) b r).t.map (·.2),belowM (leafD (decP l P (k % p0.2.w) (k / p0.2.w) b r).t (k % p0.2.w) (k / p0.2.w)) b,(decP l P (k % p0.2.w) (k / p0.2.w) b r).rd):=by
 cases P with
 | nil=>simp at h
 | cons p R =>
  simp only[List.getElem?_cons_zero,Option.some.injEq] at h
  subst h
  show ((decT l ((p::R).map (·.2)) (k % p.2.w) (k / p.2.w) b r).1,belowM (leafT (decT l ((p::R).map (·.2)) (k % p.2.w) (k / p.2.w) b r).1 (k % p.2.w) (k / p.2.w)) b,(decT l ((p::R).map (·.2)) (k % p.2.w) (k / p.2.w) b r).2.2)=_
  rw[decP_map,leafT_map]
theorem decT_inv (l:List UInt8) (T:List LevM) (x y:Nat) (b:Int) (r:RdM) (h:r.left≤8):(decT l T x y b r).1.length=T.length∧0≤(decT l T x y b r).2.1∧(decT l T x y b r).2.2.left≤8∧(decT l T x y b r).2.2.begun≤r.begun+T.length * b.toNat:=by
 induction T generalizing x y with
 | nil=>exact⟨rfl,Int.le_refl _,h,by simp[decT]⟩
 | cons q R ih =>
  obtain⟨h0,h1,h2,h3⟩:=ih (x / 2) (y / 2)
  obtain⟨k1,k2,k3⟩:=decL_inv l (b - max (q.at_ x y).low (decT l R (x / 2) (y / 2) b r).2.1).toNat { q.at_ x y with low:=max (q.at_ x y).low (decT l R (x / 2) (y / 2) b r).2.1 } b (decT l R (x / 2) (y / 2) b r).2.2 h2
  simp only[decT,decNode]
  refine⟨by simp[h0],?_,k1,?_⟩
  ·simp only at k3
   omega
  ·rw[List.length_cons,Nat.succ_mul,← Nat.add_assoc]
   exact Nat.le_trans k2 (Nat.add_le_add h3 (by omega))
theorem decAt_inv (l:List UInt8) (T:List LevM) (k:Nat) (b:Int) (r:RdM) (h:r.left≤8) (hT:T.length≤20) (_hb:b≤1000):(decAt l T k b r).1.length=T.length∧(decAt l T k b r).2.2.left≤8∧(decAt l T k b r).2.2.begun≤r.begun+20 * b.toNat:=by
 cases T with
 | nil=>exact⟨rfl,h,by simp[decAt]⟩
 | cons L R =>
  obtain⟨h0,h1,h2,h3⟩:=decT_inv l (L::R) (k % L.w) (k / L.w) b r h
  exact⟨h0,h2,Nat.le_trans h3 (Nat.add_le_add_left (Nat.mul_le_mul_right _ hT) _)⟩
section
variable {d:BandA} {b:BandG} {w0 w:World} {H0 X HR:List HB} {rb:Nat} {l:List UInt8} {r:RdM}
theorem band_decF (ok:b.ok d) (hw:ReadH rb l r HR) (m:Mv w0 H0 w (HR++(X++b.heap d))) (k:Nat) (hk:k<d.n) (bd:Int) (hb:bd≤1000) (hll:l.length≤90000000) (hrb:r.begun≤80000000) (hr8:r.left≤8) :
  Calls Tryz.prog 112 #[.pointer (some ⟨b.ft,0,none⟩),.pointer (some ⟨rb,0,none⟩),.int .i64 (k:Int),.int .i64 bd] w fun e w2=>e=.returned (.bool (decAt l b.model.first k bd r).2.1) ∧
   ∃ (b':BandG) (HR':List HB),b'.ok d∧b'.model={ b.model with first:=(decAt l b.model.first k bd r).1 }∧b'.G=b.G∧ReadH rb l (decAt l b.model.first k bd r).2.2 HR'∧Mv w0 H0 w2 (HR'++(X++b'.heap d)):=by
 have hkw:k<b.w * b.h:=by rw[← ok.n];exact hk
 obtain⟨p0,h0,hw1,hh⟩:=ok.kf.2.2 (by omega)
 have m1:Mv w0 H0 w ((HR++b.Hf)++(X++bandB b d::statesB b d::(b.Hz++b.G.flatMap StG.heap))) :=
  m.sub (fun g=>by simp only[BandG.heap,cnt_append,cnt_cons];omega) (fun c hc=>by simp only[BandG.heap,List.mem_append,List.mem_cons] at hc ⊢;grind)
 have em:=decAt_map l b.Pf k bd r p0 h0
 rw[show b.model.first=b.Pf.map (·.2) from rfl,em]
 refine(dec_tree b.ft rb l b.Pf r k bd p0 w b.Hf HR ok.tf hw m1.sat.left ok.kf.1 ok.kf.2.1 h0 (by rw[hw1,hh];exact hkw) hb hll hrb hr8).mono ?_
 rintro e w2 ⟨rfl,H',HR',hT,hR,hM⟩
 have sh:=decP_shape l b.Pf (k % p0.2.w) (k / p0.2.w) bd r
 refine⟨rfl,{ b with Pf:=(decP l b.Pf (k % p0.2.w) (k / p0.2.w) bd r).t,Hf:=H' },HR',⟨hT,ok.tz,ok.kf.congr sh.1,ok.kz,ok.st,ok.len,ok.n,ok.pl,ok.hw,ok.hh⟩,rfl,rfl,hR,?_⟩
 exact(Mv.call m1 hM).sub (fun g=>by simp only[BandG.heap,cnt_append,cnt_cons,bandB,statesB];omega) (fun c hc=>by simp only[BandG.heap,List.mem_append,List.mem_cons,bandB,statesB] at hc ⊢;grind)
theorem band_decZ (ok:b.ok d) (hw:ReadH rb l r HR) (m:Mv w0 H0 w (HR++(X++b.heap d))) (k:Nat) (hk:k<d.n) (bd:Int) (hb:bd≤1000) (hll:l.length≤90000000) (hrb:r.begun≤80000000) (hr8:r.left≤8) :
  Calls Tryz.prog 112 #[.pointer (some ⟨b.zt,0,none⟩),.pointer (some ⟨rb,0,none⟩),.int .i64 (k:Int),.int .i64 bd] w fun e w2=>e=.returned (.bool (decAt l b.model.zeros k bd r).2.1) ∧
   ∃ (b':BandG) (HR':List HB),b'.ok d∧b'.model={ b.model with zeros:=(decAt l b.model.zeros k bd r).1 }∧b'.G=b.G∧ReadH rb l (decAt l b.model.zeros k bd r).2.2 HR'∧Mv w0 H0 w2 (HR'++(X++b'.heap d)):=by
 have hkw:k<b.w * b.h:=by rw[← ok.n];exact hk
 obtain⟨p0,h0,hw1,hh⟩:=ok.kz.2.2 (by omega)
 have m1:Mv w0 H0 w ((HR++b.Hz)++(X++bandB b d::statesB b d::(b.Hf++b.G.flatMap StG.heap))) :=
  m.sub (fun g=>by simp only[BandG.heap,cnt_append,cnt_cons];omega) (fun c hc=>by simp only[BandG.heap,List.mem_append,List.mem_cons] at hc ⊢;grind)
 have em:=decAt_map l b.Pz k bd r p0 h0
 rw[show b.model.zeros=b.Pz.map (·.2) from rfl,em]
 refine(dec_tree b.zt rb l b.Pz r k bd p0 w b.Hz HR ok.tz hw m1.sat.left ok.kz.1 ok.kz.2.1 h0 (by rw[hw1,hh];exact hkw) hb hll hrb hr8).mono ?_
 rintro e w2 ⟨rfl,H',HR',hT,hR,hM⟩
 have sh:=decP_shape l b.Pz (k % p0.2.w) (k / p0.2.w) bd r
 refine⟨rfl,{ b with Pz:=(decP l b.Pz (k % p0.2.w) (k / p0.2.w) bd r).t,Hz:=H' },HR',⟨ok.tf,hT,ok.kf,ok.kz.congr sh.1,ok.st,ok.len,ok.n,ok.pl,ok.hw,ok.hh⟩,rfl,rfl,hR,?_⟩
 exact(Mv.call m1 hM).sub (fun g=>by simp only[BandG.heap,cnt_append,cnt_cons,bandB,statesB];omega) (fun c hc=>by simp only[BandG.heap,List.mem_append,List.mem_cons,bandB,statesB] at hc ⊢;grind)
end
theorem Mv.still {w w1:World} {H R:List HB} (hs:Sat w H) (m:Mv w H w1 (R++H)):Mv w [] w1 R:=by
 refine⟨m.sat.left,⟨m.only.os,m.only.tape,m.only.output,m.only.size,fun k hk _=>?_⟩,fun g hg=>?_⟩
 ·by_cases hk2:k∈keys H
  ·obtain⟨b,hb,rfl⟩:=List.mem_map.1 hk2
   exact(m.sat.right.2 b hb).trans (hs.2 b hb).symm
  ·exact m.only.block k hk hk2
 ·rcases m.new g (by rw[keys_append];exact List.mem_append_left _ hg) with h1 | h1
  ·exact(m.sat.apart hg h1).elim
  ·exact .inr h1
def knownM (z:NodeM):Int:=if z.said then z.n else -1
def knownAt (T:List LevM) (k:Nat):Int:=match T with
 | [] => -1
 | L::R=>knownM (leafT (L::R) (k % L.w) (k / L.w))
theorem known_tree (tb:Nat) (P:List LvG) (k:Nat) (p0:LvG) (W:World) (HT:List HB) (h:TreeH tb P HT) (hs:Sat W HT) (hl:P.length≤20) (hd:PDims P) (h0:P[0]?=some p0) (hk:k<p0.2.w * p0.2.h) :
  Calls Tryz.prog 129 #[.pointer (some ⟨tb,0,none⟩),.int .i64 (k:Int)] W fun e W'=>e=.returned (.int .i64 (knownM (p0.2.at_ (k % p0.2.w) (k / p0.2.w))))∧Mv W [] W' []:=by
 have WO:=Lib.hid (way_ok tb P k p0 W HT h hs hl hd h0 hk)
 have hn:0<P.length:=(List.getElem?_eq_some_iff.1 h0).1
 have q:=hd.get h0
 have hx:k % p0.2.w<p0.2.w:=Nat.mod_lt _ (by omega)
 have hy:k / p0.2.w<p0.2.h:=Nat.div_lt_of_lt_mul hk
 generalize k % p0.2.w=x at *
 generalize k / p0.2.w=y at *
 have CE:Hid (∀ v1 H1 w1,RowH 194 1 v1 P.length (wayV P x y).reverse H1→Mv W HT w1 (H1++HT)→∃ g c,v1=.slice (some ⟨g,0,none⟩) P.length c∧w1.cell? ⟨g,P.length - 1,none⟩=some (.pointer (some ⟨p0.1,3 * (y * p0.2.w+x),none⟩)) ∧
   w1.cell? ⟨p0.1,3 * (y * p0.2.w+x),none⟩=some (.int .i64 (p0.2.at_ x y).n)∧w1.cell? ⟨p0.1,3 * (y * p0.2.w+x)+2,none⟩=some (.bool (p0.2.at_ x y).said)∧Mv W [] w1 []):=Lib.hid (by
  intro v1 H1 w1 r1 m1
  obtain⟨a1,c1,rfl⟩:=r1.slice
  obtain⟨g1,eg1,hc1,-⟩:=r1.get m1.sat.left hn
  have cj:=hc1 (P.length - 1) (by omega)
  rw[List.getElem?_reverse (by rw[wayV_length];omega),wayV_length,show P.length - 1 - (P.length - 1)=0 from by omega,wayV_get P x y 0 p0 h0] at cj
  simp only[Nat.pow_zero,Nat.div_one] at cj
  obtain⟨y0,y1,y2,-⟩:=node_cell (R:=H1) h m1 hd h0 hx hy
  subst eg1
  exact⟨g1,c1,rfl,cj,y0,y2,Mv.drop (A:=H1) (H:=[]) (by rw[List.append_nil];exact Mv.still hs m1)⟩)
 generalize p0.2.at_ x y=z at *
 generalize P.length=np at *
 have hn0:(0:Int)<(np:Int):=by omega
 have hP0:¬ (np:Int)=0:=by omega
 clear h hs hd h0 hk q hx hy
 go_enter Tryz.func129,Tryz.ntmps129
 by_cases hsd:z.said=true
 ·have ek:knownM z=z.n:=by unfold knownM;rw[if_pos hsd]
  rw[ek]
  rw[hsd] at CE
  clear hsd ek
  go_wp2_with (go_at_call 106;refine WO.out.mono ?_;rintro e w1 ⟨v1,H1,rfl,r1,m1⟩;obtain⟨g1,c1,rfl,z1,z2,z3,m2⟩:=CE.out v1 H1 w1 r1 m1;have K1:=Lib.hid m2;clear r1 m1 m2)
  go_ret
  exact⟨rfl,K1.out⟩
 ·have ek:knownM z = -1:=by unfold knownM;rw[if_neg hsd]
  rw[Bool.not_eq_true] at hsd
  rw[ek]
  rw[hsd] at CE
  clear hsd ek
  go_wp2_with (go_at_call 106;refine WO.out.mono ?_;rintro e w1 ⟨v1,H1,rfl,r1,m1⟩;obtain⟨g1,c1,rfl,z1,z2,z3,m2⟩:=CE.out v1 H1 w1 r1 m1;have K1:=Lib.hid m2;clear r1 m1 m2)
  go_ret
  exact⟨rfl,K1.out⟩
theorem band_known {d:BandA} {b:BandG} {w:World} (ok:b.ok d) (hs:Sat w (b.heap d)) (k:Nat) (hk:k<d.n) :
  Calls Tryz.prog 129 #[.pointer (some ⟨b.zt,0,none⟩),.int .i64 (k:Int)] w fun e w2=>e=.returned (.int .i64 (knownAt b.model.zeros k))∧Mv w [] w2 []:=by
 have hkw:k<b.w * b.h:=by rw[← ok.n];exact hk
 obtain⟨p0,h0,hw1,hh⟩:=ok.kz.2.2 (by omega)
 have s1:Sat w b.Hz:=hs.sub (fun g=>by simp only[BandG.heap,cnt_append,cnt_cons];omega) (fun c hc=>by simp only[BandG.heap,List.mem_append,List.mem_cons] at hc ⊢;grind)
 have e:knownAt b.model.zeros k=knownM (p0.2.at_ (k % p0.2.w) (k / p0.2.w)):=by
  show knownAt (b.Pz.map (·.2)) k=_
  obtain⟨P,hP⟩:∃ P,b.Pz=P:=⟨_,rfl⟩
  rw[hP] at h0 ⊢
  cases P with
  | nil=>simp at h0
  | cons p R=>simp at h0;subst h0;rfl
 rw[e]
 exact known_tree b.zt b.Pz k p0 w b.Hz ok.tz s1 ok.kz.1 ok.kz.2.1 h0 (by rw[hw1,hh];exact hkw)
def toldM (l:List UInt8) (r:RdM):Nat × RdM :=
 let a:=rdBit l r
 if a.1=0 then (1,a.2) else
 let b:=rdBit l a.2
 if b.1=0 then (2,b.2) else
 let c:=rdG l 2 b.2
 if c.1<3 then (3+c.1,c.2) else
 let d:=rdG l 5 c.2
 if d.1<31 then (6+d.1,d.2) else
 (37+(rdG l 7 d.2).1,(rdG l 7 d.2).2)
theorem toldM_inv (l:List UInt8) (r:RdM) (h:r.left≤8):1≤(toldM l r).1∧(toldM l r).1≤164∧(toldM l r).2.left≤8∧(toldM l r).2.begun≤r.begun+16:=by
 obtain⟨a1,a2,a3⟩:=rdBit_inv l r h
 obtain⟨b1,b2,b3⟩:=rdBit_inv l _ a2
 obtain⟨c1,c2,c3⟩:=rdB_inv l _ b2 2
 obtain⟨d1,d2,d3⟩:=rdB_inv l _ c2 5
 obtain⟨e1,e2,e3⟩:=rdB_inv l _ d2 7
 have g2:∀ s,rdG l 2 s=rdB l 2 s:=fun s=>by unfold rdG;rw[if_pos (by omega)];rfl
 have g5:∀ s,rdG l 5 s=rdB l 5 s:=fun s=>by unfold rdG;rw[if_pos (by omega)];rfl
 have g7:∀ s,rdG l 7 s=rdB l 7 s:=fun s=>by unfold rdG;rw[if_pos (by omega)];rfl
 unfold toldM
 simp only[g2,g5,g7]
 split
 ·exact⟨by simp,by simp,a2,by simp only;omega⟩
 ·split
  ·exact⟨by simp,by simp,b2,by simp only;omega⟩
  ·split
   ·exact⟨by simp only;omega,by simp only;omega,c2,by simp only;omega⟩
   ·split
    ·exact⟨by simp only;omega,by simp only;omega,d2,by simp only;omega⟩
    ·exact⟨by simp only;omega,by simp only;omega,e2,by simp only;omega⟩
theorem told_any (rb:Nat) (l:List UInt8) (r:RdM) (w:World) (H:List HB) (h:ReadH rb l r H) (hs:Sat w H) (hl:l.length≤90000000) (hb:r.begun≤70000000) (h8:r.left≤8) :
  Calls Tryz.prog 114 #[.pointer (some ⟨rb,0,none⟩)] w fun e w'=>e=.returned (.int .i64 ((toldM l r).1:Int))∧∃ H',ReadH rb l (toldM l r).2 H'∧Mv w H w' H':=by
 have BT:Hid (∀ W H' r' q,ReadH rb l r' H'→Mv w H W H'→r'.begun≤80000000→r'.left≤8→(rdBit l r').1=q→Calls Tryz.prog 88 #[.pointer (some ⟨rb,0,none⟩)] W fun e w'=>e=.returned (.int .i64 (q:Int))∧∃ H'',ReadH rb l (rdBit l r').2 H''∧Mv w H w' H''):=Lib.hid (by
  intro W H' r' q h1 m1 h2 h3 h4
  refine(bit_rd rb l r' W H' h1 m1.sat hl (by omega) h3).mono ?_
  rintro e w' ⟨rfl,H'',k1,k2⟩
  exact⟨by rw[h4],H'',k1,m1.trans k2⟩)
 have GT:Hid (∀ W H' r' sz q,ReadH rb l r' H'→Mv w H W H'→r'.begun≤80000000→r'.left≤8→(rdG l sz r').1=q→Calls Tryz.prog 115 #[.pointer (some ⟨rb,0,none⟩),.int .i64 sz] W fun e w'=>e=.returned (.int .i64 (q:Int))∧∃ H'',ReadH rb l (rdG l sz r').2 H''∧Mv w H w' H''):=Lib.hid (by
  intro W H' r' sz q h1 m1 h2 h3 h4
  refine(bits_rd rb l r' sz W H' h1 m1.sat hl (by omega) h3).mono ?_
  rintro e w' ⟨rfl,H'',k1,k2⟩
  exact⟨by rw[h4],H'',k1,m1.trans k2⟩)
 obtain⟨a1,a2,a3⟩:=rdBit_inv l r h8
 obtain⟨r1,hr1⟩:∃ r1,(rdBit l r).2=r1:=⟨_,rfl⟩
 rw[hr1] at a2 a3
 obtain⟨b1,b2,b3⟩:=rdBit_inv l r1 a2
 obtain⟨r2,hr2⟩:∃ r2,(rdBit l r1).2=r2:=⟨_,rfl⟩
 rw[hr2] at b2 b3
 obtain⟨c1,c2,c3⟩:=rdB_inv l r2 b2 2
 rw[← show rdG l 2 r2=rdB l 2 r2 by unfold rdG;rw[if_pos (by omega)];rfl] at c1 c2 c3
 obtain⟨r3,hr3⟩:∃ r3,(rdG l 2 r2).2=r3:=⟨_,rfl⟩
 rw[hr3] at c2 c3
 obtain⟨d1,d2,d3⟩:=rdB_inv l r3 c2 5
 rw[← show rdG l 5 r3=rdB l 5 r3 by unfold rdG;rw[if_pos (by omega)];rfl] at d1 d2 d3
 obtain⟨r4,hr4⟩:∃ r4,(rdG l 5 r3).2=r4:=⟨_,rfl⟩
 rw[hr4] at d2 d3
 obtain⟨e1,e2,e3⟩:=rdB_inv l r4 d2 7
 rw[← show rdG l 7 r4=rdB l 7 r4 by unfold rdG;rw[if_pos (by omega)];rfl] at e1 e2 e3
 obtain⟨qa,hqa⟩:∃ q,(rdBit l r).1=q:=⟨_,rfl⟩
 obtain⟨qb,hqb⟩:∃ q,(rdBit l r1).1=q:=⟨_,rfl⟩
 obtain⟨qc,hqc⟩:∃ q,(rdG l 2 r2).1=q:=⟨_,rfl⟩
 obtain⟨qd,hqd⟩:∃ q,(rdG l 5 r3).1=q:=⟨_,rfl⟩
 obtain⟨qe,hqe⟩:∃ q,(rdG l 7 r4).1=q:=⟨_,rfl⟩
 have K0:=Lib.hid (And.intro h (Mv.refl hs))
 unfold toldM
 simp only[hr1,hr2,hr3,hr4,hqa,hqb,hqc,hqd,hqe]
 rw[hqa] at a1
 rw[hqb] at b1
 rw[hqc] at c1
 rw[hqd] at d1
 rw[hqe] at e1
 clear h hs
 have CA:=Lib.hid (BT.out w H r qa K0.out.1 K0.out.2 (by omega) h8 hqa)
 have CB:=Lib.hid (fun W H' (h1:ReadH rb l r1 H') m1=>BT.out W H' r1 qb h1 m1 (by omega) a2 hqb)
 have CC:=Lib.hid (fun W H' (h1:ReadH rb l r2 H') m1=>GT.out W H' r2 2 qc h1 m1 (by omega) b2 hqc)
 have CD:=Lib.hid (fun W H' (h1:ReadH rb l r3 H') m1=>GT.out W H' r3 5 qd h1 m1 (by omega) c2 hqd)
 have CE:=Lib.hid (fun W H' (h1:ReadH rb l r4 H') m1=>GT.out W H' r4 7 qe h1 m1 (by omega) d2 hqe)
 rw[hr1] at CA
 rw[hr2] at CB
 rw[hr3] at CC
 rw[hr4] at CD
 clear hr1 hr2 hr3 hr4 hqa hqb hqc hqd hqe a2 a3 b2 b3 c2 c3 d2 d3 e2 e3 BT GT K0
 by_cases ha:qa=0
 ·subst ha
  go_enter Tryz.func114,Tryz.ntmps114
  go_wp2_with (go_at_call 88;(with_reducible refine CA.out.mono ?_);rintro e w1 ⟨rfl,H1,q1,m1⟩;have K1:=Lib.hid (And.intro q1 m1);clear q1 m1)
  go_ret
  exact⟨rfl,H1,K1.out.1,K1.out.2⟩
 ·obtain rfl:qa=1:=by omega
  rw[if_neg (by decide)]
  by_cases hb:qb=0
  ·subst hb
   go_enter Tryz.func114,Tryz.ntmps114
   go_upto_region 3 with (go_at_call 88;(with_reducible refine CA.out.mono ?_);rintro e w1 ⟨rfl,H1,q1,m1⟩;have K1:=Lib.hid (And.intro q1 m1);clear q1 m1)
   go_wp2_with (go_at_call 88;(with_reducible refine(CB.out _ _ K1.out.1 K1.out.2).mono ?_);rintro e w2 ⟨rfl,H2,q1,m1⟩;have K2:=Lib.hid (And.intro q1 m1);clear q1 m1)
   go_ret
   exact⟨rfl,H2,K2.out.1,K2.out.2⟩
  ·obtain rfl:qb=1:=by omega
   rw[if_neg (by decide)]
   by_cases hc:qc<3
   ·rw[if_pos hc]
    have hc':(qc:Int)<3:=by omega
    go_enter Tryz.func114,Tryz.ntmps114
    go_upto_region 3 with (go_at_call 88;(with_reducible refine CA.out.mono ?_);rintro e w1 ⟨rfl,H1,q1,m1⟩;have K1:=Lib.hid (And.intro q1 m1);clear q1 m1)
    go_upto_region 5 with (go_at_call 88;(with_reducible refine(CB.out _ _ K1.out.1 K1.out.2).mono ?_);rintro e w2 ⟨rfl,H2,q1,m1⟩;have K2:=Lib.hid (And.intro q1 m1);clear q1 m1)
    go_wp2_with (go_at_call 115;(with_reducible refine(CC.out _ _ K2.out.1 K2.out.2).mono ?_);rintro e w3 ⟨rfl,H3,q1,m1⟩;have K3:=Lib.hid (And.intro q1 m1);clear q1 m1)
    go_ret
    exact⟨by push_cast;rfl,H3,K3.out.1,K3.out.2⟩
   ·rw[if_neg hc]
    have hc':¬ (qc:Int)<3:=by omega
    by_cases hd:qd<31
    ·rw[if_pos hd]
     have hd':(qd:Int)<31:=by omega
     go_enter Tryz.func114,Tryz.ntmps114
     go_upto_region 3 with (go_at_call 88;(with_reducible refine CA.out.mono ?_);rintro e w1 ⟨rfl,H1,q1,m1⟩;have K1:=Lib.hid (And.intro q1 m1);clear q1 m1)
     go_upto_region 5 with (go_at_call 88;(with_reducible refine(CB.out _ _ K1.out.1 K1.out.2).mono ?_);rintro e w2 ⟨rfl,H2,q1,m1⟩;have K2:=Lib.hid (And.intro q1 m1);clear q1 m1)
     go_upto_region 8 with (go_at_call 115;(with_reducible refine(CC.out _ _ K2.out.1 K2.out.2).mono ?_);rintro e w3 ⟨rfl,H3,q1,m1⟩;have K3:=Lib.hid (And.intro q1 m1);clear q1 m1)
     go_wp2_with (go_at_call 115;(with_reducible refine(CD.out _ _ K3.out.1 K3.out.2).mono ?_);rintro e w4 ⟨rfl,H4,q1,m1⟩;have K4:=Lib.hid (And.intro q1 m1);clear q1 m1)
     go_ret
     exact⟨by push_cast;rfl,H4,K4.out.1,K4.out.2⟩
    ·rw[if_neg hd]
     have hd':¬ (qd:Int)<31:=by omega
     go_enter Tryz.func114,Tryz.ntmps114
     go_upto_region 3 with (go_at_call 88;(with_reducible refine CA.out.mono ?_);rintro e w1 ⟨rfl,H1,q1,m1⟩;have K1:=Lib.hid (And.intro q1 m1);clear q1 m1)
     go_upto_region 5 with (go_at_call 88;(with_reducible refine(CB.out _ _ K1.out.1 K1.out.2).mono ?_);rintro e w2 ⟨rfl,H2,q1,m1⟩;have K2:=Lib.hid (And.intro q1 m1);clear q1 m1)
     go_upto_region 8 with (go_at_call 115;(with_reducible refine(CC.out _ _ K2.out.1 K2.out.2).mono ?_);rintro e w3 ⟨rfl,H3,q1,m1⟩;have K3:=Lib.hid (And.intro q1 m1);clear q1 m1)
     go_upto_region 11 with (go_at_call 115;(with_reducible refine(CD.out _ _ K3.out.1 K3.out.2).mono ?_);rintro e w4 ⟨rfl,H4,q1,m1⟩;have K4:=Lib.hid (And.intro q1 m1);clear q1 m1)
     go_wp2_with (go_at_call 115;(with_reducible refine(CE.out _ _ K4.out.1 K4.out.2).mono ?_);rintro e w5 ⟨rfl,H5,q1,m1⟩;have K5:=Lib.hid (And.intro q1 m1);clear q1 m1)
     go_ret
     exact⟨by push_cast;rfl,H5,K5.out.1,K5.out.2⟩
end
end Go.Proofs.YtjngfhgakokejaaGreat
