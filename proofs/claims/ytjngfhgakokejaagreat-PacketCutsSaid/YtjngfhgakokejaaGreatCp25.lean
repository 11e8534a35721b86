/- packet: a head's blocks, among bands: here, read; bounds. packet.take: whole. packet.headed: a round of its loop. -/
import Derived.Test.YtjngfhgakokejaaGreatCp19
import Derived.Test.YtjngfhgakokejaaGreatCp22
import Derived.Test.YtjngfhgakokejaaGreatCp24
import Derived.Test.YtjngfhgakokejaaGreatCp20
import Derived.Test.YtjngfhgakokejaaGreatCp23
set_option maxRecDepth 100000
set_option maxHeartbeats 8000000
set_option linter.all false
namespace Go.Proofs.YtjngfhgakokejaaGreat
section
open Go.RowKit
structure GoodR (m:BandM):Prop where
 pl:0≤m.planes∧m.planes≤60
 nn:TreeNN m.zeros
 ss:∀ s∈m.ss,s.pl≤60∧s.lb≤24
theorem hereM_inv (l:List UInt8) (m:BandM) (s:StM) (k layer:Nat) (r:RdM) (h8:r.left≤8) (hf:m.first.length≤20) (hl:layer≤100) (g:GoodR m) :
  GoodR (hereM l m s k layer r).1∧(hereM l m s k layer r).1.ss=m.ss∧(hereM l m s k layer r).2.2.left≤8∧(hereM l m s k layer r).2.2.begun≤r.begun+2020:=by
 unfold hereM
 split
 ·have h:=decAt_inv l m.first k ((layer:Int)+1) r h8 hf (by omega)
  exact⟨⟨g.pl,g.nn,g.ss⟩,rfl,h.2.1,by have:=h.2.2;simp only;omega⟩
 ·have h:=rdBit_inv l r h8
  exact⟨g,rfl,h.2.1,by have:=h.2.2;simp only;omega⟩
theorem readA_inv {l:List UInt8} {m:BandM} {k:Nat} {s:StM} {r:RdM} (h8:r.left≤8) (hz:m.zeros.length≤20) (g:GoodR m) (hs:m.ss[k]?=some s) {m1:BandM} {s1:StM} {r1:RdM} {o:Bool} (h:readA l m k s r=(m1,s1,r1,o)) :
  m1.planes=m.planes∧TreeNN m1.zeros∧m1.ss=m.ss.set k s1∧s1.ps=s.ps∧s1.bs=s.bs∧s1.lb=s.lb∧(o=true→s1.pl≤60)∧r1.left≤8∧r1.begun≤r.begun+72000∧m1.first=m.first:=by
 unfold readA at h
 have gs:=g.ss s (List.mem_of_getElem? hs)
 split at h
 ·obtain⟨Q,hQ⟩:∃ Q,beginM l m k r=Q:=⟨_,rfl⟩
  have QI:=beginGo_inv l m.planes k g.pl.2 m.planes.toNat 1 m.zeros r h8 hz g.nn (by omega) (by have:=g.pl.1;omega)
  rw[show beginGo l m.planes k m.planes.toNat 1 m.zeros r=Q from hQ] at QI
  rw[hQ] at h
  simp only[Prod.mk.injEq] at h
  obtain⟨rfl,rfl,rfl,rfl⟩:=h
  have hpn:m.planes.toNat * 1200≤60 * 1200:=Nat.mul_le_mul_right _ (by have:=g.pl.2;omega)
  refine⟨rfl,QI.2.1,rfl,?_,?_,?_,fun ho=>?_,QI.2.2.2.1,by have:=QI.2.2.2.2;omega,rfl⟩
  ·cases Q.2.1 <;> rfl
  ·cases Q.2.1 <;> rfl
  ·cases Q.2.1 <;> rfl
  ·cases hq:Q.2.1 with
   | none=>rw[hq] at ho;simp[begOk] at ho
   | some p =>
    have:=QI.2.2.1 p hq
    have:=g.pl.2
    simp only[begS]
    omega
 ·simp only[Prod.mk.injEq] at h
  obtain⟨rfl,rfl,rfl,rfl⟩:=h
  exact⟨rfl,g.nn,(set_self_get hs).symm,rfl,rfl,rfl,fun _=>gs.1,h8,by omega,rfl⟩
theorem readM_inv {l:List UInt8} {style:Nat} {m:BandM} {d:BandA} {k:Nat} {s:StM} {r:RdM} (h8:r.left≤8) (hz:m.zeros.length≤20) (g:GoodR m) (hs:m.ss[k]?=some s) (hlb:0≤s.lb) {q:BandM × List PcM × RdM} (h:readM l style m d k s r=some q) :
  GoodR q.1∧q.2.2.left≤8∧q.2.2.begun≤r.begun+80000∧q.2.1.length≤178:=by
 obtain⟨⟨m1,s1,r1,o⟩,hA⟩:∃ t,readA l m k s r=t:=⟨_,rfl⟩
 have gs:=g.ss s (List.mem_of_getElem? hs)
 obtain⟨a1,a2,a3,a4,a5,a6,a7,a8,a9,a10⟩:=readA_inv h8 hz g hs hA
 rw[readM_eq l style m d k s r hA] at h
 split at h
 ·cases h
 ·rename_i ho
  have ho1:o=true:=by cases o;exact absurd rfl ho;rfl
  unfold readB at h
  split at h
  ·cases h
  ·rename_i hb
   have hp:=a7 ho1
   obtain⟨t1,t2,t3,t4⟩:=toldM_inv l r1 a8
   have LI:=lbGo_inv l (25 - s1.lb.toNat) s1.lb.toNat (toldM l r1).2 t3 (by rw[a6];omega)
   obtain⟨⟨lo,r3⟩,hlo⟩:∃ t,lbGo l (25 - s1.lb.toNat) s1.lb.toNat (toldM l r1).2=t:=⟨_,rfl⟩
   rw[hlo] at h LI
   cases lo with
   | none=>cases h
   | some lb =>
    simp only[readC,Option.some.injEq] at h
    subst h
    have hL:(lensM (piecesM style s1.ps.length (s1.ps.length+(toldM l r1).1))).length≤178:=by
     have h1:=pieces_length style s1.ps.length (s1.ps.length+(toldM l r1).1)
     have h2:(lensM (piecesM style s1.ps.length (s1.ps.length+(toldM l r1).1))).length=(piecesM style s1.ps.length (s1.ps.length+(toldM l r1).1)).length:=List.length_map _
     omega
    obtain⟨p1,p2,p3,p4⟩:=pcGo_inv l ⟨d,k⟩ lb (lensM (piecesM style s1.ps.length (s1.ps.length+(toldM l r1).1))) r3 LI.1
    have hl24:=LI.2.2 lb rfl
    refine⟨⟨by rw[show ({ m1 with ss:=m1.ss.set k { s1 with lb:=(lb:Int) } }:BandM).planes=m1.planes from rfl,a1];exact g.pl,a2,fun x hx=>?_⟩,p2,?_,by simp only;omega⟩
    ·rcases List.mem_or_eq_of_mem_set hx with hx | rfl
     ·rw[a3] at hx
      rcases List.mem_or_eq_of_mem_set hx with hx | rfl
      ·exact g.ss x hx
      ·exact⟨hp,by rw[a6];exact gs.2⟩
     ·exact⟨hp,by simp only;omega⟩
    ·have:=LI.2.1
     simp only at this ⊢
     omega
section
variable {D:List BandA} {M:Nat→BandM} {HB1 H0 Y HR:List HB} {w0 w:World} {d:BandA} {k rb:Nat} {s:StM} {l:List UInt8} {r:RdM}
theorem step_here (hB:BandsR D M HB1) (hd:d∈D) (hk:k<d.n) (hs:(M d.bb).ss[k]?=some s) (hr:ReadH rb l r HR) (m:Mv w0 H0 w ((HR++Y)++HB1)) (layer:Nat) (hl:layer≤100) (hll:l.length≤90000000) (hrb:r.begun≤70000000) (h8:r.left≤8) :
  Calls Tryz.prog 89 #[SpotX.v ⟨d,k⟩,.pointer (some ⟨rb,0,none⟩),.int .i64 (layer:Int)] w fun e w'=>e=.returned (.bool (hereM l (M d.bb) s k layer r).2.1) ∧
   ∃ HR' HB',ReadH rb l (hereM l (M d.bb) s k layer r).2.2 HR'∧BandsR D (updM M d.bb (hereM l (M d.bb) s k layer r).1) HB'∧Mv w0 H0 w' ((HR'++Y)++HB'):=by
 obtain⟨b,R,ok,em,fwd,back⟩:=bands_at hB m hd
 obtain⟨st,hst,rfl⟩:=model_get em hs
 rw[← em]
 have m1:Mv w0 H0 w ((HR++b.heap d)++(Y++R)):=(fwd w m).sub (fun g=>by simp only[cnt_append];omega) (fun c hc=>by simp only[List.mem_append] at hc ⊢;grind)
 refine(here_any d b k rb layer st l r HR w ok hk hst hr m1.sat.left hl hll hrb h8).mono ?_
 rintro e w' ⟨rfl,b',HR',q1,q2,q3,q4,q5⟩
 obtain⟨HB',h6,h7⟩:=back b' (HR'++Y) q1
 refine⟨rfl,HR',HB',q4,by rw[← q2];exact h6,h7 w' ?_⟩
 exact(Mv.call m1 q5).sub (fun g=>by simp only[cnt_append];omega) (fun c hc=>by simp only[List.mem_append] at hc ⊢;grind)
def SRead (D:List BandA) (M:Nat→BandM) (d:BandA) (rb:Nat) (l:List UInt8) (w0:World) (H0 Y:List HB) (w':World) (v:Value) (o:Bool):Option (BandM × List PcM × RdM)→Prop
 | none=>o=false∧Mv w0 H0 w' Y
 | some q=>o=true∧∃ HR' Hv HB',RowPc v q.2.1 Hv∧ReadH rb l q.2.2 HR'∧BandsR D (updM M d.bb q.1) HB'∧Mv w0 H0 w' ((Hv++(HR'++Y))++HB')
def SPost (D:List BandA) (M:Nat→BandM) (d:BandA) (rb:Nat) (l:List UInt8) (w0:World) (H0 Y:List HB) (q:Option (BandM × List PcM × RdM)) (e:Ending) (w':World):Prop:=∃ v o,e=.returned (.tuple #[v,.bool o])∧SRead D M d rb l w0 H0 Y w' v o q
theorem step_read (hB:BandsR D M HB1) (hd:d∈D) (hk:k<d.n) (hs:(M d.bb).ss[k]?=some s) (g:GoodR (M d.bb)) (hr:ReadH rb l r HR) (m:Mv w0 H0 w ((HR++Y)++HB1)) (style:Nat) (hs63:style≤63) (hll:l.length≤90000000) (hrb:r.begun≤60000000) (h8:r.left≤8) :
  Calls Tryz.prog 90 #[SpotX.v ⟨d,k⟩,.pointer (some ⟨rb,0,none⟩),.int .i64 (style:Int)] w (SPost D M d rb l w0 H0 Y (readM l style (M d.bb) d k s r)):=by
 obtain⟨b,R,ok,em,fwd,back⟩:=bands_at hB m hd
 obtain⟨st,hst,rfl⟩:=model_get em hs
 have gs:=g.ss _ (List.mem_of_getElem? hs)
 have gp:=g.pl
 have gn:=g.nn
 rw[← em] at gp gn ⊢
 have m1:Mv w0 H0 w ((HR++b.heap d)++(Y++R)):=(fwd w m).sub (fun g=>by simp only[cnt_append];omega) (fun c hc=>by simp only[List.mem_append] at hc ⊢;grind)
 refine(read_any d b k rb style st l r HR w ok hk hst hr m1.sat.left gp gn gs.1 gs.2 hs63 hll hrb h8).mono ?_
 rintro e w' ⟨v,o,rfl,h⟩
 refine⟨v,o,rfl,?_⟩
 obtain⟨q,hq⟩:∃ q,readM l style b.model d k st.m r=q:=⟨_,rfl⟩
 rw[hq] at h ⊢
 cases q with
 | none =>
  obtain⟨rfl,b',HR',r',p1,p2,p3⟩:=h
  exact⟨rfl,(Mv.call m1 p3).sub (fun g=>by simp only[cnt_append];omega) (fun c hc=>by simp only[List.mem_append] at hc ⊢;grind)⟩
 | some q =>
  obtain⟨rfl,b',HR',Hv,p0,p1,p2,p3,p4⟩:=h
  obtain⟨HB',h6,h7⟩:=back b' (Hv++(HR'++Y)) p1
  refine⟨rfl,HR',Hv,HB',p0,p3,by rw[← p2];exact h6,h7 w' ?_⟩
  exact(Mv.call m1 p4).sub (fun g=>by simp only[cnt_append];omega) (fun c hc=>by simp only[List.mem_append] at hc ⊢;grind)
end
structure DecS where
 M:Nat→BandM
 out:List PcM
 rd:RdM
def stepD (l:List UInt8) (style layer:Nat) (S:DecS) (x:SpotX):Option DecS:=match (S.M x.d.bb).ss[x.k]? with
 | none=>some S
 | some s=>if (hereM l (S.M x.d.bb) s x.k layer S.rd).2.1=false then some ⟨updM S.M x.d.bb (hereM l (S.M x.d.bb) s x.k layer S.rd).1,S.out,(hereM l (S.M x.d.bb) s x.k layer S.rd).2.2⟩
  else (readM l style (hereM l (S.M x.d.bb) s x.k layer S.rd).1 x.d x.k s (hereM l (S.M x.d.bb) s x.k layer S.rd).2.2).map fun q=>⟨updM S.M x.d.bb q.1,S.out++q.2.1,q.2.2⟩
def foldD (l:List UInt8) (style layer:Nat) (o:Option DecS) (L:List SpotX):Option DecS:=L.foldl (fun o x=>o.bind fun S=>stepD l style layer S x) o
theorem foldD_snoc (l:List UInt8) (style layer:Nat) (o:Option DecS) (L:List SpotX) (x:SpotX):foldD l style layer o (L++[x])=(foldD l style layer o L).bind fun S=>stepD l style layer S x:=by
 unfold foldD
 rw[List.foldl_append]
 rfl
theorem foldD_none (l:List UInt8) (style layer:Nat) (L:List SpotX):foldD l style layer none L=none:=by
 unfold foldD
 induction L with
 | nil=>rfl
 | cons x L ih=>exact ih
theorem foldD_prefix {l:List UInt8} {style layer:Nat} {o:Option DecS} {A L:List SpotX} (h:A <+: L) (hn:foldD l style layer o A=none):foldD l style layer o L=none:=by
 obtain⟨t,rfl⟩:=h
 have:foldD l style layer o (A++t)=foldD l style layer (foldD l style layer o A) t:=by unfold foldD;rw[List.foldl_append]
 rw[this,hn,foldD_none]
end
section
open Go.RowKit
theorem BandG.open_st {b:BandG} {d:BandA} {k:Nat} {st:StG} (hg:b.G[k]?=some st):∃ R,Same (b.heap d) (bandB b d::statesB b d::(st.Hp++(st.Hb++R)))∧∀ st':StG,Same ((b.putS k st').heap d) (bandB b d::⟨d.lb,69,((b.G.set k st').flatMap StG.v).toArray⟩::(st'.Hp++(st'.Hb++R))):=by
 obtain⟨hk,he⟩:=List.getElem?_eq_some_iff.1 hg
 have e0:b.G=b.G.take k++st::b.G.drop (k+1):=by rw[← he];simp
 have e1:∀ st',b.G.set k st'=b.G.take k++st'::b.G.drop (k+1):=fun st'=>by rw[List.set_eq_take_append_cons_drop,if_pos hk]
 have f0:b.G.flatMap StG.heap=(b.G.take k).flatMap StG.heap++((st.Hp++st.Hb)++(b.G.drop (k+1)).flatMap StG.heap):=by
  conv=>lhs;rw[e0]
  rw[List.flatMap_append,List.flatMap_cons]
  rfl
 have f1:∀ st',(b.putS k st').G.flatMap StG.heap=(b.G.take k).flatMap StG.heap++((st'.Hp++st'.Hb)++(b.G.drop (k+1)).flatMap StG.heap):=by
  intro st'
  show (b.G.set k st').flatMap StG.heap=_
  rw[e1,List.flatMap_append,List.flatMap_cons]
  rfl
 refine⟨b.Hf++(b.Hz++((b.G.take k).flatMap StG.heap++(b.G.drop (k+1)).flatMap StG.heap)),⟨fun g=>?_,fun x=>?_⟩,fun st'=>⟨fun g=>?_,fun x=>?_⟩⟩
 ·unfold BandG.heap
  rw[f0]
  simp only[cnt_append,cnt_cons]
  omega
 ·unfold BandG.heap
  rw[f0]
  simp only[List.mem_append,List.mem_cons]
  grind
 ·unfold BandG.heap
  rw[f1]
  simp only[cnt_append,cnt_cons]
  show _+(_+(cnt g b.Hf+(cnt g b.Hz+_)))=_
  have e2:(statesB (b.putS k st') d).g=d.lb:=rfl
  have e3:(bandB (b.putS k st') d).g=(bandB b d).g:=rfl
  rw[e2,e3]
  omega
 ·unfold BandG.heap
  rw[f1]
  have e2:statesB (b.putS k st') d=⟨d.lb,69,((b.G.set k st').flatMap StG.v).toArray⟩:=rfl
  have e3:bandB (b.putS k st') d=bandB b d:=rfl
  have e4:(b.putS k st').Hf=b.Hf:=rfl
  have e5:(b.putS k st').Hz=b.Hz:=rfl
  rw[e2,e3,e4,e5]
  simp only[List.mem_append,List.mem_cons]
  grind
theorem take_set {b:BandG} {d:BandA} {k:Nat} {s1 s2:StG} {w0 V:World} {H0 A R:List HB} (hk:k<b.G.length) (m:Mv w0 H0 V (A++⟨d.lb,69,((b.G.set k s1).flatMap StG.v).toArray⟩::R)) (i:Nat) (x:Value) (hi:i<5) (hv:s2.v=s1.v.set i x) :
  Mv w0 H0 (V.setCell ⟨d.lb,k * 5+i,none⟩ x) (A++⟨d.lb,69,((b.G.set k s2).flatMap StG.v).toArray⟩::R):=by
 have m2:=Mv.setAt m (k * 5+i) x
 have e:((b.G.set k s1).flatMap StG.v).toArray.setIfInBounds (k * 5+i) x=((b.G.set k s2).flatMap StG.v).toArray:=by
  rw[List.setIfInBounds_toArray,flat_set StG.v 5 StG.v_length (b.G.set k s1) k s1 _ (List.getElem?_set_self hk) i hi x hv,List.set_set]
 rw[e] at m2
 exact m2
def passGo (style e:Nat):Nat→List (Int × Bool)→List (Int × Bool)
 | 0,ps=>ps
 | p+1,ps=>passGo style e p (ps++[((e:Int),endsM style ps.length)])
def takeM (style:Nat) (s:StM) (p:Nat) (data:List UInt8):StM:={ s with bs:=s.bs++data,ps:=passGo style (s.bs++data).length p s.ps }
theorem passGo_inv (style e:Nat) (he:e≤100000000):∀ (p:Nat) (ps:List (Int × Bool)),(∀ q∈ps,0≤q.1∧q.1≤100000000)→(passGo style e p ps).length=ps.length+p∧∀ q∈passGo style e p ps,0≤q.1∧q.1≤100000000
 | 0,ps,h=>⟨rfl,h⟩
 | p+1,ps,h=>by
  obtain⟨h1,h2⟩:=passGo_inv style e he p (ps++[((e:Int),endsM style ps.length)]) (by
   intro q hq
   rcases List.mem_append.1 hq with hq | hq
   ·exact h q hq
   ·simp only[List.mem_singleton] at hq
    subst hq
    exact⟨by simp only;omega,by simp only;omega⟩)
  exact⟨by show (passGo style e p _).length=_;rw[h1,List.length_append,List.length_cons,List.length_nil];omega,h2⟩
theorem take_r1 (K:Act→World→Prop) (k g lk nb nd bc dc:Nat) (ba da:Option Addr) (bs data:List UInt8) (Hb R H0:List HB) (w0 w:World) (s0 s1 s4 s5 s6 s7 s8 s9 s10 s11 s12 s13 s14 s15 s16 s17 s18 s19 s20 s21 s22 s23 s24 s25 s26 s27 s28 s29 s30 s31 s32 s33 s34 s35 s36 s37 s38 s39 s40 s41 s42 s43 s44 s45 s46 s47 s48 s49 s50 s51 s52 s53 s54 s55 s56 s57 s58 s59:Value)
  (CE:Hid (∀ V A',Mv w0 H0 V (A'++R)→V.cell? ⟨g,0,none⟩=some (.pointer (some ⟨lk,k * 5,none⟩))∧V.cell? ⟨lk,k * 5+2,none⟩=some (.slice ba nb bc)∧V.frozen? ⟨lk,k * 5+2,none⟩=false)) (hnb:bs.length=nb) (hnd:data.length=nd) (hrow:RowB (.slice ba nb bc) bs Hb) (hd:BV w (.slice da nd dc) data) (hl:bs.length+data.length≤100000000) (hM:Mv w0 H0 w (Hb++R))
  (hK:∀ (t6 t7 t8 t9 t10 t11 t12 t13 t14 t15 t16 t17 t18 t19 t20:Value) (a2:Option Addr) (c2:Nat) (H2:List HB) (w2:World),RowB (.slice a2 (nb+nd) c2) (bs++data) H2→Mv w0 H0 w2 (H2++R)→K ⟨List.toArray (s0::s1::(.slice da nd dc)::(.pointer (some ⟨g,0,none⟩))::s4::s5::t6::t7::t8::t9::t10::t11::t12::t13::t14::t15::t16::t17::t18::t19::t20::s21::s22::s23::s24::s25::s26::s27::s28::s29::s30::s31::s32::s33::s34::s35::s36::s37::s38::s39::s40::s41::s42::s43::s44::s45::s46::s47::s48::s49::s50::s51::s52::s53::s54::s55::s56::s57::s58::s59::[]),[]⟩ (w2.setCell ⟨lk,k * 5+2,none⟩ (.slice a2 (nb+nd) c2))) :
  (regionOf 1 Tryz.f41).wp Tryz.prog (Exit.then K noQ) ⟨List.toArray (s0::s1::(.slice da nd dc)::(.pointer (some ⟨g,0,none⟩))::s4::s5::s6::s7::s8::s9::s10::s11::s12::s13::s14::s15::s16::s17::s18::s19::s20::s21::s22::s23::s24::s25::s26::s27::s28::s29::s30::s31::s32::s33::s34::s35::s36::s37::s38::s39::s40::s41::s42::s43::s44::s45::s46::s47::s48::s49::s50::s51::s52::s53::s54::s55::s56::s57::s58::s59::[]),[]⟩ w:=by
 conv in (regionOf _ _)=>whnf
 unfold noQ
 obtain⟨x0,x2,x3⟩:=CE.out w.drew Hb hM.drew
 have KA:=Lib.hid (And.intro hrow (And.intro hM.drew (And.intro (show BV w.drew (.slice da nd dc) data from hd) hl)))
 have HK:=Lib.hid hK
 have HN:=Lib.hid (And.intro hnb hnd)
 clear hK hrow hM hd hl hnb hnd
 go_region_law (first
  | ((with_reducible refine step_appB (o:=⟨some 17,_,_,_,_,_⟩) (v:=.slice ba nb bc) (u:=.slice da nd dc) (l:=bs) (r:=data) (H:=Hb) rfl (.tmp 15) (.tmp 16) rfl ?_ ?_ KA.out.1 KA.out.2.1.sat.left KA.out.2.2.1 KA.out.2.2.2 ?_);simp[Act.eval];simp[Act.eval];intro v2 w2 H2 hr2 m2;obtain⟨a2,c2,rfl⟩:=hr2.slice;rw[List.length_append,HN.out.1,HN.out.2] at hr2 ⊢;have K2:=Lib.hid (And.intro hr2 (Mv.call KA.out.2.1 m2));(have y0:w2.cell? ⟨g,0,none⟩=some (.pointer (some ⟨lk,k * 5,none⟩)):=(CE.out w2 H2 K2.out.2).1);(have y2:w2.cell? ⟨lk,k * 5+2,none⟩=some (.slice ba nb bc):=(CE.out w2 H2 K2.out.2).2.1);(have y3:w2.frozen? ⟨lk,k * 5+2,none⟩=false:=(CE.out w2 H2 K2.out.2).2.2);clear hr2 m2))
 all_goals exact HK.out _ _ _ _ _ _ _ _ _ _ _ _ _ _ _ a2 c2 H2 w2 K2.out.1 K2.out.2
theorem take_any (d:BandA) (b:BandG) (k style p n:Nat) (st:StG) (data:List UInt8) (v:Value) (w:World) (ok:b.ok d) (hkn:k<d.n) (hst:b.G[k]?=some st) (hs:Sat w (b.heap d)) (hv:BV w v data) (hs63:style≤63) (hp:st.m.ps.length+p≤1000) (hb:st.m.bs.length+data.length≤10000000) :
  Calls Tryz.prog 41 #[.agg #[.pointer (some ⟨d.lb,k * 5,none⟩),.pointer (some ⟨d.bb,0,none⟩),.int .i64 (k:Int),.int .i64 (p:Int),.int .i64 (n:Int)],.int .i64 (style:Int),v] w fun e w'=>e=.returned (.tuple #[]) ∧
   ∃ b':BandG,b'.ok d∧b'.model={ b.model with ss:=b.model.ss.set k (takeM style st.m p data) }∧Mv w (b.heap d) w' (b'.heap d):=by
 have hkk:k<4096:=Nat.lt_of_lt_of_le hkn ok.small
 have hso:=ok.st st (List.mem_of_getElem? hst)
 obtain⟨pa,pc,hvp⟩:=hso.passes
 obtain⟨ba,bc,hvb⟩:=hso.2.1.slice
 obtain⟨R,sm,smb⟩:=BandG.open_st (d:=d) hst
 obtain⟨g,hg⟩:∃ g,w.heap.size=g:=⟨_,rfl⟩
 obtain⟨w1,hw1⟩:∃ w1,w1=w.alloc (.cells #[.pointer (some ⟨d.lb,k * 5,none⟩),.pointer (some ⟨d.bb,0,none⟩),.int .i64 (k:Int),.int .i64 (p:Int),.int .i64 (n:Int)] 96):=⟨_,rfl⟩
 obtain⟨BB,hBB⟩:∃ BB:HB,BB=⟨g,96,#[.pointer (some ⟨d.lb,k * 5,none⟩),.pointer (some ⟨d.bb,0,none⟩),.int .i64 (k:Int),.int .i64 (p:Int),.int .i64 (n:Int)]⟩:=⟨_,rfl⟩
 have M1:Mv w (b.heap d) w1 (BB::(bandB b d::statesB b d::(st.Hp++(st.Hb++R)))):=by
  have m:=(sm.mv (Mv.refl hs)).alloc 96 #[.pointer (some ⟨d.lb,k * 5,none⟩),.pointer (some ⟨d.bb,0,none⟩),.int .i64 (k:Int),.int .i64 (p:Int),.int .i64 (n:Int)]
  rw[hg,← hw1,← hBB] at m
  exact m
 have V1:BV w1 v data:=by rw[hw1];exact hv.keep ((Below.refl _ _).alloc (Nat.le_refl _) _)
 have hkl:k<b.G.length:=(List.getElem?_eq_some_iff.1 hst).1
 obtain⟨ST,hST⟩:∃ ST:StG→HB,ST=fun s=>⟨d.lb,69,((b.G.set k s).flatMap StG.v).toArray⟩:=⟨_,rfl⟩
 have hST0:statesB b d=ST st:=by rw[hST];simp only[set_self_get hst];rfl
 rw[hST0] at M1
 have CE:Hid (∀ V (s1:StG) (A B1:List HB),Mv w (b.heap d) V (A++(BB::(bandB b d::(ST s1::B1))))→(V.cell? ⟨g,0,none⟩=some (.pointer (some ⟨d.lb,k * 5,none⟩))∧V.cell? ⟨g,3,none⟩=some (.int .i64 (p:Int)))∧V.cell? ⟨d.lb,k * 5+1,none⟩=some s1.vp∧V.cell? ⟨d.lb,k * 5+2,none⟩=some s1.vb∧V.frozen? ⟨d.lb,k * 5+1,none⟩=false∧V.frozen? ⟨d.lb,k * 5+2,none⟩=false):=Lib.hid (by
  intro V s1 A B1 m
  have s:=m.sat.right
  have b0:=s.at_ 0 (by rw[hBB];rfl)
  have b2:=s.at_ 2 (by rw[hST];rfl)
  obtain⟨-,z1,z2,-,-,z5⟩:=state_cells b2 (List.getElem?_set_self hkl)
  exact⟨⟨b0.cell 0,b0.cell 3⟩,z1,z2,z5 _,z5 _⟩)
 have SET:Hid (∀ V (s1 s2:StG) (A B1:List HB),Mv w (b.heap d) V (A++(BB::(bandB b d::(ST s1::B1))))→∀ i x,i<5→s2.v=s1.v.set i x→Mv w (b.heap d) (V.setCell ⟨d.lb,k * 5+i,none⟩ x) (A++(BB::(bandB b d::(ST s2::B1))))):=Lib.hid (by
  intro V s1 s2 A B1 m i x hi hv2
  rw[hST] at m ⊢
  have m2:=take_set (A:=A++[BB,bandB b d]) (s2:=s2) hkl (by simpa only[List.append_assoc,List.cons_append,List.nil_append] using m) i x hi hv2
  simpa only[List.append_assoc,List.cons_append,List.nil_append] using m2)
 have FIN:Hid (∀ (s1:StG) V,s1.ok→Mv w (b.heap d) V (BB::(bandB b d::(ST s1::(s1.Hp++(s1.Hb++R)))))→(b.putS k s1).ok d∧(b.putS k s1).model={ b.model with ss:=b.model.ss.set k s1.m }∧Mv w (b.heap d) V ((b.putS k s1).heap d)):=Lib.hid (by
  intro s1 V hs1 m
  refine⟨BandG.putS_ok ok hs1,BandG.putS_model _ _ _,(smb s1).symm.mv ?_⟩
  rw[hST] at m
  exact m.drop1)
 have hHW:=Lib.hid hw1
 obtain⟨np,hnp⟩:∃ np,st.m.ps.length=np:=⟨_,rfl⟩
 obtain⟨nb,hnb⟩:∃ nb,st.m.bs.length=nb:=⟨_,rfl⟩
 obtain⟨nd,hnd⟩:∃ nd,data.length=nd:=⟨_,rfl⟩
 rw[hnp] at hvp hp
 rw[hnb] at hvb hb
 rw[hnd] at hb
 have V1':=V1
 obtain⟨da,dc,hdv,-⟩:=V1'
 rw[hnd] at hdv
 subst hdv
 have KI:=Lib.hid (And.intro ok (And.intro hso (And.intro M1 (And.intro V1 (And.intro hnp (And.intro hnb hnd))))))
 have hHp:=Lib.hid (And.intro hvp hvb)
 clear ok hso M1 V1 hw1 hs sm smb hBB hST hST0 hv hst hvp hvb
 go_enter Tryz.func41,Tryz.ntmps41
 go_upto_region 1 with fail
 rw[← hHW.out]
 clear hHW
 have RB:RowB (.slice ba nb bc) st.m.bs st.Hb:=by have h:=KI.out.2.1.2.1;rw[hHp.out.2] at h;exact h
 obtain⟨R1,hR1⟩:∃ R1,R1=BB::(bandB b d::(ST st::(st.Hp++R))):=⟨_,rfl⟩
 have M1':Mv w (b.heap d) w1 (st.Hb++R1):=by rw[hR1];exact KI.out.2.2.1.sub (fun g=>by simp only[cnt_append,cnt_cons];omega) (fun c hc=>by simp only[List.mem_append,List.mem_cons] at hc ⊢;grind)
 have CE1:Hid (∀ V A',Mv w (b.heap d) V (A'++R1)→V.cell? ⟨g,0,none⟩=some (.pointer (some ⟨d.lb,k * 5,none⟩))∧V.cell? ⟨d.lb,k * 5+2,none⟩=some (.slice ba nb bc)∧V.frozen? ⟨d.lb,k * 5+2,none⟩=false):=Lib.hid (by
  intro V A' m
  rw[hR1] at m
  obtain⟨⟨c0,-⟩,-,c2,-,c5⟩:=CE.out V st A' _ m
  exact⟨c0,c2.trans (by rw[hHp.out.2]),c5⟩)
 refine wp_piece (take_r1 _ k g d.lb nb nd bc dc ba da st.m.bs data st.Hb R1 (b.heap d) w w1 _ _ _ _ _ _ _ _ _ _ _ _ _ _ _ _ _ _ _ _ _ _ _ _ _ _ _ _ _ _ _ _ _ _ _ _ _ _ _ _ _ _ _ _ _ _ _ _ _ _ _ _ _ _ _ _ _ _ CE1 KI.out.2.2.2.2.2.1 KI.out.2.2.2.2.2.2 RB KI.out.2.2.2.1 (by rw[KI.out.2.2.2.2.2.1,KI.out.2.2.2.2.2.2];omega) M1' ?_)
 rintro _ _ _ _ _ _ _ _ _ _ _ _ _ _ _ a2 c2 H2 w2 hr2 m2
 rw[hR1] at m2
 obtain⟨e,he⟩:∃ e,(st.m.bs++data).length=e:=⟨_,rfl⟩
 have hee:e=nb+nd:=by rw[← he,List.length_append,KI.out.2.2.2.2.2.1,KI.out.2.2.2.2.2.2]
 rw[← hee] at hr2 ⊢
 obtain⟨s1,hs1⟩:∃ s1:StG,s1=⟨{ st.m with bs:=st.m.bs++data },st.vp,.slice a2 e c2,st.Hp,H2⟩:=⟨_,rfl⟩
 have M3:Mv w (b.heap d) (w2.setCell ⟨d.lb,k * 5+2,none⟩ (.slice a2 e c2)) (BB::(bandB b d::(ST s1::(s1.Hp++(s1.Hb++R))))):=by
  have m:=SET.out w2 st s1 H2 (st.Hp++R) m2 2 (.slice a2 e c2) (by omega) (by rw[hs1];rfl)
  rw[show s1.Hp=st.Hp by rw[hs1],show s1.Hb=H2 by rw[hs1]]
  exact m.sub (fun g=>by simp only[cnt_append,cnt_cons];omega) (fun c hc=>by simp only[List.mem_append,List.mem_cons] at hc ⊢;grind)
 obtain⟨w3,hw3⟩:∃ w3,w3=w2.setCell ⟨d.lb,k * 5+2,none⟩ (.slice a2 e c2):=⟨_,rfl⟩
 rw[← hw3] at M3 ⊢
 have hs1ok:s1.ok:=by
  have h:=KI.out.2.1
  rw[hs1]
  refine⟨h.1,?_,⟨h.2.2.np,by simp only;omega,h.2.2.pl,h.2.2.said,h.2.2.lb,h.2.2.ends⟩⟩
  show RowB (.slice a2 e c2) (st.m.bs++data) H2
  exact hr2
 obtain⟨⟨-,x3⟩,-⟩:=CE.out w3 s1 [] _ M3
 have K3:=Lib.hid (And.intro M3 (And.intro hs1ok (And.intro hs1 he)))
 clear hw3 M3 hs1ok hr2 m2 CE1 M1' hR1 RB hs1
 go_upto_region 3 with fail
 clear x3
 go_loopg [23] p (fun gg s23 wx=>∃ (j:Nat) (s2:StG),j≤p∧gg=p - j∧s23=.int .i64 (j:Int)∧s2.ok∧s2.m={ st.m with bs:=st.m.bs++data,ps:=s2.m.ps }∧s2.vb=.slice a2 e c2∧s2.m.ps.length=np+j∧passGo style e p st.m.ps=passGo style e (p - j) s2.m.ps∧Mv w (b.heap d) wx (BB::(bandB b d::(ST s2::(s2.Hp++(s2.Hb++R))))))
 case atStart =>
  have h:=K3.out.2.2.1
  refine⟨0,s1,Nat.zero_le _,rfl,rfl,K3.out.2.1,by rw[h],by rw[h],by rw[h];exact KI.out.2.2.2.2.1,by rw[h];rfl,K3.out.1⟩
 case round =>
  obtain⟨wb,rfl⟩:∃ wb:World,wb=wr:=⟨_,rfl⟩
  obtain⟨j,s2,hj,rfl,rfl,ok2,hm2,hvb2,hl2,hE,M4⟩:=hrel
  by_cases hlt:j<p
  ·have hlt2:(j:Int)<(p:Int):=by omega
   obtain⟨pa2,pc2,hvp2⟩:=ok2.passes
   rw[hl2] at hvp2
   obtain⟨R',hR'⟩:∃ R',R'=BB::(bandB b d::(ST s2::(s2.Hb++R))):=⟨_,rfl⟩
   have hM:Mv w (b.heap d) wb (s2.Hp++R'):=by rw[hR'];exact M4.sub (fun g=>by simp only[cnt_append,cnt_cons];omega) (fun c hc=>by simp only[List.mem_append,List.mem_cons] at hc ⊢;grind)
   have CE2:Hid (∀ V A',Mv w (b.heap d) V (A'++R')→V.cell? ⟨g,0,none⟩=some (.pointer (some ⟨d.lb,k * 5,none⟩))∧V.cell? ⟨d.lb,k * 5+1,none⟩=some (.slice pa2 (np+j) pc2)∧V.cell? ⟨d.lb,k * 5+2,none⟩=some (.slice a2 e c2)∧V.frozen? ⟨d.lb,k * 5+1,none⟩=false):=Lib.hid (by
    intro V A' m
    rw[hR'] at m
    obtain⟨⟨c0,-⟩,c1,c2,c4,-⟩:=CE.out V s2 A' _ m
    exact⟨c0,c1.trans (by rw[hvp2]),c2.trans (by rw[hvb2]),c4⟩)
   have hrow:RowH 142 2 (.slice pa2 (np+j) pc2) (np+j) (passesV s2.m.ps) s2.Hp:=by
    have h:=ok2.1
    rw[hvp2,hl2] at h
    exact h
   have EN:=Lib.hid (fun V=>lends_any style (np+j) V hs63 (by omega))
   obtain⟨tb,htb⟩:∃ tb,endsM style (np+j)=tb:=⟨_,rfl⟩
   rw[htb] at EN
   have hE2:passGo style e p st.m.ps=passGo style e (p - (j+1)) (s2.m.ps++[((e:Int),tb)]):=by
    rw[hE,show p - j=(p - (j+1))+1 by omega]
    show passGo style e (p - (j+1)) (s2.m.ps++[((e:Int),endsM style s2.m.ps.length)])=_
    rw[hl2,htb]
   have K4:=Lib.hid (And.intro ok2 (And.intro hm2 (And.intro hvb2 (And.intro hE2 (And.intro hrow hM)))))
   have hnpj:np+j≤1000:=by omega
   clear ok2 hm2 hvb2 hE hE2 hrow hM M4 htb hvp2
   go_upto_region 4 with fail
   refine wp_piece_end (take_r4 _ k g d.lb style (np+j) pc2 e c2 tb pa2 a2 s2.m.ps s2.Hp R' (b.heap d) w wb _ _ _ _ _ _ _ _ _ _ _ _ _ _ _ _ _ _ _ _ _ _ _ _ _ _ _ _ _ _ _ _ _ _ _ _ _ _ _ _ _ _ _ _ _ _ _ _ _ _ _ _ _ _ _ _ _ _ CE2 EN hnpj K4.out.2.2.2.2.1 K4.out.2.2.2.2.2 ?_)
   rintro _ _ _ _ _ _ _ _ _ _ _ _ _ _ _ _ _ _ _ _ _ _ _ _ _ _ _ _ _ _ u55 _ _ _ g8 HB Wp W HW h30
   obtain⟨a5,c5,rfl⟩:=RowH.slice h30
   obtain⟨h1,-,-,-,h5,-⟩:=HW
   obtain rfl:=h5 rfl
   obtain⟨s3,hs3⟩:∃ s3:StG,s3={ s2 with m:={ s2.m with ps:=s2.m.ps++[((e:Int),tb)] },vp:=.slice a5 (np+j+1) c5,Hp:=HB }:=⟨_,rfl⟩
   have M5:Mv w (b.heap d) (Wp.setCell ⟨d.lb,k * 5+1,none⟩ (.slice a5 (np+j+1) c5)) (BB::(bandB b d::(ST s3::(s3.Hp++(s3.Hb++R))))):=by
    rw[hR'] at h1
    have m:=SET.out Wp s2 s3 ([_]++HB) (s2.Hb++R) (by simpa only[oh_true,List.append_assoc] using h1) 1 (.slice a5 (np+j+1) c5) (by omega) (by rw[hs3];rfl)
    rw[show s3.Hp=HB by rw[hs3],show s3.Hb=s2.Hb by rw[hs3]]
    exact m.sub (fun g=>by simp only[cnt_append,cnt_cons,cnt_nil];omega) (fun c hc=>by simp only[List.mem_append,List.mem_cons,List.not_mem_nil,or_false] at hc ⊢;grind)
   have ok3:s3.ok:=by
    have h:=K4.out.1
    have hm:=K4.out.2.1
    have hbl:=h.2.2.nb
    have hbe:s2.m.bs.length=e:=by rw[hm];exact K3.out.2.2.2
    rw[hs3]
    refine⟨?_,h.2.1,⟨?_,h.2.2.nb,h.2.2.pl,?_,h.2.2.lb,?_⟩⟩
    ·show RowH 142 2 _ (s2.m.ps++[((e:Int),tb)]).length _ HB
     rw[List.length_append,hl2]
     exact h30
    ·show (s2.m.ps++[((e:Int),tb)]).length≤1000
     rw[List.length_append,hl2]
     simp only[List.length_cons,List.length_nil]
     omega
    ·have:=h.2.2.said
     show 0≤s2.m.said∧s2.m.said≤((s2.m.ps++[((e:Int),tb)]).length:Nat)
     rw[List.length_append]
     simp only[List.length_cons,List.length_nil]
     omega
    ·intro q hq
     rcases List.mem_append.1 hq with hq | hq
     ·exact h.2.2.ends q hq
     ·simp only[List.mem_singleton] at hq
      subst hq
      exact⟨by simp only;omega,by simp only;omega⟩
   have K5:=Lib.hid (And.intro M5 (And.intro ok3 hs3))
   clear M5 ok3 h1 h30 h5
   obtain⟨w5,hw5⟩:∃ w5,w5=Wp.setCell ⟨d.lb,k * 5+1,none⟩ (.slice a5 (np+j+1) c5):=⟨_,rfl⟩
   rw[← hw5] at K5 ⊢
   clear hw5
   go_wp2_with fail
   go_roundg (p - (j+1))
   case measure=>omega
   case rel =>
    have h:=K5.out.2.2
    have hm:=K4.out.2.1
    refine⟨j+1,s3,by omega,rfl,by push_cast;rfl,K5.out.2.1,?_,by rw[h];exact K4.out.2.2.1,?_,by rw[h];exact K4.out.2.2.2.1,K5.out.1⟩
    ·rw[h]
     simp only
     rw[hm]
    ·rw[h]
     show (s2.m.ps++[((e:Int),tb)]).length=_
     rw[List.length_append,hl2]
     rfl
  ·obtain rfl:j=p:=by omega
   have hlt2:¬ (j:Int)<(j:Int):=by omega
   have hE2:s2.m=takeM style st.m j data:=by
    rw[hm2]
    unfold takeM
    rw[K3.out.2.2.2,hE,Nat.sub_self]
    rfl
   have KF:=Lib.hid (And.intro (FIN.out s2 wb ok2 M4) hE2)
   clear ok2 hm2 hvb2 hl2 hE M4 hE2
   go_wp2_with fail
   go_end0
   obtain⟨⟨q1,q2,q3⟩,q4⟩:=KF.out
   rw[q4] at q2
   first
    | exact⟨rfl,b.putS k s2,q1,q2,q3⟩
    | exact⟨b.putS k s2,rfl,q1,q2,q3⟩
end
section
open Go.RowKit Go.Shelf
attribute [local go_sem] Oper.semAt_some
theorem hereM_zeros (l:List UInt8) (m:BandM) (s:StM) (k layer:Nat) (r:RdM):(hereM l m s k layer r).1.zeros=m.zeros:=by
 unfold hereM
 split <;> rfl
def decX (n0:Nat) (vo:Value) (nn ee:Int):List HB:=[⟨n0+2,91,#[vo]⟩,⟨n0+3,3,#[.int .i64 nn]⟩,⟨n0+4,35,#[.int .i64 ee]⟩]
def decZ (box rbx rb n0:Nat) (A:Option Addr) (nD c:Nat) (style layer:Int):List HB :=
 [⟨box,26,#[.slice A nD c]⟩,⟨rbx,165,#[.pointer (some ⟨rb,0,none⟩)]⟩,⟨n0+1,3,#[.int .i64 layer]⟩,⟨n0,3,#[.int .i64 style]⟩]
theorem decX_no (n0:Nat) (vo:Value) (nn ee:Int):NoSpot (decX n0 vo nn ee):=by
 intro x hx
 simp only[decX,List.mem_cons,List.not_mem_nil,or_false] at hx
 rcases hx with rfl | rfl | rfl
 ·exact(show 91≠66 by decide)
 ·exact(show 3≠66 by decide)
 ·exact(show 35≠66 by decide)
theorem decZ_no (box rbx rb n0:Nat) (A:Option Addr) (nD c:Nat) (style layer:Int):NoSpot (decZ box rbx rb n0 A nD c style layer):=by
 intro x hx
 simp only[decZ,List.mem_cons,List.not_mem_nil,or_false] at hx
 rcases hx with rfl | rfl | rfl | rfl
 ·exact(show 26≠66 by decide)
 ·exact(show 165≠66 by decide)
 ·exact(show 3≠66 by decide)
 ·exact(show 3≠66 by decide)
def decP2 (box rbx rb n0:Nat) (A:Option Addr) (c:Nat) (D:List BandA) (l:List UInt8) (style layer:Nat) (HL:List HB) (S0:DecS) (pre:List (SpotIn D)) (H:List HB):Prop :=
 ∃ (S:DecS) (HR Ho:List HB) (vo:Value) (HB':List HB),foldD l style layer (some S0) (pre.map (·.1))=some S∧H=(HR++((decX n0 vo 0 0++decZ box rbx rb n0 A D.length c style layer)++(Ho++HL)))++HB' ∧
  ReadH rb l S.rd HR∧RowPc vo S.out Ho∧BandsR D S.M HB'∧(∀ d∈D,GoodR (S.M d.bb))∧S.rd.left≤8∧S.rd.begun≤90000 * pre.length+10∧S.out.length≤178 * pre.length
def decPX (n0:Nat) (D:List BandA) (l:List UInt8) (style layer:Nat) (S0:DecS) (pre:List (SpotIn D)) (H:List HB):Prop :=
 foldD l style layer (some S0) (pre.map (·.1))=none∧H=decX n0 (.slice none 0 0) 0 10
theorem dec_round (l0:Nat) (D:List BandA) (A:Option Addr) (c box rbx rb n0 B:Nat) (HL:List HB) (l:List UInt8) (style layer:Nat) (S0:DecS) (pre:List (SpotIn D)) (x:SpotX) (hx:x∈spotsOf D) (w:World) (H:List HB) (s0 s1 s2 s3 s4 s7 s13 s14 s15 s16 s17 s18 s19 s20 s21 s22 s23 s24 s25 s26 s27 s28 s29 s30 s31 s32 s33 s34 s35 s36 s37 s38 s39 s40 s41 s42 s43 s44 s45 s46 s47:Value)
  (hP:decP2 box rbx rb n0 A c D l style layer HL S0 pre H) (hs:Sat w (⟨B,66,x.cells⟩::H)) (hlen:pre.length<200) (hst:style≤63) (hly:layer≤100) (hll:l.length≤90000000) :
  (blockR 1 Tryz.f39).wpIn (Fence.wide.inRound l0) 6 Tryz.prog (spPost w (⟨B,66,x.cells⟩::H) (decP2 box rbx rb n0 A c D l style layer HL S0) (decPX n0 D l style layer S0) (pre++[⟨x,hx⟩]))
   ⟨List.toArray (s0::s1::s2::s3::s4::(.pointer (some ⟨n0,0,none⟩))::(.pointer (some ⟨n0+1,0,none⟩))::s7::(.pointer (some ⟨n0+2,0,none⟩))::(.pointer (some ⟨n0+3,0,none⟩))::(.pointer (some ⟨n0+4,0,none⟩))::(.pointer (some ⟨rbx,0,none⟩))::(.pointer (some ⟨B,0,none⟩))::s13::s14::s15::s16::s17::s18::s19::s20::s21::s22::s23::s24::s25::s26::s27::s28::s29::s30::s31::s32::s33::s34::s35::s36::s37::s38::s39::s40::s41::s42::s43::s44::s45::s46::s47::[]),[]⟩ w:=by
 conv in (blockR _ _)=>whnf
 obtain⟨S,HR,Ho,vo,HB1,hS,rfl,hr,ho,hB,hg,h8,hbg,hol⟩:=hP
 obtain⟨hxd,hxk⟩:=mem_spots hx
 obtain⟨d,k⟩:=x
 simp only at hxd hxk
 obtain⟨PS,hPS⟩:∃ PS,spPost w (⟨B,66,SpotX.cells ⟨d,k⟩⟩::((HR++((decX n0 vo 0 0++decZ box rbx rb n0 A D.length c style layer)++(Ho++HL)))++HB1)) (decP2 box rbx rb n0 A c D l style layer HL S0) (decPX n0 D l style layer S0) (pre++[⟨⟨d,k⟩,hx⟩])=PS:=⟨_,rfl⟩
 have LP:Hid (¬LetsOut PS):=Lib.hid (by rw[← hPS];rintro⟨a,w,h⟩;exact h)
 rw[hPS]
 obtain⟨bd,e1,e2,-⟩:=hB.band hxd
 have hsl:(S.M d.bb).ss.length=d.n:=by rw[← e1];show (bd.G.map _).length=_;rw[List.length_map];exact e2.len
 have hkn:k<4096:=Nat.lt_of_lt_of_le hxk e2.small
 clear e1 e2 bd
 obtain⟨s,hss⟩:∃ s,(S.M d.bb).ss[k]?=some s:=⟨_,List.getElem?_eq_getElem (by rw[hsl];exact hxk)⟩
 obtain⟨F1,F2,F3⟩:=step_fits hB hxd hss
 have GB:=hg d hxd
 obtain⟨i1,i2,i3,i4⟩:=hereM_inv l (S.M d.bb) s k layer S.rd h8 F2 hly GB
 obtain⟨hm,hhm⟩:∃ hm,hereM l (S.M d.bb) s k layer S.rd=hm:=⟨_,rfl⟩
 rw[hhm] at i1 i2 i3 i4
 have hstep:foldD l style layer (some S0) ((pre++[(⟨⟨d,k⟩,hx⟩:SpotIn D)]).map (fun x=>x.1))=stepD l style layer S ⟨d,k⟩:=by
  rw[List.map_append]
  show foldD l style layer (some S0) (pre.map (fun x=>x.1)++[⟨d,k⟩])=_
  rw[foldD_snoc,hS]
  rfl
 have hsd:stepD l style layer S ⟨d,k⟩=if hm.2.1=false then some ⟨updM S.M d.bb hm.1,S.out,hm.2.2⟩ else (readM l style hm.1 d k s hm.2.2).map fun q=>⟨updM S.M d.bb q.1,S.out++q.2.1,q.2.2⟩:=by
  unfold stepD
  simp only[hss,hhm]
 rw[hsd] at hstep
 obtain⟨XX,hXX⟩:∃ XX:Value→Int→Int→List HB,XX=fun v a e=>⟨B,66,SpotX.cells ⟨d,k⟩⟩::(decX n0 v a e++decZ box rbx rb n0 A D.length c style layer):=⟨_,rfl⟩
 obtain⟨HH,hHH⟩:∃ HH,HH=⟨B,66,SpotX.cells ⟨d,k⟩⟩::((HR++((decX n0 vo 0 0++decZ box rbx rb n0 A D.length c style layer)++(Ho++HL)))++HB1):=⟨_,rfl⟩
 have M0:Mv w HH w ((HR++(XX vo 0 0++(Ho++HL)))++HB1):=by
  have m:Mv w HH w HH:=Mv.refl (by rw[hHH];exact hs)
  refine m.sub (fun g=>?_) (fun y hy=>?_)
  ·rw[hHH,hXX];simp only[cnt_append,cnt_cons];omega
  ·rw[hXX] at hy;rw[hHH];simp only[List.mem_append,List.mem_cons] at hy ⊢;grind
 have BX:Hid (∀ w' v a e A' R',Mv w HH w' (A'++(XX v a e++R'))→(w'.cell? ⟨B,0,none⟩=some (.pointer (some ⟨d.lb,k * 5,none⟩))∧w'.cell? ⟨B,1,none⟩=some (.pointer (some ⟨d.bb,0,none⟩))∧w'.cell? ⟨B,2,none⟩=some (.int .i64 (k:Int)))∧(w'.cell? ⟨n0+2,0,none⟩=some v∧w'.frozen? ⟨n0+2,0,none⟩=false∧w'.cell? ⟨n0+3,0,none⟩=some (.int .i64 a)∧w'.frozen? ⟨n0+3,0,none⟩=false∧w'.cell? ⟨n0+4,0,none⟩=some (.int .i64 e)∧w'.frozen? ⟨n0+4,0,none⟩=false) ∧
   w'.cell? ⟨rbx,0,none⟩=some (.pointer (some ⟨rb,0,none⟩))∧w'.cell? ⟨n0+1,0,none⟩=some (.int .i64 (layer:Int))∧w'.cell? ⟨n0,0,none⟩=some (.int .i64 (style:Int))):=Lib.hid (by
  intro w' v a e A' R' m
  have a0:Sat w' (XX v a e):=m.sat.right.left
  rw[hXX] at a0
  have b0:=a0.at_ 0 rfl
  have b1:=a0.at_ 1 rfl
  have b2:=a0.at_ 2 rfl
  have b3:=a0.at_ 3 rfl
  have b5:=a0.at_ 5 rfl
  have b6:=a0.at_ 6 rfl
  have b7:=a0.at_ 7 rfl
  exact⟨⟨b0.cell 0,b0.cell 1,b0.cell 2⟩,⟨b1.cell 0,b1.frozen 0,b2.cell 0,b2.frozen 0,b3.cell 0,b3.frozen 0⟩,b5.cell 0,b6.cell 0,b7.cell 0⟩)
 have FIN:Hid (∀ (S':DecS) (a:Act) (w4:World) (HR' Ho':List HB) (v:Value) (HB':List HB),foldD l style layer (some S0) ((pre++[(⟨⟨d,k⟩,hx⟩:SpotIn D)]).map (fun x=>x.1))=some S'→ReadH rb l S'.rd HR'→RowPc v S'.out Ho'→BandsR D S'.M HB'→(∀ d∈D,GoodR (S'.M d.bb))→S'.rd.left≤8→S'.rd.begun≤S.rd.begun+90000→S'.out.length≤S.out.length+178→Mv w HH w4 ((HR'++(XX v 0 0++(Ho'++HL)))++HB')→PS .normal a w4):=Lib.hid (by
  intro S' a w4 HR' Ho' v HB' g0 g1 g2 g3 g4 g5 g6 g7 m4
  rw[← hPS]
  refine⟨(HR'++((decX n0 v 0 0++decZ box rbx rb n0 A D.length c style layer)++(Ho'++HL)))++HB',⟨S',HR',Ho',v,HB',g0,rfl,g1,g2,g3,g4,g5,?_,?_⟩,?_⟩
  ·simp only[List.length_append,List.length_cons,List.length_nil];omega
  ·simp only[List.length_append,List.length_cons,List.length_nil];omega
  ·rw[← hHH]
   refine m4.sub (fun g=>?_) (fun y hy=>?_)
   ·rw[hXX];simp only[cnt_append,cnt_cons];omega
   ·rw[hXX];simp only[List.mem_append,List.mem_cons] at hy ⊢;grind)
 have FIX:Hid (∀ (a:Act) (w4:World) (R':List HB),foldD l style layer (some S0) ((pre++[(⟨⟨d,k⟩,hx⟩:SpotIn D)]).map (fun x=>x.1))=none→Mv w HH w4 (XX (.slice none 0 0) 0 10++R')→PS .ret a w4):=Lib.hid (by
  intro a w4 R' g0 m4
  rw[← hPS]
  refine⟨_,⟨g0,rfl⟩,?_⟩
  rw[← hHH]
  refine m4.sub (fun g=>?_) (fun y hy=>?_)
  ·rw[hXX];simp only[cnt_append,cnt_cons];omega
  ·rw[hXX];simp only[List.mem_append,List.mem_cons] at hy ⊢;grind)
 have SV:Hid (∀ w' v a e A' R',Mv w HH w' (A'++(XX v a e++R'))→(∀ v',Mv w HH (w'.setCell ⟨n0+2,0,none⟩ v') (A'++(XX v' a e++R')))∧(∀ a',Mv w HH (w'.setCell ⟨n0+3,0,none⟩ (.int .i64 a')) (A'++(XX v a' e++R')))∧(∀ e',Mv w HH (w'.setCell ⟨n0+4,0,none⟩ (.int .i64 e')) (A'++(XX v a e'++R')))):=Lib.hid (by
  intro w' v a e A' R' m
  rw[hXX] at m ⊢
  simp only[decX,decZ] at m ⊢
  refine⟨fun v'=>?_,fun a'=>?_,fun e'=>?_⟩
  ·have m1:Mv w HH w' ((A'++[⟨B,66,SpotX.cells ⟨d,k⟩⟩])++⟨n0+2,91,#[v]⟩::(⟨n0+3,3,#[.int .i64 a]⟩::(⟨n0+4,35,#[.int .i64 e]⟩::(decZ box rbx rb n0 A D.length c style layer++R')))):=by simpa only[decZ,List.append_assoc,List.cons_append,List.nil_append] using m
   have m2:=Mv.setAt m1 0 v'
   rw[show (#[v]:Array Value).setIfInBounds 0 v'=#[v'] from rfl] at m2
   simpa only[decZ,List.append_assoc,List.cons_append,List.nil_append] using m2
  ·have m1:Mv w HH w' ((A'++[⟨B,66,SpotX.cells ⟨d,k⟩⟩,⟨n0+2,91,#[v]⟩])++⟨n0+3,3,#[.int .i64 a]⟩::(⟨n0+4,35,#[.int .i64 e]⟩::(decZ box rbx rb n0 A D.length c style layer++R'))):=by simpa only[decZ,List.append_assoc,List.cons_append,List.nil_append] using m
   have m2:=Mv.setAt m1 0 (.int .i64 a')
   rw[show (#[.int .i64 a]:Array Value).setIfInBounds 0 (.int .i64 a')=#[.int .i64 a'] from rfl] at m2
   simpa only[decZ,List.append_assoc,List.cons_append,List.nil_append] using m2
  ·have m1:Mv w HH w' ((A'++[⟨B,66,SpotX.cells ⟨d,k⟩⟩,⟨n0+2,91,#[v]⟩,⟨n0+3,3,#[.int .i64 a]⟩])++⟨n0+4,35,#[.int .i64 e]⟩::(decZ box rbx rb n0 A D.length c style layer++R')):=by simpa only[decZ,List.append_assoc,List.cons_append,List.nil_append] using m
   have m2:=Mv.setAt m1 0 (.int .i64 e')
   rw[show (#[.int .i64 e]:Array Value).setIfInBounds 0 (.int .i64 e')=#[.int .i64 e'] from rfl] at m2
   simpa only[decZ,List.append_assoc,List.cons_append,List.nil_append] using m2)
 clear hHH hPS
 obtain⟨⟨x0,x1,x2⟩,-,y0,y1,y2⟩:=BX.out w vo 0 0 HR ((Ho++HL)++HB1) (by simpa only[List.append_assoc] using M0)
 have HE:=Lib.hid (step_here hB hxd hxk hss hr M0 layer hly hll (by omega) h8)
 rw[hhm] at HE
 unfold SpotX.v at HE
 have hs2:(updM S.M d.bb hm.1 d.bb).ss[k]?=some s:=by rw[updM_same,i2];exact hss
 have g2:GoodR (updM S.M d.bb hm.1 d.bb):=by rw[updM_same];exact i1
 have gall:∀ m':BandM,GoodR m'→∀ d'∈D,GoodR (updM S.M d.bb m' d'.bb):=by
  intro m' gm d' hd'
  unfold updM
  split
  ·exact gm
  ·exact hg d' hd'
 have KS:=Lib.hid (And.intro hstep (And.intro ho (And.intro i1 (And.intro gall (And.intro hs2 g2)))))
 have RDB:S.rd.begun≤18000010:=by omega
 have hlb0:=F1.lb.1
 have hs1:hm.1.ss[k]?=some s:=by rw[i2];exact hss
 have hzl:hm.1.zeros.length≤20:=by rw[← hhm,hereM_zeros];exact F3
 clear hstep ho i1 gall hs2 g2 hss hB hr hg hS hs M0 hsd hXX
 cases hq:hm.2.1 with
 | false =>
  rw[hq] at HE
  have e1:foldD l style layer (some S0) ((pre++[(⟨⟨d,k⟩,hx⟩:SpotIn D)]).map (fun x=>x.1))=some ⟨updM S.M d.bb hm.1,S.out,hm.2.2⟩:=by rw[KS.out.1,hq,if_pos rfl]
  have E1:=Lib.hid e1
  clear e1 hq
  gi_wp2_with (refine⟨trivial,?_⟩;gi_at_call 89;refine(CallsIn.inRound l0 (callsIn_wide.2 HE.out)).mono ?_;rintro e w3 ⟨rfl,HR2,HB2,q1,q2,q3⟩;have K3:=Lib.hid (And.intro q1 (And.intro q2 q3));clear q1 q2 q3)
  exact FIN.out _ _ _ HR2 Ho vo HB2 E1.out K3.out.1 KS.out.2.1 K3.out.2.1 (KS.out.2.2.2.1 _ KS.out.2.2.1) i3 (by simp only;omega) (by simp only;omega) K3.out.2.2
 | true =>
  rw[hq] at HE
  obtain⟨qq,hqq⟩:∃ qq,readM l style hm.1 d k s hm.2.2=qq:=⟨_,rfl⟩
  have RE:Hid (∀ w3 HR2 HB2,ReadH rb l hm.2.2 HR2→BandsR D (updM S.M d.bb hm.1) HB2→Mv w HH w3 ((HR2++(XX vo 0 0++(Ho++HL)))++HB2)→Calls Tryz.prog 90 #[.agg #[.pointer (some ⟨d.lb,k * 5,none⟩),.pointer (some ⟨d.bb,0,none⟩),.int .i64 (k:Int)],.pointer (some ⟨rb,0,none⟩),.int .i64 (style:Int)] w3 (SPost D (updM S.M d.bb hm.1) d rb l w HH (XX vo 0 0++(Ho++HL)) qq)):=Lib.hid (by
   intro w3 HR2 HB2 q1 q2 q3
   have h:=step_read q2 hxd hxk KS.out.2.2.2.2.1 KS.out.2.2.2.2.2 q1 q3 style hst hll (by omega) i3
   rw[updM_same,hqq] at h
   exact h)
  have hfo:foldD l style layer (some S0) ((pre++[(⟨⟨d,k⟩,hx⟩:SpotIn D)]).map (fun x=>x.1))=qq.map fun q=>⟨updM S.M d.bb q.1,S.out++q.2.1,q.2.2⟩:=by rw[KS.out.1,hq,if_neg (by simp),hqq]
  have HFO:=Lib.hid hfo
  have QI:Hid (∀ q,qq=some q→GoodR q.1∧q.2.2.left≤8∧q.2.2.begun≤hm.2.2.begun+80000∧q.2.1.length≤178):=Lib.hid (by
   rintro q rfl
   exact readM_inv i3 hzl KS.out.2.2.1 hs1 hlb0 hqq)
  clear hfo hq
  gi_upto_region 6 with (refine⟨trivial,?_⟩;gi_at_call 89;refine(CallsIn.inRound l0 (callsIn_wide.2 HE.out)).mono ?_;rintro e w3 ⟨rfl,HR2,HB2,q1,q2,q3⟩;have K3:=Lib.hid (And.intro q1 (And.intro q2 q3));clear q1 q2 q3)
  clear x0 x1 x2 y0 y1 y2
  obtain⟨⟨x0,x1,x2⟩,-,y0,y1,y2⟩:=BX.out w3 vo 0 0 HR2 ((Ho++HL)++HB2) (by simpa only[List.append_assoc] using K3.out.2.2)
  have RC:=Lib.hid (RE.out w3 HR2 HB2 K3.out.1 K3.out.2.1 K3.out.2.2)
  clear RE HE hqq
  cases qq with
  | none =>
   gi_upto_region 8 with (refine⟨trivial,?_⟩;gi_at_call 90;refine(CallsIn.inRound l0 (callsIn_wide.2 RC.out)).mono ?_;rintro e w4 ⟨v,o,rfl,rfl,m4⟩;replace m4:=Lib.hid m4)
   obtain⟨-,⟨z1,z2,z3,z4,z5,z6⟩,-⟩:=BX.out w4 vo 0 0 [] (Ho++HL) m4.out
   have M5:=(SV.out _ _ _ _ [] _ ((SV.out _ _ _ _ [] _ ((SV.out w4 vo 0 0 [] (Ho++HL) m4.out).1 (.slice none 0 0))).2.1 0)).2.2 10
   replace M5:=Lib.hid M5
   clear x0 x1 x2 y0 y1 y2
   gi_wp2
   exact FIX.out _ _ _ HFO.out M5.out
  | some q =>
   obtain⟨q1',q2',q3',q4'⟩:=QI.out q rfl
   gi_upto_region 9 with (refine⟨trivial,?_⟩;gi_at_call 90;refine(CallsIn.inRound l0 (callsIn_wide.2 RC.out)).mono ?_;rintro e w4 ⟨v,o,rfl,rfl,HR4,Hv,HB4,p1,p2,p3,p4⟩;obtain⟨va,vc,rfl⟩:=p1.slice;have K4:=Lib.hid (And.intro p1 (And.intro p2 (And.intro p3 p4)));clear p1 p2 p3 p4)
   obtain⟨-,⟨z1,z2,-⟩,-⟩:=BX.out w4 vo 0 0 (Hv++HR4) ((Ho++HL)++HB4) (by simpa only[List.append_assoc] using K4.out.2.2.2)
   have hol2:S.out.length+q.2.1.length≤1000000:=by omega
   have so:Sat w4 Ho:=K4.out.2.2.2.sat.left.right.right.right.left
   have sv:Sat w4 Hv:=K4.out.2.2.2.sat.left.left
   have RD:Reads w4 w4.heap.size 5 va q.2.1.length (pcsV q.2.1):=Reads.of_own (RowH.owns K4.out.1 sv (B:=0) (fun _ _=>Nat.zero_le _))
   have KP:=Lib.hid (And.intro so RD)
   clear x0 x1 x2 y0 y1 y2 so sv RD
   refine round_lit (by kernel_rfl) (fun ⟨a,w,h⟩=>LP.out ⟨a,w,h⟩) ?_
   go_wp2_with (at_builtin;refine wpList_appR Tryz.underlying91 infoPc rfl (by decide) (by decide) rfl (.tmp 37) (.tmp 38) rfl vo rfl rfl KS.out.2.1 KP.out.1 KP.out.2 (pcsV_one _) hol2 ?_;intro v5 w5 Ho5 hr5 m5;obtain⟨a5,c5,rfl⟩:=hr5.slice;have M5:Mv w HH w5 ((HR4++(XX vo 0 0++(Ho5++HL)))++HB4):=(Mv.call (H:=Ho) (R:=HR4++(XX vo 0 0++(HL++HB4))) (K4.out.2.2.2.sub (fun g=>by simp only[cnt_append];omega) (fun y hy=>by simp only[List.mem_append] at hy ⊢;grind)) m5).sub (fun g=>by simp only[cnt_append];omega) (fun y hy=>by simp only[List.mem_append] at hy ⊢;grind);obtain⟨-,⟨u1,u2,-⟩,-⟩:=BX.out w5 vo 0 0 HR4 ((Ho5++HL)++HB4) (by simpa only[List.append_assoc] using M5);have K5:=Lib.hid (And.intro hr5 M5);clear hr5 m5 M5)
   have M6:=(SV.out w5 vo 0 0 HR4 ((Ho5++HL)++HB4) (by simpa only[List.append_assoc] using K5.out.2)).1 (.slice a5 (S.out.length+q.2.1.length) c5)
   refine FIN.out ⟨updM S.M d.bb q.1,S.out++q.2.1,q.2.2⟩ _ _ HR4 Ho5 (.slice a5 (S.out.length+q.2.1.length) c5) HB4 (by rw[HFO.out];rfl) K4.out.2.1 ?_ ?_ (KS.out.2.2.2.1 _ q1') q2' (by simp only;omega) (by simp only[List.length_append];omega) (by simpa only[List.append_assoc] using M6)
   ·unfold RowPc
    rw[List.length_append,pcsV_append]
    exact K5.out.1
   ·have h:=K4.out.2.2.1
    rw[updM_updM] at h
    exact h
end
end Go.Proofs.YtjngfhgakokejaaGreat
