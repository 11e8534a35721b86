/- The document's bands beside the program's: what is alike. Plain. waveletref15: set, beside the program's; the bands' list. waveletref15's Encode: what a round uses. waveletref15's Encode: a block's round in the second loop. -/
import Derived.Test.YtjngfhgakokejaaGreatZp21
import Derived.Test.YtjngfhgakokejaaGreatZp22
import Derived.Test.YtjngfhgakokejaaGreatZp23
import Derived.Test.YtjngfhgakokejaaGreatZp12
set_option maxRecDepth 100000
set_option maxHeartbeats 8000000
namespace Go.Proofs.YtjngfhgakokejaaGreat
section
open Go.RowKit
def noSaid (s:StM):StM:=s.withS 0 s.lb
theorem noSaid_eq {a b:StM} (h:noSaid a=noSaid b):a.pl=b.pl∧a.ps=b.ps∧a.bs=b.bs∧a.lb=b.lb:=by
 obtain ⟨a1,a2,a3,a4,a5⟩:=a
 obtain ⟨b1,b2,b3,b4,b5⟩:=b
 simp only [noSaid,StM.withS,StM.mk.injEq] at h
 exact ⟨h.1,h.2.1,h.2.2.1,h.2.2.2.2⟩
structure SGood (planes:Int) (s:StM):Prop where
 z:s.pl≤planes∧planes≤s.pl+60
 np:s.ps.length≤100
 lb:s.lb≤45
 bs:s.bs.length≤300000
 up:∀ i j,i≤j→j<s.ps.length→(s.ps.map (·.1)).getD i 0≤(s.ps.map (·.1)).getD j 0
 ends:∀ p∈s.ps,0≤p.1∧p.1≤(s.bs.length:Int)
structure RelS (mp mr:BandM) (ff fz:Bool):Prop where
 planes:mr.planes=mp.planes
 ss:mr.ss.map noSaid=mp.ss.map noSaid
 few:mp.ss.length≤1000
 good:∀ s∈mp.ss,SGood mp.planes s
 rset:mr.set=true
 pset:0<mp.ss.length→mp.set=true
 first:0<mp.ss.length→(if ff=true then mr.first else fillT mr.first)=mp.first∧EncGood mp.first mp.ss.length
 zeros:0<mp.ss.length→(if fz=true then mr.zeros else fillT mr.zeros)=mp.zeros∧EncGood mp.zeros mp.ss.length
structure RelN (mp:BandM):Prop where
 few:mp.ss.length≤1000
 good:∀ s∈mp.ss,SGood mp.planes s
 set:mp.set=false
 n:mp.ss.length=mp.w * mp.h
 w:mp.w≤3∧mp.h≤3
 first:mp.first=treeOf mp.w mp.h
 zeros:mp.zeros=treeOf mp.w mp.h
def RBandP (b:Nat) (mp:BandM) (H:List HB):Prop:=∃ mr ff fz,RBandR b mr ff fz H∧RelS mp mr ff fz
def RBandA (b:Nat) (mp:BandM) (H:List HB):Prop:=RBandP b mp H∨(RBandR b mp false false H∧RelN mp)
theorem RelS.get {mp mr:BandM} {ff fz:Bool} (h:RelS mp mr ff fz) {k:Nat} {s:StM} (hk:mp.ss[k]?=some s):∃ r,mr.ss[k]?=some r∧noSaid r=noSaid s:=by
 have e:=congrArg (·[k]?) h.ss
 simp only [List.getElem?_map,hk,Option.map_some] at e
 cases hr:mr.ss[k]? with
 | none=>rw [hr] at e;cases e
 | some r=>rw [hr] at e;exact ⟨r,rfl,Option.some.inj e⟩
theorem RelS.len {mp mr:BandM} {ff fz:Bool} (h:RelS mp mr ff fz):mr.ss.length=mp.ss.length:=by simpa using congrArg List.length h.ss
theorem strict_one (L:LevM):Strict [L]:=by
 intro A B C h
 rcases List.suffix_cons_iff.1 h with e | e
 ·cases e
 ·have:=e.length_le
  simp at this
theorem strict_new:∀ (k w h:Nat),1≤w→1≤h→Strict (treeNew k w h)
 | 0,_,_,_,_=>by
  intro A B C h
  have:=h.length_le
  simp [treeNew] at this
 | k+1,w,h,hw,hh=>by
  unfold treeNew
  split
  ·exact strict_one _
  ·rename_i hn
   intro A B C hs
   rcases List.suffix_cons_iff.1 hs with e | e
   ·have e1:A=levNew w h:=by injection e
    rw [e1]
    show 1<w * h
    by_cases h2:2≤w
    ·exact Nat.lt_of_lt_of_le (by decide) (Nat.mul_le_mul h2 hh)
    ·exact Nat.lt_of_lt_of_le (by decide) (Nat.mul_le_mul hw (show 2≤h by omega))
   ·exact strict_new k _ _ (by omega) (by omega) A B C e
theorem small_tree {w h:Nat} (hw:1≤w∧w≤3) (hh:1≤h∧h≤3):LeafOk (treeOf w h) (w * h)∧TreeGood (treeOf w h) (w * h):=by
 have e0:treeOf (w:Int) (h:Int)=treeNew 7 w h:=by unfold treeOf;rw [if_neg (by omega),Int.toNat_natCast,Int.toNat_natCast]
 have hs:Strict (treeOf w h):=by rw [e0];exact strict_new 7 w h hw.1 hh.1
 obtain ⟨d1,d2,d3,-⟩:=dims_new 6 w h hw.1 hh.1 (Nat.le_trans hw.2 (by decide)) (Nat.le_trans hh.2 (by decide))
 have hd:Dims (treeOf w h):=by rw [e0];exact d1
 have hl:(treeOf w h).length≤20:=by rw [e0];exact Nat.le_trans d3 (by decide)
 have key:(∃ L R,treeOf (w:Int) (h:Int)=L::R∧L.l.length=w * h∧w * h=L.w * L.h)∧offT (treeOf (w:Int) (h:Int)) (treeOf (w:Int) (h:Int)).length≤100000:=by
  obtain ⟨w1,w2⟩:=hw
  obtain ⟨h1,h2⟩:=hh
  have a:w=1∨w=2∨w=3:=by omega
  have b:h=1∨h=2∨h=3:=by omega
  clear e0 hs d1 d2 d3 hd hl w1 w2 h1 h2
  rcases a with rfl | rfl | rfl <;> rcases b with rfl | rfl | rfl <;> exact ⟨⟨_,_,rfl,rfl,rfl⟩,by decide⟩
 obtain ⟨⟨L,R,e,a1,a2⟩,ho⟩:=key
 exact ⟨⟨⟨L,R,e,a1⟩,ho⟩,⟨L,R,e,a2⟩,hd,hs,ho,hl⟩
theorem setLeaf_shape (T:List LevM) (k:Nat) (v:Int):(setLeaf T k v).map shapeL=T.map shapeL:=by
 unfold setLeaf
 cases T with
 | nil=>rfl
 | cons L R =>
  simp only [List.map_cons]
  congr 1
  split
  ·simp [shapeL]
  ·rfl
theorem rplant_shape (count:Nat) (m:BandM):∀ k,k≤m.ss.length→(rplantTo count m k).first.map shapeL=m.first.map shapeL∧(rplantTo count m k).zeros.map shapeL=m.zeros.map shapeL:=by
 intro k hk
 obtain ⟨-,-,-,-,-,e1,e2⟩:=rplantTo_trees count m k hk
 have key:∀ (v:Nat→Int) (T:List LevM) (l:List Nat),(l.foldl (fun T j=>setLeaf T j (v j)) T).map shapeL=T.map shapeL:=by
  intro v T l
  induction l generalizing T with
  | nil=>rfl
  | cons x l ih=>rw [List.foldl_cons,ih,setLeaf_shape]
 exact ⟨by rw [e1];exact key _ _ _,by rw [e2];exact key _ _ _⟩
theorem fillT_shape2 (T:List LevM):(fillT T).map shapeL=T.map shapeL:=by
 cases T with
 | nil=>rfl
 | cons L R=>exact fillT_shape L R
def plantE (count:Nat) (m:BandM):BandM:=if m.ss.length=0 then m else plantM count m
theorem relS_new {mp:BandM} (h:RelN mp) (count:Nat) (hc:count≤100) (hn:0<mp.ss.length) (ff fz:Bool) (hff:ff=false∧fz=false):RelS (plantE count mp) (rplantTo count mp mp.ss.length) ff fz:=by
 obtain ⟨rfl,rfl⟩:=hff
 have hwh:=h.n
 have hw:1≤mp.w:=Nat.one_le_iff_ne_zero.2 fun e=>by rw [e,Nat.zero_mul] at hwh;omega
 have hh:1≤mp.h:=Nat.one_le_iff_ne_zero.2 fun e=>by rw [e,Nat.mul_zero] at hwh;omega
 have e:plantE count mp=plantM count mp:=if_neg (by omega)
 obtain ⟨p1,⟨p2,p3⟩,p4,p5⟩:=planted count mp hc h.set ⟨hw,h.w.1⟩ ⟨hh,h.w.2⟩ h.n h.first h.zeros (fun s hs=>by have:=(h.good s hs).z;omega)
 obtain ⟨t1,t2,t3,-⟩:=rplantTo_trees count mp mp.ss.length (Nat.le_refl _)
 obtain ⟨s1,s2⟩:=rplant_shape count mp mp.ss.length (Nat.le_refl _)
 obtain ⟨-,g⟩:=small_tree ⟨hw,h.w.1⟩ ⟨hh,h.w.2⟩
 rw [e]
 have ess:(plantM count mp).ss=mp.ss:=(plantM_ss count mp).1
 have epl:(plantM count mp).planes=mp.planes:=(plantM_ss count mp).2
 refine ⟨t2.trans epl.symm,by rw [t1,ess],by rw [ess];exact h.few,by rw [ess,epl];exact h.good,t3,fun _=>by rw [p1];exact t3,fun _=>⟨?_,?_,p2,p3⟩,fun _=>⟨?_,?_,p4,p5⟩⟩
 ·rw [p1];rfl
 ·rw [ess,h.n]
  refine TreeGood.congr (T:=treeOf mp.w mp.h) g ?_
  rw [p1,← h.first]
  exact (fillT_shape2 _).trans s1
 ·rw [p1];rfl
 ·rw [ess,h.n]
  refine TreeGood.congr (T:=treeOf mp.w mp.h) g ?_
  rw [p1,← h.zeros]
  exact (fillT_shape2 _).trans s2
theorem relS_empty {mp:BandM} (h:RelN mp) (hn:mp.ss.length=0) (mr:BandM) (e1:mr.planes=mp.planes) (e2:mr.ss=mp.ss) (e3:mr.set=true) (count:Nat) (ff fz:Bool):RelS (plantE count mp) mr ff fz:=by
 have e:plantE count mp=mp:=if_pos hn
 rw [e]
 exact ⟨e1,by rw [e2],h.few,h.good,e3,fun h0=>by omega,fun h0=>by omega,fun h0=>by omega⟩
theorem relS_again {mp mr:BandM} {ff fz:Bool} (h:RelS mp mr ff fz) (count:Nat):plantE count mp=mp:=by
 unfold plantE
 split
 ·rfl
 ·unfold plantM
  rw [if_pos (h.pset (by omega))]
theorem headF_rel {m:BandM} {k layer from_ to_:Nat}:headF m k layer from_ to_=if from_=0 then encAt m.first k ((layer:Int)+1) else (m.first,[decide (from_<to_)]):=by
 unfold headF
 split
 ·rfl
 ·by_cases h:from_<to_
  ·rw [if_pos h,decide_eq_true h];rfl
  ·rw [if_neg h,decide_eq_false h];rfl
theorem headZ_rel {m:BandM} {k z from_:Nat} {s:StM} (hz:m.planes - s.pl=z):headZ m k from_ s=(zerosTo m.zeros m.zeros k z from_,zerosIf m.zeros k z from_):=by
 have e:(max (m.planes - s.pl) 0+1).toNat=z+1:=by omega
 unfold headZ zerosTo zerosIf
 rw [e]
 split <;> rfl
theorem needM_rel {a b:StM} (h:noSaid a=noSaid b) (style from_ to_:Nat):needM a style from_ to_=needM b style from_ to_∧sizesB a style from_ to_=sizesB b style from_ to_:=by
 obtain ⟨-,h2,-,h4⟩:=noSaid_eq h
 have e:needM a style from_ to_=needM b style from_ to_:=by unfold needM segL2;rw [h2,h4]
 refine ⟨e,?_⟩
 unfold sizesB
 rw [e,h4]
 unfold segL2
 rw [h2]
theorem needM_bd (s:StM) {planes:Int} (h:SGood planes s) (style from_ to_:Nat) (hto:to_≤s.ps.length):s.lb≤needM s style from_ to_∧needM s style from_ to_≤45:=by
 have nb:=need_bd (segL1 style from_ to_) (segL2 s style from_ to_) s.lb (piecesM style from_ to_).length (segL2_up s style from_ to_ hto (fun p hp=>by have h1:=h.ends p hp;have h2:=h.bs;omega) h.up) _ (Nat.le_refl _)
 have:=h.lb
 unfold needM
 omega
theorem SGood.withS {planes:Int} {s:StM} (h:SGood planes s) (said lb:Int) (hl:lb≤45):SGood planes (s.withS said lb):=⟨h.z,h.np,hl,h.bs,h.up,h.ends⟩
theorem RelS.first_said {mp mr:BandM} {ff fz:Bool} (h:RelS mp mr ff fz) {k:Nat} (hk:k<mp.ss.length) (b:Int):RelS { mp with first:=(encAt mp.first k b).1 } { mr with first:=(encAt mp.first k b).1 } true fz :=
 ⟨h.planes,h.ss,h.few,h.good,h.rset,h.pset,fun h0=>⟨if_pos rfl,encAt_good b hk (h.first h0).2⟩,h.zeros⟩
theorem zerosE_good2 {T:List LevM} {n k:Nat} (hk:k<n) (h:EncGood T n):∀ j,EncGood (zerosE T k j).1 n
 | 0=>h
 | j+1=>encAt_good _ hk (zerosE_good2 hk h j)
theorem RelS.rest_said {mp mr:BandM} {ff fz:Bool} (h:RelS mp mr ff fz) {k from_ to_:Nat} {s r:StM} (hs:mp.ss[k]?=some s) (_hr:mr.ss[k]?=some r) (e:noSaid r=noSaid s) (style z:Nat) (said:Int) (hto:to_≤s.ps.length) :
  RelS { mp with zeros:=zerosTo mp.zeros mp.zeros k z from_,ss:=mp.ss.set k (s.withS said (needM s style from_ to_)) } { mr with zeros:=zerosTo mr.zeros mp.zeros k z from_,ss:=mr.ss.set k (r.withS r.said (needM r style from_ to_)) } ff (zerosFr fz from_):=by
 have hk:=(List.getElem?_eq_some_iff.1 hs).1
 have hm:=List.mem_of_getElem? hs
 refine ⟨h.planes,?_,by simpa using h.few,?_,h.rset,fun h0=>h.pset (by simpa using h0),fun h0=>?_,fun h0=>?_⟩
 ·show (mr.ss.set k _).map noSaid=(mp.ss.set k _).map noSaid
  rw [List.map_set,List.map_set,h.ss]
  congr 1
  obtain ⟨e1,e2,e3,e4⟩:=noSaid_eq e
  have en:=(needM_rel e style from_ to_).1
  unfold noSaid StM.withS
  rw [e1,e2,e3,en]
 ·intro x hx
  rcases List.mem_or_eq_of_mem_set hx with h1 | rfl
  ·exact h.good x h1
  ·exact (h.good s hm).withS _ _ (needM_bd s (h.good s hm) style from_ to_ hto).2
 ·have:=h.first (by simpa using h0)
  simpa using this
 ·obtain ⟨h1,h2⟩:=h.zeros (by simpa using h0)
  have hl:(mp.ss.set k (s.withS said (needM s style from_ to_))).length=mp.ss.length:=by simp
  show _∧EncGood (zerosTo mp.zeros mp.zeros k z from_) (mp.ss.set k _).length
  rw [hl]
  unfold zerosTo zerosFr
  split
  ·exact ⟨if_pos rfl,zerosE_good2 hk h2 _⟩
  ·exact ⟨h1,h2⟩
theorem RelS.setSaid {mp mr:BandM} {ff fz:Bool} (h:RelS mp mr ff fz) (k to_:Nat):RelS (setSaidM mp k to_) mr ff fz:=by
 unfold setSaidM
 split
 ·exact h
 ·rename_i s hs
  have e:(mp.ss.set k (s.withS (to_:Int) s.lb)).map noSaid=mp.ss.map noSaid:=by
   rw [List.map_set]
   refine List.ext_getElem? fun i=>?_
   rw [List.getElem?_set]
   split
   ·rename_i e
    subst e
    rw [List.getElem?_map,hs,if_pos (by rw [List.length_map];exact (List.getElem?_eq_some_iff.1 hs).1)]
    rfl
   ·rfl
  refine ⟨h.planes,h.ss.trans e.symm,by simpa using h.few,?_,h.rset,fun h0=>h.pset (by simpa using h0),fun h0=>by simpa using h.first (by simpa using h0),fun h0=>by simpa using h.zeros (by simpa using h0)⟩
  intro x hx
  rcases List.mem_or_eq_of_mem_set hx with h1 | rfl
  ·exact h.good x h1
  ·exact (h.good s (List.mem_of_getElem? hs)).withS _ _ (h.good s (List.mem_of_getElem? hs)).lb
theorem bodyM_rel {planes:Int} {s:StM} (h:SGood planes s) {from_ to_:Nat} (hft:from_<to_) (hto:to_≤s.ps.length) :
  ∃ lo hi_:Nat,(lo:Int)=(if from_=0 then 0 else (s.ps.map (·.1)).getD (from_ - 1) 0)∧(hi_:Int)=(s.ps.map (·.1)).getD (to_ - 1) 0∧lo≤hi_∧hi_≤s.bs.length∧bodyM s.ps s.bs from_ to_=(s.bs.drop lo).take (hi_ - lo):=by
 have hb:∀ i,i<s.ps.length→0≤(s.ps.map (·.1)).getD i 0∧(s.ps.map (·.1)).getD i 0≤(s.bs.length:Int):=by
  intro i hi
  rw [List.getD_eq_getElem?_getD,List.getElem?_map,List.getElem?_eq_getElem hi]
  exact h.ends _ (List.getElem_mem hi)
 have h2:=hb (to_ - 1) (by omega)
 obtain ⟨W,hW⟩:∃ W:Int,(if from_=0 then 0 else (s.ps.map (·.1)).getD (from_ - 1) 0)=W:=⟨_,rfl⟩
 have h1:0≤W∧W≤(s.ps.map (·.1)).getD (to_ - 1) 0:=by
  rw [← hW]
  split
  ·exact ⟨Int.le_refl _,h2.1⟩
  ·exact ⟨(hb _ (by omega)).1,h.up _ _ (by omega) (by omega)⟩
 refine ⟨W.toNat,((s.ps.map (·.1)).getD (to_ - 1) 0).toNat,by omega,by omega,by omega,by omega,?_⟩
 have e1:bodyFrom s.ps from_=W:=hW
 unfold bodyM bodyLo bodyHi
 rw [e1]
 have e2:min W.toNat s.bs.length=W.toNat:=by omega
 have e3:min (max ((s.ps.map (·.1)).getD (to_ - 1) 0) W).toNat s.bs.length=((s.ps.map (·.1)).getD (to_ - 1) 0).toNat:=by omega
 rw [e2,e3]
end
section
open Go.RowKit
theorem rplant_empty (bb:Nat) (m:BandM) (ff fz:Bool) (H:List HB) (W:World) (hB:RBandR bb m ff fz H) (hs:Sat W H) (hn:m.ss.length=0) (count:Nat) :
  Calls Tryz.prog 33 #[.pointer (some ⟨bb,0,none⟩),.int .i64 (count:Int)] W fun e w'=>e=.returned (.tuple #[])∧∃ mr H',mr.planes=m.planes∧mr.ss=m.ss∧mr.set=true∧RBandR bb mr ff fz H'∧Mv W H w' H':=by
 obtain ⟨b,hb0,rfl⟩:=hB
 have hlen:b.G.length=0:=by rw [← hn,← hb0.ss,List.length_map]
 obtain ⟨va,vc,hv⟩:=RowH.slice hb0.row
 rw [hlen] at hv
 have c4:W.cell? ⟨bb,4,none⟩=some (.bool m.set):=(hs.at_ 0 rfl).cell 4
 have f4:W.frozen? ⟨bb,4,none⟩=false:=(hs.at_ 0 rfl).frozen 4
 have c1:W.cell? ⟨bb,1,none⟩=some (.slice va 0 vc):=by rw [← hv];exact (hs.at_ 0 rfl).cell 1
 have c5:(W.setCell ⟨bb,4,none⟩ (.bool true)).cell? ⟨bb,1,none⟩=some (.slice va 0 vc):=by
  have h:=Mv.set (show Mv W _ W (rbandB bb b.ti b.tu b.vl m::(b.Hl++(b.Hi++(b.Hu++b.G.flatMap StG.heap)))) from Mv.refl hs) 4 (.bool true)
  rw [← hv]
  exact h.cell 0 rfl 1
 have FIN:Hid (∀ V,(V=W∧m.set=true)∨V=W.setCell ⟨bb,4,none⟩ (.bool true)→∃ mr H',mr.planes=m.planes∧mr.ss=m.ss∧mr.set=true∧RBandR bb mr ff fz H'∧Mv W (b.heap bb m) V H'):=Lib.hid (by
  rintro V (⟨rfl,h⟩ | rfl)
  ·exact ⟨m,_,rfl,rfl,h,⟨b,hb0,rfl⟩,Mv.refl hs⟩
  ·refine ⟨{ m with set:=true },_,rfl,rfl,rfl,⟨b,⟨hb0.ss,hb0.st,hb0.row,hb0.ti,hb0.tu,hb0.pl⟩,rfl⟩,?_⟩
   have:=(Mv.refl hs).set 4 (.bool true)
   exact this)
 generalize b.heap bb m=H0 at *
 clear hb0 hs hn hlen hv
 cases hset:m.set with
 | true =>
  rw [hset] at c4 FIN
  go_enter Tryz.func33,Tryz.ntmps33
  go_wp2_with fail
  exact bodyPost_ret (results_none rfl _ _ _) rfl (by obtain ⟨a,b,c,d,e,f⟩:=FIN.out _ (.inl ⟨rfl,by simp⟩);first | exact ⟨rfl,a,b,c,d,e,f⟩ | exact ⟨rfl,a,c,d,e,b,f⟩)
 | false =>
  rw [hset] at c4 FIN
  go_enter Tryz.func33,Tryz.ntmps33
  go_wp2_with fail
  go_loopg [4] 0 (fun mm v4 wx=>mm=0∧v4=.int .i64 0∧wx.cell? ⟨bb,1,none⟩=some (.slice va 0 vc)∧wx=W.setCell ⟨bb,4,none⟩ (.bool true))
  case atStart=>exact ⟨rfl,rfl,c5,rfl⟩
  case round =>
   obtain ⟨rfl,rfl,c6,rfl⟩:=hrel
   clear c1 c4 f4
   go_wp2_with fail
   exact bodyPost_end (results_none rfl _ _ _) rfl (by obtain ⟨a,b,c,d,e,f⟩:=FIN.out _ (.inr rfl);first | exact ⟨rfl,a,b,c,d,e,f⟩ | exact ⟨rfl,a,c,d,e,b,f⟩)
theorem rset_rel (b:Nat) (mp:BandM) (H:List HB) (W:World) (hB:RBandA b mp H) (hs:Sat W H) (count:Nat) (hc:1≤count∧count≤100) :
  Calls Tryz.prog 33 #[.pointer (some ⟨b,0,none⟩),.int .i64 (count:Int)] W fun e w'=>e=.returned (.tuple #[])∧∃ H',RBandP b (plantE count mp) H'∧Mv W H w' H':=by
 rcases hB with ⟨mr,ff,fz,hB,hr⟩ | ⟨hB,hr⟩
 ·refine (rplant_set b mr ff fz H W hB hs hr.rset count).mono ?_
  rintro e w' ⟨rfl,rfl⟩
  exact ⟨rfl,H,⟨mr,ff,fz,hB,by rw [relS_again hr];exact hr⟩,Mv.refl hs⟩
 ·by_cases hn:mp.ss.length=0
  ·refine (rplant_empty b mp false false H W hB hs hn count).mono ?_
   rintro e w' ⟨rfl,mr,H',e1,e2,e3,hB',m⟩
   exact ⟨rfl,H',⟨mr,false,false,hB',relS_empty hr hn mr e1 e2 e3 count false false⟩,m⟩
  ·have hwh:=hr.n
   have hw:1≤mp.w:=Nat.one_le_iff_ne_zero.2 fun e=>by rw [e,Nat.zero_mul] at hwh;omega
   have hh:1≤mp.h:=Nat.one_le_iff_ne_zero.2 fun e=>by rw [e,Nat.mul_zero] at hwh;omega
   obtain ⟨lk,-⟩:=small_tree ⟨hw,hr.w.1⟩ ⟨hh,hr.w.2⟩
   refine (rplant_new b mp false false H W hB hs hr.set count mp.ss.length hc rfl hr.few (fun s h=>(hr.good s h).np) ⟨by rw [hr.first,hr.n];exact lk,by rw [hr.zeros,hr.n];exact lk⟩).mono ?_
   rintro e w' ⟨rfl,ff',fz',H',hB',hf,m⟩
   exact ⟨rfl,H',⟨_,ff',fz',hB',relS_new hr count hc.2 (by omega) ff' fz' (hf (by omega))⟩,m⟩
def RBandsQ (P:Nat→BandM→List HB→Prop):List Nat→List BandA→(Nat→BandM)→List HB→Prop
 | [],[],_,H=>H=[]
 | b::bs,d::ds,M,H=>∃ H1 H2,H=H1++H2∧P b (M d.bb) H1∧RBandsQ P bs ds M H2
 | _,_,_,_=>False
theorem RBandsQ.congr {P:Nat→BandM→List HB→Prop}:∀ {Bs:List Nat} {D:List BandA} {M M':Nat→BandM} {H:List HB},RBandsQ P Bs D M H→(∀ d∈D,M' d.bb=M d.bb)→RBandsQ P Bs D M' H
 | [],[],_,_,_,h,_=>h
 | b::bs,d::ds,M,M',H,⟨H1,H2,e,h1,h2⟩,hm=>⟨H1,H2,e,by rw [hm d List.mem_cons_self];exact h1,RBandsQ.congr h2 fun x hx=>hm x (List.mem_cons_of_mem _ hx)⟩
 | [],_::_,_,_,_,h,_=>h.elim
 | _::_,[],_,_,_,h,_=>h.elim
theorem RBandsQ.len {P:Nat→BandM→List HB→Prop}:∀ {Bs:List Nat} {D:List BandA} {M:Nat→BandM} {H:List HB},RBandsQ P Bs D M H→Bs.length=D.length
 | [],[],_,_,_=>rfl
 | b::bs,d::ds,M,H,⟨_,_,_,_,h2⟩=>by rw [List.length_cons,List.length_cons,RBandsQ.len h2]
 | [],_::_,_,_,h=>h.elim
 | _::_,[],_,_,h=>h.elim
theorem RBandsQ.snoc {P:Nat→BandM→List HB→Prop}:∀ {Bs:List Nat} {D:List BandA} {M:Nat→BandM} {H H1:List HB} {b:Nat} {d:BandA},RBandsQ P Bs D M H→P b (M d.bb) H1→RBandsQ P (Bs++[b]) (D++[d]) M (H++H1)
 | [],[],M,H,H1,b,d,h,hp=>by
  have e:H=[]:=h
  subst e
  exact ⟨H1,[],by simp,hp,rfl⟩
 | x::bs,y::ds,M,H,H1,b,d,⟨A,B,e,h1,h2⟩,hp=>⟨A,B++H1,by rw [e,List.append_assoc],h1,RBandsQ.snoc h2 hp⟩
 | [],_::_,_,_,_,_,_,h,_=>h.elim
 | _::_,[],_,_,_,_,_,h,_=>h.elim
theorem RBandsQ.split {P:Nat→BandM→List HB→Prop}:∀ {Bs:List Nat} {D:List BandA} {M:Nat→BandM} {H:List HB} {i b:Nat} {d:BandA},RBandsQ P Bs D M H→(D.map (·.bb)).Nodup→Bs[i]?=some b→D[i]?=some d →
  ∃ A1 H1 A2,H=A1++(H1++A2)∧P b (M d.bb) H1∧∀ m' H1',P b m' H1'→RBandsQ P Bs D (updM M d.bb m') (A1++(H1'++A2))
 | [],[],_,_,_,_,_,_,_,hb,_=>by simp at hb
 | x::bs,y::ds,M,H,0,b,d,⟨H1,H2,e,h1,h2⟩,hn,hb,hd=>by
  simp only [List.getElem?_cons_zero,Option.some.injEq] at hb hd
  subst hb hd
  refine ⟨[],H1,H2,e,h1,fun m' H1' hp=>⟨H1',H2,rfl,by rw [updM_same];exact hp,h2.congr fun z hz=>updM_other M m' ?_⟩⟩
  intro hzz
  rw [List.map_cons,List.nodup_cons] at hn
  exact hn.1 (hzz ▸ List.mem_map.2 ⟨z,hz,rfl⟩)
 | x::bs,y::ds,M,H,i+1,b,d,⟨H1,H2,e,h1,h2⟩,hn,hb,hd=>by
  simp only [List.getElem?_cons_succ] at hb hd
  rw [List.map_cons,List.nodup_cons] at hn
  obtain ⟨A1,H3,A2,e2,h3,h4⟩:=RBandsQ.split h2 hn.2 hb hd
  refine ⟨H1++A1,H3,A2,by rw [e,e2,List.append_assoc],h3,fun m' H1' hp=>⟨H1,A1++(H1'++A2),by rw [List.append_assoc],?_,h4 m' H1' hp⟩⟩
  rw [updM_other M m' (fun hz=>hn.1 (by rw [hz];exact List.mem_map.2 ⟨d,List.mem_of_getElem? hd,rfl⟩))]
  exact h1
 | [],_::_,_,_,_,_,_,h,_,_,_=>h.elim
 | _::_,[],_,_,_,_,_,h,_,_,_=>h.elim
def RBandsI (Bs:List Nat) (D:List BandA) (M1 M:Nat→BandM) (i:Nat) (H:List HB):Prop:=∃ HA HC,H=HA++HC∧RBandsQ RBandP (Bs.take i) (D.take i) M1 HA∧RBandsQ RBandA (Bs.drop i) (D.drop i) M HC
theorem RBandsI.step {Bs:List Nat} {D:List BandA} {M1 M:Nat→BandM} {i:Nat} {H:List HB} (h:RBandsI Bs D M1 M i H) {b:Nat} {d:BandA} (hb:Bs[i]?=some b) (hd:D[i]?=some d) :
  ∃ A1 H1 A2,H=A1++(H1++A2)∧RBandA b (M d.bb) H1∧∀ H1',RBandP b (M1 d.bb) H1'→RBandsI Bs D M1 M (i+1) ((A1++H1')++A2):=by
 obtain ⟨HA,HC,rfl,h1,h2⟩:=h
 have hbl:=(List.getElem?_eq_some_iff.1 hb)
 have hdl:=(List.getElem?_eq_some_iff.1 hd)
 have e1:Bs.drop i=b::Bs.drop (i+1):=by rw [List.drop_eq_getElem_cons hbl.1,hbl.2]
 have e2:D.drop i=d::D.drop (i+1):=by rw [List.drop_eq_getElem_cons hdl.1,hdl.2]
 rw [e1,e2] at h2
 obtain ⟨H1,A2,rfl,h3,h4⟩:=h2
 refine ⟨HA,H1,A2,rfl,h3,fun H1' hp=>⟨HA++H1',A2,rfl,?_,h4⟩⟩
 have e3:Bs.take (i+1)=Bs.take i++[b]:=by rw [List.take_add_one,hb];rfl
 have e4:D.take (i+1)=D.take i++[d]:=by rw [List.take_add_one,hd];rfl
 rw [e3,e4]
 exact h1.snoc hp
theorem plantM_twice (c:Nat) (m:BandM) (_h:0<m.ss.length):plantM c (plantM c m)=plantM c m:=by
 have hs:(plantM c m).set=true:=by
  unfold plantM
  split
  ·assumption
  ·have key:∀ (l:List Nat) (n:BandM),n.set=true→(l.foldl (plantStep c) n).set=true:=by
    intro l
    induction l with
    | nil=>intro n h;exact h
    | cons x l ih =>
     intro n h
     rw [List.foldl_cons]
     refine ih _ ?_
     unfold plantStep
     split
     ·exact h
     ·exact h
   exact key _ _ rfl
 have key2:∀ x:BandM,x.set=true→plantM c x=x:=by
  intro x hx
  unfold plantM
  rw [if_pos hx]
 exact key2 _ hs
theorem encM_fold (c:Nat):∀ (D:List BandA) (M:Nat→BandM),(D.map (·.bb)).Nodup→(∀ d∈D,(M d.bb).ss.length=d.n)→(∀ d∈D,((spotsOf D).foldl (encM c) M) d.bb=plantE c (M d.bb))∧∀ b,b ∉ D.map (·.bb)→((spotsOf D).foldl (encM c) M) b=M b
 | [],M,_,_=>⟨(fun d hd=>by cases hd),fun b _=>rfl⟩
 | d::D,M,hn,hl=>by
  rw [List.map_cons,List.nodup_cons] at hn
  have hone:∀ n,n≤d.n→((List.range n).map (fun k=>(⟨d,k⟩:SpotX))).foldl (encM c) M=if n=0 then M else updM M d.bb (plantM c (M d.bb)):=by
   intro n
   induction n with
   | zero=>intro _;rfl
   | succ n ih =>
    intro hnn
    rw [List.range_succ,List.map_append,List.foldl_append,ih (by omega),if_neg (Nat.succ_ne_zero n)]
    simp only [List.map_cons,List.map_nil,List.foldl_cons,List.foldl_nil]
    by_cases h0:n=0
    ·rw [if_pos h0];rfl
    ·rw [if_neg h0]
     unfold encM
     simp only [updM_same,updM_updM]
     rw [plantM_twice c _ (by rw [hl d List.mem_cons_self];omega)]
  have e0:(spotsOf (d::D)).foldl (encM c) M=(spotsOf D).foldl (encM c) (if d.n=0 then M else updM M d.bb (plantM c (M d.bb))):=by
   have:spotsOf (d::D)=(List.range d.n).map (fun k=>(⟨d,k⟩:SpotX))++spotsOf D:=rfl
   rw [this,List.foldl_append,hone d.n (Nat.le_refl _)]
  obtain ⟨N,hN⟩:∃ N,(if d.n=0 then M else updM M d.bb (plantM c (M d.bb)))=N:=⟨_,rfl⟩
  rw [hN] at e0
  have eN:N d.bb=plantE c (M d.bb):=by
   rw [← hN]
   unfold plantE
   rw [hl d List.mem_cons_self]
   split
   ·rfl
   ·exact updM_same _ _ _
  have eO:∀ b,b≠d.bb→N b=M b:=by
   intro b hb
   rw [← hN]
   split
   ·rfl
   ·exact updM_other _ _ hb
  have hne:∀ x∈D,x.bb≠d.bb:=fun x hx h=>hn.1 (h ▸ List.mem_map.2 ⟨x,hx,rfl⟩)
  obtain ⟨i1,i2⟩:=encM_fold c D N hn.2 (fun x hx=>by rw [eO _ (hne x hx)];exact hl x (List.mem_cons_of_mem _ hx))
  rw [e0]
  refine ⟨fun x hx=>?_,fun b hb=>?_⟩
  ·rcases List.mem_cons.1 hx with rfl | hx
   ·rw [i2 _ hn.1,eN]
   ·rw [i1 x hx,eO _ (hne x hx)]
  ·rw [List.map_cons,List.mem_cons,not_or] at hb
   rw [i2 b hb.2,eO b hb.1]
end
section
open Go.RowKit
theorem sat_congr {w:World} {H H':List HB} (h:Sat w H) (e:H=H'):Sat w H':=e ▸ h
theorem rpart (b:Nat) (m:BandM) (g:RBandG) (ff fz:Bool) (hg:g.ok m ff fz) {k:Nat} {s:StM} (hk:m.ss[k]?=some s) :
  ∃ (lg lc pc uc:Nat) (pa ua:Option Addr) (Hp Hb:List HB),RowQ (.slice pa s.ps.length pc) s.ps Hp∧RowB (.slice ua s.bs.length uc) s.bs Hb∧s.Fits ∧
   ∀ V,Sat V (g.heap b m)→V.cell? ⟨b,1,none⟩=some (.slice (some ⟨lg,0,none⟩) m.ss.length lc)∧V.cell? ⟨b,2,none⟩=some (.pointer (some ⟨g.ti,0,none⟩)) ∧
    V.cell? ⟨lg,k * 5,none⟩=some (.int .i64 s.pl)∧V.cell? ⟨lg,k * 5+1,none⟩=some (.slice pa s.ps.length pc)∧V.cell? ⟨lg,k * 5+2,none⟩=some (.slice ua s.bs.length uc)∧V.cell? ⟨lg,k * 5+3,none⟩=some (.int .i64 s.said)∧V.cell? ⟨lg,k * 5+4,none⟩=some (.int .i64 s.lb)∧Sat V Hp∧Sat V Hb:=by
 have hlen:g.G.length=m.ss.length:=by rw [← hg.ss,List.length_map]
 have hkm:=(List.getElem?_eq_some_iff.1 hk).1
 obtain ⟨x,hx⟩:∃ x,g.G[k]?=some x:=⟨_,List.getElem?_eq_getElem (by omega)⟩
 have e:x.m=s:=by
  have:m.ss[k]?=some x.m:=by rw [← hg.ss,List.getElem?_map,hx];rfl
  rw [hk] at this
  exact (Option.some.inj this).symm
 subst e
 obtain ⟨q1,q2,q3⟩:=hg.st x (List.mem_of_getElem? hx)
 obtain ⟨pa,pc,hvp⟩:=q1.slice
 obtain ⟨ua,uc,hvb⟩:=RowB.slice q2
 obtain ⟨lg,lc,cur,hvl,-⟩:=hg.row.form (by omega)
 obtain ⟨A,B,hAB⟩:=List.append_of_mem (List.mem_of_getElem? hx)
 have hfl:g.G.flatMap StG.heap=A.flatMap StG.heap++((x.Hp++x.Hb)++B.flatMap StG.heap):=by rw [hAB,List.flatMap_append,List.flatMap_cons];rfl
 refine ⟨lg,lc,pc,uc,pa,ua,x.Hp,x.Hb,by rw [← hvp];exact q1,by rw [← hvb];exact q2,q3,fun V hV=>?_⟩
 have h0:Sat V (rbandB b g.ti g.tu g.vl m::(g.Hl++(g.Hi++(g.Hu++g.G.flatMap StG.heap)))):=hV
 have hp:Sat V (g.Hl++(g.Hi++(g.Hu++g.G.flatMap StG.heap))):=Sat.right (A:=[_]) h0
 have hq:Sat V (A.flatMap StG.heap++((x.Hp++x.Hb)++B.flatMap StG.heap)):=sat_congr hp.right.right.right hfl
 obtain ⟨lg',lc',hvl',d0,d1,d2,d3,d4,-⟩:=part_cells hg.row hp.left hx
 rw [hvl] at hvl'
 simp only [Value.slice.injEq,Option.some.injEq,Addr.mk.injEq,and_true,true_and] at hvl'
 obtain ⟨rfl,rfl⟩:=hvl'
 rw [hvp] at d1
 rw [hvb] at d2
 refine ⟨?_,(h0.at_ 0 rfl).cell 2,d0,d1,d2,d3,d4,hq.right.left.left,hq.right.left.right⟩
 rw [← hlen,← hvl]
 exact (h0.at_ 0 rfl).cell 1
theorem rfirst_rel (b wb k:Nat) (m mr:BandM) (ff fz:Bool) (g:RBandG) (hg:g.ok mr ff fz) (hr:RelS m mr ff fz) (bs:List Bool) (HW:List HB) (W:World) (v:Int) (hk:k<m.ss.length) (hv:0≤v∧v≤1000) (hw:RWrB wb bs HW) (hs:Sat W (g.heap b mr++HW)) (hbs:bs.length≤50000000) :
  Calls Tryz.prog 37 #[.pointer (some ⟨g.ti,0,none⟩),.pointer (some ⟨wb,0,none⟩),.int .i64 (k:Int),.int .i64 v] W fun e w'=>e=.returned (.tuple #[]) ∧
   ∃ H' HW',RBandP b { m with first:=(encAt m.first k v).1 } H'∧RWrB wb (bs++(encAt m.first k v).2) HW'∧Mv W (g.heap b mr++HW) w' (H'++HW'):=by
 obtain ⟨h1,h2⟩:=hr.first (by omega)
 have m0:Mv W (g.heap b mr++HW) W ((g.Hi++HW)++(rbandB b g.ti g.tu g.vl mr::(g.Hl++(g.Hu++g.G.flatMap StG.heap)))):=(Mv.refl hs).sub (fun c=>by simp only [RBandG.heap,cnt_append,cnt_cons];omega) (fun c hc=>by simp only [RBandG.heap,List.mem_append,List.mem_cons] at hc ⊢;grind)
 refine (rtree_at g.ti wb mr.first ff g.Hi HW bs W m.ss.length k v m.first h1 hg.ti hw m0.sat.left h2 hk hv hbs).mono ?_
 rintro e w' ⟨rfl,H',HW',r1,r2,q⟩
 refine ⟨rfl,_,HW',⟨{ mr with first:=(encAt m.first k v).1 },true,fz,⟨{ g with Hi:=H' },⟨hg.ss,hg.st,hg.row,r1,hg.tu,hg.pl⟩,rfl⟩,hr.first_said hk v⟩,r2,(Mv.call m0 q).sub (fun c=>?_) (fun c hc=>?_)⟩
 ·simp only [RBandG.heap,rbandB,cnt_append,cnt_cons];omega
 ·simp only [RBandG.heap,rbandB,List.mem_append,List.mem_cons] at hc ⊢;grind
theorem rsay_rel (b wb k from_ to_ style:Nat) (m:BandM) (s:StM) (H HW:List HB) (bs:List Bool) (W:World) (hB:RBandP b m H) (hw:RWrB wb bs HW) (hs:Sat W (H++HW)) (hk:m.ss[k]?=some s) (hbs:bs.length≤39000000) (hft:from_<to_) (hto:to_≤s.ps.length) (hsty:style≤63) :
  Calls Tryz.prog 38 #[.pointer (some ⟨b,0,none⟩),.pointer (some ⟨wb,0,none⟩),.int .i64 (k:Int),.int .i64 (style:Int),.int .i64 (from_:Int),.int .i64 (to_:Int)] W fun e w'=>e=.returned (.tuple #[]) ∧
   ∃ H' HW',RBandP b { m with zeros:=(headZ m k from_ s).1,ss:=m.ss.set k (s.withS s.said (needM s style from_ to_)) } H'∧RWrB wb (bs++((headZ m k from_ s).2++(tellM (to_ - from_)++sizesB s style from_ to_))) HW'∧Mv W (H++HW) w' (H'++HW'):=by
 obtain ⟨mr,ff,fz,hR,hr⟩:=hB
 obtain ⟨r,hrk,e⟩:=hr.get hk
 obtain ⟨e1,e2,e3,e4⟩:=noSaid_eq e
 have hkm:=(List.getElem?_eq_some_iff.1 hk).1
 have sg:=hr.good s (List.mem_of_getElem? hk)
 obtain ⟨h1,h2⟩:=hr.zeros (by omega)
 obtain ⟨z,hz⟩:∃ z:Nat,m.planes - s.pl=z:=⟨(m.planes - s.pl).toNat,by have:=sg.z;omega⟩
 obtain ⟨n1,n2⟩:=needM_rel e style from_ to_
 rw [headZ_rel hz]
 refine (say_any b wb k z from_ to_ style mr r ff fz H HW bs W m.zeros hR hw hs hrk h1 (fun _=>by rw [hr.len];exact h2) (by rw [hr.len];exact hr.few) (by have:=sg.z;omega) (by rw [hr.planes,e1];omega) hbs hft (by rw [e2];exact hto) (by rw [e2];exact sg.np) hsty (by rw [e4];exact sg.lb) (by rw [e2];exact sg.up)).mono ?_
 rintro e w' ⟨rfl,H',HW',r1,r2,q⟩
 rw [n2] at r2
 exact ⟨rfl,H',HW',⟨_,_,_,r1,hr.rest_said hk hrk e style z s.said hto⟩,r2,q⟩
theorem bytesW_bv {w:World} {bg n vc:Nat} {bs:List UInt8} (h:BV w (.slice (some ⟨bg,0,none⟩) n vc) bs) (_hn:bs.length=n) (hv:n≤vc) (lo hi_:Nat) (h1:lo≤hi_) (h2:hi_≤n):BV w (bodyW bg vc lo hi_) ((bs.drop lo).take (hi_ - lo)):=by
 unfold bodyW
 split
 ·rename_i he
  have e:(bs.drop lo).take (hi_ - lo)=[]:=by rw [show hi_ - lo=0 by omega,List.take_zero]
  rw [e]
  exact ⟨_,0,rfl,Nat.le_refl _,by decide,rfl,fun h=>absurd h (by decide)⟩
 ·have b2:=BV.mid h lo hi_ h1 h2
  rw [Nat.zero_add] at b2
  exact b2
theorem renc_r36a (K:Act→World→Prop) (xb bg n vc pg np pc lo hi_ to_:Nat) (vb:Value) (body bs:List UInt8) (Hb R H0:List HB) (w0 w:World) (s0 s1 s2 s3 s4 s5 s6 s7 s8 s9 s10 s11 s12 s13 s14 s15 s17 s18 s19 s20 s24 s25 s26 s27 s28 s29 s30 s31 s32 s33 s34 s35 s36 s37 s38 s39 s40 s41 s42 s43 s44 s45 s46 s47 s48 s49 s50 s51 s52 s53 s54 s55 s56 s57 s58 s59 s60 s61 s62 s63 s64 s65 s66 s67 s68 s69 s70 s71 s72 s73 s74 s75 s76 s77 s78 s79 s80 s81 s82 s83 s84 s85 s86 s87 s88 s89 s90 s91 s92 s93 s94 s95 s96 s97 s98 s99 s100 s101 s102 s103 s104 s105 s106 s107 s108 s109 s110 s111 s112 s113 s114 s115 s116 s117 s118 s119 s120 s121 s122 s123 s124 s125 s126 s127 s128 s129 s130 s131 s132 s133 s134 s135 s136 s137 s138 s139 s140 s141 s142 s143 s144 s145 s146 s147 s148 s149 s150 s151 s152 s153 s154 s155 s156 s157 s158 s159 s160 s161 s162 s163 s164 s165 s166 s167 s168 s169 s170 s171:Value)
  (hb:RowB vb body Hb) (hM:Mv w0 H0 w (Hb++R)) (hlen:body.length≤40000000) (hnl:bs.length=n) (hn:n≤300000) (hvc:n≤vc) (h1:lo≤hi_) (h2:hi_≤n) (hto:0<to_∧to_≤np) (hnp:np≤100)
  (x1:w.cell? ⟨xb,1,none⟩=some (.slice (some ⟨pg,0,none⟩) np pc)) (x2:w.cell? ⟨xb,2,none⟩=some (.slice (some ⟨bg,0,none⟩) n vc)) (x3:w.cell? ⟨pg,(to_ - 1) * 2,none⟩=some (.int .i64 (hi_:Int))) (hbv:BV w (.slice (some ⟨bg,0,none⟩) n vc) bs)
  (hK:∀ (t156 t157 t158 t159 t160 t161 t162 t163 t164 t165 t166 t167 t168:Value) (vb':Value) (Hb':List HB) (wx:World),RowB vb' (body++(bs.drop lo).take (hi_ - lo)) Hb'→Mv w0 H0 wx (Hb'++R)→K ⟨List.toArray (s0::s1::s2::s3::s4::s5::s6::s7::s8::s9::s10::s11::s12::s13::s14::s15::(vb')::s17::s18::s19::s20::(.int .i64 (to_:Int))::(.pointer (some ⟨xb,0,none⟩))::(.int .i64 (lo:Int))::s24::s25::s26::s27::s28::s29::s30::s31::s32::s33::s34::s35::s36::s37::s38::s39::s40::s41::s42::s43::s44::s45::s46::s47::s48::s49::s50::s51::s52::s53::s54::s55::s56::s57::s58::s59::s60::s61::s62::s63::s64::s65::s66::s67::s68::s69::s70::s71::s72::s73::s74::s75::s76::s77::s78::s79::s80::s81::s82::s83::s84::s85::s86::s87::s88::s89::s90::s91::s92::s93::s94::s95::s96::s97::s98::s99::s100::s101::s102::s103::s104::s105::s106::s107::s108::s109::s110::s111::s112::s113::s114::s115::s116::s117::s118::s119::s120::s121::s122::s123::s124::s125::s126::s127::s128::s129::s130::s131::s132::s133::s134::s135::s136::s137::s138::s139::s140::s141::s142::s143::s144::s145::s146::s147::s148::s149::s150::s151::s152::s153::s154::s155::t156::t157::t158::t159::t160::t161::t162::t163::t164::t165::t166::t167::t168::s169::s170::s171::[]),[]⟩ wx) :
  (regionOf 36 Tryz.f11).wp Tryz.prog (Exit.then K noQ) ⟨List.toArray (s0::s1::s2::s3::s4::s5::s6::s7::s8::s9::s10::s11::s12::s13::s14::s15::vb::s17::s18::s19::s20::(.int .i64 (to_:Int))::(.pointer (some ⟨xb,0,none⟩))::(.int .i64 (lo:Int))::s24::s25::s26::s27::s28::s29::s30::s31::s32::s33::s34::s35::s36::s37::s38::s39::s40::s41::s42::s43::s44::s45::s46::s47::s48::s49::s50::s51::s52::s53::s54::s55::s56::s57::s58::s59::s60::s61::s62::s63::s64::s65::s66::s67::s68::s69::s70::s71::s72::s73::s74::s75::s76::s77::s78::s79::s80::s81::s82::s83::s84::s85::s86::s87::s88::s89::s90::s91::s92::s93::s94::s95::s96::s97::s98::s99::s100::s101::s102::s103::s104::s105::s106::s107::s108::s109::s110::s111::s112::s113::s114::s115::s116::s117::s118::s119::s120::s121::s122::s123::s124::s125::s126::s127::s128::s129::s130::s131::s132::s133::s134::s135::s136::s137::s138::s139::s140::s141::s142::s143::s144::s145::s146::s147::s148::s149::s150::s151::s152::s153::s154::s155::s156::s157::s158::s159::s160::s161::s162::s163::s164::s165::s166::s167::s168::s169::s170::s171::[]),[]⟩ w:=by
 conv in (regionOf _ _)=>whnf
 unfold noQ
 have HK:=Lib.hid hK
 have HB:=Lib.hid (And.intro hb hM)
 have BB:=Lib.hid (bytesW_bv hbv hnl hvc lo hi_ h1 h2)
 have hl2:(body++(bs.drop lo).take (hi_ - lo)).length≤50000000:=by rw [List.length_append,List.length_take,List.length_drop];omega
 have HL:=Lib.hid hl2
 obtain ⟨hto0,hto1⟩:=hto
 obtain ⟨t1,ht1⟩:∃ t1,to_ - 1=t1:=⟨_,rfl⟩
 rw [ht1] at x3
 have ect:(to_:Int) - 1=(t1:Int):=by omega
 have hct:(t1:Int)<(np:Int):=by omega
 have hcn:t1<np:=by omega
 have ew:IntKind.i64.wrap (t1:Int)=(t1:Int):=IntWalk.i64_in _ (by omega)
 clear ht1
 obtain ⟨ls,hls⟩:∃ ls,body=ls:=⟨_,rfl⟩
 have hl3:ls.length+((bs.drop lo).take (hi_ - lo)).length≤50000000:=by rw [← hls,← List.length_append];exact hl2
 have HL3:=Lib.hid hl3
 have HLS:=Lib.hid hls
 clear hK hb hM hbv hnl hl2 hl3 hls
 by_cases hv:vc=lo
 ·have e0:hi_ - lo=0:=by omega
  have e1:vc - lo=0:=by omega
  have e2:hi_≤lo:=by omega
  have ew:bodyW bg vc lo hi_=.slice (some ⟨bg,0,none⟩) 0 0:=if_pos hv
  rw [ew] at BB
  go_still_tail 12,(by kernel_rfl)
  change wpList _ _ _ _ _ w.drew
  go_wp2_with (at_builtin;refine wpList_appB rfl (.tmp 156) (.tmp 167) rfl _ _ ls ((bs.drop lo).take (hi_ - lo)) Hb rfl rfl (by rw [← HLS.out];exact HB.out.1) HB.out.2.drew.sat.left BB.out (by have:=HL3.out;omega) ?_;intro v6 w6 H6 hr6 m6;have K6:=Lib.hid (And.intro hr6 (Mv.call HB.out.2.drew m6));clear hr6 m6)
  exact HK.out _ _ _ _ _ _ _ _ _ _ _ _ _ _ H6 _ (by rw [HLS.out];exact K6.out.1) K6.out.2
 ·have e3:hi_≤vc:=by omega
  have ew:bodyW bg vc lo hi_=.slice (some ⟨bg,lo,none⟩) (hi_ - lo) (vc - lo):=if_neg hv
  rw [ew] at BB
  go_still_tail 12,(by kernel_rfl)
  change wpList _ _ _ _ _ w.drew
  go_wp2_with (at_builtin;refine wpList_appB rfl (.tmp 156) (.tmp 167) rfl _ _ ls ((bs.drop lo).take (hi_ - lo)) Hb rfl rfl (by rw [← HLS.out];exact HB.out.1) HB.out.2.drew.sat.left BB.out (by have:=HL3.out;omega) ?_;intro v6 w6 H6 hr6 m6;have K6:=Lib.hid (And.intro hr6 (Mv.call HB.out.2.drew m6));clear hr6 m6)
  exact HK.out _ _ _ _ _ _ _ _ _ _ _ _ _ _ H6 _ (by rw [HLS.out];exact K6.out.1) K6.out.2
theorem renc_r36b (K:Act→World→Prop) (xb pg np pc to_:Nat) (vb:Value) (body:List UInt8) (Hb R H0:List HB) (w0 w:World) (s0 s1 s2 s3 s4 s5 s6 s7 s8 s9 s10 s11 s12 s13 s14 s15 s17 s18 s19 s20 s24 s25 s26 s27 s28 s29 s30 s31 s32 s33 s34 s35 s36 s37 s38 s39 s40 s41 s42 s43 s44 s45 s46 s47 s48 s49 s50 s51 s52 s53 s54 s55 s56 s57 s58 s59 s60 s61 s62 s63 s64 s65 s66 s67 s68 s69 s70 s71 s72 s73 s74 s75 s76 s77 s78 s79 s80 s81 s82 s83 s84 s85 s86 s87 s88 s89 s90 s91 s92 s93 s94 s95 s96 s97 s98 s99 s100 s101 s102 s103 s104 s105 s106 s107 s108 s109 s110 s111 s112 s113 s114 s115 s116 s117 s118 s119 s120 s121 s122 s123 s124 s125 s126 s127 s128 s129 s130 s131 s132 s133 s134 s135 s136 s137 s138 s139 s140 s141 s142 s143 s144 s145 s146 s147 s148 s149 s150 s151 s152 s153 s154 s155 s156 s157 s158 s159 s160 s161 s162 s163 s164 s165 s166 s167 s168 s169 s170 s171:Value)
  (hb:RowB vb body Hb) (hM:Mv w0 H0 w (Hb++R)) (hlen:body.length≤40000000) (hto:0<to_∧to_≤np) (hnp:np≤100)
  (x1:w.cell? ⟨xb,1,none⟩=some (.slice (some ⟨pg,0,none⟩) np pc)) (x2:w.cell? ⟨xb,2,none⟩=some (.slice none 0 0)) (x3:w.cell? ⟨pg,(to_ - 1) * 2,none⟩=some (.int .i64 0))
  (hK:∀ (t156 t157 t158 t159 t160 t161 t162 t163 t164 t165 t166 t167 t168:Value) (vb':Value) (Hb':List HB) (wx:World),RowB vb' body Hb'→Mv w0 H0 wx (Hb'++R)→K ⟨List.toArray (s0::s1::s2::s3::s4::s5::s6::s7::s8::s9::s10::s11::s12::s13::s14::s15::(vb')::s17::s18::s19::s20::(.int .i64 (to_:Int))::(.pointer (some ⟨xb,0,none⟩))::(.int .i64 0)::s24::s25::s26::s27::s28::s29::s30::s31::s32::s33::s34::s35::s36::s37::s38::s39::s40::s41::s42::s43::s44::s45::s46::s47::s48::s49::s50::s51::s52::s53::s54::s55::s56::s57::s58::s59::s60::s61::s62::s63::s64::s65::s66::s67::s68::s69::s70::s71::s72::s73::s74::s75::s76::s77::s78::s79::s80::s81::s82::s83::s84::s85::s86::s87::s88::s89::s90::s91::s92::s93::s94::s95::s96::s97::s98::s99::s100::s101::s102::s103::s104::s105::s106::s107::s108::s109::s110::s111::s112::s113::s114::s115::s116::s117::s118::s119::s120::s121::s122::s123::s124::s125::s126::s127::s128::s129::s130::s131::s132::s133::s134::s135::s136::s137::s138::s139::s140::s141::s142::s143::s144::s145::s146::s147::s148::s149::s150::s151::s152::s153::s154::s155::t156::t157::t158::t159::t160::t161::t162::t163::t164::t165::t166::t167::t168::s169::s170::s171::[]),[]⟩ wx) :
  (regionOf 36 Tryz.f11).wp Tryz.prog (Exit.then K noQ) ⟨List.toArray (s0::s1::s2::s3::s4::s5::s6::s7::s8::s9::s10::s11::s12::s13::s14::s15::vb::s17::s18::s19::s20::(.int .i64 (to_:Int))::(.pointer (some ⟨xb,0,none⟩))::(.int .i64 0)::s24::s25::s26::s27::s28::s29::s30::s31::s32::s33::s34::s35::s36::s37::s38::s39::s40::s41::s42::s43::s44::s45::s46::s47::s48::s49::s50::s51::s52::s53::s54::s55::s56::s57::s58::s59::s60::s61::s62::s63::s64::s65::s66::s67::s68::s69::s70::s71::s72::s73::s74::s75::s76::s77::s78::s79::s80::s81::s82::s83::s84::s85::s86::s87::s88::s89::s90::s91::s92::s93::s94::s95::s96::s97::s98::s99::s100::s101::s102::s103::s104::s105::s106::s107::s108::s109::s110::s111::s112::s113::s114::s115::s116::s117::s118::s119::s120::s121::s122::s123::s124::s125::s126::s127::s128::s129::s130::s131::s132::s133::s134::s135::s136::s137::s138::s139::s140::s141::s142::s143::s144::s145::s146::s147::s148::s149::s150::s151::s152::s153::s154::s155::s156::s157::s158::s159::s160::s161::s162::s163::s164::s165::s166::s167::s168::s169::s170::s171::[]),[]⟩ w:=by
 conv in (regionOf _ _)=>whnf
 unfold noQ
 have HK:=Lib.hid hK
 have HB:=Lib.hid (And.intro hb hM)
 have BB:Hid (BV w (.slice none 0 0) []):=Lib.hid ⟨none,0,rfl,Nat.le_refl _,by decide,rfl,fun h=>absurd h (by decide)⟩
 obtain ⟨hto0,hto1⟩:=hto
 obtain ⟨t1,ht1⟩:∃ t1,to_ - 1=t1:=⟨_,rfl⟩
 rw [ht1] at x3
 have ect:(to_:Int) - 1=(t1:Int):=by omega
 have hct:(t1:Int)<(np:Int):=by omega
 have hcn:t1<np:=by omega
 have ew:IntKind.i64.wrap (t1:Int)=(t1:Int):=IntWalk.i64_in _ (by omega)
 clear ht1
 have HL:=Lib.hid hlen
 clear hK hb hM hlen
 go_still_tail 12,(by kernel_rfl)
 change wpList _ _ _ _ _ w.drew
 go_wp2_with (at_builtin;refine wpList_appB rfl (.tmp 156) (.tmp 167) rfl _ _ body [] Hb rfl rfl HB.out.1 HB.out.2.drew.sat.left BB.out (by have:=HL.out;simp only [List.length_nil];omega) ?_;intro v6 w6 H6 hr6 m6;rw [List.append_nil] at hr6;have K6:=Lib.hid (And.intro hr6 (Mv.call HB.out.2.drew m6));clear hr6 m6)
 exact HK.out _ _ _ _ _ _ _ _ _ _ _ _ _ _ H6 _ K6.out.1 K6.out.2
end
section
open Go.RowKit
theorem RBandP.setSaid {b:Nat} {m:BandM} {H:List HB} (h:RBandP b m H) (k to_:Nat):RBandP b (setSaidM m k to_) H:=by
 obtain ⟨mr,ff,fz,h1,h2⟩:=h
 exact ⟨mr,ff,fz,h1,h2.setSaid k to_⟩
theorem getD_row (ps:List (Int × Bool)) {i:Nat} (hi:i<ps.length):∃ p,ps[i]?=some p∧(ps.map (·.1)).getD i 0=p.1:=by
 refine ⟨ps[i],List.getElem?_eq_getElem hi,?_⟩
 rw [List.getD_eq_getElem?_getD,List.getElem?_map,List.getElem?_eq_getElem hi]
 rfl
theorem renc_b7 (K:Act→World→Prop) (b wb k n style count layer from_ to_:Nat) (m:BandM) (s:StM) (bs:List Bool) (body:List UInt8) (vb:Value) (H1 HW Hb R H0:List HB) (w0 w:World) (s0 s4 s5 s6 s7 s8 s9 s11 s12 s13 s14 s15 s17 s20 s21 s22 s23 s24 s25 s26 s27 s28 s29 s30 s31 s32 s33 s34 s35 s36 s37 s38 s39 s40 s41 s42 s43 s44 s45 s46 s47 s48 s49 s50 s51 s52 s53 s54 s55 s56 s57 s58 s59 s60 s61 s62 s63 s64 s65 s66 s67 s68 s69 s70 s71 s72 s73 s74 s75 s76 s77 s78 s79 s80 s81 s82 s83 s84 s85 s86 s87 s88 s89 s90 s91 s92 s93 s94 s95 s96 s97 s98 s99 s100 s101 s102 s103 s104 s105 s106 s107 s108 s109 s110 s111 s112 s113 s114 s115 s116 s117 s118 s119 s120 s121 s122 s123 s124 s125 s126 s127 s128 s129 s130 s131 s132 s133 s134 s135 s136 s137 s138 s139 s140 s141 s142 s143 s144 s145 s146 s147 s148 s149 s150 s151 s152 s153 s154 s155 s156 s157 s158 s159 s160 s161 s162 s163 s164 s165 s166 s167 s168 s169 s170 s171:Value)
  (hB:RBandP b m H1) (hw:RWrB wb bs HW) (hb:RowB vb body Hb) (hM:Mv w0 H0 w (HW++(Hb++(H1++R)))) (hk:m.ss[k]?=some s) (hn:m.ss.length=n) (hkn:k<n)
  (hfr:passN (s.ps.length:Int) (count:Int) (layer:Int)=(from_:Int)) (hto0:passN (s.ps.length:Int) (count:Int) ((layer:Int)+1)=(to_:Int)) (hle:from_≤to_) (hto:to_≤s.ps.length) (hc:1≤count∧count≤100) (hl:layer≤99) (hsty:style≤63) (hbs:bs.length≤30000000) (hbody:body.length≤30000000)
  (hK:∀ (t20 t21 t22 t23 t98 t99 t100 t101 t102 t103 t104 t105 t106 t107 t108 t109 t110 t111 t112 t113 t114 t115 t116 t117 t118 t119 t120 t121 t122 t123 t124 t125 t126 t127 t128 t129 t130 t131 t132 t133 t134 t135 t136 t137 t138 t139 t140 t141 t142 t143 t144 t145 t146 t147 t148 t149 t150 t151 t152 t153 t154 t155 t156 t157 t158 t159 t160 t161 t162 t163 t164 t165 t166 t167 t168:Value) (vb':Value) (HW' Hb' H1':List HB) (wx:World),RBandP b (setSaidM (headM m k style layer from_ to_ s).1 k to_) H1'→RWrB wb (bs++(headM m k style layer from_ to_ s).2) HW'→RowB vb' (if from_<to_ then body++bodyM s.ps s.bs from_ to_ else body) Hb'→Mv w0 H0 wx (HW'++(Hb'++(H1'++R))) →
   K ⟨List.toArray (s0::(.int .i64 (style:Int))::(.int .i64 (count:Int))::(.int .i64 (layer:Int))::s4::s5::s6::s7::s8::s9::(.pointer (some ⟨wb,0,none⟩))::s11::s12::s13::s14::s15::(vb')::s17::(.pointer (some ⟨b,0,none⟩))::(.int .i64 (k:Int))::t20::t21::t22::t23::s24::s25::s26::s27::s28::s29::s30::s31::s32::s33::s34::s35::s36::s37::s38::s39::s40::s41::s42::s43::s44::s45::s46::s47::s48::s49::s50::s51::s52::s53::s54::s55::s56::s57::s58::s59::s60::s61::s62::s63::s64::s65::s66::s67::s68::s69::s70::s71::s72::s73::s74::s75::s76::s77::s78::s79::s80::s81::s82::s83::s84::s85::s86::s87::s88::s89::s90::s91::s92::s93::s94::s95::s96::s97::t98::t99::t100::t101::t102::t103::t104::t105::t106::t107::t108::t109::t110::t111::t112::t113::t114::t115::t116::t117::t118::t119::t120::t121::t122::t123::t124::t125::t126::t127::t128::t129::t130::t131::t132::t133::t134::t135::t136::t137::t138::t139::t140::t141::t142::t143::t144::t145::t146::t147::t148::t149::t150::t151::t152::t153::t154::t155::t156::t157::t158::t159::t160::t161::t162::t163::t164::t165::t166::t167::t168::s169::s170::s171::[]),[]⟩ wx) :
  (blockOf 7 Tryz.f11).wp Tryz.prog (Exit.then K noQ) ⟨List.toArray (s0::(.int .i64 (style:Int))::(.int .i64 (count:Int))::(.int .i64 (layer:Int))::s4::s5::s6::s7::s8::s9::(.pointer (some ⟨wb,0,none⟩))::s11::s12::s13::s14::s15::vb::s17::(.pointer (some ⟨b,0,none⟩))::(.int .i64 (k:Int))::s20::s21::s22::s23::s24::s25::s26::s27::s28::s29::s30::s31::s32::s33::s34::s35::s36::s37::s38::s39::s40::s41::s42::s43::s44::s45::s46::s47::s48::s49::s50::s51::s52::s53::s54::s55::s56::s57::s58::s59::s60::s61::s62::s63::s64::s65::s66::s67::s68::s69::s70::s71::s72::s73::s74::s75::s76::s77::s78::s79::s80::s81::s82::s83::s84::s85::s86::s87::s88::s89::s90::s91::s92::s93::s94::s95::s96::s97::s98::s99::s100::s101::s102::s103::s104::s105::s106::s107::s108::s109::s110::s111::s112::s113::s114::s115::s116::s117::s118::s119::s120::s121::s122::s123::s124::s125::s126::s127::s128::s129::s130::s131::s132::s133::s134::s135::s136::s137::s138::s139::s140::s141::s142::s143::s144::s145::s146::s147::s148::s149::s150::s151::s152::s153::s154::s155::s156::s157::s158::s159::s160::s161::s162::s163::s164::s165::s166::s167::s168::s169::s170::s171::[]),[]⟩ w:=by
 conv in (blockOf _ _)=>whnf
 unfold noQ
 have HK:=Lib.hid hK
 obtain ⟨mr,ff,fz,⟨g,hg,rfl⟩,hr⟩:=hB
 have sg:=hr.good s (List.mem_of_getElem? hk)
 obtain ⟨r,hrk,er⟩:=hr.get hk
 obtain ⟨e1,e2,e3,e4⟩:=noSaid_eq er
 have hf1:(headF m k layer from_ to_).2.length≤3000∨True:=.inr trivial
 obtain ⟨lg,lc,pc,uc,pa,ua,Hp0,Hb0,-,-,-,hcs⟩:=rpart b mr g ff fz hg hrk
 obtain ⟨-,y2,c0,c1,c2,c3,c4,-,-⟩:=hcs w hM.sat.right.right.left
 have y1:=(hcs w hM.sat.right.right.left).1
 rw [hr.len,hn] at y1
 rw [e1] at c0
 rw [e2] at c1
 rw [e3] at c2
 rw [e4] at c4
 have NW:=Lib.hid (rnews_any s.pl r.said s.lb pa s.ps.length pc (.slice ua s.bs.length uc) count layer w sg.np hc (by omega) ⟨_,_,_,rfl⟩)
 rw [hfr,hto0] at NW
 have M0:Mv w0 H0 w (g.heap b mr++(HW++(Hb++R))):=hM.sub (fun c=>by simp only [cnt_append];omega) (fun c hc=>by simp only [List.mem_append] at hc ⊢;grind)
 have KM:=Lib.hid M0
 have KB:=Lib.hid (And.intro hg (And.intro hr (And.intro hw (And.intro hb (And.intro hk sg)))))
 have hkI:(k:Int)<(n:Int):=by omega
 have hk5:k * 5<100000:=by have:=hr.few;omega
 have hn1:n≤1000:=by have:=hr.few;omega
 obtain ⟨np,hnp⟩:∃ np,s.ps.length=np:=⟨_,rfl⟩
 have hnp1:np≤100:=by rw [← hnp];exact sg.np
 obtain ⟨nb,hnb⟩:∃ nb,s.bs.length=nb:=⟨_,rfl⟩
 have hnb1:nb≤300000:=by rw [← hnb];exact sg.bs
 rw [hnp] at c1 NW hto
 rw [hnb] at c2 NW
 have HN:=Lib.hid (And.intro hnp (And.intro hnb hn))
 have YC:Hid (∀ V HX,Mv w0 H0 V (g.heap b mr++HX)→V.cell? ⟨b,2,none⟩=some (.pointer (some ⟨g.ti,0,none⟩))):=Lib.hid (fun V HX m1=>(hcs V m1.sat.left).2.1)
 clear hK hg hr hw hb hM hk sg hrk er e1 e2 e3 e4 hf1 hcs hfr hto0 M0 hn hnp hnb
 go_upto_if 112 with (go_at_call 34;refine NW.out.mono ?_;rintro e w1 ⟨rfl,q1⟩;have K1:=Lib.hid (Mv.call (H:=[]) (H':=[]) KM.out q1);clear q1)
 clear y1 y2 c0 c1 c2 c3 c4
 have y2:=YC.out _ _ K1.out
 go_cut [112] from 113 to 168 (fun _ wx=>∃ H1' HW',RBandP b { m with first:=(headF m k layer from_ to_).1 } H1'∧RWrB wb (bs++(headF m k layer from_ to_).2) HW'∧Mv w0 H0 wx (H1'++(HW'++(Hb++R))))
 case first =>
  have M1:Mv w0 H0 w1 ((g.heap b mr++HW)++(Hb++R)):=by rw [List.append_assoc];exact K1.out
  have FE:=Lib.hid (rfirst_rel b wb k m mr ff fz g KB.out.1 KB.out.2.1 bs HW w1 ((layer:Int)+1) (by rw [HN.out.2.2];exact hkn) (by omega) KB.out.2.2.1 M1.sat.left (by omega))
  have BT1:=Lib.hid (rbit_bs wb bs 1 w1 HW KB.out.2.2.1 M1.sat.left.right (by omega))
  have BT0:=Lib.hid (rbit_bs wb bs 0 w1 HW KB.out.2.2.1 M1.sat.left.right (by omega))
  have M2:Mv w0 H0 w1 (HW++(g.heap b mr++(Hb++R))):=M1.sub (fun c=>by simp only [cnt_append];omega) (fun c hc=>by simp only [List.mem_append] at hc ⊢;grind)
  have KM1:=Lib.hid M1
  have KM2:=Lib.hid M2
  have BF:Hid (∀ (v:Bool) HW' V,from_≠0→v=decide (from_<to_)→RWrB wb (bs++[v]) HW'→Mv w0 H0 V (HW'++(g.heap b mr++(Hb++R)))→∃ H1' HW',RBandP b { m with first:=(headF m k layer from_ to_).1 } H1'∧RWrB wb (bs++(headF m k layer from_ to_).2) HW'∧Mv w0 H0 V (H1'++(HW'++(Hb++R)))):=Lib.hid (by
   intro v HW' V h0 hv h1 h2
   rw [headF_rel,if_neg h0,← hv]
   exact ⟨_,HW',⟨mr,ff,fz,⟨g,KB.out.1,rfl⟩,KB.out.2.1⟩,h1,h2.sub (fun c=>by simp only [cnt_append];omega) (fun c hc=>by simp only [List.mem_append] at hc ⊢;grind)⟩)
  clear M1 M2
  by_cases h0:from_=0
  ·have eF:Hid (headF m k layer from_ to_=encAt m.first k ((layer:Int)+1)):=Lib.hid (by rw [headF_rel,if_pos h0])
   have d0:((from_:Int) == 0)=true:=by simp;exact h0
   subst h0
   go_wp2_with (go_at_call 37;refine FE.out.mono ?_;rintro e w2 ⟨rfl,H1',HW',q1,q2,q3⟩;have K2:=Lib.hid (And.intro q1 (And.intro q2 (Mv.call KM1.out q3)));clear q1 q2 q3)
   go_meet
   rw [eF.out]
   exact ⟨H1',HW',K2.out.1,K2.out.2.1,by have h:=K2.out.2.2;rw [List.append_assoc] at h;exact h⟩
  ·have d0:((from_:Int) == 0)=false:=by simp;exact h0
   by_cases h1:from_<to_
   ·have B1:=Lib.hid (BF.out true · · h0 (decide_eq_true h1).symm)
    have d1:decide ((from_:Int)<(to_:Int))=true:=decide_eq_true (by omega)
    clear h0
    go_wp2_with (go_at_call 35;refine BT1.out.mono ?_;rintro e w2 ⟨rfl,HW',q1,q2⟩;have K2:=Lib.hid (And.intro q1 (Mv.call KM2.out q2));clear q1 q2)
    go_meet
    exact B1.out HW' _ K2.out.1 K2.out.2
   ·have B1:=Lib.hid (BF.out false · · h0 (decide_eq_false h1).symm)
    have d1:decide ((from_:Int)<(to_:Int))=false:=decide_eq_false (by omega)
    clear h0
    go_wp2_with (go_at_call 35;refine BT0.out.mono ?_;rintro e w2 ⟨rfl,HW',q1,q2⟩;have K2:=Lib.hid (And.intro q1 (Mv.call KM2.out q2));clear q1 q2)
    go_meet
    exact B1.out HW' _ K2.out.1 K2.out.2
 case rest =>
  obtain ⟨H2,HW2,q1,q2,q3⟩:=hcut
  have K2:=Lib.hid (And.intro q1 (And.intro q2 q3))
  clear q1 q2 q3 K1 KM NW y2 YC
  by_cases hne:to_=from_
  ·have d0:((to_:Int) == (from_:Int))=true:=by simp;omega
   have EH:Hid (headM m k style layer from_ to_ s=({ m with first:=(headF m k layer from_ to_).1 },(headF m k layer from_ to_).2)):=Lib.hid (by unfold headM;rw [if_pos hne])
   have EB:Hid ((if from_<to_ then body++bodyM s.ps s.bs from_ to_ else body)=body):=Lib.hid (if_neg (by omega))
   clear hne
   go_wp2_with fail
   refine HK.out _ _ _ _ _ _ _ _ _ _ _ _ _ _ _ _ _ _ _ _ _ _ _ _ _ _ _ _ _ _ _ _ _ _ _ _ _ _ _ _ _ _ _ _ _ _ _ _ _ _ _ _ _ _ _ _ _ _ _ _ _ _ _ _ _ _ _ _ _ _ _ _ _ _ _ vb HW2 Hb H2 _ ?_ ?_ ?_ ?_
   ·rw [EH.out];exact K2.out.1.setSaid k to_
   ·rw [EH.out];exact K2.out.2.1
   ·rw [EB.out];exact KB.out.2.2.2.1
   ·exact K2.out.2.2.sub (fun c=>by simp only [cnt_append];omega) (fun c hc=>by simp only [List.mem_append] at hc ⊢;grind)
  ·have hft:from_<to_:=by omega
   have d0:((to_:Int) == (from_:Int))=false:=by simp;omega
   have M2:Mv w0 H0 wc ((H2++HW2)++(Hb++R)):=by rw [List.append_assoc];exact K2.out.2.2
   have hl2:(bs++(headF m k layer from_ to_).2).length≤39000000:=by
    have h:=headF_length m k layer from_ to_ (by
     rcases Nat.eq_zero_or_pos from_ with h | h
     ·exact (KB.out.2.1.first (by rw [HN.out.2.2];omega)).2.1.2.2.2.2
     ·exact (KB.out.2.1.first (by rw [HN.out.2.2];omega)).2.1.2.2.2.2) (by omega)
    rw [List.length_append]
    omega
   have SY:=Lib.hid (rsay_rel b wb k from_ to_ style { m with first:=(headF m k layer from_ to_).1 } s H2 HW2 _ wc K2.out.1 K2.out.2.1 M2.sat.left KB.out.2.2.2.2.1 hl2 hft (by rw [HN.out.1];exact hto) hsty)
   have KM2:=Lib.hid M2
   have hnF:Hid (¬ to_=from_):=Lib.hid hne
   clear M2 hl2 hne
   go_upto_region 32 with (go_at_call 38;refine SY.out.mono ?_;rintro e w3 ⟨rfl,H3,HW3,q1,q2,q3⟩;have K3:=Lib.hid (And.intro q1 (And.intro q2 (Mv.call KM2.out q3)));clear q1 q2 q3)
   obtain ⟨m3,hm3⟩:∃ m3:BandM,m3={ m with first:=(headF m k layer from_ to_).1,zeros:=(headZ m k from_ s).1,ss:=m.ss.set k (s.withS s.said (needM s style from_ to_)) }:=⟨_,rfl⟩
   have hB3:RBandP b m3 H3:=by rw [hm3];exact K3.out.1
   have hk3:m3.ss[k]?=some (s.withS s.said (needM s style from_ to_)):=by rw [hm3];exact List.getElem?_set_self (by rw [HN.out.2.2];exact hkn)
   have hn3:m3.ss.length=n:=by rw [hm3];show (m.ss.set k _).length=n;rw [List.length_set];exact HN.out.2.2
   have HM3:=Lib.hid hm3
   clear hm3
   have KB3:=Lib.hid hB3
   obtain ⟨mr3,ff3,fz3,⟨g3,hg3,rfl⟩,hr3⟩:=hB3
   obtain ⟨r3,hrk3,er3⟩:=hr3.get hk3
   obtain ⟨f1,f2,f3,f4⟩:=noSaid_eq er3
   obtain ⟨lg3,lc3,pc3,uc3,pa3,ua3,Hp3,Hb3,p1,p2,p3,hcs3⟩:=rpart b mr3 g3 ff3 fz3 hg3 hrk3
   have M3:Mv w0 H0 w3 (g3.heap b mr3++(HW3++(Hb++R))):=by rw [← List.append_assoc];exact K3.out.2.2
   obtain ⟨y1,-,c0,c1,c2,-,-,-,-⟩:=hcs3 w3 M3.sat.left
   rw [hr3.len,hn3] at y1
   replace f1:r3.pl=s.pl:=f1
   replace f2:r3.ps=s.ps:=f2
   replace f3:r3.bs=s.bs:=f3
   rw [f1] at c0
   rw [f2,HN.out.1] at c1
   rw [f3,HN.out.2.1] at c2
   rw [f2,HN.out.1] at p1
   rw [f3,HN.out.2.1] at p2
   obtain ⟨e0,pg,rfl⟩:=p1.form (by omega)
   obtain ⟨lo,hi_,hlo,hhi,hlh,hhn,hbm⟩:=bodyM_rel KB.out.2.2.2.2.2 hft (by rw [HN.out.1];exact hto)
   have M4:=M3.alloc 51 #[.int .i64 s.pl,.slice (some ⟨pg,0,none⟩) np pc3,.slice ua3 nb uc3]
   obtain ⟨xb,hxb⟩:∃ xb,w3.heap.size=xb:=⟨_,rfl⟩
   obtain ⟨w4,hw4⟩:∃ w4,w4=w3.alloc (.cells #[.int .i64 s.pl,.slice (some ⟨pg,0,none⟩) np pc3,.slice ua3 nb uc3] 51):=⟨_,rfl⟩
   rw [← hw4,hxb] at M4
   have KM4:=Lib.hid M4
   have CE:Hid (∀ V HX,Mv w0 H0 V (⟨xb,51,#[.int .i64 s.pl,.slice (some ⟨pg,0,none⟩) np pc3,.slice ua3 nb uc3]⟩::(g3.heap b mr3++HX))→V.cell? ⟨xb,1,none⟩=some (.slice (some ⟨pg,0,none⟩) np pc3)∧V.cell? ⟨xb,2,none⟩=some (.slice ua3 nb uc3)∧V.cell? ⟨pg,(to_ - 1) * 2,none⟩=some (.int .i64 (hi_:Int))∧(0<from_→V.cell? ⟨pg,(from_ - 1) * 2,none⟩=some (.int .i64 (lo:Int)))∧BV V (.slice ua3 nb uc3) s.bs):=Lib.hid (by
    intro V HX m5
    have sA:=m5.sat.at_ 0 rfl
    have sB:Sat V (g3.heap b mr3):=(Sat.right (A:=[_]) m5.sat).left
    obtain ⟨-,-,-,-,-,-,-,sp,sb⟩:=hcs3 V sB
    refine ⟨sA.cell 1,sA.cell 2,?_,fun h0=>?_,?_⟩
    ·obtain ⟨p,h1,h2⟩:=getD_row s.ps (i:=to_ - 1) (by rw [HN.out.1];omega)
     rw [hhi,h2]
     exact (p1.at_ sp h1).1
    ·obtain ⟨p,h1,h2⟩:=getD_row s.ps (i:=from_ - 1) (by rw [HN.out.1];omega)
     rw [hlo,if_neg (by omega),h2]
     exact (p1.at_ sp h1).1
    ·exact p2.bv sb)
   have HBM:=Lib.hid (And.intro hlo (And.intro hlh (And.intro hhn hbm)))
   have UA:Hid ((ua3=none∧nb=0∧uc3=0)∨∃ bg,ua3=some ⟨bg,0,none⟩∧nb≤uc3):=Lib.hid (by
    rcases p2.2 with ⟨h1,h2,h3⟩ | ⟨bg,vc,cur,h1,h2,h3⟩
    ·simp only [Value.slice.injEq] at h1
     exact .inl h1
    ·simp only [Value.slice.injEq] at h1
     refine .inr ⟨bg,h1.1,?_⟩
     have h4:=h1.2.1
     have h5:=h1.2.2
     omega)
   clear M3 M4 p1 p2 p3 hcs3 hg3 hr3 hrk3 er3 f2 f3 f4 hk3 hn3 hlo hhi hlh hhn hbm e0
   go_upto_region 33 with fail
   rw [← hw4]
   try simp only [hxb]
   clear y1 c0 c1 c2 hw4
   obtain ⟨x1,x2,x3,x4,-⟩:=CE.out w4 _ KM4.out
   go_upto_if 148 with fail
   go_cut [23,148] from 149 to 168 (fun s23 _ wx=>s23=.int .i64 (lo:Int)∧wx=w4)
   case first =>
    by_cases h0:from_=0
    ·have d1:decide ((0:Int)<(from_:Int))=false:=by simp;omega
     have d2:¬ 0<from_:=by omega
     have e:Hid (lo=0):=Lib.hid (by have h:=HBM.out.1;rw [if_pos h0] at h;omega)
     clear x4 h0
     go_wp2_with fail
     go_meet
     exact ⟨by rw [e.out];rfl,rfl⟩
    ·have d1:decide ((0:Int)<(from_:Int))=true:=by simp;omega
     have d2:0<from_:=by omega
     have x5:=x4 (by omega)
     obtain ⟨t1,ht1⟩:∃ t1,from_ - 1=t1:=⟨_,rfl⟩
     rw [ht1] at x5
     have ect:(from_:Int) - 1=(t1:Int):=by omega
     have hct:(t1:Int)<(np:Int):=by omega
     have hcn:t1<np:=by omega
     have ew:IntKind.i64.wrap (t1:Int)=(t1:Int):=IntWalk.i64_in _ (by omega)
     clear x4 h0 ht1
     go_wp2_with fail
     go_meet
     exact ⟨rfl,rfl⟩
   case rest =>
    obtain ⟨rfl,rfl⟩:=hcut
    have EH:Hid (headM m k style layer from_ to_ s=(m3,(headF m k layer from_ to_).2++((headZ m k from_ s).2++(tellM (to_ - from_)++sizesB s style from_ to_)))):=Lib.hid (by unfold headM;rw [if_neg hnF.out,HM3.out])
    have EB:Hid ((if from_<to_ then body++bodyM s.ps s.bs from_ to_ else body)=body++bodyM s.ps s.bs from_ to_):=Lib.hid (if_pos hft)
    have M5:Mv w0 H0 wc (Hb++(⟨xb,51,#[.int .i64 s.pl,.slice (some ⟨pg,0,none⟩) np pc3,.slice ua3 nb uc3]⟩::(g3.heap b mr3++(HW3++R)))):=KM4.out.sub (fun c=>by simp only [cnt_append,cnt_cons];omega) (fun c hc=>by simp only [List.mem_append,List.mem_cons] at hc ⊢;grind)
    have FIN:Hid (∀ (vb':Value) (Hb':List HB) (wx:World),RowB vb' (body++bodyM s.ps s.bs from_ to_) Hb'→Mv w0 H0 wx (Hb'++(⟨xb,51,#[.int .i64 s.pl,.slice (some ⟨pg,0,none⟩) np pc3,.slice ua3 nb uc3]⟩::(g3.heap b mr3++(HW3++R))))→∃ H1' HW',RBandP b (setSaidM (headM m k style layer from_ to_ s).1 k to_) H1'∧RWrB wb (bs++(headM m k style layer from_ to_ s).2) HW'∧RowB vb' (if from_<to_ then body++bodyM s.ps s.bs from_ to_ else body) Hb'∧Mv w0 H0 wx (HW'++(Hb'++(H1'++R)))):=Lib.hid (by
     intro vb' Hb' wx h1 h2
     refine ⟨g3.heap b mr3,HW3,?_,?_,?_,h2.sub (fun c=>?_) (fun c hc=>?_)⟩
     ·rw [EH.out];exact KB3.out.setSaid k to_
     ·rw [EH.out]
      have h:=K3.out.2.1
      rw [List.append_assoc] at h
      exact h
     ·rw [EB.out];exact h1
     ·simp only [cnt_append,cnt_cons];omega
     ·simp only [List.mem_append,List.mem_cons] at hc ⊢;grind)
    obtain ⟨x1,x2,x3,-,x5⟩:=CE.out wc _ KM4.out
    have X5:=Lib.hid x5
    have KM5:=Lib.hid M5
    clear x4 x5 M5
    go_upto_region 36 with fail
    rcases UA.out with ⟨rfl,rfl,rfl⟩ | ⟨bg,rfl,hvc⟩
    ·have hz:lo=0∧hi_=0∧bodyM s.ps s.bs from_ to_=[]:=by
      obtain ⟨-,h2,h3,h4⟩:=HBM.out
      rw [HN.out.2.1] at h3
      refine ⟨by omega,by omega,?_⟩
      rw [h4,show hi_ - lo=0 by omega,List.take_zero]
     obtain ⟨rfl,rfl,hbz⟩:=hz
     refine wp_piece_end (renc_r36b _ xb pg np pc3 to_ vb body Hb _ H0 w0 wc _ _ _ _ _ _ _ _ _ _ _ _ _ _ _ _ _ _ _ _ _ _ _ _ _ _ _ _ _ _ _ _ _ _ _ _ _ _ _ _ _ _ _ _ _ _ _ _ _ _ _ _ _ _ _ _ _ _ _ _ _ _ _ _ _ _ _ _ _ _ _ _ _ _ _ _ _ _ _ _ _ _ _ _ _ _ _ _ _ _ _ _ _ _ _ _ _ _ _ _ _ _ _ _ _ _ _ _ _ _ _ _ _ _ _ _ _ _ _ _ _ _ _ _ _ _ _ _ _ _ _ _ _ _ _ _ _ _ _ _ _ _ _ _ _ _ _ _ _ _ _ _ _ _ _ _ _ _ _ _ _ _ _ _ _ _ _ _ KB.out.2.2.2.1 KM5.out (by omega) ⟨by omega,hto⟩ hnp1 x1 x2 x3 ?_)
     rintro _ _ _ _ _ _ _ _ _ _ _ _ _ vb' Hb' wx h1 h2
     obtain ⟨H1',HW',a1,a2,a3,a4⟩:=FIN.out vb' Hb' wx (by rw [hbz,List.append_nil];exact h1) h2
     exact HK.out _ _ _ _ _ _ _ _ _ _ _ _ _ _ _ _ _ _ _ _ _ _ _ _ _ _ _ _ _ _ _ _ _ _ _ _ _ _ _ _ _ _ _ _ _ _ _ _ _ _ _ _ _ _ _ _ _ _ _ _ _ _ _ _ _ _ _ _ _ _ _ _ _ _ _ vb' HW' Hb' H1' wx a1 a2 a3 a4
    ·refine wp_piece_end (renc_r36a _ xb bg nb uc3 pg np pc3 lo hi_ to_ vb body s.bs Hb _ H0 w0 wc _ _ _ _ _ _ _ _ _ _ _ _ _ _ _ _ _ _ _ _ _ _ _ _ _ _ _ _ _ _ _ _ _ _ _ _ _ _ _ _ _ _ _ _ _ _ _ _ _ _ _ _ _ _ _ _ _ _ _ _ _ _ _ _ _ _ _ _ _ _ _ _ _ _ _ _ _ _ _ _ _ _ _ _ _ _ _ _ _ _ _ _ _ _ _ _ _ _ _ _ _ _ _ _ _ _ _ _ _ _ _ _ _ _ _ _ _ _ _ _ _ _ _ _ _ _ _ _ _ _ _ _ _ _ _ _ _ _ _ _ _ _ _ _ _ _ _ _ _ _ _ _ _ _ _ _ _ _ _ _ _ _ _ _ _ _ _ _ KB.out.2.2.2.1 KM5.out (by omega) HN.out.2.1 hnb1 hvc HBM.out.2.1 (by rw [← HN.out.2.1];exact HBM.out.2.2.1) ⟨by omega,hto⟩ hnp1 x1 x2 x3 X5.out ?_)
     rintro _ _ _ _ _ _ _ _ _ _ _ _ _ vb' Hb' wx h1 h2
     rw [← HBM.out.2.2.2] at h1
     obtain ⟨H1',HW',a1,a2,a3,a4⟩:=FIN.out vb' Hb' wx h1 h2
     exact HK.out _ _ _ _ _ _ _ _ _ _ _ _ _ _ _ _ _ _ _ _ _ _ _ _ _ _ _ _ _ _ _ _ _ _ _ _ _ _ _ _ _ _ _ _ _ _ _ _ _ _ _ _ _ _ _ _ _ _ _ _ _ _ _ _ _ _ _ _ _ _ _ _ _ _ _ vb' HW' Hb' H1' wx a1 a2 a3 a4
end
end Go.Proofs.YtjngfhgakokejaaGreat
