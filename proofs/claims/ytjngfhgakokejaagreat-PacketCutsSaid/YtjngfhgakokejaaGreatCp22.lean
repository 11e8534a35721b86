/- packet: a packet's blocks, one by one: what a step is; a band among others. packet.Encode: a round of the loop that writes. packet.Encode: a round of the loop that looks. -/
import Derived.Test.YtjngfhgakokejaaGreatCp17
import Derived.Test.YtjngfhgakokejaaGreatCp21
import Derived.Test.YtjngfhgakokejaaGreatCp12
set_option maxRecDepth 100000
set_option maxHeartbeats 8000000
set_option linter.all false
namespace Go.Proofs.YtjngfhgakokejaaGreat
section
open Go.RowKit
theorem passN_le_total (t:Nat) (n l:Int):passN (t:Int) n l≤(t:Int):=by
 unfold passN
 split
 ·omega
 ·split
  ·omega
  ·split
   ·omega
   ·have h1:1≤min n 100:=by omega
    have h2:0≤min (max (t:Int) 0) 100∧min (max (t:Int) 0) 100≤t:=by omega
    have h3:1≤min l 100∧min l 100≤min n 100:=by omega
    generalize min n 100=a at *
    generalize min (max (t:Int) 0) 100=b at *
    generalize min l 100=c at *
    have h4:b * c≤b * a:=Int.mul_le_mul_of_nonneg_left h3.2 h2.1
    have h5:b * c / a≤b:=Int.ediv_le_of_le_mul (by omega) h4
    omega
def toM (count layer:Nat) (s:StM):Nat:=max (passN s.ps.length (count:Int) ((layer:Int)+1)).toNat s.said.toNat
def setSaidM (m:BandM) (k to_:Nat):BandM:=match m.ss[k]? with
 | none=>m
 | some s=>{ m with ss:=m.ss.set k (s.withS (to_:Int) s.lb) }
structure PackS where
 M:Nat→BandM
 bits:List Bool
 body:List UInt8
def stepE (count style layer:Nat) (S:PackS) (x:SpotX):PackS:=match (S.M x.d.bb).ss[x.k]? with
  | none=>S
  | some s =>
    ⟨updM S.M x.d.bb (setSaidM (headM (S.M x.d.bb) x.k style layer s.said.toNat (toM count layer s) s).1 x.k (toM count layer s)),
     S.bits++(headM (S.M x.d.bb) x.k style layer s.said.toNat (toM count layer s) s).2,
     if s.said.toNat<toM count layer s then S.body++bodyM s.ps s.bs s.said.toNat (toM count layer s) else S.body⟩
structure GoodS (s:StM):Prop where
 pl:0≤s.pl∧s.pl≤60
 lb:s.lb≤100
 bs:s.bs.length≤300000
structure GoodB (m:BandM):Prop where
 pl:0≤m.planes∧m.planes≤60
 ss:∀ s∈m.ss,GoodS s
theorem GoodB.plant {m:BandM} (h:GoodB m) (c:Nat):GoodB (plantM c m):=by
 obtain⟨e1,e2⟩:=plantM_ss c m
 exact⟨by rw[e2];exact h.pl,by rw[e1];exact h.ss⟩
theorem GoodB.setS {m:BandM} (h:GoodB m) {k:Nat} {s:StM} (hs:m.ss[k]?=some s) (f z:List LevM) (said lb:Int) (hl:lb≤100):GoodB { m with first:=f,zeros:=z,ss:=m.ss.set k (s.withS said lb) }:=by
 refine⟨h.pl,fun x hx=>?_⟩
 rcases List.mem_or_eq_of_mem_set hx with hx | rfl
 ·exact h.ss x hx
 ·have:=h.ss s (List.mem_of_getElem? hs)
  exact⟨this.pl,hl,this.bs⟩
theorem needM_le (s:StM) (style said to_:Nat) (he:∀ p∈s.ps,0≤p.1∧p.1≤100000000) (hl:s.lb≤100):needM s style said to_≤100∧s.lb≤needM s style said to_∧needM s style said to_≤max s.lb 41:=by
 have h2:=needK_bd (segL1 style said to_) (segL2 s style said to_) s.lb (fun i=>(sizesM_getD _ (by intro e h;obtain⟨p,hp,rfl⟩:=List.mem_map.1 h;exact he p hp) said (piecesM style said to_) i).2) (piecesM style said to_).length
 unfold needM
 omega
def headS (s:StM) (style said to_:Nat):StM:=if to_=said then s else s.withS s.said (needM s style said to_)
theorem headM_get (m:BandM) (k style layer said to_:Nat) (s:StM) (h:m.ss[k]?=some s):(headM m k style layer said to_ s).1.ss[k]?=some (headS s style said to_):=by
 unfold headM headS
 split
 ·exact h
 ·exact List.getElem?_set_self (List.getElem?_eq_some_iff.1 h).1
theorem headS_same (s:StM) (style said to_:Nat):(headS s style said to_).ps=s.ps∧(headS s style said to_).bs=s.bs∧(headS s style said to_).said=s.said:=by
 unfold headS
 split <;> exact⟨rfl,rfl,rfl⟩
theorem GoodB.head {m:BandM} (g:GoodB m) {k:Nat} {s:StM} (h:m.ss[k]?=some s) (style layer said to_:Nat) (he:∀ p∈s.ps,0≤p.1∧p.1≤100000000):GoodB (headM m k style layer said to_ s).1:=by
 have gs:=g.ss s (List.mem_of_getElem? h)
 unfold headM
 split
 ·exact⟨g.pl,g.ss⟩
 ·exact g.setS h _ _ _ _ (needM_le s style said to_ he gs.lb).1
theorem GoodB.said {m:BandM} (g:GoodB m) (k to_:Nat):GoodB (setSaidM m k to_):=by
 unfold setSaidM
 split
 ·exact g
 ·rename_i s hs
  exact g.setS hs m.first m.zeros _ _ (g.ss s (List.mem_of_getElem? hs)).lb
theorem headM_length (m:BandM) (k style layer said to_:Nat) (s:StM) (hf:m.first.length≤20) (hz:m.zeros.length≤20) (g:GoodB m) (gs:GoodS s) (hl:layer≤100) (he:∀ p∈s.ps,0≤p.1∧p.1≤100000000) (hb:0≤s.lb) (ht:to_≤1000):(headM m k style layer said to_ s).2.length≤130000:=by
 have h1:=headF_length m k layer said to_ hf hl
 have gp:=g.pl
 have gq:=gs.pl
 have h2:=headZ_length m k said s hz (by omega)
 have h3:=tellM_length (to_ - said)
 have h4:=needM_le s style said to_ he gs.lb
 have h5:=bitsK_length (segL1 style said to_) (segL2 s style said to_) (needM s style said to_) (piecesM style said to_).length
 have h6:=pieces_length style said to_
 have h7:=gs.lb
 unfold headM
 split
 ·simp only
  omega
 ·simp only[sizesB,List.length_append,List.length_replicate,List.length_cons]
  omega
theorem bands_at {D:List BandA} {M:Nat→BandM} {HB1:List HB} (hB:BandsR D M HB1) {w0 w:World} {H0 Y:List HB} (m:Mv w0 H0 w (Y++HB1)) {d:BandA} (hd:d∈D):∃ (b:BandG) (R:List HB),b.ok d∧b.model=M d.bb∧(∀ W,Mv w0 H0 W (Y++HB1)→Mv w0 H0 W ((Y++R)++b.heap d)) ∧
  ∀ (b':BandG) (Y':List HB),b'.ok d→∃ HB',BandsR D (updM M d.bb b'.model) HB'∧∀ W,Mv w0 H0 W ((Y'++R)++b'.heap d)→Mv w0 H0 W (Y'++HB'):=by
 obtain⟨H1,R,⟨b,hb1,hb2,rfl⟩,sm,back⟩:=hB.split m.sat.right.1 hd
 refine⟨b,R,hb2,hb1,fun W mW=>?_,fun b' Y' hb'=>?_⟩
 ·refine mW.sub (fun g=>?_) (fun y hy=>?_)
  ·have:=sm.1 g
   simp only[cnt_append] at this ⊢
   omega
  ·have:=sm.2 y
   simp only[List.mem_append] at this hy ⊢
   grind
 ·obtain⟨HB',h3,h4⟩:=back b'.model _ ⟨b',rfl,hb',rfl⟩
  refine⟨HB',h3,fun W mW=>mW.sub (fun g=>?_) (fun y hy=>?_)⟩
  ·have:=h4.1 g
   simp only[cnt_append] at this ⊢
   omega
  ·have:=h4.2 y
   simp only[List.mem_append] at this hy ⊢
   grind
theorem model_get {b:BandG} {m:BandM} (e:b.model=m) {k:Nat} {s:StM} (h:m.ss[k]?=some s):∃ st,b.G[k]?=some st∧st.m=s:=by
 subst e
 simp only[BandG.model,List.getElem?_map] at h
 exact Option.map_eq_some_iff.1 h
section
variable {D:List BandA} {M:Nat→BandM} {HB1 H0 Y HW:List HB} {w0 w:World} {d:BandA} {k wb:Nat} {s:StM} {bs:List Bool}
theorem step_head (hB:BandsR D M HB1) (hd:d∈D) (hk:k<d.n) (hs:(M d.bb).ss[k]?=some s) (g:GoodB (M d.bb)) (hw:WrB wb bs HW) (m:Mv w0 H0 w ((HW++Y)++HB1)) (style layer to_:Nat) (h1:s.said.toNat≤to_) (h2:to_≤s.ps.length) (h3:style≤63) (h4:layer≤100) (h5:bs.length≤40000000) :
  Calls Tryz.prog 29 #[SpotX.v ⟨d,k⟩,.pointer (some ⟨wb,0,none⟩),.int .i64 (style:Int),.int .i64 (layer:Int),.int .i64 (to_:Int)] w fun e w'=>e=.returned (.tuple #[]) ∧
   ∃ HW' HB',WrB wb (bs++(headM (M d.bb) k style layer s.said.toNat to_ s).2) HW'∧BandsR D (updM M d.bb (headM (M d.bb) k style layer s.said.toNat to_ s).1) HB'∧Mv w0 H0 w' ((HW'++Y)++HB'):=by
 obtain⟨b,R,ok,em,fwd,back⟩:=bands_at hB m hd
 obtain⟨st,hst,rfl⟩:=model_get em hs
 have gs:=g.ss _ (List.mem_of_getElem? hs)
 have hso:=ok.st st (List.mem_of_getElem? hst)
 have gp:=g.pl
 rw[← em] at gp ⊢
 have m1:Mv w0 H0 w ((HW++b.heap d)++(Y++R)):=(fwd w m).sub (fun g=>by simp only[cnt_append];omega) (fun c hc=>by simp only[List.mem_append] at hc ⊢;grind)
 refine(head_any d b k wb style layer st.m.said.toNat to_ st bs HW w ok hk hst hw m1.sat.left gp gs.pl gs.lb (by have:=hso.2.2.said;omega) h1 h2 h3 h4 h5).mono ?_
 rintro e w' ⟨rfl,b',HW',q1,q2,q3,q4⟩
 obtain⟨HB',h6,h7⟩:=back b' (HW'++Y) q1
 refine⟨rfl,HW',HB',q3,by rw[← q2];exact h6,h7 w' ?_⟩
 exact(Mv.call m1 q4).sub (fun g=>by simp only[cnt_append];omega) (fun c hc=>by simp only[List.mem_append] at hc ⊢;grind)
theorem step_body (hB:BandsR D M HB1) (hd:d∈D) (hk:k<d.n) (hs:(M d.bb).ss[k]?=some s) (m:Mv w0 H0 w (Y++HB1)) (to_:Nat) (h1:s.said.toNat<to_) (h2:to_≤s.ps.length) :
  ∃ v0,∀ W,Mv w0 H0 W (Y++HB1)→BV W v0 (bodyM s.ps s.bs s.said.toNat to_)∧Calls Tryz.prog 30 #[SpotX.v ⟨d,k⟩,.int .i64 (to_:Int)] W fun e w'=>e=.returned v0∧Mv w0 H0 w' (Y++HB1):=by
 obtain⟨b,R,ok,em,fwd,back⟩:=bands_at hB m hd
 obtain⟨st,hst,rfl⟩:=model_get em hs
 have hso:=ok.st st (List.mem_of_getElem? hst)
 have hkk:k<4096:=Nat.lt_of_lt_of_le hk ok.small
 obtain⟨v0,b1,b2⟩:=body_any ⟨d,k⟩ st.vp st.vb st.m.ps st.m.bs st.m.said.toNat to_ st.Hp st.Hb hso.1 hso.2.1 hso.2.2.np hso.2.2.nb hso.2.2.ends (by show k≤100000;omega) h1 h2
 refine⟨v0,fun W mW=>?_⟩
 have m1:=fwd W mW
 have sb:=StG.sat m1.sat.right (List.mem_of_getElem? hst)
 have a3:=Mv.blkm m1 (List.mem_append_right _ (b.mem_states d))
 obtain⟨c0,c1,c2,c3,c4,-⟩:=state_cells a3 hst
 refine⟨b1 W sb.2,(b2 W c1 c2 (by have h3:=hso.2.2.said.1;rw[Int.toNat_of_nonneg h3];exact c3) sb.1).mono ?_⟩
 rintro e w' ⟨rfl,m2⟩
 exact⟨rfl,Mv.call (H:=[]) (H':=[]) mW m2⟩
theorem step_said (hB:BandsR D M HB1) (hd:d∈D) (hs:(M d.bb).ss[k]?=some s) (m:Mv w0 H0 w (Y++HB1)) (to_:Nat) (h2:to_≤s.ps.length) :
  ∃ HB',BandsR D (updM M d.bb (setSaidM (M d.bb) k to_)) HB'∧∀ W,Mv w0 H0 W (Y++HB1)→Mv w0 H0 (W.setCell ⟨d.lb,k * 5+3,none⟩ (.int .i64 (to_:Int))) (Y++HB'):=by
 obtain⟨b,R,ok,em,fwd,back⟩:=bands_at hB m hd
 obtain⟨st,hst,rfl⟩:=model_get em hs
 have hso:=ok.st st (List.mem_of_getElem? hst)
 have ok':=BandG.setS_ok ok hst (said:=(to_:Int)) (lb:=st.m.lb) ⟨by omega,by omega⟩ hso.2.2.lb
 obtain⟨HB',h6,h7⟩:=back (b.setS k st (to_:Int) st.m.lb) Y ok'
 refine⟨HB',?_,fun W mW=>h7 _ ?_⟩
 ·have e:(b.setS k st (to_:Int) st.m.lb).model=setSaidM (M d.bb) k to_:=by
   rw[BandG.setS_model,em]
   unfold setSaidM
   rw[hs]
  rw[← e]
  exact h6
 ·exact BandG.setS_mv (fwd W mW) hst (to_:Int) st.m.lb 3 _ (by omega) rfl
theorem step_cells (hB:BandsR D M HB1) (hd:d∈D) (hs:(M d.bb).ss[k]?=some s) (m:Mv w0 H0 w (Y++HB1)):∃ A cp,∀ W,Mv w0 H0 W (Y++HB1)→W.cell? ⟨d.lb,k * 5+1,none⟩=some (.slice A s.ps.length cp)∧W.cell? ⟨d.lb,k * 5+3,none⟩=some (.int .i64 s.said)∧W.frozen? ⟨d.lb,k * 5+3,none⟩=false:=by
 obtain⟨b,R,ok,em,fwd,back⟩:=bands_at hB m hd
 obtain⟨st,hst,rfl⟩:=model_get em hs
 have hso:=ok.st st (List.mem_of_getElem? hst)
 obtain⟨A,cp,hvp⟩:=hso.passes
 refine⟨A,cp,fun W mW=>?_⟩
 have a3:=Mv.blkm (fwd W mW) (List.mem_append_right _ (b.mem_states d))
 obtain⟨c0,c1,c2,c3,c4,c5⟩:=state_cells a3 hst
 rw[hvp] at c1
 exact⟨c1,c3,c5 _⟩
theorem step_fits (hB:BandsR D M HB1) (hd:d∈D) (hs:(M d.bb).ss[k]?=some s):s.Fits∧(M d.bb).first.length≤20∧(M d.bb).zeros.length≤20:=by
 obtain⟨b,k1,k2,k3⟩:=hB.band hd
 obtain⟨st,hst,rfl⟩:=model_get k1 hs
 rw[← k1]
 exact⟨(k2.st st (List.mem_of_getElem? hst)).2.2,by have:=k2.kf.1;simpa [BandG.model] using this,by have:=k2.kz.1;simpa [BandG.model] using this⟩
end
end
section
open Go.RowKit Go.Shelf
attribute [local go_sem] Oper.semAt_some
def getBlockR (n:Nat):Code→Option Code
 | .block i b=>if i == n then some (.block i b) else getBlockR n b
 | .seq a b=>(getBlockR n a).or (getBlockR n b)
 | .cond _ a b=>(getBlockR n a).or (getBlockR n b)
 | .loop b=>getBlockR n b
 | .scope b=>getBlockR n b
 | .rangeFunc _ _ _ b=>getBlockR n b
 | _=>none
def blockR (n:Nat) (f:Func):Code:=((f.body.bind (getBlockR n))).getD .skip
def newB (count layer:Nat) (M:Nat→BandM) (x:SpotX):Bool:=match (M x.d.bb).ss[x.k]? with
 | none=>false
 | some s=>decide (s.said<passN s.ps.length (count:Int) ((layer:Int)+1))
def moreM (count layer:Nat) (M:Nat→BandM) (l:List SpotX):Bool:=l.any (newB count layer M)
theorem toM_eq (count layer:Nat) (s:StM) (h:0≤s.said):max (passN s.ps.length (count:Int) ((layer:Int)+1)) s.said=((toM count layer s:Nat):Int):=by
 have:=(passN_le s.ps.length (count:Int) ((layer:Int)+1)).1
 unfold toM
 omega
theorem toM_le (count layer:Nat) (s:StM) (h:s.said≤s.ps.length):s.said.toNat≤toM count layer s∧toM count layer s≤s.ps.length:=by
 have:=passN_le_total s.ps.length (count:Int) ((layer:Int)+1)
 unfold toM
 omega
def encY (box wx wb n0:Nat) (A:Option Addr) (nD c:Nat) (style count layer:Int) (vb:Value):List HB :=
 [⟨box,26,#[.slice A nD c]⟩,⟨wx,70,#[.pointer (some ⟨wb,0,none⟩)]⟩,⟨n0+3,30,#[vb]⟩,⟨n0+2,3,#[.int .i64 layer]⟩,⟨n0+1,3,#[.int .i64 count]⟩,⟨n0,3,#[.int .i64 style]⟩]
theorem encY_no (box wx wb n0:Nat) (A:Option Addr) (nD c:Nat) (style count layer:Int) (vb:Value):NoSpot (encY box wx wb n0 A nD c style count layer vb):=by
 intro x hx
 simp only[encY,List.mem_cons,List.not_mem_nil,or_false] at hx
 rcases hx with rfl | rfl | rfl | rfl | rfl | rfl
 ·exact(show 26≠66 by decide)
 ·exact(show 70≠66 by decide)
 ·exact(show 30≠66 by decide)
 ·exact(show 3≠66 by decide)
 ·exact(show 3≠66 by decide)
 ·exact(show 3≠66 by decide)
def encP2 (box wx wb n0:Nat) (A:Option Addr) (c:Nat) (D:List BandA) (style count layer:Nat) (HL:List HB) (S0:PackS) (pre:List (SpotIn D)) (H:List HB):Prop :=
 ∃ (S:PackS) (HW Hb:List HB) (vb:Value) (HB':List HB),S=(pre.map (·.1)).foldl (stepE count style layer) S0∧H=(HW++(encY box wx wb n0 A D.length c style count layer vb++(Hb++HL)))++HB' ∧
  WrB wb S.bits HW∧RowB vb S.body Hb∧BandsR D S.M HB'∧(∀ d∈D,GoodB (S.M d.bb))∧S.bits.length≤130000 * pre.length+1∧S.body.length≤300000 * pre.length
theorem bodyM_length (ps:List (Int × Bool)) (bs:List UInt8) (said to_:Nat):(bodyM ps bs said to_).length≤bs.length:=by
 unfold bodyM
 rw[List.length_take,List.length_drop]
 omega
theorem enc_round (l:Nat) (D:List BandA) (A:Option Addr) (c box wx wb n0 B:Nat) (HL:List HB) (style count layer:Nat) (S0:PackS) (pre:List (SpotIn D)) (x:SpotX) (hx:x∈spotsOf D) (w:World) (H:List HB) (s0 s1 s2 s3 s4 s8 s10 s11 s14 s15 s16 s17 s18 s19 s20 s21 s22 s23 s24 s25 s26 s27 s28 s29 s30 s31 s32 s33 s34 s35 s36 s37 s38 s39 s40 s41 s42 s43 s44 s45 s46 s47 s48 s49 s50 s51 s52 s53 s54 s55 s56 s57 s58 s59 s60 s61 s62 s63 s64 s65 s66 s67 s68 s69 s70 s71 s72 s73 s74 s75 s76 s77 s78 s79 s80 s81 s82 s83:Value)
  (hP:encP2 box wx wb n0 A c D style count layer HL S0 pre H) (hs:Sat w (⟨B,66,x.cells⟩::H)) (hlen:pre.length<200) (hst:style≤63) (hly:layer≤100) (hct:count≤100000) :
  (blockR 3 Tryz.f10).wpIn (Fence.wide.inRound l) 6 Tryz.prog (spPost w (⟨B,66,x.cells⟩::H) (encP2 box wx wb n0 A c D style count layer HL S0) (fun _ _=>False) (pre++[⟨x,hx⟩]))
   ⟨List.toArray (s0::s1::s2::s3::s4::(.pointer (some ⟨n0,0,none⟩))::(.pointer (some ⟨n0+1,0,none⟩))::(.pointer (some ⟨n0+2,0,none⟩))::s8::(.pointer (some ⟨n0+3,0,none⟩))::s10::s11::(.pointer (some ⟨wx,0,none⟩))::(.pointer (some ⟨B,0,none⟩))::s14::s15::s16::s17::s18::s19::s20::s21::s22::s23::s24::s25::s26::s27::s28::s29::s30::s31::s32::s33::s34::s35::s36::s37::s38::s39::s40::s41::s42::s43::s44::s45::s46::s47::s48::s49::s50::s51::s52::s53::s54::s55::s56::s57::s58::s59::s60::s61::s62::s63::s64::s65::s66::s67::s68::s69::s70::s71::s72::s73::s74::s75::s76::s77::s78::s79::s80::s81::s82::s83::[]),[]⟩ w:=by
 conv in (blockR _ _)=>whnf
 obtain⟨S,HW,Hb,vb,HB1,hS,rfl,hw,hb,hB,hg,hl1,hl2⟩:=hP
 obtain⟨hxd,hxk⟩:=mem_spots hx
 obtain⟨d,k⟩:=x
 simp only at hxd hxk
 obtain⟨PS,hPS⟩:∃ PS,spPost w (⟨B,66,SpotX.cells ⟨d,k⟩⟩::((HW++(encY box wx wb n0 A D.length c style count layer vb++(Hb++HL)))++HB1)) (encP2 box wx wb n0 A c D style count layer HL S0) (fun _ _=>False) (pre++[⟨⟨d,k⟩,hx⟩])=PS:=⟨_,rfl⟩
 have LP:Hid (¬LetsOut PS):=Lib.hid (by rw[← hPS];rintro⟨a,w,h⟩;exact h)
 rw[hPS]
 -- the block's state
 obtain⟨bd,e1,e2,-⟩:=hB.band hxd
 have hsl:(S.M d.bb).ss.length=d.n:=by rw[← e1];show (bd.G.map _).length=_;rw[List.length_map];exact e2.len
 have hkn:k<4096:=Nat.lt_of_lt_of_le hxk e2.small
 clear e1 e2 bd
 obtain⟨s,hss⟩:∃ s,(S.M d.bb).ss[k]?=some s:=⟨_,List.getElem?_eq_getElem (by rw[hsl];exact hxk)⟩
 obtain⟨F1,F2,F3⟩:=step_fits hB hxd hss
 have GB:=hg d hxd
 have GS:=GB.ss s (List.mem_of_getElem? hss)
 obtain⟨t,ht⟩:∃ t,toM count layer s=t:=⟨_,rfl⟩
 have et:=toM_eq count layer s F1.said.1
 have tl:=toM_le count layer s F1.said.2
 rw[ht] at et tl
 obtain⟨sd,hsd⟩:∃ sd:Nat,s.said=(sd:Int):=⟨s.said.toNat,(Int.toNat_of_nonneg F1.said.1).symm⟩
 have hsd2:s.said.toNat=sd:=by omega
 rw[hsd2] at tl
 -- memory
 obtain⟨XX,hXX⟩:∃ XX:Value→List HB,XX=fun v=>⟨B,66,SpotX.cells ⟨d,k⟩⟩::encY box wx wb n0 A D.length c style count layer v:=⟨_,rfl⟩
 obtain⟨HH,hHH⟩:∃ HH,HH=⟨B,66,SpotX.cells ⟨d,k⟩⟩::((HW++(encY box wx wb n0 A D.length c style count layer vb++(Hb++HL)))++HB1):=⟨_,rfl⟩
 have M0:Mv w HH w ((HW++(XX vb++(Hb++HL)))++HB1):=by
  have m:Mv w HH w HH:=Mv.refl (by rw[hHH];exact hs)
  refine m.sub (fun g=>?_) (fun y hy=>?_)
  ·rw[hHH,hXX];simp only[cnt_append,cnt_cons];omega
  ·rw[hXX] at hy;rw[hHH];simp only[List.mem_append,List.mem_cons] at hy ⊢;grind
 have BX:Hid (∀ w' HW' v HR HB',Mv w HH w' ((HW'++(XX v++HR))++HB')→w'.cell? ⟨B,0,none⟩=some (.pointer (some ⟨d.lb,k * 5,none⟩))∧w'.cell? ⟨B,1,none⟩=some (.pointer (some ⟨d.bb,0,none⟩))∧w'.cell? ⟨B,2,none⟩=some (.int .i64 (k:Int))∧w'.cell? ⟨wx,0,none⟩=some (.pointer (some ⟨wb,0,none⟩))∧w'.cell? ⟨n0,0,none⟩=some (.int .i64 (style:Int))∧w'.cell? ⟨n0+1,0,none⟩=some (.int .i64 (count:Int))∧w'.cell? ⟨n0+2,0,none⟩=some (.int .i64 (layer:Int)) ∧
   w'.cell? ⟨n0+3,0,none⟩=some v∧w'.frozen? ⟨n0+3,0,none⟩=false):=Lib.hid (by
  intro w' HW' v HR HB' m
  have a0:Sat w' (XX v):=m.sat.left.right.left
  rw[hXX] at a0
  have b0:=a0.at_ 0 rfl
  have b2:=a0.at_ 2 rfl
  have b3:=a0.at_ 3 rfl
  have b4:=a0.at_ 4 rfl
  have b5:=a0.at_ 5 rfl
  have b6:=a0.at_ 6 rfl
  exact⟨b0.cell 0,b0.cell 1,b0.cell 2,b2.cell 0,b6.cell 0,b5.cell 0,b4.cell 0,b3.cell 0,b3.frozen 0⟩)
 have FIN:Hid (∀ (a:Act) (w4:World) (HW' Hb':List HB) (v:Value) (HB':List HB),WrB wb (stepE count style layer S ⟨d,k⟩).bits HW'→RowB v (stepE count style layer S ⟨d,k⟩).body Hb'→BandsR D (stepE count style layer S ⟨d,k⟩).M HB'→Mv w HH w4 ((HW'++(XX v++(Hb'++HL)))++HB')→PS .normal a w4):=Lib.hid (by
  intro a w4 HW' Hb' v HB' h1 h2 h3 m4
  rw[← hPS]
  refine⟨(HW'++(encY box wx wb n0 A D.length c style count layer v++(Hb'++HL)))++HB',⟨stepE count style layer S ⟨d,k⟩,HW',Hb',v,HB',?_,rfl,h1,h2,h3,?_,?_,?_⟩,?_⟩
  ·rw[List.map_append,List.foldl_append,← hS];rfl
  ·intro d' hd'
   simp only[stepE,hss,ht]
   unfold updM
   split
   ·exact(GB.head hss style layer _ _ F1.ends).said k t
   ·exact hg d' hd'
  ·have hh:=headM_length (S.M d.bb) k style layer sd t s F2 F3 GB GS hly F1.ends F1.lb.1 (by have:=F1.np;omega)
   simp only[stepE,hss,ht,hsd2,List.length_append,List.length_cons,List.length_nil]
   omega
  ·have hh:=bodyM_length s.ps s.bs sd t
   have h3:=GS.bs
   simp only[stepE,hss,ht,hsd2]
   split
   ·simp only[List.length_append,List.length_cons,List.length_nil];omega
   ·simp only[List.length_append,List.length_cons,List.length_nil];omega
  ·rw[← hHH]
   refine m4.sub (fun g=>?_) (fun y hy=>?_)
   ·rw[hXX];simp only[cnt_append,cnt_cons];omega
   ·rw[hXX];simp only[List.mem_append,List.mem_cons] at hy ⊢;grind)
 have SV:Hid (∀ w' HW' v v' Hb' HB',Mv w HH w' ((HW'++(XX v++Hb'))++HB')→Mv w HH (w'.setCell ⟨n0+3,0,none⟩ v') ((HW'++(XX v'++Hb'))++HB')):=Lib.hid (by
  intro w' HW' v v' Hb' HB' m
  rw[hXX] at m ⊢
  have m1:Mv w HH w' ((HW'++[⟨B,66,SpotX.cells ⟨d,k⟩⟩,⟨box,26,#[.slice A D.length c]⟩,⟨wx,70,#[.pointer (some ⟨wb,0,none⟩)]⟩])++⟨n0+3,30,#[v]⟩::([⟨n0+2,3,#[.int .i64 (layer:Int)]⟩,⟨n0+1,3,#[.int .i64 (count:Int)]⟩,⟨n0,3,#[.int .i64 (style:Int)]⟩]++(Hb'++HB'))):=by
   simpa only[encY,List.append_assoc,List.cons_append,List.nil_append] using m
  have m2:=Mv.setAt m1 0 v'
  rw[show (#[v]:Array Value).setIfInBounds 0 v'=#[v'] from rfl] at m2
  simpa only[encY,List.append_assoc,List.cons_append,List.nil_append] using m2)
 clear hHH hPS
 obtain⟨A',cp,SC⟩:=step_cells hB hxd hss M0
 have hnp:=F1.np
 have hmx:Tryz.prog.follows .mixedOrders=true:=by kernel_rfl
 obtain⟨C,hC⟩:∃ C:World→Prop,C=fun w'=>Hid (Mv w HH w' ((HW++(XX vb++(Hb++HL)))++HB1)):=⟨_,rfl⟩
 have CF:∀ w',C w'→w'.cell? ⟨B,0,none⟩=some (.pointer (some ⟨d.lb,k * 5,none⟩))∧w'.cell? ⟨B,1,none⟩=some (.pointer (some ⟨d.bb,0,none⟩))∧w'.cell? ⟨B,2,none⟩=some (.int .i64 (k:Int))∧w'.cell? ⟨n0+1,0,none⟩=some (.int .i64 (count:Int))∧w'.cell? ⟨n0+2,0,none⟩=some (.int .i64 (layer:Int))∧w'.cell? ⟨d.lb,k * 5+3,none⟩=some (.int .i64 (sd:Int)):=by
  intro w' h
  rw[hC] at h
  obtain⟨a0,a1,a2,a3,a4,a5,a6,a7,a8⟩:=BX.out w' HW vb _ HB1 h.out
  have a9:=(SC w' h.out).2.1
  rw[hsd] at a9
  exact⟨a0,a1,a2,a5,a6,a9⟩
 have CK:∀ w',C w'→Calls Tryz.prog 24 #[.agg #[.pointer (some ⟨d.lb,k * 5,none⟩),.pointer (some ⟨d.bb,0,none⟩),.int .i64 (k:Int)],.int .i64 (count:Int),.int .i64 (layer:Int)] w' fun e w3=>e=.returned (.int .i64 (passN s.ps.length count ((layer:Int)+1)))∧C w3:=by
  intro w' h
  rw[hC] at h ⊢
  refine(fresh_any ⟨d,k⟩ count layer w' A' s.ps.length cp (SC w' h.out).1 (by simp;omega) (by omega) ⟨by omega,by omega⟩ ⟨by omega,by omega⟩).mono ?_
  rintro e w3 ⟨rfl,m3⟩
  exact⟨rfl,Lib.hid (Mv.call (H:=[]) (H':=[]) h.out m3)⟩
 rw[hsd] at et
 obtain⟨fr,hfr⟩:∃ fr,passN s.ps.length (count:Int) ((layer:Int)+1)=fr:=⟨_,rfl⟩
 rw[hfr] at et CK
 have CD:C w.drew:=by rw[hC];exact Lib.hid (Mv.drew M0)
 replace CF:=Lib.hid CF
 replace CK:=Lib.hid CK
 have HC:=Lib.hid hC
 have SB:=Lib.hid (fun (W:World) HWx Y (m:Mv w HH W ((HWx++Y)++HB1)) (hwx:WrB wb S.bits HWx)=>step_head hB hxd hxk hss GB hwx m style layer t (by omega) tl.2 hst hly (by omega))
 have HX:=Lib.hid hXX
 have KK:=Lib.hid (And.intro hB (And.intro hss (And.intro GB (And.intro hw (And.intro hb (And.intro F1 (And.intro ht (And.intro hsd hsd2))))))))
 clear hC hXX hB hss GB GS hw hb F1 ht hsd hsd2 F2 F3 hg hS hs hsl M0 SC hfr hx
 gi_upto_region 12 with fail
 refine round_quiet_tail 10 C hmx (by kernel_rfl) (fun ⟨a,w,h⟩=>LP.out ⟨a,w,h⟩) CD (by kernel_rfl) ?_
 simp only[List.take_succ_cons,List.take_zero,List.drop_succ_cons,List.drop_zero]
 iterate 10 (first | ((with_reducible refine qc_pass ?_ ?_);(next=>(go_simp;done));(try simp only[Act.put,List.setIfInBounds_toArray,List.set_cons_zero,List.set_cons_succ])) | ((with_reducible refine qc_one ?_ ?_ (fun w' hw'=>?_) ?_);rotate_left;(next=>(go_simp;done));(next=>(first | (refine qc_val ?_;(obtain⟨a0,a1,a2,a3,a4,a5⟩:=CF.out w' hw');clear hw';go_simp;done) | (refine qc_val ?_;(obtain⟨a0,a1,a2,a3,a4,a5⟩:=CF.out w' hw');clear hw';go_simp;rfl) | (refine qc_call (f:=?_) (args:=?_) ?_ ?_;rotate_left 2;(next=>((obtain⟨a0,a1,a2,a3,a4,a5⟩:=CF.out w' hw');go_simp;constructor <;> rfl));(next=>(exact CK.out w' hw'))) | (refine qc_skip ?_;(obtain⟨a0,a1,a2,a3,a4,a5⟩:=CF.out w' hw');clear hw';go_simp;done)));(try simp only[Act.put,List.setIfInBounds_toArray,List.set_cons_zero,List.set_cons_succ])))
 refine wpQuiet_nil ?_
 intro w' hw'
 have em1:(if fr<(sd:Int) then (sd:Int) else fr)=(t:Int):=by split <;> omega
 have em2:(if (sd:Int)<fr then fr else (sd:Int))=(t:Int):=by split <;> omega
 first
  | rw[em1]
  | rw[em2]
  | rw[et]
 clear em1 em2 et
 have m2:Hid (Mv w HH w' ((HW++(XX vb++(Hb++HL)))++HB1)):=by rw[HC.out] at hw';exact hw'
 clear hw' CD CK CF HC C
 obtain⟨b0,b1,b2,b3,b4,b5,b6,b7,b8⟩:=BX.out w' HW vb _ HB1 m2.out
 have H1:=Lib.hid (SB.out w' HW _ m2.out KK.out.2.2.2.1)
 rw[KK.out.2.2.2.2.2.2.2.2] at H1
 unfold SpotX.v at H1
 obtain⟨HM,hHM⟩:∃ HM,headM (S.M d.bb) k style layer sd t s=HM:=⟨_,rfl⟩
 rw[hHM] at H1
 have AF:Hid (∀ w3 HW' HB',Mv w HH w3 ((HW'++(XX vb++(Hb++HL)))++HB')→BandsR D (updM S.M d.bb HM.1) HB'→w3.cell? ⟨d.lb,k * 5+3,none⟩=some (.int .i64 (sd:Int))∧w3.frozen? ⟨d.lb,k * 5+3,none⟩=false):=Lib.hid (by
  intro w3 HW' HB' m h
  have e1:(updM S.M d.bb HM.1 d.bb).ss[k]?=some (headS s style sd t):=by rw[updM_same,← hHM];exact headM_get _ _ _ _ _ _ _ KK.out.2.1
  obtain⟨A2,cp2,sc⟩:=step_cells h hxd e1 m
  obtain⟨-,q2,q3⟩:=sc w3 m
  rw[(headS_same s style sd t).2.2,KK.out.2.2.2.2.2.2.2.1] at q2
  exact⟨q2,q3⟩)
 have HHM:=Lib.hid hHM
 clear SB hHM
 go_wp2_with fail
 gi_upto_region 14 with (refine⟨trivial,?_⟩;gi_at_call 29;refine(CallsIn.inRound l (callsIn_wide.2 H1.out)).mono ?_;rintro e w3 ⟨rfl,HW2,HB2,q1,q2,q3⟩;have K3:=Lib.hid (And.intro q1 (And.intro q2 q3));clear q1 q2 q3)
 have hB2:=K3.out.2.1
 have e1:(updM S.M d.bb HM.1 d.bb).ss[k]?=some (headS s style sd t):=by rw[updM_same,← HHM.out];exact headM_get _ _ _ _ _ _ _ KK.out.2.1
 obtain⟨hs1,hs2,hs3⟩:=headS_same s style sd t
 have FIN2:Hid (∀ (a:Act) (w6:World) (v':Value) (Hb':List HB),RowB v' (stepE count style layer S ⟨d,k⟩).body Hb'→Mv w HH w6 ((HW2++(XX v'++(Hb'++HL)))++HB2)→PS .normal a (w6.setCell ⟨d.lb,k * 5+3,none⟩ (.int .i64 (t:Int)))):=Lib.hid (by
  intro a w6 v' Hb' hr m
  obtain⟨HB',q1,q2⟩:=step_said hB2 hxd e1 m t (by rw[hs1];exact tl.2)
  refine FIN.out a _ HW2 Hb' v' HB' ?_ hr ?_ (q2 _ m)
  ·have h:=K3.out.1
   simp only[stepE,KK.out.2.1,KK.out.2.2.2.2.2.2.1,KK.out.2.2.2.2.2.2.2.2,HHM.out]
   exact h
  ·simp only[stepE,KK.out.2.1,KK.out.2.2.2.2.2.2.1,KK.out.2.2.2.2.2.2.2.2,HHM.out]
   rw[updM_updM,updM_same] at q1
   exact q1)
 obtain⟨b0',b1',b2',b3',b4',b5',b6',b7',b8'⟩:=BX.out w3 HW2 vb _ HB2 K3.out.2.2
 obtain⟨c3,c4⟩:=AF.out w3 HW2 HB2 K3.out.2.2 hB2
 have htS:(stepE count style layer S ⟨d,k⟩).body=if sd<t then S.body++bodyM s.ps s.bs sd t else S.body:=by
  simp only[stepE,KK.out.2.1,KK.out.2.2.2.2.2.2.1,KK.out.2.2.2.2.2.2.2.2]
 have TS:=Lib.hid htS
 clear htS b0 b1 b2 b3 b4 b5 b6 b7 b8
 by_cases hlt:sd<t
 ·have hlt':(sd:Int)<(t:Int):=by omega
  obtain⟨v0,SBD⟩:=step_body hB2 hxd hxk e1 K3.out.2.2 t (by rw[hs3,KK.out.2.2.2.2.2.2.2.2];exact hlt) (by rw[hs1];exact tl.2)
  rw[hs1,hs2,hs3,KK.out.2.2.2.2.2.2.2.2] at SBD
  unfold SpotX.v at SBD
  replace SBD:=Lib.hid SBD
  clear hB2 e1 hs1 hs2 hs3 H1
  gi_upto_region 15 with fail
  obtain⟨C,hC⟩:∃ C:World→Prop,C=fun w'=>Hid (Mv w HH w' ((HW2++(XX vb++(Hb++HL)))++HB2)):=⟨_,rfl⟩
  have CF:∀ w',C w'→w'.cell? ⟨B,0,none⟩=some (.pointer (some ⟨d.lb,k * 5,none⟩))∧w'.cell? ⟨B,1,none⟩=some (.pointer (some ⟨d.bb,0,none⟩))∧w'.cell? ⟨B,2,none⟩=some (.int .i64 (k:Int))∧w'.cell? ⟨n0+3,0,none⟩=some vb:=by
   intro w' h
   rw[hC] at h
   obtain⟨a0,a1,a2,a3,a4,a5,a6,a7,a8⟩:=BX.out w' HW2 vb _ HB2 h.out
   exact⟨a0,a1,a2,a7⟩
  have CK:∀ w',C w'→Calls Tryz.prog 30 #[.agg #[.pointer (some ⟨d.lb,k * 5,none⟩),.pointer (some ⟨d.bb,0,none⟩),.int .i64 (k:Int)],.int .i64 (t:Int)] w' fun e w3=>e=.returned v0∧C w3:=by
   intro w' h
   rw[hC] at h ⊢
   refine((SBD.out w' h.out).2).mono ?_
   rintro e w3 ⟨rfl,m3⟩
   exact⟨rfl,Lib.hid m3⟩
  have CD:C w3.drew:=by rw[hC];exact Lib.hid (Mv.drew K3.out.2.2)
  replace CF:=Lib.hid CF
  replace CK:=Lib.hid CK
  have HC:=Lib.hid hC
  clear hC b0' b1' b2' b3' b4' b5' b6' b7' b8' c3 c4
  refine round_quiet_tail 4 C hmx (by kernel_rfl) (fun ⟨a,w,h⟩=>LP.out ⟨a,w,h⟩) CD (by kernel_rfl) ?_
  simp only[List.take_succ_cons,List.take_zero,List.drop_succ_cons,List.drop_zero]
  iterate 4 (first | ((with_reducible refine qc_pass ?_ ?_);(next=>(go_simp;done));(try simp only[Act.put,List.setIfInBounds_toArray,List.set_cons_zero,List.set_cons_succ])) | ((with_reducible refine qc_one ?_ ?_ (fun w' hw'=>?_) ?_);rotate_left;(next=>(go_simp;done));(next=>(first | (refine qc_val ?_;(obtain⟨a0,a1,a2,a3⟩:=CF.out w' hw');clear hw';go_simp;done) | (refine qc_val ?_;(obtain⟨a0,a1,a2,a3⟩:=CF.out w' hw');clear hw';go_simp;rfl) | (refine qc_call (f:=?_) (args:=?_) ?_ ?_;rotate_left 2;(next=>((obtain⟨a0,a1,a2,a3⟩:=CF.out w' hw');go_simp;constructor <;> rfl));(next=>(exact CK.out w' hw'))) | (refine qc_skip ?_;(obtain⟨a0,a1,a2,a3⟩:=CF.out w' hw');clear hw';go_simp;done)));(try simp only[Act.put,List.setIfInBounds_toArray,List.set_cons_zero,List.set_cons_succ])))
  refine wpQuiet_nil ?_
  intro w4 hw4
  have m4:Hid (Mv w HH w4 ((HW2++(XX vb++(Hb++HL)))++HB2)):=by rw[HC.out] at hw4;exact hw4
  clear hw4 CD CK CF HC C
  have hl3:S.body.length≤60000000∧(bodyM s.ps s.bs sd t).length≤300000:=⟨by omega,Nat.le_trans (bodyM_length _ _ _ _) (KK.out.2.2.1.ss s (List.mem_of_getElem? KK.out.2.1)).bs⟩
  refine wpList_appB rfl (.tmp 70) (.tmp 73) rfl vb v0 S.body (bodyM s.ps s.bs sd t) Hb rfl rfl KK.out.2.2.2.2.1 m4.out.sat.left.right.right.left (SBD.out w4 m4.out).1 (by omega) ?_
  intro v5 w5 Hb5 hr5 m5
  obtain⟨a5,c5,rfl⟩:=hr5.slice
  have M5:Mv w HH w5 ((HW2++(XX vb++(Hb5++HL)))++HB2):=by
   have m6:Mv w HH w4 (Hb++(HW2++(XX vb++(HL++HB2)))):=m4.out.sub (fun g=>by simp only[cnt_append];omega) (fun y hy=>by simp only[List.mem_append] at hy ⊢;grind)
   exact(Mv.call m6 m5).sub (fun g=>by simp only[cnt_append];omega) (fun y hy=>by simp only[List.mem_append] at hy ⊢;grind)
  obtain⟨nl,hnl⟩:∃ nl,(S.body++bodyM s.ps s.bs sd t).length=nl:=⟨_,rfl⟩
  rw[hnl] at hr5 ⊢
  obtain⟨-,-,-,-,-,-,-,b7,b8⟩:=BX.out w5 HW2 vb _ HB2 M5
  have M6:=SV.out w5 HW2 vb (.slice a5 nl c5) _ HB2 M5
  obtain⟨w6,hw6⟩:∃ w6,w6=w5.setCell ⟨n0+3,0,none⟩ (.slice a5 nl c5):=⟨_,rfl⟩
  have HW6:=Lib.hid hw6
  rw[← hw6] at M6
  have K6:=Lib.hid (And.intro hr5 M6)
  clear hw6 M6 M5 hr5 m5 m4 hnl hl3
  go_wp2_with fail
  rw[← HW6.out]
  obtain⟨b0,b1,b2,-⟩:=BX.out w6 HW2 _ _ HB2 K6.out.2
  obtain⟨c3,c4⟩:w6.cell? ⟨d.lb,k * 5+3,none⟩=some (.int .i64 (sd:Int))∧w6.frozen? ⟨d.lb,k * 5+3,none⟩=false:=by
   obtain⟨A2,cp2,sc⟩:=step_cells K3.out.2.1 hxd (by rw[updM_same,← HHM.out];exact headM_get _ _ _ _ _ _ _ KK.out.2.1) K6.out.2
   obtain⟨-,q2,q3⟩:=sc w6 K6.out.2
   rw[(headS_same s style sd t).2.2,KK.out.2.2.2.2.2.2.2.1] at q2
   exact⟨q2,q3⟩
  clear b7 b8
  gi_wp2
  exact FIN2.out _ _ _ _ (by rw[TS.out,if_pos hlt];exact K6.out.1) K6.out.2
 ·have hlt':¬ (sd:Int)<(t:Int):=by omega
  clear hB2 e1 hs1 hs2 hs3 H1
  gi_wp2
  exact FIN2.out _ _ _ _ (by rw[TS.out,if_neg hlt];exact KK.out.2.2.2.2.1) K3.out.2.2
end
section
open Go.RowKit Go.Shelf
attribute [local go_sem] Oper.semAt_some
theorem newB_encM (count layer c:Nat) (l:List SpotX) (M:Nat→BandM) (x:SpotX):newB count layer (l.foldl (encM c) M) x=newB count layer M x:=by
 unfold newB
 rw[encM_ss]
theorem moreM_snoc (count layer:Nat) (M:Nat→BandM) (l:List SpotX) (x:SpotX):moreM count layer M (l++[x])=(moreM count layer M l || newB count layer M x):=by
 unfold moreM
 rw[List.any_append]
 simp
def encPm (n0:Nat) (A:Option Addr) (c:Nat) (D:List BandA) (style count layer:Nat) (HL:List HB) (M:Nat→BandM) (pre:List (SpotIn D)) (H:List HB):Prop :=
 ∃ HB',H=encX n0 A D.length c style count layer (moreM count layer M (pre.map (·.1)))++(HL++HB')∧BandsR D ((pre.map (·.1)).foldl (encM count) M) HB'
theorem enc_round1 (l:Nat) (D:List BandA) (A:Option Addr) (c n0 B:Nat) (HL:List HB) (style count layer:Nat) (M:Nat→BandM) (pre:List (SpotIn D)) (x:SpotX) (hx:x∈spotsOf D) (w:World) (H:List HB) (s0 s1 s2 s3 s4 s8 s12 s13 s14 s15 s16 s17 s18 s19 s20 s21 s22 s23 s24 s25 s26 s27 s28 s29 s30 s31 s32 s33 s34 s35 s36 s37 s38 s39 s40 s41 s42 s43 s44 s45 s46 s47 s48 s49 s50 s51 s52 s53 s54 s55 s56 s57 s58 s59 s60 s61 s62 s63 s64 s65 s66 s67 s68 s69 s70 s71 s72 s73 s74 s75 s76 s77 s78 s79 s80 s81 s82 s83:Value)
  (hP:encPm n0 A c D style count layer HL M pre H) (hs:Sat w (⟨B,66,x.cells⟩::H)) (hly:layer≤100) (hct:count≤100000) :
  (blockR 1 Tryz.f10).wpIn (Fence.wide.inRound l) 6 Tryz.prog (spPost w (⟨B,66,x.cells⟩::H) (encPm n0 A c D style count layer HL M) (fun _ _=>False) (pre++[⟨x,hx⟩]))
   ⟨List.toArray (s0::s1::s2::s3::s4::(.pointer (some ⟨n0,0,none⟩))::(.pointer (some ⟨n0+1,0,none⟩))::(.pointer (some ⟨n0+2,0,none⟩))::s8::(.pointer (some ⟨n0+3,0,none⟩))::(.pointer (some ⟨n0+4,0,none⟩))::(.pointer (some ⟨B,0,none⟩))::s12::s13::s14::s15::s16::s17::s18::s19::s20::s21::s22::s23::s24::s25::s26::s27::s28::s29::s30::s31::s32::s33::s34::s35::s36::s37::s38::s39::s40::s41::s42::s43::s44::s45::s46::s47::s48::s49::s50::s51::s52::s53::s54::s55::s56::s57::s58::s59::s60::s61::s62::s63::s64::s65::s66::s67::s68::s69::s70::s71::s72::s73::s74::s75::s76::s77::s78::s79::s80::s81::s82::s83::[]),[]⟩ w:=by
 conv in (blockR _ _)=>whnf
 obtain⟨HB1,rfl,hBs⟩:=hP
 obtain⟨hxd,hxk⟩:=mem_spots hx
 obtain⟨d,k⟩:=x
 simp only at hxd hxk
 obtain⟨mb,hmb⟩:∃ mb,moreM count layer M (pre.map (·.1))=mb:=⟨_,rfl⟩
 obtain⟨nb,hnb⟩:∃ nb,newB count layer M ⟨d,k⟩=nb:=⟨_,rfl⟩
 have hmn:moreM count layer M ((pre++[(⟨⟨d,k⟩,hx⟩:SpotIn D)]).map (fun x=>x.1))=(mb || nb):=by rw[List.map_append,← hmb,← hnb];exact moreM_snoc _ _ _ _ _
 rw[hmb] at hs ⊢
 obtain⟨PS,hPS⟩:∃ PS,spPost w (⟨B,66,SpotX.cells ⟨d,k⟩⟩::(encX n0 A D.length c style count layer mb++(HL++HB1))) (encPm n0 A c D style count layer HL M) (fun _ _=>False) (pre++[⟨⟨d,k⟩,hx⟩])=PS:=⟨_,rfl⟩
 have LP:Hid (¬LetsOut PS):=Lib.hid (by rw[← hPS];rintro⟨a,w,h⟩;exact h)
 rw[hPS]
 obtain⟨M1,hM1⟩:∃ M1,(pre.map (·.1)).foldl (encM count) M=M1:=⟨_,rfl⟩
 rw[hM1] at hBs
 have hnb1:newB count layer M1 ⟨d,k⟩=nb:=by rw[← hM1,newB_encM];exact hnb
 obtain⟨XX,hXX⟩:∃ XX:Bool→List HB,XX=fun b=>(⟨B,66,SpotX.cells ⟨d,k⟩⟩::encX n0 A D.length c style count layer b:List HB):=⟨_,rfl⟩
 obtain⟨HH,hHH⟩:∃ HH,HH=XX mb++(HL++HB1):=⟨_,rfl⟩
 have M0:Mv w HH w HH:=Mv.refl (by rw[hHH,hXX];exact hs)
 have hkn:k<4096:=by obtain⟨b,-,k2,-⟩:=hBs.band hxd;exact Nat.lt_of_lt_of_le hxk k2.small
 have PL:Hid (Calls Tryz.prog 23 #[.pointer (some ⟨d.bb,0,none⟩),.int .i64 (count:Int)] w fun e w2=>e=.returned (.tuple #[])∧∃ HB2,BandsR D (encM count M1 ⟨d,k⟩) HB2∧Mv w HH w2 (XX mb++(HL++HB2))):=Lib.hid (by
  obtain⟨H1,R,r1,sm,back⟩:=hBs.split (Sat.right (Sat.right (A:=XX mb) (by rw[← hHH];exact M0.sat))).1 hxd
  have m1:Mv w HH w (H1++(XX mb++(HL++R))):=by
   refine M0.sub (fun g=>?_) (fun y hy=>?_)
   ·have:=sm.1 g
    rw[hHH]
    simp only[cnt_append] at this ⊢
    omega
   ·have:=sm.2 y
    rw[hHH]
    simp only[List.mem_append] at this hy ⊢
    grind
  refine(plant_any d _ w H1 r1 m1.sat.left count hct).mono ?_
  rintro e w2 ⟨rfl,H1',h1,h2⟩
  obtain⟨HB2,h3,h4⟩:=back _ _ h1
  refine⟨rfl,HB2,h3,(Mv.call m1 h2).sub (fun g=>?_) (fun y hy=>?_)⟩
  ·have:=h4.1 g
   simp only[cnt_append] at this ⊢
   omega
  ·have:=h4.2 y
   simp only[List.mem_append] at this hy ⊢
   grind)
 have BX:Hid (∀ w' v HB2,Mv w HH w' (XX v++(HL++HB2))→w'.cell? ⟨B,0,none⟩=some (.pointer (some ⟨d.lb,k * 5,none⟩))∧w'.cell? ⟨B,1,none⟩=some (.pointer (some ⟨d.bb,0,none⟩))∧w'.cell? ⟨B,2,none⟩=some (.int .i64 (k:Int))∧w'.cell? ⟨n0+1,0,none⟩=some (.int .i64 (count:Int))∧w'.cell? ⟨n0+2,0,none⟩=some (.int .i64 (layer:Int)) ∧
   w'.cell? ⟨n0+4,0,none⟩=some (.bool v)∧w'.frozen? ⟨n0+4,0,none⟩=false):=Lib.hid (by
  intro w' v HB2 m
  have a0:Sat w' (XX v):=m.sat.left
  rw[hXX] at a0
  have a1:=a0.at_ 0 rfl
  have a4:=a0.at_ 2 rfl
  have a3:=a0.at_ 4 rfl
  have a2:=a0.at_ 5 rfl
  exact⟨a1.cell 0,a1.cell 1,a1.cell 2,a2.cell 0,a3.cell 0,a4.cell 0,a4.frozen 0⟩)
 have BS:Hid (∀ HB2,BandsR D (encM count M1 ⟨d,k⟩) HB2→∃ (np cp:Nat) (A':Option Addr) (said:Int),np≤1000∧decide (said<passN np count (layer+1))=nb∧∀ w',Mv w HH w' (XX mb++(HL++HB2))→w'.cell? ⟨d.lb,k * 5+1,none⟩=some (.slice A' np cp)∧w'.cell? ⟨d.lb,k * 5+3,none⟩=some (.int .i64 said)):=Lib.hid (by
  intro HB2 h2
  obtain⟨b,k1,k2,k3⟩:=h2.band hxd
  obtain⟨st,hst⟩:∃ st,b.G[k]?=some st:=⟨_,List.getElem?_eq_getElem (by rw[k2.len];exact hxk)⟩
  have hso:=k2.st st (List.mem_of_getElem? hst)
  obtain⟨A',cp,hvp⟩:=hso.passes
  refine⟨st.m.ps.length,cp,A',st.m.said,hso.2.2.np,?_,fun w' m=>?_⟩
  ·rw[← hnb1]
   have e1:(encM count M1 ⟨d,k⟩ d.bb).ss=(M1 d.bb).ss:=by unfold encM;rw[updM_same];exact(plantM_ss _ _).1
   have e2:(M1 d.bb).ss[k]?=some st.m:=by rw[← e1,← k1];simp[BandG.model,hst]
   unfold newB
   rw[e2]
  ·have a5:=Mv.blkm m (List.mem_append_right _ (List.mem_append_right _ (k3 _ (b.mem_states d))))
   have a6:=state_cells a5 hst
   rw[hvp] at a6
   exact⟨a6.2.1,a6.2.2.2.1⟩)
 have FIN:Hid (∀ (a:Act) (w4:World) (HB2:List HB),BandsR D (encM count M1 ⟨d,k⟩) HB2→Mv w HH w4 (XX (mb || nb)++(HL++HB2))→PS .normal a w4):=Lib.hid (by
  intro a w4 HB2 h2 m4
  rw[← hPS]
  rw[hHH,hXX] at m4
  refine⟨encX n0 A D.length c style count layer (mb || nb)++(HL++HB2),⟨HB2,by rw[hmn],?_⟩,Mv.drop1 m4⟩
  rw[List.map_append,List.foldl_append,hM1]
  exact h2)
 have ST:Hid (∀ w4 v v' HB2,Mv w HH w4 (XX v++(HL++HB2))→Mv w HH (w4.setCell ⟨n0+4,0,none⟩ (.bool v')) (XX v'++(HL++HB2))):=Lib.hid (by
  intro w4 v v' HB2 m4
  rw[hXX] at m4 ⊢
  exact Mv.setAt (A:=[_,_]) m4 0 (.bool v'))
 obtain⟨b0,b1,b2,b3,b4,b5,b6⟩:=BX.out w mb HB1 (by rw[← hHH];exact M0)
 clear M0 hs hBs hXX hHH hM1 hPS hmn hnb hnb1 hmb
 gi_wp2_with (refine⟨trivial,?_⟩;gi_at_call 23;refine(CallsIn.inRound l (callsIn_wide.2 PL.out)).mono ?_;rintro e w2 ⟨rfl,HB2,h2,m2⟩;have K2:=Lib.hid (And.intro h2 m2);clear h2 m2)
 clear b0 b1 b2 b3 b4 b5 b6
 obtain⟨np,cp,A',said,hnp,d1,BC⟩:=BS.out HB2 K2.out.1
 have BC:=Lib.hid BC
 have hmx:Tryz.prog.follows .mixedOrders=true:=by kernel_rfl
 obtain⟨C,hC⟩:∃ C:World→Prop,C=fun w'=>Hid (Mv w HH w' (XX mb++(HL++HB2))):=⟨_,rfl⟩
 have CF:∀ w',C w'→w'.cell? ⟨B,0,none⟩=some (.pointer (some ⟨d.lb,k * 5,none⟩))∧w'.cell? ⟨B,1,none⟩=some (.pointer (some ⟨d.bb,0,none⟩))∧w'.cell? ⟨B,2,none⟩=some (.int .i64 (k:Int))∧w'.cell? ⟨n0+4,0,none⟩=some (.bool mb)∧w'.frozen? ⟨n0+4,0,none⟩=false∧w'.cell? ⟨d.lb,k * 5+3,none⟩=some (.int .i64 said)∧w'.cell? ⟨n0+1,0,none⟩=some (.int .i64 (count:Int))∧w'.cell? ⟨n0+2,0,none⟩=some (.int .i64 (layer:Int)):=by
  intro w' h
  rw[hC] at h
  obtain⟨a0,a1,a2,a3,a4,a5,a6⟩:=BX.out w' mb HB2 h.out
  exact⟨a0,a1,a2,a5,a6,(BC.out w' h.out).2,a3,a4⟩
 have CK:∀ w',C w'→Calls Tryz.prog 24 #[.agg #[.pointer (some ⟨d.lb,k * 5,none⟩),.pointer (some ⟨d.bb,0,none⟩),.int .i64 (k:Int)],.int .i64 (count:Int),.int .i64 (layer:Int)] w' fun e w3=>e=.returned (.int .i64 (passN np count ((layer:Int)+1)))∧C w3:=by
  intro w' h
  rw[hC] at h ⊢
  refine(fresh_any ⟨d,k⟩ count layer w' A' np cp (BC.out w' h.out).1 (by simp;omega) (by omega) ⟨by omega,by omega⟩ ⟨by omega,by omega⟩).mono ?_
  rintro e w3 ⟨rfl,m3⟩
  exact⟨rfl,Lib.hid (Mv.call (H:=[]) (H':=[]) h.out m3)⟩
 have CD:C w2.drew:=by rw[hC];exact Lib.hid (Mv.drew K2.out.2)
 replace CF:=Lib.hid CF
 replace CK:=Lib.hid CK
 have HC:=Lib.hid hC
 clear hC hnp
 cases mb with
 | true =>
  clear d1
  refine round_quiet_tail 13 C hmx (by kernel_rfl) (fun ⟨a,w,h⟩=>LP.out ⟨a,w,h⟩) CD (by kernel_rfl) ?_
  simp only[List.take_succ_cons,List.take_zero,List.drop_succ_cons,List.drop_zero]
  iterate 13 (first | ((with_reducible refine qc_pass ?_ ?_);(next=>(go_simp;done));(try simp only[Act.put,List.setIfInBounds_toArray,List.set_cons_zero,List.set_cons_succ])) | ((with_reducible refine qc_one ?_ ?_ (fun w' hw'=>?_) ?_);rotate_left;(next=>(go_simp;done));(next=>(first | (refine qc_val ?_;(obtain⟨a0,a1,a2,a3,a4,a5,a6,a7⟩:=CF.out w' hw');clear hw';go_simp;done) | (refine qc_val ?_;(obtain⟨a0,a1,a2,a3,a4,a5,a6,a7⟩:=CF.out w' hw');clear hw';go_simp;rfl) | (refine qc_call (f:=?_) (args:=?_) ?_ ?_;rotate_left 2;(next=>((obtain⟨a0,a1,a2,a3,a4,a5,a6,a7⟩:=CF.out w' hw');go_simp;constructor <;> rfl));(next=>(exact CK.out w' hw'))) | (refine qc_skip ?_;(obtain⟨a0,a1,a2,a3,a4,a5,a6,a7⟩:=CF.out w' hw');clear hw';go_simp;done)));(try simp only[Act.put,List.setIfInBounds_toArray,List.set_cons_zero,List.set_cons_succ])))
  refine wpQuiet_nil ?_
  intro w' hw'
  obtain⟨a0,a1,a2,a3,a4,a5,a6,a7⟩:=CF.out w' hw'
  have m4:Hid (Mv w HH w' (XX true++(HL++HB2))):=by rw[HC.out] at hw';exact hw'
  clear hw'
  go_wp2_with fail
  exact FIN.out _ _ HB2 K2.out.1 (ST.out _ _ _ HB2 m4.out)
 | false =>
  refine round_quiet_tail 13 C hmx (by kernel_rfl) (fun ⟨a,w,h⟩=>LP.out ⟨a,w,h⟩) CD (by kernel_rfl) ?_
  simp only[List.take_succ_cons,List.take_zero,List.drop_succ_cons,List.drop_zero]
  iterate 13 (first | ((with_reducible refine qc_pass ?_ ?_);(next=>(go_simp;done));(try simp only[Act.put,List.setIfInBounds_toArray,List.set_cons_zero,List.set_cons_succ])) | ((with_reducible refine qc_one ?_ ?_ (fun w' hw'=>?_) ?_);rotate_left;(next=>(go_simp;done));(next=>(first | (refine qc_val ?_;(obtain⟨a0,a1,a2,a3,a4,a5,a6,a7⟩:=CF.out w' hw');clear hw';go_simp;done) | (refine qc_val ?_;(obtain⟨a0,a1,a2,a3,a4,a5,a6,a7⟩:=CF.out w' hw');clear hw';go_simp;rfl) | (refine qc_call (f:=?_) (args:=?_) ?_ ?_;rotate_left 2;(next=>((obtain⟨a0,a1,a2,a3,a4,a5,a6,a7⟩:=CF.out w' hw');go_simp;constructor <;> rfl));(next=>(exact CK.out w' hw'))) | (refine qc_skip ?_;(obtain⟨a0,a1,a2,a3,a4,a5,a6,a7⟩:=CF.out w' hw');clear hw';go_simp;done)));(try simp only[Act.put,List.setIfInBounds_toArray,List.set_cons_zero,List.set_cons_succ])))
  refine wpQuiet_nil ?_
  intro w' hw'
  obtain⟨a0,a1,a2,a3,a4,a5,a6,a7⟩:=CF.out w' hw'
  have m4:Hid (Mv w HH w' (XX false++(HL++HB2))):=by rw[HC.out] at hw';exact hw'
  clear hw'
  go_wp2_with fail
  exact FIN.out _ _ HB2 K2.out.1 (ST.out _ _ _ HB2 m4.out)
end
end Go.Proofs.YtjngfhgakokejaaGreat
