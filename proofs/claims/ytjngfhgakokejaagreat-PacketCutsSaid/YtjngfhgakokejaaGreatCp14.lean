/- waveletref8.Encode: a segment's ends are laid. waveletref8.Encode: a block on its way, in memory; does a pass end its segment? waveletref8.Encode: a pass is made. waveletref8.Encode, whole. -/
import Derived.Test.YtjngfhgakokejaaGreatCp13
import Derived.Deep.CutBlock
import Derived.Deep.CutRange
import Derived.Laws.ResultCell
set_option maxRecDepth 100000
set_option maxHeartbeats 8000000
set_option linter.all false
namespace Go.Proofs.YtjngfhgakokejaaGreat
section
open Go.RowKit
theorem adjM_zero {x:List UInt8} {e:Nat} (h:min e x.length=0):adjM x e=0:=by
 unfold adjM
 rw[if_neg (by omega),h]
theorem adjM_yes {x:List UInt8} {e n:Nat} (h:min e x.length=n) (h0:0<n) (h1:x[n - 1]?=some 255):adjM x e=n - 1:=by
 unfold adjM
 rw[h,if_pos ⟨h0,h1⟩]
theorem adjM_no {x:List UInt8} {e n:Nat} (h:min e x.length=n) (h1:¬ x[n - 1]?=some 255):adjM x e=n:=by
 unfold adjM
 rw[h,if_neg (fun hh=>h1 hh.2)]
theorem RowB.at_ {w:World} {g n c:Nat} {l:List UInt8} {H:List HB} (h:RowB (.slice (some ⟨g,0,none⟩) n c) l H) (hs:Sat w H) {i:Nat} {b:UInt8} (hi:l[i]?=some b):w.cell? ⟨g,i,none⟩=some (.int .u8 (b.toNat:Int)):=by
 have hn:=h.len
 subst hn
 have h1:=(List.getElem?_eq_some_iff.1 hi).1
 rw[(RowH.cell h hs rfl i (by omega)).1]
 simp[cellsB,hi]
theorem seg_set {w0 w:World} {H0 Hc R:List HB} {b0:HB} {g n c j:Nat} {cur:List (Int × Bool)} {p:Int × Bool} (hm:Mv w0 H0 w (b0::(Hc++R))) (hr:RowQ (.slice (some ⟨g,0,none⟩) n c) cur Hc) (hcj:cur[j]?=some p) (e:Int) :
  ∃ Hc',RowQ (.slice (some ⟨g,0,none⟩) n c) (cur.set j (e,p.2)) Hc'∧Mv w0 H0 (w.setCell ⟨g,j * 2,none⟩ (.int .i64 e)) (b0::(Hc'++R)):=by
 have h1:Mv w0 H0 w (Hc++([b0]++R)):=Mv.mv1 (A:=[b0]) hm
 obtain⟨Hc',k1,k2⟩:=hr.set_ h1.sat.left hcj e
 exact⟨Hc',k1,Mv.mv1 (B:=[b0]) (Mv.call h1 k2)⟩
theorem enc_p6 (K:Act→World→Prop) (bb pl pg pn pc k first:Nat) (at_:Nat) (x:List UInt8) (ps:List (Int × Bool)) (bv xv:Value) (Hp Hx R H0:List HB) (w0 w:World) (s0 s1 s2 s3 s4 s5 s6 s7 s8 s9 s10 s11 s12 s14 s15 s16 s18 s19 s23 s24 s25 s26 s27 s28 s29 s30 s31 s32 s33 s34 s35 s36 s37 s38 s39 s40 s41 s42 s43 s44 s45 s46 s47 s48 s49 s50 s51 s52 s53 s54 s55 s56 s57 s58 s59 s60 s61 s62 s63 s64 s65 s66 s67 s68 s69 s70 s71 s72 s73 s74 s75 s76 s77 s78 s79 s80 s81 s82 s83 s84 s85 s86 s87 s88 s89 s90 s91 s92 s93 s94 s95 s96 s97 s98 s99 s100 s101 s102 s103 s104 s105 s106 s107 s108 s109 s110 s111 s112 s113 s114 s115 s116 s117 s118 s119 s120 s121 s122 s123 s124 s125 s126 s127 s128 s129 s130 s131 s132 s133 s134 s135 s136 s137 s138 s139 s140 s141 s142 s143 s144 s145 s146 s147 s148 s149 s150 s151 s152 s153 s154 s155 s156 s157 s158 s159 s160 s161 s162 s163 s164 s165 s166 s167 s168 s169 s170 s171 s172 s173 s174 s175 s176 s177 s178 s179 s180 s181 s182 s183 s184 s185 s186 s187 s188 s189 s190 s191 s192 s193 s194 s195 s196 s197 s198 s199 s200 s201 s202 s203 s204 s205 s206 s207 s208 s209 s210 s211 s212 s213 s214 s215 s216 s217 s218 s219 s220 s221 s222 s223 s224 s225 s226 s227 s228 s229 s230 s231 s232 s233 s234 s235 s236 s237 s238 s239 s240 s241:Value)
  (hl:ps.length=k+1) (hf:first≤k) (hkl:k≤1000) (hxl:x.length≤80000000) (hat:at_≤80000000) (hpos:∀ p∈ps,0≤p.1∧p.1≤90000000)
  (hp:RowQ (.slice (some ⟨pg,0,none⟩) pn pc) ps Hp) (hx:RowB xv x Hx) (M:Mv w0 H0 w (bB bb pl (.slice (some ⟨pg,0,none⟩) pn pc) bv::(Hp++(Hx++R))))
  (hk:∀ (t22 t23 t197 t198 t199 t200 t201 t202 t203 t204 t205 t206 t207 t208 t209 t210 t211 t212 t213 t214 t215 t216 t217 t218 t219 t220 t221 t222 t223 t224 t225 t226 t227 t228 t229 t230:Value) (cur:List (Int × Bool)) (Hc:List HB) (wx:World),Clo at_ x ps first (k+1) cur→RowQ (.slice (some ⟨pg,0,none⟩) pn pc) cur Hc→Mv w0 H0 wx (bB bb pl (.slice (some ⟨pg,0,none⟩) pn pc) bv::(Hc++(Hx++R))) →
   K ⟨List.toArray (s0::s1::s2::s3::s4::s5::s6::s7::s8::s9::s10::s11::s12::(ptr0 bb)::s14::s15::s16::(.int .i64 (k:Int))::s18::s19::xv::(.int .i64 (at_:Int))::t22::t23::s24::s25::s26::s27::s28::s29::s30::s31::s32::s33::s34::s35::s36::s37::s38::s39::s40::s41::s42::s43::s44::s45::s46::s47::s48::s49::s50::s51::s52::s53::s54::s55::s56::s57::s58::s59::s60::s61::s62::s63::s64::s65::s66::s67::s68::s69::s70::s71::s72::s73::s74::s75::s76::s77::s78::s79::s80::s81::s82::s83::s84::s85::s86::s87::s88::s89::s90::s91::s92::s93::s94::s95::s96::s97::s98::s99::s100::s101::s102::s103::s104::s105::s106::s107::s108::s109::s110::s111::s112::s113::s114::s115::s116::s117::s118::s119::s120::s121::s122::s123::s124::s125::s126::s127::s128::s129::s130::s131::s132::s133::s134::s135::s136::s137::s138::s139::s140::s141::s142::s143::s144::s145::s146::s147::s148::s149::s150::s151::s152::s153::s154::s155::s156::s157::s158::s159::s160::s161::s162::s163::s164::s165::s166::s167::s168::s169::s170::s171::s172::s173::s174::s175::s176::s177::s178::s179::s180::s181::s182::s183::s184::s185::s186::s187::s188::s189::s190::s191::s192::s193::s194::s195::s196::t197::t198::t199::t200::t201::t202::t203::t204::t205::t206::t207::t208::t209::t210::t211::t212::t213::t214::t215::t216::t217::t218::t219::t220::t221::t222::t223::t224::t225::t226::t227::t228::t229::t230::s231::s232::s233::s234::s235::s236::s237::s238::s239::s240::s241::[]),[]⟩ wx) :
  (blockOf 6 Tryz.f17).wp Tryz.prog (Exit.then K noQ) ⟨List.toArray (s0::s1::s2::s3::s4::s5::s6::s7::s8::s9::s10::s11::s12::(ptr0 bb)::s14::s15::s16::(.int .i64 (k:Int))::s18::s19::xv::(.int .i64 (at_:Int))::(.int .i64 (first:Int))::s23::s24::s25::s26::s27::s28::s29::s30::s31::s32::s33::s34::s35::s36::s37::s38::s39::s40::s41::s42::s43::s44::s45::s46::s47::s48::s49::s50::s51::s52::s53::s54::s55::s56::s57::s58::s59::s60::s61::s62::s63::s64::s65::s66::s67::s68::s69::s70::s71::s72::s73::s74::s75::s76::s77::s78::s79::s80::s81::s82::s83::s84::s85::s86::s87::s88::s89::s90::s91::s92::s93::s94::s95::s96::s97::s98::s99::s100::s101::s102::s103::s104::s105::s106::s107::s108::s109::s110::s111::s112::s113::s114::s115::s116::s117::s118::s119::s120::s121::s122::s123::s124::s125::s126::s127::s128::s129::s130::s131::s132::s133::s134::s135::s136::s137::s138::s139::s140::s141::s142::s143::s144::s145::s146::s147::s148::s149::s150::s151::s152::s153::s154::s155::s156::s157::s158::s159::s160::s161::s162::s163::s164::s165::s166::s167::s168::s169::s170::s171::s172::s173::s174::s175::s176::s177::s178::s179::s180::s181::s182::s183::s184::s185::s186::s187::s188::s189::s190::s191::s192::s193::s194::s195::s196::s197::s198::s199::s200::s201::s202::s203::s204::s205::s206::s207::s208::s209::s210::s211::s212::s213::s214::s215::s216::s217::s218::s219::s220::s221::s222::s223::s224::s225::s226::s227::s228::s229::s230::s231::s232::s233::s234::s235::s236::s237::s238::s239::s240::s241::[]),[]⟩ w:=by
 conv in (blockOf _ _)=>whnf
 unfold noQ
 have HK:=Lib.hid hk
 clear hk
 unfold ptr0
 obtain⟨xa,xc,rfl⟩:=hx.slice
 obtain⟨L,hL⟩:∃ L,x.length=L:=⟨_,rfl⟩
 rw[hL] at hx hxl HK ⊢
 have hpn:pn=k+1:=by
  obtain⟨a,c,e⟩:=hp.slice
  cases e
  exact hl
 have KL:=Lib.hid (And.intro hL (And.intro hl (And.intro hpos hpn)))
 have KX:=Lib.hid hx
 have K0:=Lib.hid (And.intro hp M)
 have hpk:(k:Int)<(pn:Int):=by omega
 clear hL hl hpos hx hp M hpn
 go_wp2_with fail
 go_loopg [22] (k+1 - first) (fun mm s22 wx=>∃ (j:Nat) (cur:List (Int × Bool)) (Hc:List HB),first≤j∧j≤k+1∧mm=k+1 - j∧s22=.int .i64 (j:Int)∧Clo at_ x ps first j cur∧RowQ (.slice (some ⟨pg,0,none⟩) pn pc) cur Hc∧Mv w0 H0 wx (bB bb pl (.slice (some ⟨pg,0,none⟩) pn pc) bv::(Hc++(Hx++R))))
 case atStart=>exact⟨first,ps,Hp,Nat.le_refl _,by omega,rfl,rfl,Clo.start _ _ _ _,K0.out.1,K0.out.2⟩
 case round =>
  obtain⟨j,cur,Hc,j1,j2,rfl,rfl,hc,hr,hm⟩:=hrel
  by_cases hlt:j≤k
  ·have d1:decide ((j:Int)≤(k:Int))=true:=by simp;omega
   obtain⟨p,hp⟩:∃ p,ps[j]?=some p:=⟨_,List.getElem?_eq_getElem (by have:=KL.out.2.1;omega)⟩
   have hcj:=hc.get hp
   obtain⟨e,he⟩:∃ e:Nat,p.1=(e:Int):=⟨p.1.toNat,by have:=KL.out.2.2.1 p (List.mem_of_getElem? hp);omega⟩
   have hel:e≤90000000:=by have:=KL.out.2.2.1 p (List.mem_of_getElem? hp);omega
   have S1:=hm.drop1.sat.left
   obtain⟨c0,f0⟩:=hr.at_ S1 hcj
   rw[he] at c0
   have cp:wr.cell? ⟨bb,1,none⟩=some (.slice (some ⟨pg,0,none⟩) pn pc):=hm.cell 0 rfl 1
   have hjp:(j:Int)<(pn:Int):=by omega
   obtain⟨n,hn⟩:∃ n,min e L=n:=⟨_,rfl⟩
   have hnl:n≤90000000:=by omega
   have EM:Hid ((if L<e then (L:Int) else (e:Int))=(n:Int)):=Lib.hid (by split <;> omega)
   have KM:=Lib.hid (And.intro hm (And.intro hr (And.intro hc (And.intro hp (And.intro hcj (And.intro he hn))))))
   clear hm hr hc hp hcj he hn S1
   go_upto_region 41 with fail
   rw[EM.out]
   have KEY:Hid (∀ nn:Nat,adjM x e=nn→∃ Hc',Clo at_ x ps first (j+1) (cur.set j (((at_+nn:Nat):Int),p.2))∧RowQ (.slice (some ⟨pg,0,none⟩) pn pc) (cur.set j (((at_+nn:Nat):Int),p.2)) Hc'∧Mv w0 H0 (wr.setCell ⟨pg,j * 2,none⟩ (.int .i64 ((at_+nn:Nat):Int))) (bB bb pl (.slice (some ⟨pg,0,none⟩) pn pc) bv::(Hc'++(Hx++R)))):=Lib.hid (by
    intro nn hnn
    obtain⟨m1,m2,m3,m4,m5,m6,m7⟩:=KM.out
    obtain⟨Hc',r1,r2⟩:=seg_set m1 m2 m5 ((at_+nn:Nat):Int)
    refine⟨Hc',?_,r1,r2⟩
    have:=m3.step j1 m4
    rw[m6,Int.toNat_natCast,hnn] at this
    exact this)
   by_cases h0:n=0
   ·obtain⟨Hc',q1,q2,q3⟩:=KEY.out 0 (adjM_zero (by rw[KL.out.1,KM.out.2.2.2.2.2.2,h0]))
    have Q:=Lib.hid (And.intro q1 (And.intro q2 q3))
    subst h0
    clear q1 q2 q3 KEY EM
    go_wp2_with fail
    go_roundg (k+1 - (j+1))
    case measure=>omega
    case rel=>exact⟨j+1,_,Hc',by omega,by omega,rfl,by push_cast;rfl,Q.out.1,Q.out.2.1,Q.out.2.2⟩
   ·have hn0:0<n:=by omega
    have hLn:n≤L:=by have:=KM.out.2.2.2.2.2.2;omega
    obtain⟨xg,hxa⟩:∃ g,xa=some ⟨g,0,none⟩:=by
     obtain⟨g,cp,cur4,hv,-⟩:=RowH.form KX.out (by have:=KL.out.1;omega)
     injection hv with ha
     exact⟨g,ha⟩
    subst hxa
    obtain⟨b,hb⟩:∃ b,x[n - 1]?=some b:=⟨_,List.getElem?_eq_getElem (by have:=KL.out.1;omega)⟩
    have S2:Sat wr (Hx++R):=Sat.right (A:=Hc) KM.out.1.drop1.sat
    have cb:=RowB.at_ KX.out S2.left hb
    have e1:(n:Int) - 1=((n - 1:Nat):Int):=by omega
    have e2:((n - 1:Nat):Int)<(L:Int):=by omega
    have e3:decide ((0:Int)<(n:Int))=true:=by simp;omega
    have HB:=Lib.hid hb
    clear hb S2
    by_cases h255:b=255
    ·obtain⟨Hc',q1,q2,q3⟩:=KEY.out (n - 1) (adjM_yes (by rw[KL.out.1];exact KM.out.2.2.2.2.2.2) hn0 (by rw[HB.out,h255]))
     have Q:=Lib.hid (And.intro q1 (And.intro q2 q3))
     have d0:((b.toNat:Int) == 255)=true:=by rw[h255];rfl
     clear q1 q2 q3 KEY EM h255
     go_wp2_with fail
     go_roundg (k+1 - (j+1))
     case measure=>omega
     case rel=>exact⟨j+1,_,Hc',by omega,by omega,rfl,by push_cast;rfl,Q.out.1,Q.out.2.1,by simpa using Q.out.2.2⟩
    ·obtain⟨Hc',q1,q2,q3⟩:=KEY.out n (adjM_no (by rw[KL.out.1];exact KM.out.2.2.2.2.2.2) (by rw[HB.out];intro hh;exact h255 (Option.some.inj hh)))
     have Q:=Lib.hid (And.intro q1 (And.intro q2 q3))
     have d0:((b.toNat:Int) == 255)=false:=by
      have:b.toNat≠255:=fun e=>h255 (UInt8.toNat_inj.1 (by rw[e];rfl))
      exact beq_eq_false_iff_ne.2 (by omega)
     clear q1 q2 q3 KEY EM h255
     go_wp2_with fail
     go_roundg (k+1 - (j+1))
     case measure=>omega
     case rel=>exact⟨j+1,_,Hc',by omega,by omega,rfl,by push_cast;rfl,Q.out.1,Q.out.2.1,by simpa using Q.out.2.2⟩
  ·have d1:decide ((j:Int)≤(k:Int))=false:=by simp;omega
   obtain rfl:j=k+1:=by omega
   have Q:=Lib.hid (And.intro hc (And.intro hr hm))
   clear hc hr hm
   go_wp2_with fail
   exact HK.out _ _ _ _ _ _ _ _ _ _ _ _ _ _ _ _ _ _ _ _ _ _ _ _ _ _ _ _ _ _ _ _ _ _ _ _ _ _ _ Q.out.1 Q.out.2.1 Q.out.2.2
end
section
open Go.RowKit
def CodF (A:CodA) (G:GeoM) (c:CodM) (cx:List CxM) (t:List Value):List HB :=
 [codH A G cx t,rowN A.gm G.mag,rowN A.gn G.neg,rowL A.gs c.sig,rowL A.ge c.seen,rowL A.ga c.again]
theorem CodR.eq {A:CodA} {G:GeoM} {q:CS} {raw:Bool} {eg rg:Nat} {H:List HB} (h:CodR A G q raw eg rg H):∃ He Hr,MqR eg q.s.e He∧RawR rg q.s.r Hr∧H=CodF A G q.c q.s.cx (tailP true raw (ptr0 eg) (ptr0 rg))++(He++Hr):=by
 obtain⟨He,Hr,h1,h2,rfl⟩:=h
 exact⟨He,Hr,h1,h2,rfl⟩
theorem CodR.of {A:CodA} {G:GeoM} {q:CS} {raw:Bool} {eg rg:Nat} {He Hr:List HB} (h1:MqR eg q.s.e He) (h2:RawR rg q.s.r Hr):CodR A G q raw eg rg (CodF A G q.c q.s.cx (tailP true raw (ptr0 eg) (ptr0 rg))++(He++Hr)):=⟨He,Hr,h1,h2,rfl⟩
def CodS (A:CodA) (G:GeoM) (t:EncS) (k:Nat) (H:List HB):Prop :=
 (k=t.first∧∃ raw pe pr,H=CodF A G t.q.c t.q.s.cx (tailP true raw pe pr))∨(k≠t.first∧∃ eg rg,CodR A G t.q t.raw eg rg H)
def BkR (A:CodA) (bb:Nat) (G:GeoM) (pl:Nat) (t:EncS) (k:Nat) (H:List HB):Prop :=
 ∃ Hc pv Hp bv Hb,CodS A G t k Hc∧RowQ pv t.passes Hp∧RowB bv t.bytes Hb∧H=Hc++(bB bb pl pv bv::(Hp++Hb))
theorem enc_p29 (K:Act→World→Prop) (G:GeoM) (n k:Nat) (w:World) (s0 s1 s2 s4 s5 s6 s7 s8 s9 s10 s11 s12 s13 s14 s16 s18 s19 s20 s21 s22 s23 s24 s25 s26 s27 s28 s29 s30 s31 s32 s33 s34 s35 s36 s37 s38 s39 s40 s41 s42 s43 s44 s45 s46 s47 s48 s49 s50 s51 s52 s53 s54 s55 s56 s57 s58 s59 s60 s61 s62 s63 s64 s65 s66 s67 s68 s69 s70 s71 s72 s73 s74 s75 s76 s77 s78 s79 s80 s81 s82 s83 s84 s85 s86 s87 s88 s89 s90 s91 s92 s93 s94 s95 s96 s97 s98 s99 s100 s101 s102 s103 s104 s105 s106 s107 s108 s109 s110 s111 s112 s113 s114 s115 s116 s117 s118 s119 s120 s121 s122 s123 s124 s125 s126 s127 s128 s129 s130 s131 s132 s133 s134 s135 s136 s137 s138 s139 s140 s141 s142 s143 s144 s145 s146 s147 s148 s149 s150 s151 s152 s153 s154 s155 s156 s157 s158 s159 s160 s161 s162 s163 s164 s165 s166 s167 s168 s169 s170 s171 s172 s173 s174 s175 s176 s177 s178 s179 s180 s181 s182 s183 s184 s185 s186 s187 s188 s189 s190 s191 s192 s193 s194 s195 s196 s197 s198 s199 s200 s201 s202 s203 s204 s205 s206 s207 s208 s209 s210 s211 s212 s213 s214 s215 s216 s217 s218 s219 s220 s221 s222 s223 s224 s225 s226 s227 s228 s229 s230 s231 s232 s233 s234 s235 s236 s237 s238 s239 s240 s241:Value) (hs:G.style≤63) (hk:k<n) (hn:n≤1000)
  (hK:∀ (t155 t156 t157 t158 t159 t160 t161 t162 t163:Value),K ⟨List.toArray (s0::s1::s2::(.int .i64 (G.style:Int))::s4::s5::s6::s7::s8::s9::s10::s11::s12::s13::s14::(.int .i64 (n:Int))::s16::(.int .i64 (k:Int))::s18::(.bool (stEnd G n k))::s20::s21::s22::s23::s24::s25::s26::s27::s28::s29::s30::s31::s32::s33::s34::s35::s36::s37::s38::s39::s40::s41::s42::s43::s44::s45::s46::s47::s48::s49::s50::s51::s52::s53::s54::s55::s56::s57::s58::s59::s60::s61::s62::s63::s64::s65::s66::s67::s68::s69::s70::s71::s72::s73::s74::s75::s76::s77::s78::s79::s80::s81::s82::s83::s84::s85::s86::s87::s88::s89::s90::s91::s92::s93::s94::s95::s96::s97::s98::s99::s100::s101::s102::s103::s104::s105::s106::s107::s108::s109::s110::s111::s112::s113::s114::s115::s116::s117::s118::s119::s120::s121::s122::s123::s124::s125::s126::s127::s128::s129::s130::s131::s132::s133::s134::s135::s136::s137::s138::s139::s140::s141::s142::s143::s144::s145::s146::s147::s148::s149::s150::s151::s152::s153::s154::t155::t156::t157::t158::t159::t160::t161::t162::t163::s164::s165::s166::s167::s168::s169::s170::s171::s172::s173::s174::s175::s176::s177::s178::s179::s180::s181::s182::s183::s184::s185::s186::s187::s188::s189::s190::s191::s192::s193::s194::s195::s196::s197::s198::s199::s200::s201::s202::s203::s204::s205::s206::s207::s208::s209::s210::s211::s212::s213::s214::s215::s216::s217::s218::s219::s220::s221::s222::s223::s224::s225::s226::s227::s228::s229::s230::s231::s232::s233::s234::s235::s236::s237::s238::s239::s240::s241::[]),[]⟩ w) :
  (regionOf 29 Tryz.f17).wp Tryz.prog (Exit.then K noQ) ⟨List.toArray (s0::s1::s2::(.int .i64 (G.style:Int))::s4::s5::s6::s7::s8::s9::s10::s11::s12::s13::s14::(.int .i64 (n:Int))::s16::(.int .i64 (k:Int))::s18::s19::s20::s21::s22::s23::s24::s25::s26::s27::s28::s29::s30::s31::s32::s33::s34::s35::s36::s37::s38::s39::s40::s41::s42::s43::s44::s45::s46::s47::s48::s49::s50::s51::s52::s53::s54::s55::s56::s57::s58::s59::s60::s61::s62::s63::s64::s65::s66::s67::s68::s69::s70::s71::s72::s73::s74::s75::s76::s77::s78::s79::s80::s81::s82::s83::s84::s85::s86::s87::s88::s89::s90::s91::s92::s93::s94::s95::s96::s97::s98::s99::s100::s101::s102::s103::s104::s105::s106::s107::s108::s109::s110::s111::s112::s113::s114::s115::s116::s117::s118::s119::s120::s121::s122::s123::s124::s125::s126::s127::s128::s129::s130::s131::s132::s133::s134::s135::s136::s137::s138::s139::s140::s141::s142::s143::s144::s145::s146::s147::s148::s149::s150::s151::s152::s153::s154::s155::s156::s157::s158::s159::s160::s161::s162::s163::s164::s165::s166::s167::s168::s169::s170::s171::s172::s173::s174::s175::s176::s177::s178::s179::s180::s181::s182::s183::s184::s185::s186::s187::s188::s189::s190::s191::s192::s193::s194::s195::s196::s197::s198::s199::s200::s201::s202::s203::s204::s205::s206::s207::s208::s209::s210::s211::s212::s213::s214::s215::s216::s217::s218::s219::s220::s221::s222::s223::s224::s225::s226::s227::s228::s229::s230::s231::s232::s233::s234::s235::s236::s237::s238::s239::s240::s241::[]),[]⟩ w:=by
 conv in (regionOf _ _)=>whnf
 unfold noQ
 have HK:=Lib.hid hK
 clear hK
 have EA:=Lib.hid (fun W=>ends_any G.style k W hs (by omega))
 have e1:(n:Int) - 1=((n - 1:Nat):Int):=by omega
 obtain⟨S,hS⟩:∃ S,G.style=S:=⟨_,rfl⟩
 rw[hS] at EA HK hs ⊢
 by_cases he:endsM S k=true
 ·have r:stEnd G n k=true:=by unfold stEnd;rw[hS,he];rfl
  rw[r] at HK
  go_wp2_with (go_at_call 62;refine(EA.out _).mono ?_;rintro e w7 ⟨rfl,rfl⟩;rw[he])
  exact HK.out _ _ _ _ _ _ _ _ _
 ·have he':endsM S k=false:=by simpa using he
  by_cases hkn:k+1=n
  ·have r:stEnd G n k=true:=by unfold stEnd;rw[hS,he',decide_eq_true hkn];rfl
   rw[r] at HK
   have d:((k:Int) == ((n - 1:Nat):Int))=true:=beq_iff_eq.2 (by omega)
   clear hkn
   go_wp2_with (go_at_call 62;refine(EA.out _).mono ?_;rintro e w7 ⟨rfl,rfl⟩;rw[he'])
   exact HK.out _ _ _ _ _ _ _ _ _
  ·have r:stEnd G n k=false:=by unfold stEnd;rw[hS,he',decide_eq_false hkn];rfl
   rw[r] at HK
   have d:((k:Int) == ((n - 1:Nat):Int))=false:=beq_eq_false_iff_ne.2 (by omega)
   clear hkn
   go_wp2_with (go_at_call 62;refine(EA.out _).mono ?_;rintro e w7 ⟨rfl,rfl⟩;rw[he'])
   exact HK.out _ _ _ _ _ _ _ _ _
end
section
open Go.RowKit
theorem cod_new {A:CodA} {G:GeoM} {c:CodM} {cx:List CxM} {raw:Bool} {pe pr:Value} {w0 w:World} {H0 X He Hr:List HB} {eg rg:Nat} (hl:cx.length=19) (he:MqR eg encNew He) (hr:RawR rg rawNew Hr)
  (M:Mv w0 H0 w (Hr++(He++(CodF A G c cx (tailP true raw pe pr)++X)))) :
  ∃ Hc,CodR A G ⟨c,⟨cx,encNew,rawNew⟩⟩ raw eg rg Hc∧Mv w0 H0 ((w.setCell ⟨A.cb,49,none⟩ (ptr0 eg)).setCell ⟨A.cb,50,none⟩ (ptr0 rg)) (Hc++X):=by
 have M1:Mv w0 H0 w (⟨A.cb,133,(codT A G cx (tailP true raw pe pr)).toArray⟩::([rowN A.gm G.mag,rowN A.gn G.neg,rowL A.gs c.sig,rowL A.ge c.seen,rowL A.ga c.again]++((He++Hr)++X))) :=
  M.sub (fun g=>by simp only[CodF,codH,cnt_append,cnt_cons,cnt_nil];omega) (fun b hb=>by simp only[CodF,codH,List.mem_append,List.mem_cons,List.not_mem_nil,or_false] at hb ⊢;grind)
 have M2:=(M1.set 49 (ptr0 eg)).set 50 (ptr0 rg)
 rw[show (49:Nat)=47+2 from rfl,show (50:Nat)=47+3 from rfl,codT_set hl,codT_set hl] at M2
 refine⟨_,CodR.of (q:=⟨c,⟨cx,encNew,rawNew⟩⟩) he hr,?_⟩
 simpa [CodF,codH,tailP,List.append_assoc] using M2
theorem cod_raw {A:CodA} {G:GeoM} {c:CodM} {cx:List CxM} {raw:Bool} {pe pr:Value} {w0 w:World} {H0 X:List HB} (hl:cx.length=19) (M:Mv w0 H0 w (CodF A G c cx (tailP true raw pe pr)++X)) (raw':Bool) :
  Mv w0 H0 (w.setCell ⟨A.cb,48,none⟩ (.bool raw')) (CodF A G c cx (tailP true raw' pe pr)++X):=by
 have M1:Mv w0 H0 w (⟨A.cb,133,(codT A G cx (tailP true raw pe pr)).toArray⟩::([rowN A.gm G.mag,rowN A.gn G.neg,rowL A.gs c.sig,rowL A.ge c.seen,rowL A.ga c.again]++X)):=M
 have M2:=M1.set 48 (.bool raw')
 rw[show (48:Nat)=47+1 from rfl,codT_set hl] at M2
 exact M2
theorem codF_at {A:CodA} {G:GeoM} {c:CodM} {cx:List CxM} {t:List Value} {w0 w:World} {H0 X:List HB} (hl:cx.length=19) (M:Mv w0 H0 w (CodF A G c cx t++X)) (i:Nat):w.cell? ⟨A.cb,47+i,none⟩=t[i]?∧w.frozen? ⟨A.cb,47+i,none⟩=false:=by
 have b:=M.blk 0 (g:=A.cb) (t:=133) (cs:=(codT A G cx t).toArray) rfl
 exact⟨(b.cell _).trans (codT_get hl t i),b.frozen _⟩
theorem cod_old {A:CodA} {G:GeoM} {c:CodM} {cx:List CxM} {t:List Value} {w0 w:World} {H0 X He Hr:List HB} (hl:cx.length=19) (M:Mv w0 H0 w (Hr++(He++(CodF A G c cx t++X)))) (i:Nat):w.cell? ⟨A.cb,47+i,none⟩=t[i]?∧w.frozen? ⟨A.cb,47+i,none⟩=false :=
 codF_at hl (Mv.drop (Mv.drop M)) i
theorem bk_pv {w0 w:World} {H0 A R:List HB} {bb pl:Nat} {pv bv:Value} (M:Mv w0 H0 w (A++(bB bb pl pv bv::R))) (v:Value):Mv w0 H0 (w.setCell ⟨bb,1,none⟩ v) (A++(bB bb pl v bv::R)) :=
 Mv.setAt (A:=A) (g:=bb) (t:=51) (cs:=#[.int .i64 (pl:Int),pv,bv]) M 1 v
theorem bk_bv {w0 w:World} {H0 A R:List HB} {bb pl:Nat} {pv bv:Value} (M:Mv w0 H0 w (A++(bB bb pl pv bv::R))) (v:Value):Mv w0 H0 (w.setCell ⟨bb,2,none⟩ v) (A++(bB bb pl pv v::R)) :=
 Mv.setAt (A:=A) (g:=bb) (t:=51) (cs:=#[.int .i64 (pl:Int),pv,bv]) M 2 v
theorem bk_at {w0 w:World} {H0 A R:List HB} {bb pl:Nat} {pv bv:Value} (M:Mv w0 H0 w (A++(bB bb pl pv bv::R))):w.cell? ⟨bb,1,none⟩=some pv∧w.cell? ⟨bb,2,none⟩=some bv∧w.frozen? ⟨bb,1,none⟩=false∧w.frozen? ⟨bb,2,none⟩=false :=
 ⟨M.drop.cell 0 rfl 1,M.drop.cell 0 rfl 2,M.drop.frozen 0 rfl 1,M.drop.frozen 0 rfl 2⟩
theorem outM_le (raw:Bool) (s:WrM):outM raw s≤s.size+4:=by
 unfold outM rawOut WrM.size
 split
 ·split <;> omega
 ·omega
theorem stPs_top {G:GeoM} {planes n:Nat} {t:EncS} {k:Nat} (hg:1≤G.h) (h:t.Ok G k) {B:Nat} (hb:t.bytes.length≤B) (ho:outM (stRaw G t k) (stQ G planes t k).s≤B):∀ p∈stPs G planes n t k,0≤p.1∧p.1≤(B:Int):=by
 intro p hp
 refine⟨stPs_pos h p hp,?_⟩
 rw[← List.take_append_drop t.first (stPs G planes n t k)] at hp
 rcases List.mem_append.1 hp with h1 | h1
 ·rw[stPs_take h] at h1
  have:=h.top p h1
  omega
 ·have:=(stPs_up (planes:=planes) (n:=n) hg h).2 p h1
  omega
theorem enc_p5 (K:Act→World→Prop) (A:CodA) (bb:Nat) (G:GeoM) (pl n k:Nat) (t:EncS) (R H H0:List HB) (w0 w:World) (s0 s1 s2 s4 s5 s6 s7 s8 s9 s10 s11 s14 s18 s19 s20 s21 s22 s23 s24 s25 s26 s27 s28 s29 s30 s31 s32 s33 s34 s35 s36 s37 s38 s39 s40 s41 s42 s43 s44 s45 s46 s47 s48 s49 s50 s51 s52 s53 s54 s55 s56 s57 s58 s59 s60 s61 s62 s63 s64 s65 s66 s67 s68 s69 s70 s71 s72 s73 s74 s75 s76 s77 s78 s79 s80 s81 s82 s83 s84 s85 s86 s87 s88 s89 s90 s91 s92 s93 s94 s95 s96 s97 s98 s99 s100 s101 s102 s103 s104 s105 s106 s107 s108 s109 s110 s111 s112 s113 s114 s115 s116 s117 s118 s119 s120 s121 s122 s123 s124 s125 s126 s127 s128 s129 s130 s131 s132 s133 s134 s135 s136 s137 s138 s139 s140 s141 s142 s143 s144 s145 s146 s147 s148 s149 s150 s151 s152 s153 s154 s155 s156 s157 s158 s159 s160 s161 s162 s163 s164 s165 s166 s167 s168 s169 s170 s171 s172 s173 s174 s175 s176 s177 s178 s179 s180 s181 s182 s183 s184 s185 s186 s187 s188 s189 s190 s191 s192 s193 s194 s195 s196 s197 s198 s199 s200 s201 s202 s203 s204 s205 s206 s207 s208 s209 s210 s211 s212 s213 s214 s215 s216 s217 s218 s219 s220 s221 s222 s223 s224 s225 s226 s227 s228 s229 s230 s231 s232 s233 s234 s235 s236 s237 s238 s239 s240 s241:Value)
  (hg:G.Ok) (hpl:pl≤30) (hk:k<n) (hn:n=countM pl) (hok:t.Ok G k) (hfew:t.Few (16 * (12 * (G.w * G.h)+4)+4) k) (hr:BkR A bb G pl t k H) (M:Mv w0 H0 w (H++R))
  (hK:∀ (t18 t19 t20 t21 t22 t23 t118 t119 t120 t121 t122 t123 t124 t125 t126 t127 t128 t129 t130 t131 t132 t133 t134 t135 t136 t137 t138 t139 t140 t141 t142 t143 t144 t145 t146 t147 t148 t149 t150 t151 t152 t153 t154 t155 t156 t157 t158 t159 t160 t161 t162 t163 t164 t165 t166 t167 t168 t169 t170 t171 t172 t173 t174 t175 t176 t177 t178 t179 t180 t181 t182 t183 t184 t185 t186 t187 t188 t189 t190 t191 t192 t193 t194 t195 t196 t197 t198 t199 t200 t201 t202 t203 t204 t205 t206 t207 t208 t209 t210 t211 t212 t213 t214 t215 t216 t217 t218 t219 t220 t221 t222 t223 t224 t225 t226 t227 t228 t229 t230 t231 t232 t233 t234 t235 t236 t237 t238 t239 t240:Value) (wx:World) (H':List HB),BkR A bb G pl (encStep G pl n t k) (k+1) H'→Mv w0 H0 wx (H'++R) →
   K ⟨List.toArray (s0::s1::s2::(.int .i64 (G.style:Int))::s4::s5::s6::s7::s8::s9::s10::s11::(ptr0 A.cb)::(ptr0 bb)::s14::(.int .i64 (n:Int))::(.int .i64 ((encStep G pl n t k).first:Int))::(.int .i64 (k:Int))::t18::t19::t20::t21::t22::t23::s24::s25::s26::s27::s28::s29::s30::s31::s32::s33::s34::s35::s36::s37::s38::s39::s40::s41::s42::s43::s44::s45::s46::s47::s48::s49::s50::s51::s52::s53::s54::s55::s56::s57::s58::s59::s60::s61::s62::s63::s64::s65::s66::s67::s68::s69::s70::s71::s72::s73::s74::s75::s76::s77::s78::s79::s80::s81::s82::s83::s84::s85::s86::s87::s88::s89::s90::s91::s92::s93::s94::s95::s96::s97::s98::s99::s100::s101::s102::s103::s104::s105::s106::s107::s108::s109::s110::s111::s112::s113::s114::s115::s116::s117::t118::t119::t120::t121::t122::t123::t124::t125::t126::t127::t128::t129::t130::t131::t132::t133::t134::t135::t136::t137::t138::t139::t140::t141::t142::t143::t144::t145::t146::t147::t148::t149::t150::t151::t152::t153::t154::t155::t156::t157::t158::t159::t160::t161::t162::t163::t164::t165::t166::t167::t168::t169::t170::t171::t172::t173::t174::t175::t176::t177::t178::t179::t180::t181::t182::t183::t184::t185::t186::t187::t188::t189::t190::t191::t192::t193::t194::t195::t196::t197::t198::t199::t200::t201::t202::t203::t204::t205::t206::t207::t208::t209::t210::t211::t212::t213::t214::t215::t216::t217::t218::t219::t220::t221::t222::t223::t224::t225::t226::t227::t228::t229::t230::t231::t232::t233::t234::t235::t236::t237::t238::t239::t240::s241::[]),[]⟩ wx) :
  (blockOf 5 Tryz.f17).wp Tryz.prog (Exit.then K noQ) ⟨List.toArray (s0::s1::s2::(.int .i64 (G.style:Int))::s4::s5::s6::s7::s8::s9::s10::s11::(ptr0 A.cb)::(ptr0 bb)::s14::(.int .i64 (n:Int))::(.int .i64 (t.first:Int))::(.int .i64 (k:Int))::s18::s19::s20::s21::s22::s23::s24::s25::s26::s27::s28::s29::s30::s31::s32::s33::s34::s35::s36::s37::s38::s39::s40::s41::s42::s43::s44::s45::s46::s47::s48::s49::s50::s51::s52::s53::s54::s55::s56::s57::s58::s59::s60::s61::s62::s63::s64::s65::s66::s67::s68::s69::s70::s71::s72::s73::s74::s75::s76::s77::s78::s79::s80::s81::s82::s83::s84::s85::s86::s87::s88::s89::s90::s91::s92::s93::s94::s95::s96::s97::s98::s99::s100::s101::s102::s103::s104::s105::s106::s107::s108::s109::s110::s111::s112::s113::s114::s115::s116::s117::s118::s119::s120::s121::s122::s123::s124::s125::s126::s127::s128::s129::s130::s131::s132::s133::s134::s135::s136::s137::s138::s139::s140::s141::s142::s143::s144::s145::s146::s147::s148::s149::s150::s151::s152::s153::s154::s155::s156::s157::s158::s159::s160::s161::s162::s163::s164::s165::s166::s167::s168::s169::s170::s171::s172::s173::s174::s175::s176::s177::s178::s179::s180::s181::s182::s183::s184::s185::s186::s187::s188::s189::s190::s191::s192::s193::s194::s195::s196::s197::s198::s199::s200::s201::s202::s203::s204::s205::s206::s207::s208::s209::s210::s211::s212::s213::s214::s215::s216::s217::s218::s219::s220::s221::s222::s223::s224::s225::s226::s227::s228::s229::s230::s231::s232::s233::s234::s235::s236::s237::s238::s239::s240::s241::[]),[]⟩ w:=by
 conv in (blockOf _ _)=>whnf
 unfold noQ
 have HK:=Lib.hid hK
 clear hK
 unfold ptr0
 obtain⟨Hc,pv,Hp,bv,Hb,hc,hp,hb,rfl⟩:=hr
 obtain⟨B,hB⟩:∃ B,16 * (12 * (G.w * G.h)+4)+4=B:=⟨_,rfl⟩
 have hn4:G.w * G.h≤4096:=Nat.mul_le_mul hg.w2 hg.h2
 have hBl:B≤786500:=by omega
 have hn88:n≤88:=by rw[hn];unfold countM;omega
 have hkB:(k+1) * B≤88 * 786500:=Nat.mul_le_mul (by omega) hBl
 rw[hB] at hfew
 have ZZ:=stQ_size (planes:=pl) hg.h1 hok B (by omega) hfew
 have z1:t.bytes.length+(stQ G pl t k).s.size≤69999999:=by omega
 have z2:t.bytes.length+(stQ0 t k).s.size≤69999999:=by have:k * B≤(k+1) * B:=Nat.mul_le_mul (by omega) (Nat.le_refl _);omega
 have SQ0:=Lib.hid (stQ0_ok hok)
 have SQ:=Lib.hid (stQ_ok (planes:=pl) hg.h1 hok)
 have HG:=Lib.hid hg
 have hst:=hg.style
 have HO:=Lib.hid hok
 have hcx:t.q.s.cx.length=19:=hok.s.len
 obtain⟨q0,hq0⟩:∃ q0,stQ0 t k=q0:=⟨_,rfl⟩
 obtain⟨raw,hraw⟩:∃ raw,stRaw G t k=raw:=⟨_,rfl⟩
 have hQ:stQ G pl t k=passM G raw pl k q0:=by unfold stQ;rw[hraw,hq0]
 have HN:=Lib.hid hn
 obtain⟨X,hX⟩:∃ X,bB bb pl pv bv::(Hp++(Hb++R))=X:=⟨_,rfl⟩
 have M0:Mv w0 H0 w (Hc++X):=by rw[← hX];simpa [List.append_assoc] using M
 rw[hq0] at SQ0 z2
 have HX:=Lib.hid hX
 have KM:=Lib.hid M0
 have KP:=Lib.hid (And.intro hp hb)
 have HQ:=Lib.hid hQ
 have Z:=Lib.hid (And.intro z1 z2)
 clear hX M M0 hp hb ZZ hkB hfew hB hBl hn hg hok hQ z1 z2
 go_upto_if 120 with fail
 go_cut [120] from 121 to 240 (fun _ wx=>∃ eg rg Hc1,CodR A G q0 raw eg rg Hc1∧Mv w0 H0 wx (Hc1++X))
 case first =>
  rcases hc with ⟨hkf,r0,pe,pr,rfl⟩ | ⟨hkf,eg,rg,hcr⟩
  ·have d:((k:Int) == (t.first:Int))=true:=beq_iff_eq.2 (by omega)
   have e1:q0=⟨t.q.c,⟨t.q.s.cx,encNew,rawNew⟩⟩:=by rw[← hq0];unfold stQ0;rw[if_pos hkf]
   have e2:isRawM G.style k=raw:=by rw[← hraw];unfold stRaw;rw[if_pos hkf]
   have RA:Hid (∀ W,Calls Tryz.prog 56 #[.int .i64 (G.style:Int),.int .i64 (k:Int)] W fun e w'=>e=.returned (.bool raw)∧w'=W):=Lib.hid (fun W=>by rw[← e2];exact israw_any G.style k W hst (by omega))
   have E1:=Lib.hid e1
   have c48:w.cell? ⟨A.cb,48,none⟩=some (.bool r0):=(codF_at hcx KM.out 1).1
   have f48:w.frozen? ⟨A.cb,48,none⟩=false:=(codF_at hcx KM.out 1).2
   have M1:=cod_raw hcx KM.out raw
   obtain⟨w1,hw1⟩:∃ w1,w1=w.setCell ⟨A.cb,48,none⟩ (.bool raw):=⟨_,rfl⟩
   rw[← hw1] at M1
   have HW:=Lib.hid hw1
   have K1:=Lib.hid M1
   clear hkf e1 e2 hq0 hraw hw1 M1
   go_upto_region 24 with (go_at_call 56;refine(RA.out _).mono ?_;rintro e w7 ⟨rfl,rfl⟩)
   rw[← HW.out]
   clear HW c48 f48
   go_wp2_with (first
    | (go_at_call 57;refine(new_enc _).mono ?_;rintro e w2 ⟨eg,He,rfl,he,me⟩;have K2:=Lib.hid (And.intro he (Mv.call (H:=[]) K1.out me));clear he me)
    | (go_at_call 58;refine(new_raw _).mono ?_;rintro e w3 ⟨rg,Hr,rfl,hr,mr⟩;have K3:=Lib.hid (And.intro hr (Mv.call (H:=[]) K2.out.2 mr));(have c49:w3.cell? ⟨A.cb,49,none⟩=some pe:=by (first | exact(cod_old hcx K3.out.2 2).1));(have f49:w3.frozen? ⟨A.cb,49,none⟩=false:=by (first | exact(cod_old hcx K3.out.2 2).2));(have c50:w3.cell? ⟨A.cb,50,none⟩=some pr:=by (first | exact(cod_old hcx K3.out.2 3).1));(have f50:w3.frozen? ⟨A.cb,50,none⟩=false:=by (first | exact(cod_old hcx K3.out.2 3).2));clear hr mr))
   go_meet
   obtain⟨Hc1,q1,q2⟩:=cod_new hcx K2.out.1 K3.out.1 K3.out.2
   rw[← E1.out] at q1
   exact⟨eg,rg,Hc1,q1,q2⟩
  ·have d:((k:Int) == (t.first:Int))=false:=beq_eq_false_iff_ne.2 (by omega)
   have e1:q0=t.q:=by rw[← hq0];unfold stQ0;rw[if_neg hkf]
   have e2:raw=t.raw:=by rw[← hraw];unfold stRaw;rw[if_neg hkf]
   rw[← e1,← e2] at hcr
   have HR:=Lib.hid hcr
   clear e1 e2 hcr hkf hq0 hraw
   go_wp2_with fail
   go_meet
   exact⟨eg,rg,_,HR.out,KM.out⟩
 case rest =>
  obtain⟨eg,rg,Hc1,hr1,m1⟩:=hcut
  clear hc KM hq0 hcx
  obtain⟨q,hq⟩:∃ q,stQ G pl t k=q:=⟨_,rfl⟩
  rw[hq] at SQ HQ Z
  have MX:∀ (Hy:List HB) (wy:World),Mv w0 H0 wy (Hy++X)→Blk wy bb 51 #[.int .i64 (pl:Int),pv,bv]:=by
   intro Hy wy m
   have m2:=m.drop
   rw[← HX.out] at m2
   exact m2.blk 0 rfl
  have HMX:=Lib.hid MX
  have c0:wc.cell? ⟨bb,0,none⟩=some (.int .i64 (pl:Int)):=(MX _ _ m1).cell 0
  have CP:=Lib.hid (cod_pass A G q0 raw eg rg pl k Hc1 wc HG.out SQ0.out.1 hr1 m1.sat.left SQ0.out.2 (by have:=Z.out.2;omega) (by omega) (by rw[← HN.out];exact hk))
  have K1:=Lib.hid m1
  clear MX m1 hr1
  go_upto_region 26 with (go_at_call 59;refine CP.out.mono ?_;rintro e w2 ⟨rfl,H2,h2,m2⟩;rw[← HQ.out] at h2;have K2:=Lib.hid (And.intro h2 (Mv.call K1.out m2));clear h2 m2)
  clear c0 CP K1
  obtain⟨He,Hr,k1,k2,rfl⟩:=K2.out.1.eq
  have m2:=K2.out.2
  rw[List.append_assoc] at m2
  have hcx:q.s.cx.length=19:=SQ.out.2.len
  have c48:w2.cell? ⟨A.cb,48,none⟩=some (.bool raw):=(codF_at hcx m2 1).1
  have c49:w2.cell? ⟨A.cb,49,none⟩=some (.pointer (some ⟨eg,0,none⟩)):=(codF_at hcx m2 2).1
  have c50:w2.cell? ⟨A.cb,50,none⟩=some (.pointer (some ⟨rg,0,none⟩)):=(codF_at hcx m2 3).1
  have szq:q.s.e.b.length≤70000000∧q.s.r.b.length≤70000000:=by have:=Z.out.1;unfold WrM.size at this;omega
  have hbn:q.s.e.b≠[]:=SQ.out.2.e.1.2.2.2.2.2
  have SE:Sat w2 (He++(Hr++X)):=by have:=m2.drop.sat;simpa [List.append_assoc] using this
  have EO:=Lib.hid (enc_out eg q.s.e w2 He k1 SE.left hbn (by omega))
  have RO:=Lib.hid (raw_out rg q.s.r w2 Hr k2 SE.right.left (by omega))
  have KE:=Lib.hid (And.intro k1 k2)
  have KM:=Lib.hid m2
  obtain⟨lb,hlb⟩:∃ lb,q.s.e.b.length - 1=lb:=⟨_,rfl⟩
  have hlb2:lb≤70000000:=by omega
  have OM:outM raw q.s=if raw then rawOut q.s.r else lb+5:=by
   unfold outM
   have:=List.length_pos_iff.2 hbn
   split
   ·rfl
   ·omega
  rw[hlb] at EO
  have HOM:=Lib.hid OM
  clear k1 k2 m2 SE OM hlb
  go_upto_if 149 with (go_at_call 60;refine EO.out.mono ?_;rintro e w2 ⟨rfl,rfl⟩)
  go_cut [18,149] from 150 to 240 (fun s18 _ wx=>s18=.int .i64 ((outM raw q.s:Nat):Int)∧∃ nn,wx=w2.drewN nn)
  case first =>
   have HOM2:=HOM.out
   cases raw
   ·simp only[Bool.false_eq_true,if_false] at HOM2
    have HO2:=Lib.hid HOM2
    clear HOM2
    go_wp2_with fail
    go_meet
    exact⟨by rw[HO2.out];push_cast;rfl,0,rfl⟩
   ·simp only[if_true] at HOM2
    have HO2:=Lib.hid HOM2
    clear HOM2
    go_wp2_with (go_at_call 61;refine RO.out.mono ?_;rintro e w8 ⟨rfl,nn,rfl⟩)
    go_meet
    exact⟨by rw[HO2.out],_,rfl⟩
  case rest =>
   obtain⟨rfl,nn,rfl⟩:=hcut
   have m3:=KM.out.drewN nn
   clear RO EO K2 KM HOM c48 c49 c50 hlb2
   generalize w2.drewN nn=w3 at *
   clear w2
   have K3:=Lib.hid m3
   clear m3
   obtain⟨om,hom⟩:∃ om,outM raw q.s=om:=⟨_,rfl⟩
   rw[hom]
   go_upto_region 29 with fail
   refine wp_piece (enc_p29 _ G n k _ _ _ _ _ _ _ _ _ _ _ _ _ _ _ _ _ _ _ _ _ _ _ _ _ _ _ _ _ _ _ _ _ _ _ _ _ _ _ _ _ _ _ _ _ _ _ _ _ _ _ _ _ _ _ _ _ _ _ _ _ _ _ _ _ _ _ _ _ _ _ _ _ _ _ _ _ _ _ _ _ _ _ _ _ _ _ _ _ _ _ _ _ _ _ _ _ _ _ _ _ _ _ _ _ _ _ _ _ _ _ _ _ _ _ _ _ _ _ _ _ _ _ _ _ _ _ _ _ _ _ _ _ _ _ _ _ _ _ _ _ _ _ _ _ _ _ _ _ _ _ _ _ _ _ _ _ _ _ _ _ _ _ _ _ _ _ _ _ _ _ _ _ _ _ _ _ _ _ _ _ _ _ _ _ _ _ _ _ _ _ _ _ _ _ _ _ _ _ _ _ _ _ _ _ _ _ _ _ _ _ _ _ _ _ _ _ _ _ _ _ _ _ _ _ _ _ _ _ _ _ _ _ _ _ _ _ _ _ _ hst hk (by omega) ?_)
   rintro _ _ _ _ _ _ _ _ _
   obtain⟨en,hen⟩:∃ en,stEnd G n k=en:=⟨_,rfl⟩
   rw[hen]
   have PS:Hid (stPs G pl n t k=t.passes++[((om:Int),en)]):=Lib.hid (by unfold stPs;rw[hraw,hq,hom,hen])
   obtain⟨pva,pvc,rfl⟩:=KP.out.1.slice
   have hpl2:t.passes.length=k:=HO.out.len
   rw[hpl2] at KP HX
   obtain⟨Y,hY⟩:∃ Y,CodF A G q.c q.s.cx (tailP true raw (ptr0 eg) (ptr0 rg))++(He++Hr)=Y:=⟨_,rfl⟩
   have HY:=Lib.hid hY
   have m4:Mv w0 H0 w3 (Y++(bB bb pl (.slice pva k pvc) bv::(Hp++(Hb++R)))):=by
    have:=K3.out
    rw[← HX.out,← List.append_assoc,hY] at this
    exact this
   have c1:w3.cell? ⟨bb,1,none⟩=some (.slice pva k pvc):=(bk_at m4).1
   have f1:w3.frozen? ⟨bb,1,none⟩=false:=(bk_at m4).2.2.1
   have QA:=Lib.hid (qv_one w3 ((om:Int),en) w3.heap.size rfl)
   have KA:Hid (Mv w0 H0 (w3.alloc (.cells #[.int .i64 (om:Int),.bool en] 90)) (Hp++(bB bb pl (.slice pva k pvc) bv::(Hb++(Y++R))))):=Lib.hid (((m4.alloc 90 #[.int .i64 (om:Int),.bool en]).drop1).sub (fun g=>by simp only[cnt_append,cnt_cons];omega) (fun b hb=>by simp only[List.mem_append,List.mem_cons] at hb ⊢;grind))
   obtain⟨ps,hps⟩:∃ ps,t.passes++[((om:Int),en)]=ps:=⟨_,rfl⟩
   have hpsl:ps.length=k+1:=by rw[← hps,List.length_append,hpl2];rfl
   rw[hps] at PS
   have HPS:=Lib.hid hps
   have HPL:=Lib.hid hpl2
   have hbd:t.passes.length+[((om:Int),en)].length≤100000000:=by rw[hpl2];simp only[List.length_cons,List.length_nil];omega
   clear m4 hps hpl2 HMX
   go_upto_region 31 with (at_builtin;go_must (refine wpList_appQ rfl (.tmp 165) (.tmp 169) rfl _ _ t.passes [((om:Int),en)] Hp rfl rfl KP.out.1 KA.out.sat.left QA.out hbd ?_;intro v4 w4 H4 hr4 m4;rw[HPS.out] at hr4;obtain⟨a4,c4,rfl⟩:=hr4.slice;have K4:=Lib.hid (And.intro hr4 (Mv.call KA.out m4));(have x1:w4.cell? ⟨bb,1,none⟩=some (.slice pva k pvc):=by (first | exact(bk_at K4.out.2).1));(have y1:w4.frozen? ⟨bb,1,none⟩=false:=by (first | exact(bk_at K4.out.2).2.2.1));clear hr4 m4))
   have KR:Hid (RowQ (.slice a4 (k+1) c4) ps H4∧Mv w0 H0 (w4.setCell ⟨bb,1,none⟩ (.slice a4 (k+1) c4)) (H4++(bB bb pl (.slice a4 (k+1) c4) bv::(Hb++(Y++R))))):=Lib.hid ⟨by have:=K4.out.1;rw[hpsl] at this;exact this,bk_pv K4.out.2 _⟩
   clear K4 c1 f1 x1 y1 QA KA hbd K3
   generalize w4.setCell ⟨bb,1,none⟩ (.slice a4 (k+1) c4)=w5 at *
   cases en
   ·have ES:encStep G pl n t k=⟨q,raw,ps,t.bytes,t.first⟩:=by
     unfold encStep
     rw[hen,if_neg (by simp),hq,hraw,PS.out]
    rw[ES] at HK
    have hfk:t.first≤k:=HO.out.first
    have FIN:Hid (BkR A bb G pl ⟨q,raw,ps,t.bytes,t.first⟩ (k+1) (Y++(bB bb pl (.slice a4 (k+1) c4) bv::(H4++Hb)))∧Mv w0 H0 w5 ((Y++(bB bb pl (.slice a4 (k+1) c4) bv::(H4++Hb)))++R)):=Lib.hid ⟨⟨Y,_,H4,bv,Hb,.inr ⟨by simp only;omega,eg,rg,by rw[← HY.out];exact CodR.of KE.out.1 KE.out.2⟩,KR.out.1,KP.out.2,rfl⟩,
     KR.out.2.sub (fun g=>by simp only[cnt_append,cnt_cons];omega) (fun b hb=>by simp only[List.mem_append,List.mem_cons] at hb ⊢;grind)⟩
    clear ES hY
    go_wp2_with fail
    exact HK.out _ _ _ _ _ _ _ _ _ _ _ _ _ _ _ _ _ _ _ _ _ _ _ _ _ _ _ _ _ _ _ _ _ _ _ _ _ _ _ _ _ _ _ _ _ _ _ _ _ _ _ _ _ _ _ _ _ _ _ _ _ _ _ _ _ _ _ _ _ _ _ _ _ _ _ _ _ _ _ _ _ _ _ _ _ _ _ _ _ _ _ _ _ _ _ _ _ _ _ _ _ _ _ _ _ _ _ _ _ _ _ _ _ _ _ _ _ _ _ _ _ _ _ _ _ _ _ _ _ _ _ FIN.out.1 FIN.out.2
   ·obtain⟨x,hx⟩:∃ x,segM raw q.s=x:=⟨_,rfl⟩
    have ES:encStep G pl n t k=⟨⟨q.c,⟨q.s.cx,flushE q.s.e,q.s.r⟩⟩,raw,ps.take t.first++closeM t.bytes.length x (ps.drop t.first),t.bytes++x,k+1⟩:=by
     unfold encStep
     rw[hen,if_pos rfl,hq,hraw,PS.out,hx]
    rw[ES] at HK
    have HXX:=Lib.hid hx
    have HES:=Lib.hid ES
    have hxl:x.length≤70000003:=by
     have h1:=segM_len (raw:=raw) SQ.out.2
     have h2:=Z.out.1
     rw[hx] at h1
     omega
    have hat:t.bytes.length≤70000000:=by have:=Z.out.1;omega
    have hsum:t.bytes.length+x.length≤100000000:=by
     have h1:=segM_len (raw:=raw) SQ.out.2
     have h2:=Z.out.1
     rw[hx] at h1
     omega
    obtain⟨-,pg,rfl⟩:=KR.out.1.form (Nat.succ_pos k)
    have PT:Hid (∀ p∈ps,0≤p.1∧p.1≤90000000):=Lib.hid (by
     have h1:=stPs_top (planes:=pl) (n:=n) (B:=90000000) HG.out.h1 HO.out (by omega) (by rw[hq];have:=outM_le (stRaw G t k) q.s;have:=Z.out.1;omega)
     rw[PS.out] at h1
     exact h1)
    have hfk:t.first≤k:=HO.out.first
    have m6:Mv w0 H0 w5 (He++(Hr++(CodF A G q.c q.s.cx (tailP true raw (ptr0 eg) (ptr0 rg))++(H4++(bB bb pl (.slice (some ⟨pg,0,none⟩) (k+1) c4) bv::(Hb++R)))))):=KR.out.2.sub (fun g=>by rw[← HY.out];simp only[cnt_append,cnt_cons];omega) (fun b hb=>by rw[← HY.out];simp only[List.mem_append,List.mem_cons] at hb ⊢;grind)
    have c48:w5.cell? ⟨A.cb,48,none⟩=some (.bool raw):=(codF_at hcx m6.drop.drop 1).1
    have c49:w5.cell? ⟨A.cb,49,none⟩=some (.pointer (some ⟨eg,0,none⟩)):=(codF_at hcx m6.drop.drop 2).1
    have EF:=Lib.hid (enc_flush eg q.s.e w5 He KE.out.1 m6.sat.left SQ.out.2.e (by omega))
    have K6:=Lib.hid m6
    clear ES hY hx m6
    go_upto_if 182 with (go_at_call 63;refine EF.out.mono ?_;rintro e w6 ⟨v6,Hn6,He6,rfl,b6,q6,m6⟩;have K7:=Lib.hid (And.intro b6 (Mv.call K6.out m6));(have y48:w6.cell? ⟨A.cb,48,none⟩=some (.bool raw):=by (first | exact(codF_at hcx K7.out.2.drop.drop 1).1));(have y50:w6.cell? ⟨A.cb,50,none⟩=some (.pointer (some ⟨rg,0,none⟩)):=by (first | exact(codF_at hcx K7.out.2.drop.drop 3).1));clear b6 q6 m6)
    clear c48 c49 EF K6
    have M7:Hid (Mv w0 H0 w6 (Hr++(CodF A G q.c q.s.cx (tailP true raw (ptr0 eg) (ptr0 rg))++(Hn6++(H4++(bB bb pl (.slice (some ⟨pg,0,none⟩) (k+1) c4) bv::(Hb++R))))))):=Lib.hid (K7.out.2.sub (fun g=>by simp only[cnt_append,cnt_cons];omega) (fun b hb=>by simp only[List.mem_append,List.mem_cons] at hb ⊢;grind))
    have B6:=Lib.hid K7.out.1
    clear K7
    go_cut [20,182] from 183 to 240 (fun s20 _ wx=>∃ Hx,RowB s20 x Hx∧Mv w0 H0 wx (Hx++(CodF A G q.c q.s.cx (tailP true raw (ptr0 eg) (ptr0 rg))++(H4++(bB bb pl (.slice (some ⟨pg,0,none⟩) (k+1) c4) bv::(Hb++R))))))
    case first =>
     cases raw
     ·have ex:Hid (flushB q.s.e=x):=Lib.hid HXX.out
      clear y50
      go_wp2_with fail
      go_meet
      exact⟨Hn6,by rw[← ex.out];exact B6.out,M7.out.sub (fun g=>by simp only[cnt_append,cnt_cons];omega) (fun b hb=>by simp only[List.mem_append,List.mem_cons] at hb ⊢;grind)⟩
     ·have ex:Hid (rawFlush q.s.r=x):=Lib.hid HXX.out
      have RF:=Lib.hid (raw_flush rg q.s.r w6 Hr KE.out.2 M7.out.sat.left (by omega) SQ.out.2.r.cur)
      go_wp2_with (go_at_call 64;refine RF.out.mono ?_;rintro e w8 ⟨v8,Hn8,rfl,b8,m8⟩;have K8:=Lib.hid (And.intro b8 (Mv.call M7.out m8));clear b8 m8)
      go_meet
      exact⟨Hn8,by rw[← ex.out];exact K8.out.1,K8.out.2.sub (fun g=>by simp only[cnt_append,cnt_cons];omega) (fun b hb=>by simp only[List.mem_append,List.mem_cons] at hb ⊢;grind)⟩
    case rest =>
     obtain⟨Hx,hx,m8⟩:=hcut
     obtain⟨xa,xc,rfl⟩:=hx.slice
     obtain⟨ba,bc,rfl⟩:=KP.out.2.slice
     obtain⟨lx,hlx⟩:∃ lx,x.length=lx:=⟨_,rfl⟩
     obtain⟨at_,hat_⟩:∃ at_,t.bytes.length=at_:=⟨_,rfl⟩
     clear y48 y50 M7 B6
     have KB:Hid (RowB (.slice ba at_ bc) t.bytes Hb):=Lib.hid (by rw[← hat_];exact KP.out.2)
     rw[hat_] at m8
     rw[hlx] at hx ⊢
     have m9:Mv w0 H0 wc (Hb++(bB bb pl (.slice (some ⟨pg,0,none⟩) (k+1) c4) (.slice ba at_ bc)::(H4++(Hx++(CodF A G q.c q.s.cx (tailP true raw (ptr0 eg) (ptr0 rg))++R))))):=m8.sub (fun g=>by simp only[cnt_append,cnt_cons];omega) (fun b hb=>by simp only[List.mem_append,List.mem_cons] at hb ⊢;grind)
     have c2:wc.cell? ⟨bb,2,none⟩=some (.slice ba at_ bc):=(bk_at m9).2.1
     have f2:wc.frozen? ⟨bb,2,none⟩=false:=(bk_at m9).2.2.2
     have BX:=Lib.hid (hx.bv m8.sat.left)
     have K9:=Lib.hid (And.intro hx m9)
     obtain⟨by8,hby⟩:∃ l,t.bytes++x=l:=⟨_,rfl⟩
     rw[hby] at HK
     have HBL:=Lib.hid (show by8.length=at_+x.length by rw[← hby,List.length_append,hat_])
     have hb8:by8.length≤100000000:=by rw[← hby,List.length_append];exact hsum
     have HBY:=Lib.hid hby
     have HSUM:=Lib.hid hsum
     rw[hat_] at hat HK
     have hat2:at_≤80000000:=by omega
     have hxl2:x.length≤80000000:=by omega
     have HXL:=Lib.hid hxl2
     clear hx m8 m9 hby hlx hat_ hxl hxl2 hsum
     go_upto_region 37 with (at_builtin;go_must (refine wpList_appB rfl (.tmp 192) (.tmp 193) rfl _ _ t.bytes x Hb rfl rfl KB.out K9.out.2.sat.left BX.out HSUM.out ?_;intro v8 w8 H8 hr8 m8;rw[HBY.out] at hr8;obtain⟨a8,c8,rfl⟩:=hr8.slice;have K8:=Lib.hid (And.intro hr8 (Mv.call K9.out.2 m8));(have x2:w8.cell? ⟨bb,2,none⟩=some (.slice ba at_ bc):=by (first | exact(bk_at K8.out.2).2.1));(have y2:w8.frozen? ⟨bb,2,none⟩=false:=by (first | exact(bk_at K8.out.2).2.2.2));clear hr8 m8))
     have M10:Hid (Mv w0 H0 (w8.setCell ⟨bb,2,none⟩ (.slice a8 by8.length c8)) (bB bb pl (.slice (some ⟨pg,0,none⟩) (k+1) c4) (.slice a8 by8.length c8)::(H4++(Hx++(H8++(CodF A G q.c q.s.cx (tailP true raw (ptr0 eg) (ptr0 rg))++R)))))):=Lib.hid ((bk_bv K8.out.2 _).sub (fun g=>by simp only[cnt_append,cnt_cons];omega) (fun b hb=>by simp only[List.mem_append,List.mem_cons] at hb ⊢;grind))
     have B8:=Lib.hid K8.out.1
     clear x2 y2 c2 f2 BX K8
     generalize w8.setCell ⟨bb,2,none⟩ (.slice a8 by8.length c8)=w9 at *
     go_upto_block 6 with fail
     refine wp_piece (enc_p6 _ bb pl pg (k+1) c4 k t.first at_ x ps (.slice a8 by8.length c8) (.slice xa lx xc) H4 Hx (H8++(CodF A G q.c q.s.cx (tailP true raw (ptr0 eg) (ptr0 rg))++R)) H0 w0 w9 _ _ _ _ _ _ _ _ _ _ _ _ _ _ _ _ _ _ _ _ _ _ _ _ _ _ _ _ _ _ _ _ _ _ _ _ _ _ _ _ _ _ _ _ _ _ _ _ _ _ _ _ _ _ _ _ _ _ _ _ _ _ _ _ _ _ _ _ _ _ _ _ _ _ _ _ _ _ _ _ _ _ _ _ _ _ _ _ _ _ _ _ _ _ _ _ _ _ _ _ _ _ _ _ _ _ _ _ _ _ _ _ _ _ _ _ _ _ _ _ _ _ _ _ _ _ _ _ _ _ _ _ _ _ _ _ _ _ _ _ _ _ _ _ _ _ _ _ _ _ _ _ _ _ _ _ _ _ _ _ _ _ _ _ _ _ _ _ _ _ _ _ _ _ _ _ _ _ _ _ _ _ _ _ _ _ _ _ _ _ _ _ _ _ _ _ _ _ _ _ _ _ _ _ _ _ _ _ _ _ _ _ _ _ _ _ _ _ _ _ _ _ _ _ _ _ _ _ _ _ _ _ _ _ _ _ _ hpsl hfk (by omega) HXL.out hat2 PT.out KR.out.1 K9.out.1 M10.out ?_)
     rintro t22 t23 _ _ _ _ _ _ _ _ _ _ _ _ _ _ _ _ _ _ _ _ _ _ _ _ _ _ _ _ _ _ _ _ _ _ cur Hc6 w10 hclo hrow m10
     obtain⟨p6,hp6⟩:∃ p6,cur[k]?=some p6:=⟨_,List.getElem?_eq_getElem (by have:=hclo.len;omega)⟩
     obtain⟨Hc9,r1,r2⟩:=seg_set m10 hrow hp6 (by8.length:Int)
     have EC:Hid (cur.set k ((by8.length:Int),p6.2)=ps.take t.first++closeM at_ x (ps.drop t.first)):=Lib.hid (by
      rw[HBL.out]
      exact hclo.all hpsl hfk hp6)
     have c1:w10.cell? ⟨bb,1,none⟩=some (.slice (some ⟨pg,0,none⟩) (k+1) c4):=(bk_at (A:=[]) m10).1
     have c2:w10.cell? ⟨bb,2,none⟩=some (.slice a8 by8.length c8):=(bk_at (A:=[]) m10).2.1
     obtain⟨c3,f3⟩:=hrow.at_ m10.drop1.sat.left hp6
     have hkk:(k:Int)<((k+1:Nat):Int):=by omega
     have FIN:Hid (BkR A bb G pl ⟨⟨q.c,⟨q.s.cx,flushE q.s.e,q.s.r⟩⟩,raw,ps.take t.first++closeM at_ x (ps.drop t.first),by8,k+1⟩ (k+1) (CodF A G q.c q.s.cx (tailP true raw (ptr0 eg) (ptr0 rg))++(bB bb pl (.slice (some ⟨pg,0,none⟩) (k+1) c4) (.slice a8 by8.length c8)::(Hc9++H8)))∧Mv w0 H0 (w10.setCell ⟨pg,k * 2,none⟩ (.int .i64 (by8.length:Int))) ((CodF A G q.c q.s.cx (tailP true raw (ptr0 eg) (ptr0 rg))++(bB bb pl (.slice (some ⟨pg,0,none⟩) (k+1) c4) (.slice a8 by8.length c8)::(Hc9++H8)))++R)):=Lib.hid ⟨⟨_,_,Hc9,_,H8,.inl ⟨rfl,raw,ptr0 eg,ptr0 rg,rfl⟩,by rw[← EC.out];exact r1,B8.out,rfl⟩,
      r2.sub (fun g=>by simp only[cnt_append,cnt_cons];omega) (fun b hb=>by simp only[List.mem_append,List.mem_cons] at hb ⊢;grind)⟩
     clear hclo hrow m10 hp6 r1 r2
     unfold ptr0
     go_wp2_with fail
     exact HK.out _ _ _ _ _ _ _ _ _ _ _ _ _ _ _ _ _ _ _ _ _ _ _ _ _ _ _ _ _ _ _ _ _ _ _ _ _ _ _ _ _ _ _ _ _ _ _ _ _ _ _ _ _ _ _ _ _ _ _ _ _ _ _ _ _ _ _ _ _ _ _ _ _ _ _ _ _ _ _ _ _ _ _ _ _ _ _ _ _ _ _ _ _ _ _ _ _ _ _ _ _ _ _ _ _ _ _ _ _ _ _ _ _ _ _ _ _ _ _ _ _ _ _ _ _ _ _ _ _ _ _ FIN.out.1 FIN.out.2
end
section
open Go.RowKit
theorem results_row_tmp {P:Program} {fn:Func} {p u:Tmp} {ty:TypeId} (h:fn.results=#[.cell p ty,.tmp u]) (tmps:Array Value) (w:World) (g:Nat) (t:TypeId) (cs:Array Value) (fr:Nat × Nat) (d:TypeDesc)
  (hp:tmps.getD p undef=.pointer (some ⟨g,0,none⟩)) (hg:w.heap[g]?=some (.cells cs t fr))
  (hu:P.underlying ty=some d) (hd:(match d with | .struct _ | .array _ _=>true | _=>false)=true) (hi:(P.info? ty).map (·.size)=some cs.size) :
  (results fn tmps).run P w=.ok (.tuple #[.agg cs,tmps.getD u undef]) w:=by
 rw[results_cell_tmp h,hp]
 have e:(asAddr (.pointer (some ⟨g,0,none⟩))).run P w=.ok ⟨g,0,none⟩ w:=rfl
 rw[e,Result.andThen_ok,run_loadVar_row w g t ty cs fr d hg hu hd hi,Result.andThen_ok]
def rB (rb:Nat):HB:=⟨rb,51,#[.int .i64 0,.slice none 0 0,.slice none 0 0]⟩
theorem encode_any (G:GeoM) (v:List Int) (vg vc:Nat) (w0:World) (hg:G.Ok) (hm:G.mag=v.map Int.natAbs) (hng:G.neg=v.map fun n=>oneN (decide (n<0)))
  (hv:∀ i m,v[i]?=some m→w0.cell? ⟨vg,i,none⟩=some (.int .i64 m)) (hvg:vg<w0.heap.size) :
  Calls Tryz.prog 17 #[.int .i64 (G.w:Int),.int .i64 (G.h:Int),.int .i64 (G.band:Int),.int .i64 (G.style:Int),.slice (some ⟨vg,0,none⟩) v.length vc] w0 fun e w' =>
   ∃ pv bv Hp Hb,e=.returned (.tuple #[.agg #[.int .i64 ((encodeM G).planes:Int),pv,bv],.int .i64 0])∧RowQ pv (encodeM G).passes Hp∧RowB bv (encodeM G).bytes Hb∧Mv w0 [] w' (Hp++Hb):=by
 have hN:G.w * G.h=v.length:=by rw[← hg.mag,hm,List.length_map]
 have hn4:G.w * G.h≤4096:=Nat.mul_le_mul hg.w2 hg.h2
 have hl1:G.mag.length=v.length:=by rw[hm,List.length_map]
 have hl2:G.neg.length=v.length:=by rw[hng,List.length_map]
 obtain⟨N,hNN⟩:∃ N,v.length=N:=⟨_,rfl⟩
 have MO:=Lib.hid (may_ok G.w G.h G.band G.style (w0.alloc (.cells #[.int .i64 0,.slice none 0 0,.slice none 0 0] 51)) ⟨hg.w1,hg.w2⟩ ⟨hg.h1,hg.h2⟩ hg.band hg.style)
 have BG:=Lib.hid (fun W=>begin_any G hg.w1 hg.w2 hg.h1 hg.h2 W)
 have hw2:=hg.w2
 have hh2:=hg.h2
 rw[hNN] at hN hl1 hl2 ⊢
 have HN:=Lib.hid hN
 have HV:=Lib.hid (And.intro hv (And.intro hm (And.intro hng hNN)))
 have HG:=Lib.hid hg
 have M0:=Lib.hid (mv_alloc w0 51 #[.int .i64 0,.slice none 0 0,.slice none 0 0])
 have hd:Hid ((((N:Nat):Int) != (G.w:Int) * (G.h:Int))=false):=Lib.hid (by rw[← hN];push_cast;simp)
 clear hv hm hng hNN hg hN
 go_enter Tryz.func17,Tryz.ntmps17
 go_upto_if 36 with (go_at_call 52;refine MO.out.mono ?_;rintro e w1 ⟨rfl,rfl⟩)
 rw[hd.out]
 obtain⟨w1,hw1⟩:∃ w1,w1=w0.alloc (.cells #[.int .i64 0,.slice none 0 0,.slice none 0 0] 51):=⟨_,rfl⟩
 rw[← hw1] at M0
 have HW1:=Lib.hid hw1
 obtain⟨rb,hrb⟩:∃ rb,w0.heap.size=rb:=⟨_,rfl⟩
 rw[hrb] at M0
 rw[← hw1,hrb]
 have M1:Hid (Mv w0 [] w1 [rB rb]):=M0
 clear hw1 hd M0 MO HW1 hrb
 go_upto_region 6 with (go_at_call 53;refine(BG.out _).mono ?_;rintro e w2 ⟨A,rfl,m2⟩;have K2:=Lib.hid (Mv.call (H:=[]) M1.out m2);clear m2)
 have m2:Mv w0 [] w2 (CodF A ⟨G.w,G.h,G.band,G.style,List.replicate N 0,List.replicate N 0⟩ (codNew G) cxFresh (tailP false false (.pointer none) (.pointer none))++[rB rb]):=by
  have:=K2.out
  rw[zN_eq,zN_eq,zL_eq,zL_eq,zL_eq,codI_eq,HN.out] at this
  unfold CodF codNew
  simp only[HN.out]
  exact this
 have c47:w2.cell? ⟨A.cb,47,none⟩=some (.bool false):=(codF_at (by rfl) m2 0).1
 have f47:w2.frozen? ⟨A.cb,47,none⟩=false:=(codF_at (by rfl) m2 0).2
 have K3:=Lib.hid m2
 clear K2 m2
 have M4:Mv w0 [] (w2.setCell ⟨A.cb,47,none⟩ (.bool true)) (codH A G cxFresh (tailP true false (.pointer none) (.pointer none))::([rowN A.gm (List.replicate N 0),rowN A.gn (List.replicate N 0),rowL A.gs (codNew G).sig,rowL A.ge (codNew G).seen,rowL A.ga (codNew G).again]++[rB rb])):=by
  have:=Mv.set (g:=A.cb) (t:=133) (cs:=(codT A G cxFresh (tailP false false (.pointer none) (.pointer none))).toArray) K3.out 47 (.bool true)
  rw[show (47:Nat)=47+0 from rfl,codT_set (by rfl)] at this
  exact this
 obtain⟨R0,hR0⟩:∃ R0,[rowL A.gs (codNew G).sig,rowL A.ge (codNew G).seen,rowL A.ga (codNew G).again,rB rb]=R0:=⟨_,rfl⟩
 go_upto_region 8 with fail
 have M5:=M4.alloc 51 #[.int .i64 0,.slice none 0 0,.slice none 0 0]
 rw[show (w2.setCell ⟨A.cb,47,none⟩ (.bool true)).heap.size=w2.heap.size by simp] at M5
 obtain⟨bb,hbb⟩:∃ bb,w2.heap.size=bb:=⟨_,rfl⟩
 rw[hbb] at M5 ⊢
 generalize w2.setCell ⟨A.cb,47,none⟩ (.bool true)=w3 at *
 obtain⟨w4,hw4⟩:∃ w4,w4=w3.alloc (.cells #[.int .i64 0,.slice none 0 0,.slice none 0 0] 51):=⟨_,rfl⟩
 rw[← hw4] at M5 ⊢
 have K5:Hid (Mv w0 [] w4 (IniH A bb G 0 (planesOf (G.mag.take 0)) R0)):=Lib.hid (by
  rw[← hR0]
  unfold IniH
  rw[midN_zero,midN_zero,hl1,hl2]
  exact M5.sub (fun g=>by simp only[bB,nil0,planesOf,List.take_zero,List.foldl_nil,cnt_append,cnt_cons,cnt_nil];omega) (fun b hb=>by
   simp only[List.mem_append,List.mem_cons,List.not_mem_nil,or_false] at hb ⊢
   rcases hb with h | h | h | h | h | h | h | h
   ·exact .inr (.inl h)
   ·exact .inr (.inr (.inl (.inl h)))
   ·exact .inr (.inr (.inl (.inr (.inl h))))
   ·exact .inl h
   ·grind
   ·grind
   ·grind
   ·grind))
 clear hw4 hbb M5 M4 K3 c47 f47 BG
 have HR0:=Lib.hid hR0
 clear hR0
 go_wp2_with fail
 have PL:Hid (∀ l:List Nat,(∀ m∈l,m∈G.mag)→planesOf l≤30):=Lib.hid (fun l hl=>planesOf_le l 30 (fun m hm=>HG.out.magB m (hl m hm)))
 have hNl:N≤4096:=by have:=HN.out;omega
 go_loopg [14] N (fun mm s14 wx=>∃ i:Nat,i≤N∧mm=N - i∧s14=.int .i64 (i:Int)∧Mv w0 [] wx (IniH A bb G i (planesOf (G.mag.take i)) R0))
 case atStart=>exact⟨0,Nat.zero_le _,rfl,rfl,K5.out⟩
 case round =>
  obtain⟨i,hi,rfl,rfl,m⟩:=hrel
  by_cases hlt:i<N
  ·have d1:decide ((i:Int)<(N:Int))=true:=by simp;omega
   have KM:=Lib.hid m
   clear m
   obtain⟨x,hx⟩:∃ x,v[i]?=some x:=⟨_,List.getElem?_eq_getElem (by rw[HV.out.2.2.2];exact hlt)⟩
   have g1:G.mag[i]?=some x.natAbs:=by rw[HV.out.2.1,List.getElem?_map,hx];rfl
   have g2:G.neg[i]?=some (oneN (decide (x<0))):=by rw[HV.out.2.2.1,List.getElem?_map,hx];rfl
   have g3:x.natAbs≤1073741823:=by have:=HG.out.magB _ (List.mem_of_getElem? g1);omega
   have HX:=Lib.hid (And.intro g1 (And.intro g2 (And.intro g3 (HV.out.1 i x hx))))
   clear hx g1 g2 g3
   go_upto_block 1 with fail
   refine wp_piece (enc_p1 _ A bb vg vc N i (planesOf (G.mag.take i)) x.natAbs (oneN (decide (x<0))) G x R0 w0 wr _ _ _ _ _ _ _ _ _ _ _ _ _ _ _ _ _ _ _ _ _ _ _ _ _ _ _ _ _ _ _ _ _ _ _ _ _ _ _ _ _ _ _ _ _ _ _ _ _ _ _ _ _ _ _ _ _ _ _ _ _ _ _ _ _ _ _ _ _ _ _ _ _ _ _ _ _ _ _ _ _ _ _ _ _ _ _ _ _ _ _ _ _ _ _ _ _ _ _ _ _ _ _ _ _ _ _ _ _ _ _ _ _ _ _ _ _ _ _ _ _ _ _ _ _ _ _ _ _ _ _ _ _ _ _ _ _ _ _ _ _ _ _ _ _ _ _ _ _ _ _ _ _ _ _ _ _ _ _ _ _ _ _ _ _ _ _ _ _ _ _ _ _ _ _ _ _ _ _ _ _ _ _ _ _ _ _ _ _ _ _ _ _ _ _ _ _ _ _ _ _ _ _ _ _ _ _ _ _ _ _ _ _ _ _ _ _ _ _ _ _ _ _ _ _ _ _ _ _ _ _ _ _ _ _ _ _ _ HN.out (by have:=HN.out;omega) hlt HX.out.1 HX.out.2.1 rfl rfl HX.out.2.2.1 hl1 hl2 HX.out.2.2.2 hvg (PL.out _ (fun m hm=>List.mem_of_mem_take hm)) KM.out ?_)
   rintro _ _ _ _ _ _ _ _ _ _ _ _ _ _ _ _ _ _ _ _ _ _ _ _ _ _ _ _ _ _ _ _ _ _ _ _ _ _ _ _ _ _ _ _ _ _ _ _ _ _ _ _ _ _ _ _ w5 m5
   rw[← planesOf_take _ _ HX.out.1] at m5
   have K6:=Lib.hid m5
   clear m5
   unfold ptr0
   go_wp2_with fail
   go_roundg (N - (i+1))
   case measure=>omega
   case rel=>exact⟨i+1,by omega,rfl,by push_cast;rfl,K6.out⟩
  ·obtain rfl:i=N:=by omega
   have d1:decide ((i:Int)<(i:Int))=false:=by simp
   have ti:G.mag.take i=G.mag:=List.take_of_length_le (by omega)
   rw[ti] at m
   obtain⟨pl,hpl⟩:∃ pl,planesOf G.mag=pl:=⟨_,rfl⟩
   rw[hpl] at m
   have pl30:pl≤30:=by rw[← hpl];exact PL.out _ (fun m hm=>hm)
   obtain⟨n,hn⟩:∃ n,countM pl=n:=⟨_,rfl⟩
   have n88:n≤88:=by rw[← hn];unfold countM;omega
   have CA:Hid (∀ W,Calls Tryz.prog 55 #[.int .i64 (pl:Int)] W fun e w'=>e=.returned (.int .i64 (n:Int))∧w'=W):=Lib.hid (fun W=>by rw[← hn];exact count_any pl W (by omega))
   have HPL:=Lib.hid (And.intro hpl hn)
   unfold IniH at m
   rw[← HR0.out,show midN G.mag i=G.mag by rw[← hl1];exact midN_all _,show midN G.neg i=G.neg by rw[← hl2];exact midN_all _] at m
   have c0:wr.cell? ⟨bb,0,none⟩=some (.int .i64 (pl:Int)):=m.cell 3 rfl 0
   have m1:Mv w0 [] wr ((CodF A G (codNew G) cxFresh (tailP true false (.pointer none) (.pointer none))++(bB bb pl nil0 nil0::([]++[])))++[rB rb]):=m.sub (fun g=>by simp only[CodF,cnt_append,cnt_cons,cnt_nil];omega) (fun b hb=>by simp only[CodF,List.mem_append,List.mem_cons,List.not_mem_nil,or_false] at hb ⊢;grind)
   have K0:Hid (BkR A bb G pl (encStart G) 0 (CodF A G (codNew G) cxFresh (tailP true false (.pointer none) (.pointer none))++(bB bb pl nil0 nil0::([]++[])))∧Mv w0 [] wr ((CodF A G (codNew G) cxFresh (tailP true false (.pointer none) (.pointer none))++(bB bb pl nil0 nil0::([]++[])))++[rB rb])):=Lib.hid ⟨⟨_,nil0,[],nil0,[],.inl ⟨rfl,false,.pointer none,.pointer none,rfl⟩,RowH.nil _ _,RowH.nil _ _,rfl⟩,m1⟩
   obtain⟨R,hR⟩:∃ R,encRun G pl n n 0 (encStart G)=R:=⟨_,rfl⟩
   have HR:=Lib.hid hR
   clear m m1 hpl hn ti hR K5
   go_wp2_with (go_at_call 55;refine(CA.out _).mono ?_;rintro e w6 ⟨rfl,rfl⟩)
   have hg1:=HG.out.h1
   go_loopg [16,17] n (fun mm s16 s17 wx=>∃ (k:Nat) (t:EncS) (H:List HB),k≤n∧mm=n - k∧s16=.int .i64 (t.first:Int)∧s17=.int .i64 (k:Int)∧t.Ok G k∧t.Few (16 * (12 * (G.w * G.h)+4)+4) k∧encRun G pl n (n - k) k t=R∧BkR A bb G pl t k H∧Mv w0 [] wx (H++[rB rb]))
   case atStart=>exact⟨0,encStart G,_,by omega,rfl,rfl,rfl,encStart_ok G,(by unfold EncS.Few;simp[encStart]),HR.out,K0.out.1,K0.out.2⟩
   case round =>
    obtain⟨k,t,H,hk,rfl,rfl,rfl,ok,few,run,hb,hm⟩:=hrel
    by_cases hlt:k<n
    ·have d1:decide ((k:Int)<(n:Int))=true:=by simp;omega
     have KT:=Lib.hid (And.intro ok (And.intro few (And.intro run (And.intro hb hm))))
     clear ok few run hb hm
     go_upto_block 5 with fail
     refine wp_piece (enc_p5 _ A bb G pl n k t [rB rb] H [] w0 _ _ _ _ _ _ _ _ _ _ _ _ _ _ _ _ _ _ _ _ _ _ _ _ _ _ _ _ _ _ _ _ _ _ _ _ _ _ _ _ _ _ _ _ _ _ _ _ _ _ _ _ _ _ _ _ _ _ _ _ _ _ _ _ _ _ _ _ _ _ _ _ _ _ _ _ _ _ _ _ _ _ _ _ _ _ _ _ _ _ _ _ _ _ _ _ _ _ _ _ _ _ _ _ _ _ _ _ _ _ _ _ _ _ _ _ _ _ _ _ _ _ _ _ _ _ _ _ _ _ _ _ _ _ _ _ _ _ _ _ _ _ _ _ _ _ _ _ _ _ _ _ _ _ _ _ _ _ _ _ _ _ _ _ _ _ _ _ _ _ _ _ _ _ _ _ _ _ _ _ _ _ _ _ _ _ _ _ _ _ _ _ _ _ _ _ _ _ _ _ _ _ _ _ _ _ _ _ _ _ _ _ _ _ _ _ _ _ _ _ _ _ _ _ _ _ _ _ _ _ _ _ _ _ _ _ _ HG.out pl30 hlt HPL.out.2.symm KT.out.1 KT.out.2.1 KT.out.2.2.2.1 KT.out.2.2.2.2 ?_)
     rintro _ _ _ _ _ _ _ _ _ _ _ _ _ _ _ _ _ _ _ _ _ _ _ _ _ _ _ _ _ _ _ _ _ _ _ _ _ _ _ _ _ _ _ _ _ _ _ _ _ _ _ _ _ _ _ _ _ _ _ _ _ _ _ _ _ _ _ _ _ _ _ _ _ _ _ _ _ _ _ _ _ _ _ _ _ _ _ _ _ _ _ _ _ _ _ _ _ _ _ _ _ _ _ _ _ _ _ _ _ _ _ _ _ _ _ _ _ _ _ _ _ _ _ _ _ _ _ _ _ w5 H5 hb5 m5
     have K5:=Lib.hid (And.intro hb5 m5)
     clear hb5 m5
     unfold ptr0
     go_wp2_with fail
     go_roundg (n - (k+1))
     case measure=>omega
     case rel=>exact⟨k+1,encStep G pl n t k,H5,by omega,rfl,rfl,by push_cast;rfl,encStep_ok hg1 KT.out.1,encStep_few hg1 KT.out.1 _ (Nat.le_refl _) KT.out.2.1,by (have:=KT.out.2.2.1;rw[show n - k=(n - (k+1))+1 by omega] at this;exact this),K5.out.1,K5.out.2⟩
    ·have d1:decide ((k:Int)<(n:Int))=false:=by simp;omega
     obtain rfl:k=n:=by omega
     rw[Nat.sub_self] at run
     have HT:=Lib.hid (show t=R from run)
     obtain⟨Hc,pv,Hp,bv,Hb,-,hp,hb,rfl⟩:=hb
     obtain⟨pa,pc,rfl⟩:=hp.slice
     obtain⟨ba,bc,rfl⟩:=hb.slice
     have m1:Mv w0 [] wr ([rB rb]++(bB bb pl (.slice pa t.passes.length pc) (.slice ba t.bytes.length bc)::(Hp++Hb))):=hm.sub (fun g=>by simp only[cnt_append,cnt_cons,cnt_nil];omega) (fun b hb=>by
      rcases List.mem_append.1 hb with h | h
      ·exact List.mem_append_right _ h
      ·exact List.mem_append_left _ (List.mem_append_right _ h))
     have KP:=Lib.hid (And.intro hp hb)
     have K1:=Lib.hid m1
     clear ok few run hp hb hm m1
     obtain⟨lp,hlp⟩:∃ lp,t.passes.length=lp:=⟨_,rfl⟩
     obtain⟨lb,hlb⟩:∃ lb,t.bytes.length=lb:=⟨_,rfl⟩
     rw[hlp,hlb] at K1 KP
     go_upto_region 46 with fail
     refine wp_region_lit ?_
     refine wpList_load_row rfl 51 (.tmp 13) rfl bb rfl 51 #[.int .i64 (pl:Int),.slice pa lp pc,.slice ba lb bc] (0,0) _ (K1.out.blk 1 (g:=bb) (t:=51) (cs:=#[.int .i64 (pl:Int),.slice pa lp pc,.slice ba lb bc]) rfl) Tryz.underlying51 rfl (by kernel_rfl) ?_
     refine wpList_store_row rfl 51 (.tmp 10) (.tmp 241) rfl rb #[.int .i64 (pl:Int),.slice pa lp pc,.slice ba lb bc] rfl rfl 51 _ (K1.out.blk 0 (g:=rb) (t:=51) (cs:=#[.int .i64 0,.slice none 0 0,.slice none 0 0]) rfl) (by kernel_rfl) rfl (by simp[Value.oneCell']) ?_
     have M9:=Lib.hid (Mv.call K1.out (setRow_eq (cs:=#[.int .i64 (pl:Int),.slice pa lp pc,.slice ba lb bc]) (K1.out.blk 0 (g:=rb) (t:=51) (cs:=#[.int .i64 0,.slice none 0 0,.slice none 0 0]) rfl)))
     generalize wr.setRow rb #[.int .i64 (pl:Int),.slice pa lp pc,.slice ba lb bc]=w9 at *
     go_wp2_with fail
     have EM:encodeM G=⟨pl,t.passes,t.bytes⟩:=by
      unfold encodeM
      rw[HPL.out.1,HPL.out.2,HR.out,HT.out]
     refine bodyPost_ret (v:=.tuple #[.agg #[.int .i64 (pl:Int),.slice pa lp pc,.slice ba lb bc],.int .i64 0]) (results_row_tmp Tryz.results17 _ _ rb 51 _ (0,0) _ rfl (M9.out.blk 0 rfl) Tryz.underlying51 rfl (by kernel_rfl)) rfl ?_
     rw[EM]
     exact⟨_,_,Hp,Hb,rfl,KP.out.1,KP.out.2,M9.out.drop1.drop1⟩
end
end Go.Proofs.YtjngfhgakokejaaGreat
