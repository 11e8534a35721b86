/- waveletref8: a block on its way: what is in memory. waveletref8.Encode: a value is laid into the coder. waveletref4: an encoder's bytes are shut. waveletref8.Encode: a segment's ends are laid. waveletref8.Encode: a block on its way, in memory; does a pass end its segment? -/
import Derived.Test.YtjngfhgakokejaaGreatZp12
import Derived.Test.YtjngfhgakokejaaGreatZp06
import Derived.Test.YtjngfhgakokejaaGreatZp10
set_option maxRecDepth 100000
set_option maxHeartbeats 8000000
namespace Go.Proofs.YtjngfhgakokejaaGreat
section
open Go.RowKit
theorem Mv.old {w0 w:World} {H:List HB} (h:Mv w0 [] w H) {a:Addr} {u:Value} (hc:w0.cell? a=some u) (hl:a.block<w0.heap.size):w.cell? a=some u:=(h.below0.cell (p:=a) hl).trans hc
def codT (A:CodA) (G:GeoM) (cx:List CxM) (t:List Value):List Value :=
 [.int .i64 (G.w:Int),.int .i64 (G.h:Int),.int .i64 (G.band:Int),.int .i64 (G.style:Int),slV A.gm (G.w * G.h),slV A.gn (G.w * G.h),slV A.gs (G.w * G.h),slV A.ge (G.w * G.h),slV A.ga (G.w * G.h)]++(cxV cx++t)
def tailP (wr raw:Bool) (pe pr:Value):List Value:=[.bool wr,.bool raw,pe,pr,.pointer none,.pointer none]
def ptr0 (g:Nat):Value:=.pointer (some ⟨g,0,none⟩)
def codH (A:CodA) (G:GeoM) (cx:List CxM) (t:List Value):HB:=⟨A.cb,133,(codT A G cx t).toArray⟩
theorem codI_eq (A:CodA) (G:GeoM):codI G A.gm A.gn A.gs A.ge A.ga=codT A G cxFresh (tailP false false (.pointer none) (.pointer none)):=rfl
theorem codT_set {A:CodA} {G:GeoM} {cx:List CxM} (hl:cx.length=19) (t:List Value) (i:Nat) (v:Value):(codT A G cx t).toArray.setIfInBounds (47+i) v=(codT A G cx (t.set i v)).toArray:=by
 have hc:=cxV_length cx
 unfold codT
 rw [List.setIfInBounds_toArray,List.set_append_right _ _ (by simp only [List.length_cons,List.length_nil];omega),List.set_append_right _ _ (by simp only [List.length_cons,List.length_nil];omega)]
 congr 4
 simp only [List.length_cons,List.length_nil]
 omega
theorem codT_get {A:CodA} {G:GeoM} {cx:List CxM} (hl:cx.length=19) (t:List Value) (i:Nat):(codT A G cx t).toArray[47+i]?=t[i]?:=by
 have hc:=cxV_length cx
 unfold codT
 rw [List.getElem?_toArray,List.getElem?_append_right (by simp only [List.length_cons,List.length_nil];omega),List.getElem?_append_right (by simp only [List.length_cons,List.length_nil];omega)]
 congr 1
 simp only [List.length_cons,List.length_nil]
 omega
theorem zN_eq (g n:Nat):zN g n=rowN g (List.replicate n 0):=by simp [zN,rowN]
theorem zL_eq (g n:Nat):zL g n=rowL g (List.replicate n false):=by simp [zL,rowL]
theorem rowN_set (g:Nat) (l:List Nat) (i m:Nat):(rowN g l).cs.setIfInBounds i (.int .i64 (m:Int))=(rowN g (l.set i m)).cs:=by
 simp [rowN]
def bB (bb:Nat) (pl:Nat) (pv bv:Value):HB:=⟨bb,51,#[.int .i64 (pl:Int),pv,bv]⟩
def nil0:Value:=.slice none 0 0
def IniH (A:CodA) (bb:Nat) (G:GeoM) (i:Nat) (pl:Nat) (R:List HB):List HB :=
 codH A G cxFresh (tailP true false (.pointer none) (.pointer none))::rowN A.gm (midN G.mag i)::rowN A.gn (midN G.neg i)::bB bb pl nil0 nil0::R
theorem ini_mag {A:CodA} {w0 w:World} {b0:HB} {rest:List HB} {l:List Nat} {i m:Nat} (M:Mv w0 [] w (b0::rowN A.gm (midN l i)::rest)) (h:l[i]?=some m):Mv w0 [] (w.setCell ⟨A.gm,i,none⟩ (.int .i64 (m:Int))) (b0::rowN A.gm (midN l (i+1))::rest):=by
 have:=Mv.setAt (A:=[b0]) (g:=A.gm) (t:=3) (cs:=(rowN A.gm (midN l i)).cs) M i (.int .i64 (m:Int))
 rw [rowN_set,midN_set l i h] at this
 exact this
theorem ini_neg {A:CodA} {w0 w:World} {b0 b1:HB} {rest:List HB} {l:List Nat} {i m:Nat} (M:Mv w0 [] w (b0::b1::rowN A.gn (midN l i)::rest)) (h:l[i]?=some m):Mv w0 [] (w.setCell ⟨A.gn,i,none⟩ (.int .i64 (m:Int))) (b0::b1::rowN A.gn (midN l (i+1))::rest):=by
 have:=Mv.setAt (A:=[b0,b1]) (g:=A.gn) (t:=3) (cs:=(rowN A.gn (midN l i)).cs) M i (.int .i64 (m:Int))
 rw [rowN_set,midN_set l i h] at this
 exact this
theorem ini_pl {w0 w:World} {b0 b1 b2:HB} {rest:List HB} {bb pl:Nat} {pv bv:Value} (M:Mv w0 [] w (b0::b1::b2::bB bb pl pv bv::rest)) (q:Nat):Mv w0 [] (w.setCell ⟨bb,0,none⟩ (.int .i64 (q:Int))) (b0::b1::b2::bB bb q pv bv::rest) :=
 Mv.setAt (A:=[b0,b1,b2]) (g:=bb) (t:=51) (cs:=#[.int .i64 (pl:Int),pv,bv]) M 0 (.int .i64 (q:Int))
theorem codT_front {w:World} {A:CodA} {G:GeoM} {cx:List CxM} {t:List Value} (b:Blk w A.cb 133 (codT A G cx t).toArray) :
  w.cell? ⟨A.cb,4,none⟩=some (slV A.gm (G.w * G.h))∧w.cell? ⟨A.cb,5,none⟩=some (slV A.gn (G.w * G.h)):=by
 have c:=fun i=>b.cell i
 simp only [codT,List.cons_append,List.nil_append] at c
 exact ⟨c 4,c 5⟩
theorem shr_pos {m q:Nat} (h:0<m / 2 ^ q):decide ((0:Int)<(m:Int) / 2 ^ q)=true:=by
 have e:(m:Int) / 2 ^ q=((m / 2 ^ q:Nat):Int):=by push_cast;rfl
 rw [e]
 exact decide_eq_true (Int.natCast_pos.2 h)
theorem shr_not {m q:Nat} (h:¬ 0<m / 2 ^ q):decide ((0:Int)<(m:Int) / 2 ^ q)=false:=by
 have e:(m:Int) / 2 ^ q=((m / 2 ^ q:Nat):Int):=by push_cast;rfl
 rw [e]
 exact decide_eq_false (fun hh=>h (Int.natCast_pos.1 hh))
theorem stepP_le {p m B:Nat} (h:m<2 ^ B) (hp:p≤B):stepP p m≤B:=by
 unfold stepP
 split
 ·exact hp
 ·next h0 =>
  have:=(Nat.log2_lt h0 (k:=B)).2 h
  omega
theorem stepP_ge (p m:Nat):p≤stepP p m:=by
 unfold stepP
 split <;> omega
theorem getD_of {l:List Nat} {i m:Nat} (h:l[i]?=some m):l.getD i 0=m:=by
 rw [List.getD_eq_getElem?_getD,h]
 rfl
end
section
open Go.RowKit
theorem enc_p1 (K:Act→World→Prop) (A:CodA) (bb vg vc N i pl ma ng:Nat) (G:GeoM) (m:Int) (R:List HB) (w0 w:World) (s0 s1 s2 s3 s5 s6 s7 s8 s9 s10 s11 s15 s16 s17 s18 s19 s20 s21 s22 s23 s24 s25 s26 s27 s28 s29 s30 s31 s32 s33 s34 s35 s36 s37 s38 s39 s40 s41 s42 s43 s44 s45 s46 s47 s48 s49 s50 s51 s52 s53 s54 s55 s56 s57 s58 s59 s60 s61 s62 s63 s64 s65 s66 s67 s68 s69 s70 s71 s72 s73 s74 s75 s76 s77 s78 s79 s80 s81 s82 s83 s84 s85 s86 s87 s88 s89 s90 s91 s92 s93 s94 s95 s96 s97 s98 s99 s100 s101 s102 s103 s104 s105 s106 s107 s108 s109 s110 s111 s112 s113 s114 s115 s116 s117 s118 s119 s120 s121 s122 s123 s124 s125 s126 s127 s128 s129 s130 s131 s132 s133 s134 s135 s136 s137 s138 s139 s140 s141 s142 s143 s144 s145 s146 s147 s148 s149 s150 s151 s152 s153 s154 s155 s156 s157 s158 s159 s160 s161 s162 s163 s164 s165 s166 s167 s168 s169 s170 s171 s172 s173 s174 s175 s176 s177 s178 s179 s180 s181 s182 s183 s184 s185 s186 s187 s188 s189 s190 s191 s192 s193 s194 s195 s196 s197 s198 s199 s200 s201 s202 s203 s204 s205 s206 s207 s208 s209 s210 s211 s212 s213 s214 s215 s216 s217 s218 s219 s220 s221 s222 s223 s224 s225 s226 s227 s228 s229 s230 s231 s232 s233 s234 s235 s236 s237 s238 s239 s240 s241:Value)
  (hN:G.w * G.h=N) (_hNl:N≤4096) (hi:i<N) (h1:G.mag[i]?=some ma) (h2:G.neg[i]?=some ng) (hma:ma=m.natAbs) (hng:ng=oneN (decide (m<0))) (hml:ma≤1073741823)
  (hl1:G.mag.length=N) (hl2:G.neg.length=N) (hv:w0.cell? ⟨vg,i,none⟩=some (.int .i64 m)) (hvg:vg<w0.heap.size) (hpl:pl≤30) (M:Mv w0 [] w (IniH A bb G i pl R))
  (hk:∀ (t53 t54 t55 t56 t57 t58 t59 t60 t61 t62 t63 t64 t66 t67 t68 t69 t70 t71 t72 t73 t74 t75 t76 t77 t78 t79 t80 t81 t82 t83 t84 t85 t86 t87 t88 t89 t90 t91 t92 t93 t94 t95 t96 t97 t98 t99 t100 t101 t102 t103 t104 t105 t106 t107 t108 t109:Value) (wx:World),Mv w0 [] wx (IniH A bb G (i+1) (stepP pl ma) R) →
   K ⟨List.toArray (s0::s1::s2::s3::(.slice (some ⟨vg,0,none⟩) N vc)::s5::s6::s7::s8::s9::s10::s11::(ptr0 A.cb)::(ptr0 bb)::(.int .i64 (i:Int))::s15::s16::s17::s18::s19::s20::s21::s22::s23::s24::s25::s26::s27::s28::s29::s30::s31::s32::s33::s34::s35::s36::s37::s38::s39::s40::s41::s42::s43::s44::s45::s46::s47::s48::s49::s50::s51::s52::t53::t54::t55::t56::t57::t58::t59::t60::t61::t62::t63::t64::s65::t66::t67::t68::t69::t70::t71::t72::t73::t74::t75::t76::t77::t78::t79::t80::t81::t82::t83::t84::t85::t86::t87::t88::t89::t90::t91::t92::t93::t94::t95::t96::t97::t98::t99::t100::t101::t102::t103::t104::t105::t106::t107::t108::t109::s110::s111::s112::s113::s114::s115::s116::s117::s118::s119::s120::s121::s122::s123::s124::s125::s126::s127::s128::s129::s130::s131::s132::s133::s134::s135::s136::s137::s138::s139::s140::s141::s142::s143::s144::s145::s146::s147::s148::s149::s150::s151::s152::s153::s154::s155::s156::s157::s158::s159::s160::s161::s162::s163::s164::s165::s166::s167::s168::s169::s170::s171::s172::s173::s174::s175::s176::s177::s178::s179::s180::s181::s182::s183::s184::s185::s186::s187::s188::s189::s190::s191::s192::s193::s194::s195::s196::s197::s198::s199::s200::s201::s202::s203::s204::s205::s206::s207::s208::s209::s210::s211::s212::s213::s214::s215::s216::s217::s218::s219::s220::s221::s222::s223::s224::s225::s226::s227::s228::s229::s230::s231::s232::s233::s234::s235::s236::s237::s238::s239::s240::s241::[]),[]⟩ wx) :
  (blockOf 1 Tryz.f17).wp Tryz.prog (Exit.then K noQ) ⟨List.toArray (s0::s1::s2::s3::(.slice (some ⟨vg,0,none⟩) N vc)::s5::s6::s7::s8::s9::s10::s11::(ptr0 A.cb)::(ptr0 bb)::(.int .i64 (i:Int))::s15::s16::s17::s18::s19::s20::s21::s22::s23::s24::s25::s26::s27::s28::s29::s30::s31::s32::s33::s34::s35::s36::s37::s38::s39::s40::s41::s42::s43::s44::s45::s46::s47::s48::s49::s50::s51::s52::s53::s54::s55::s56::s57::s58::s59::s60::s61::s62::s63::s64::s65::s66::s67::s68::s69::s70::s71::s72::s73::s74::s75::s76::s77::s78::s79::s80::s81::s82::s83::s84::s85::s86::s87::s88::s89::s90::s91::s92::s93::s94::s95::s96::s97::s98::s99::s100::s101::s102::s103::s104::s105::s106::s107::s108::s109::s110::s111::s112::s113::s114::s115::s116::s117::s118::s119::s120::s121::s122::s123::s124::s125::s126::s127::s128::s129::s130::s131::s132::s133::s134::s135::s136::s137::s138::s139::s140::s141::s142::s143::s144::s145::s146::s147::s148::s149::s150::s151::s152::s153::s154::s155::s156::s157::s158::s159::s160::s161::s162::s163::s164::s165::s166::s167::s168::s169::s170::s171::s172::s173::s174::s175::s176::s177::s178::s179::s180::s181::s182::s183::s184::s185::s186::s187::s188::s189::s190::s191::s192::s193::s194::s195::s196::s197::s198::s199::s200::s201::s202::s203::s204::s205::s206::s207::s208::s209::s210::s211::s212::s213::s214::s215::s216::s217::s218::s219::s220::s221::s222::s223::s224::s225::s226::s227::s228::s229::s230::s231::s232::s233::s234::s235::s236::s237::s238::s239::s240::s241::[]),[]⟩ w:=by
 conv in (blockOf _ _)=>whnf
 unfold noQ
 have HK:=Lib.hid hk
 clear hk
 unfold ptr0
 have c0:=M.old hv hvg
 have hin:(i:Int)<(N:Int):=by omega
 have d1:decide ((1073741823:Int)<m)=false:=by simp;omega
 have d2:decide (m < -1073741823)=false:=by simp;omega
 have HM:=Lib.hid (And.intro h1 (And.intro h2 (And.intro hma hng)))
 have M1:=M.drew
 have V1:=codT_front (M1.blk 0 rfl)
 rw [hN] at V1
 unfold slV at V1
 obtain ⟨c4,c5⟩:=V1
 have KM:=Lib.hid M
 clear M h1 h2 hma hng M1
 go_upto_region 13 with fail
 have c0:=KM.out.drew.old hv hvg
 have fm:=(KM.out.drew.frozen 1 (t:=3) (cs:=(rowN A.gm (midN G.mag i)).cs) rfl i)
 have lm:=(midN_len G.mag i (by omega)).trans hl1
 have ln:=(midN_len G.neg i (by omega)).trans hl2
 have cm:w.drew.cell? ⟨A.gm,i,none⟩=some (.int .i64 (((midN G.mag i).getD i 0:Nat):Int)):=rowN_get (KM.out.drew.blk 1 rfl) lm i hi
 go_still_tail 15,(by kernel_rfl)
 change wpList _ _ _ _ _ w.drew
 have EM:(if m<IntKind.i64.wrap (-m) then IntKind.i64.wrap (-m) else m)=(ma:Int):=by
  have hq:=HM.out.2.2.1
  rw [IntWalk.i64_in _ (by omega)]
  split <;> omega
 rw [EM]
 have M5:=(ini_mag KM.out HM.out.1).drew
 obtain ⟨w3,hw3⟩:∃ w3,w3=(w.setCell ⟨A.gm,i,none⟩ (.int .i64 (ma:Int))).drew:=⟨_,rfl⟩
 rw [← hw3] at M5
 have HW:=Lib.hid hw3
 have K5:=Lib.hid M5
 clear hw3 M5 EM c4 c5
 go_upto_region 14 with fail
 rw [← HW.out]
 clear HW c0 fm d1 d2 cm lm
 have hmx:Tryz.prog.follows .mixedOrders=true:=by kernel_rfl
 obtain ⟨C,hC⟩:∃ C:World→Prop,C=fun w'=>w'=w3.drew:=⟨_,rfl⟩
 have CF:Hid (∀ w',C w'→w'.cell? ⟨A.cb,5,none⟩=some (.slice (some ⟨A.gn,0,none⟩) N N)∧w'.cell? ⟨vg,i,none⟩=some (.int .i64 m)∧w'.frozen? ⟨A.gn,i,none⟩=false∧w'.cell? ⟨A.gn,i,none⟩=some (.int .i64 (((midN G.neg i).getD i 0:Nat):Int))):=Lib.hid (by
  intro w' h
  rw [hC] at h
  rw [h]
  have V1:=(codT_front (K5.out.drew.blk 0 rfl)).2
  rw [hN] at V1
  exact ⟨V1,K5.out.drew.old hv hvg,K5.out.drew.frozen 2 (t:=3) (cs:=(rowN A.gn (midN G.neg i)).cs) rfl i,rowN_get (K5.out.drew.blk 2 rfl) ln i hi⟩)
 have CK:Hid (∀ w',C w'→Calls Tryz.prog 54 #[.bool (decide (m<0))] w' fun e w4=>e=.returned (.int .i64 (ng:Int))∧C w4):=Lib.hid (by
  intro w' h
  refine (one_any (decide (m<0)) w').mono ?_
  rintro e w4 ⟨rfl,rfl⟩
  exact ⟨by rw [HM.out.2.2.2],h⟩)
 have CD:C w3.drew:=by rw [hC]
 have HC:=Lib.hid hC
 clear hC
 refine plain_quiet_tail 11 C hmx CD (by kernel_rfl) ?_
 simp only [List.take_succ_cons,List.take_zero,List.drop_succ_cons,List.drop_zero]
 (first | (with_reducible refine qc_pass ?hw1 ?nx1;(case hw1=>(go_simp;done));(try simp only [Act.put,List.setIfInBounds_toArray,List.set_cons_zero,List.set_cons_succ])) | (with_reducible refine qc_one ?v1 ?hw1 (fun w' hw'=>?hr1) ?nx1;(case hw1=>(go_simp;done));(case hr1=>(first | (refine qc_val ?_;(obtain ⟨a0,a1,a2,a3⟩:=CF.out w' hw');clear hw';go_simp;done) | (refine qc_val ?_;(obtain ⟨a0,a1,a2,a3⟩:=CF.out w' hw');clear hw';go_simp;rfl) | (refine qc_call (f:=?f1) (args:=?args1) ?h11 ?h21;(case h11=>((obtain ⟨a0,a1,a2,a3⟩:=CF.out w' hw');go_simp;constructor <;> rfl));(case h21=>(exact CK.out w' hw'))) | (refine qc_skip ?_;(obtain ⟨a0,a1,a2,a3⟩:=CF.out w' hw');clear hw';go_simp;done)));(try simp only [Act.put,List.setIfInBounds_toArray,List.set_cons_zero,List.set_cons_succ])))
 (first | (with_reducible refine qc_pass ?hw2 ?nx2;(case hw2=>(go_simp;done));(try simp only [Act.put,List.setIfInBounds_toArray,List.set_cons_zero,List.set_cons_succ])) | (with_reducible refine qc_one ?v2 ?hw2 (fun w' hw'=>?hr2) ?nx2;(case hw2=>(go_simp;done));(case hr2=>(first | (refine qc_val ?_;(obtain ⟨a0,a1,a2,a3⟩:=CF.out w' hw');clear hw';go_simp;done) | (refine qc_val ?_;(obtain ⟨a0,a1,a2,a3⟩:=CF.out w' hw');clear hw';go_simp;rfl) | (refine qc_call (f:=?f2) (args:=?args2) ?h12 ?h22;(case h12=>((obtain ⟨a0,a1,a2,a3⟩:=CF.out w' hw');go_simp;constructor <;> rfl));(case h22=>(exact CK.out w' hw'))) | (refine qc_skip ?_;(obtain ⟨a0,a1,a2,a3⟩:=CF.out w' hw');clear hw';go_simp;done)));(try simp only [Act.put,List.setIfInBounds_toArray,List.set_cons_zero,List.set_cons_succ])))
 (first | (with_reducible refine qc_pass ?hw3 ?nx3;(case hw3=>(go_simp;done));(try simp only [Act.put,List.setIfInBounds_toArray,List.set_cons_zero,List.set_cons_succ])) | (with_reducible refine qc_one ?v3 ?hw3 (fun w' hw'=>?hr3) ?nx3;(case hw3=>(go_simp;done));(case hr3=>(first | (refine qc_val ?_;(obtain ⟨a0,a1,a2,a3⟩:=CF.out w' hw');clear hw';go_simp;done) | (refine qc_val ?_;(obtain ⟨a0,a1,a2,a3⟩:=CF.out w' hw');clear hw';go_simp;rfl) | (refine qc_call (f:=?f3) (args:=?args3) ?h13 ?h23;(case h13=>((obtain ⟨a0,a1,a2,a3⟩:=CF.out w' hw');go_simp;constructor <;> rfl));(case h23=>(exact CK.out w' hw'))) | (refine qc_skip ?_;(obtain ⟨a0,a1,a2,a3⟩:=CF.out w' hw');clear hw';go_simp;done)));(try simp only [Act.put,List.setIfInBounds_toArray,List.set_cons_zero,List.set_cons_succ])))
 (first | (with_reducible refine qc_pass ?hw4 ?nx4;(case hw4=>(go_simp;done));(try simp only [Act.put,List.setIfInBounds_toArray,List.set_cons_zero,List.set_cons_succ])) | (with_reducible refine qc_one ?v4 ?hw4 (fun w' hw'=>?hr4) ?nx4;(case hw4=>(go_simp;done));(case hr4=>(first | (refine qc_val ?_;(obtain ⟨a0,a1,a2,a3⟩:=CF.out w' hw');clear hw';go_simp;done) | (refine qc_val ?_;(obtain ⟨a0,a1,a2,a3⟩:=CF.out w' hw');clear hw';go_simp;rfl) | (refine qc_call (f:=?f4) (args:=?args4) ?h14 ?h24;(case h14=>((obtain ⟨a0,a1,a2,a3⟩:=CF.out w' hw');go_simp;constructor <;> rfl));(case h24=>(exact CK.out w' hw'))) | (refine qc_skip ?_;(obtain ⟨a0,a1,a2,a3⟩:=CF.out w' hw');clear hw';go_simp;done)));(try simp only [Act.put,List.setIfInBounds_toArray,List.set_cons_zero,List.set_cons_succ])))
 (first | (with_reducible refine qc_pass ?hw5 ?nx5;(case hw5=>(go_simp;done));(try simp only [Act.put,List.setIfInBounds_toArray,List.set_cons_zero,List.set_cons_succ])) | (with_reducible refine qc_one ?v5 ?hw5 (fun w' hw'=>?hr5) ?nx5;(case hw5=>(go_simp;done));(case hr5=>(first | (refine qc_val ?_;(obtain ⟨a0,a1,a2,a3⟩:=CF.out w' hw');clear hw';go_simp;done) | (refine qc_val ?_;(obtain ⟨a0,a1,a2,a3⟩:=CF.out w' hw');clear hw';go_simp;rfl) | (refine qc_call (f:=?f5) (args:=?args5) ?h15 ?h25;(case h15=>((obtain ⟨a0,a1,a2,a3⟩:=CF.out w' hw');go_simp;constructor <;> rfl));(case h25=>(exact CK.out w' hw'))) | (refine qc_skip ?_;(obtain ⟨a0,a1,a2,a3⟩:=CF.out w' hw');clear hw';go_simp;done)));(try simp only [Act.put,List.setIfInBounds_toArray,List.set_cons_zero,List.set_cons_succ])))
 (first | (with_reducible refine qc_pass ?hw6 ?nx6;(case hw6=>(go_simp;done));(try simp only [Act.put,List.setIfInBounds_toArray,List.set_cons_zero,List.set_cons_succ])) | (with_reducible refine qc_one ?v6 ?hw6 (fun w' hw'=>?hr6) ?nx6;(case hw6=>(go_simp;done));(case hr6=>(first | (refine qc_val ?_;(obtain ⟨a0,a1,a2,a3⟩:=CF.out w' hw');clear hw';go_simp;done) | (refine qc_val ?_;(obtain ⟨a0,a1,a2,a3⟩:=CF.out w' hw');clear hw';go_simp;rfl) | (refine qc_call (f:=?f6) (args:=?args6) ?h16 ?h26;(case h16=>((obtain ⟨a0,a1,a2,a3⟩:=CF.out w' hw');go_simp;constructor <;> rfl));(case h26=>(exact CK.out w' hw'))) | (refine qc_skip ?_;(obtain ⟨a0,a1,a2,a3⟩:=CF.out w' hw');clear hw';go_simp;done)));(try simp only [Act.put,List.setIfInBounds_toArray,List.set_cons_zero,List.set_cons_succ])))
 (first | (with_reducible refine qc_pass ?hw7 ?nx7;(case hw7=>(go_simp;done));(try simp only [Act.put,List.setIfInBounds_toArray,List.set_cons_zero,List.set_cons_succ])) | (with_reducible refine qc_one ?v7 ?hw7 (fun w' hw'=>?hr7) ?nx7;(case hw7=>(go_simp;done));(case hr7=>(first | (refine qc_val ?_;(obtain ⟨a0,a1,a2,a3⟩:=CF.out w' hw');clear hw';go_simp;done) | (refine qc_val ?_;(obtain ⟨a0,a1,a2,a3⟩:=CF.out w' hw');clear hw';go_simp;rfl) | (refine qc_call (f:=?f7) (args:=?args7) ?h17 ?h27;(case h17=>((obtain ⟨a0,a1,a2,a3⟩:=CF.out w' hw');go_simp;constructor <;> rfl));(case h27=>(exact CK.out w' hw'))) | (refine qc_skip ?_;(obtain ⟨a0,a1,a2,a3⟩:=CF.out w' hw');clear hw';go_simp;done)));(try simp only [Act.put,List.setIfInBounds_toArray,List.set_cons_zero,List.set_cons_succ])))
 (first | (with_reducible refine qc_pass ?hw8 ?nx8;(case hw8=>(go_simp;done));(try simp only [Act.put,List.setIfInBounds_toArray,List.set_cons_zero,List.set_cons_succ])) | (with_reducible refine qc_one ?v8 ?hw8 (fun w' hw'=>?hr8) ?nx8;(case hw8=>(go_simp;done));(case hr8=>(first | (refine qc_val ?_;(obtain ⟨a0,a1,a2,a3⟩:=CF.out w' hw');clear hw';go_simp;done) | (refine qc_val ?_;(obtain ⟨a0,a1,a2,a3⟩:=CF.out w' hw');clear hw';go_simp;rfl) | (refine qc_call (f:=?f8) (args:=?args8) ?h18 ?h28;(case h18=>((obtain ⟨a0,a1,a2,a3⟩:=CF.out w' hw');go_simp;constructor <;> rfl));(case h28=>(exact CK.out w' hw'))) | (refine qc_skip ?_;(obtain ⟨a0,a1,a2,a3⟩:=CF.out w' hw');clear hw';go_simp;done)));(try simp only [Act.put,List.setIfInBounds_toArray,List.set_cons_zero,List.set_cons_succ])))
 (first | (with_reducible refine qc_pass ?hw9 ?nx9;(case hw9=>(go_simp;done));(try simp only [Act.put,List.setIfInBounds_toArray,List.set_cons_zero,List.set_cons_succ])) | (with_reducible refine qc_one ?v9 ?hw9 (fun w' hw'=>?hr9) ?nx9;(case hw9=>(go_simp;done));(case hr9=>(first | (refine qc_val ?_;(obtain ⟨a0,a1,a2,a3⟩:=CF.out w' hw');clear hw';go_simp;done) | (refine qc_val ?_;(obtain ⟨a0,a1,a2,a3⟩:=CF.out w' hw');clear hw';go_simp;rfl) | (refine qc_call (f:=?f9) (args:=?args9) ?h19 ?h29;(case h19=>((obtain ⟨a0,a1,a2,a3⟩:=CF.out w' hw');go_simp;constructor <;> rfl));(case h29=>(exact CK.out w' hw'))) | (refine qc_skip ?_;(obtain ⟨a0,a1,a2,a3⟩:=CF.out w' hw');clear hw';go_simp;done)));(try simp only [Act.put,List.setIfInBounds_toArray,List.set_cons_zero,List.set_cons_succ])))
 (first | (with_reducible refine qc_pass ?hw10 ?nx10;(case hw10=>(go_simp;done));(try simp only [Act.put,List.setIfInBounds_toArray,List.set_cons_zero,List.set_cons_succ])) | (with_reducible refine qc_one ?v10 ?hw10 (fun w' hw'=>?hr10) ?nx10;(case hw10=>(go_simp;done));(case hr10=>(first | (refine qc_val ?_;(obtain ⟨a0,a1,a2,a3⟩:=CF.out w' hw');clear hw';go_simp;done) | (refine qc_val ?_;(obtain ⟨a0,a1,a2,a3⟩:=CF.out w' hw');clear hw';go_simp;rfl) | (refine qc_call (f:=?f10) (args:=?args10) ?h110 ?h210;(case h110=>((obtain ⟨a0,a1,a2,a3⟩:=CF.out w' hw');go_simp;constructor <;> rfl));(case h210=>(exact CK.out w' hw'))) | (refine qc_skip ?_;(obtain ⟨a0,a1,a2,a3⟩:=CF.out w' hw');clear hw';go_simp;done)));(try simp only [Act.put,List.setIfInBounds_toArray,List.set_cons_zero,List.set_cons_succ])))
 (first | (with_reducible refine qc_pass ?hw11 ?nx11;(case hw11=>(go_simp;done));(try simp only [Act.put,List.setIfInBounds_toArray,List.set_cons_zero,List.set_cons_succ])) | (with_reducible refine qc_one ?v11 ?hw11 (fun w' hw'=>?hr11) ?nx11;(case hw11=>(go_simp;done));(case hr11=>(first | (refine qc_val ?_;(obtain ⟨a0,a1,a2,a3⟩:=CF.out w' hw');clear hw';go_simp;done) | (refine qc_val ?_;(obtain ⟨a0,a1,a2,a3⟩:=CF.out w' hw');clear hw';go_simp;rfl) | (refine qc_call (f:=?f11) (args:=?args11) ?h111 ?h211;(case h111=>((obtain ⟨a0,a1,a2,a3⟩:=CF.out w' hw');go_simp;constructor <;> rfl));(case h211=>(exact CK.out w' hw'))) | (refine qc_skip ?_;(obtain ⟨a0,a1,a2,a3⟩:=CF.out w' hw');clear hw';go_simp;done)));(try simp only [Act.put,List.setIfInBounds_toArray,List.set_cons_zero,List.set_cons_succ])))
 refine wpQuiet_nil ?_
 intro w' hw'
 obtain rfl:w'=w3.drew:=by rw [HC.out] at hw';exact hw'
 obtain ⟨-,-,a2,a3⟩:=CF.out _ hw'
 have M6:=(ini_neg K5.out HM.out.2.1).drew
 clear hw' CD CK CF HC C ln
 obtain ⟨w5,hw5⟩:∃ w5,w5=(w3.setCell ⟨A.gn,i,none⟩ (.int .i64 (ng:Int))).drew:=⟨_,rfl⟩
 rw [← hw5] at M6
 have HW:=Lib.hid hw5
 have K6:=Lib.hid M6
 clear hw5 M6
 go_wp2_with fail
 rw [← HW.out]
 clear HW a2 a3
 go_loopg [] (31 - pl) (fun mm wx=>∃ q:Nat,pl≤q∧q≤stepP pl ma∧mm=31 - q∧Mv w0 [] wx (codH A G cxFresh (tailP true false (.pointer none) (.pointer none))::rowN A.gm (midN G.mag (i+1))::rowN A.gn (midN G.neg (i+1))::bB bb q nil0 nil0::R))
 case atStart=>exact ⟨pl,Nat.le_refl _,stepP_ge _ _,rfl,K6.out⟩
 case round =>
  obtain ⟨q,q1,q2,rfl,mq⟩:=hrel
  have q3:stepP pl ma≤30:=stepP_le (by have:(2:Nat) ^ 30=1073741824:=rfl;omega) hpl
  have q4:q≤40:=by omega
  have V:=(codT_front (mq.drew.blk 0 rfl)).1
  rw [hN] at V
  unfold slV at V
  have cg:wr.drew.cell? ⟨A.gm,i,none⟩=some (.int .i64 (ma:Int)):=by
   have:=rowN_get (mq.drew.blk 1 rfl) ((midN_len G.mag (i+1) (by omega)).trans hl1) i hi
   rw [getD_of (midN_get _ _ HM.out.1)] at this
   exact this
  have cb:wr.drew.cell? ⟨bb,0,none⟩=some (.int .i64 (q:Int)):=mq.drew.cell 3 rfl 0
  have fb:wr.drew.frozen? ⟨bb,0,none⟩=false:=mq.drew.frozen 3 rfl 0
  have KQ:=Lib.hid mq.drew
  clear mq
  by_cases h:0<ma / 2 ^ q
  ·have dq:=shr_pos h
   have q5:=stepP_more h (p:=pl)
   have KS:=Lib.hid (ini_pl KQ.out (q+1))
   clear h
   go_upto_region 15 with fail
   go_region
   all_goals
    go_wp2_with fail
    go_roundg (31 - (q+1))
    case measure=>omega
    case rel=>exact ⟨q+1,by omega,q5,rfl,KS.out⟩
  ·have dq:=shr_not h
   have q5:=Lib.hid (stepP_done h q1 q2)
   clear h
   go_upto_region 15 with fail
   go_region
   all_goals
    go_wp2_with fail
    exact HK.out _ _ _ _ _ _ _ _ _ _ _ _ _ _ _ _ _ _ _ _ _ _ _ _ _ _ _ _ _ _ _ _ _ _ _ _ _ _ _ _ _ _ _ _ _ _ _ _ _ _ _ _ _ _ _ _ _ (by rw [← q5.out];exact KQ.out)
end
section
open Go.RowKit
theorem or_low16 (c:Nat):c ||| 65535=c / 65536 * 65536+65535:=by
 have h1:c / 65536 * 65536+65535=2 ^ 16 * (c / 2 ^ 16) ||| 65535:=by
  rw [← Nat.two_pow_add_eq_or_of_lt (by decide)]
  omega
 rw [h1]
 apply Nat.eq_of_testBit_eq
 intro i
 rw [Nat.testBit_or,Nat.testBit_or,show (65535:Nat)=2 ^ 16 - 1 from rfl,Nat.testBit_two_pow_sub_one,Nat.testBit_two_pow_mul]
 by_cases h:i<16
 ·simp [h]
 ·rw [decide_eq_false h,decide_eq_true (show 16≤i by omega),Bool.true_and,Nat.testBit_div_two_pow,show i - 16+16=i by omega]
theorem or_ffff (c:Nat) (h:c≤200000000):bits .or .i64 (c:Int) 65535=((c / 65536 * 65536+65535:Nat):Int):=by
 have h1:=i64_or_nat c 65535 (by omega) (by omega)
 rw [or_low16] at h1
 exact h1
theorem flushC_le (e:EncM) (h:e.c≤150994944):flushC e≤200000000:=by unfold flushC;split <;> omega
def flushN:Nat→EncM→EncM
 | 0,e=>e
 | n+1,e=>flushN n (flush1 e)
theorem BV.mid {w:World} {g o n c:Nat} {l:List UInt8} (h:BV w (.slice (some ⟨g,o,none⟩) n c) l) (a b:Nat) (hab:a≤b) (hb:b≤n):BV w (.slice (some ⟨g,o+a,none⟩) (b - a) (c - a)) ((l.drop a).take (b - a)):=by
 obtain ⟨A,c',he,h1,h2,h3⟩:=h
 cases he
 have e:((l.drop a).take (b - a)).length=b - a:=by rw [List.length_take,List.length_drop];omega
 refine ⟨some ⟨g,o+a,none⟩,c - a,by rw [e],by omega,by omega,?_⟩
 rw [e]
 refine ⟨by rw [cellsB_length,e,Nat.mul_one],fun hn=>?_⟩
 obtain ⟨ad,e1,hb1,hc⟩:=h3.2 (by omega)
 cases e1
 refine ⟨_,rfl,hb1,fun j u hu=>?_⟩
 have hj:j<b - a:=by
  have:=(List.getElem?_eq_some_iff.1 hu).1
  rwa [cellsB_length,e] at this
 have hu2:(cellsB l)[a+j]?=some u:=by
  rw [← hu]
  simp only [cellsB,List.map_take,List.map_drop]
  rw [List.getElem?_take,if_pos hj,List.getElem?_drop]
 have:=hc (a+j) u hu2
 rw [Addr.add_mid] at this ⊢
 rw [Nat.add_assoc]
 exact this
theorem BV.mid2 {w:World} {g c n:Nat} {l:List UInt8} (h:BV w (.slice (some ⟨g,0,none⟩) n c) l) (a:Nat) (ha:a≤n):BV w (.slice (some ⟨g,a,none⟩) (n - a) (c - a)) (l.drop a):=by
 have hl:n=l.length:=by obtain ⟨A,c',he,-⟩:=h;cases he;rfl
 have:=BV.mid h a n ha (Nat.le_refl _)
 rw [List.take_of_length_le (by rw [List.length_drop];omega),Nat.zero_add] at this
 exact this
theorem enc_flush (eg:Nat) (e:EncM) (w:World) (H:List HB) (h:MqR eg e H) (hs:Sat w H) (he:e.Ok) (hl:e.b.length≤80000000) :
  Calls Tryz.prog 63 #[.pointer (some ⟨eg,0,none⟩)] w fun e0 w'=>∃ v Hn H',e0=.returned v∧RowB v (flushB e) Hn∧MqR eg (flushE e) H'∧Mv w H w' (Hn++H'):=by
 have hcb:e.c≤150994944:=by
  have:e.c+e.a≤(e.c+e.a) * 2 ^ e.ct:=Nat.le_mul_of_pos_right _ (Nat.two_pow_pos _)
  have:=he.1.2.2.2.2.1
  omega
 have hab:=he.1.2.1
 have hct:e.ct≤12:=he.1.2.2.2.1
 have hfc:=flushC_le e hcb
 have HE:=Lib.hid (And.intro he hl)
 have OF:=or_ffff e.c (by omega)
 obtain ⟨a,c,ct,b⟩:=e
 simp only at hcb hab hct hl OF
 obtain ⟨vb,Hb,rfl,hr⟩:=h
 simp only at hr
 have c0:w.cell? ⟨eg,0,none⟩=some (.int .i64 (a:Int)):=(Mv.refl hs).cell 0 rfl 0
 have c1:w.cell? ⟨eg,1,none⟩=some (.int .i64 (c:Int)):=(Mv.refl hs).cell 0 rfl 1
 have f1:w.frozen? ⟨eg,1,none⟩=false:=(Mv.refl hs).frozen 0 rfl 1
 have K0:=Lib.hid (And.intro hr (Mv.refl hs))
 clear hr hs he
 obtain ⟨o,ho⟩:∃ o,c / 65536 * 65536+65535=o:=⟨_,rfl⟩
 rw [ho] at OF
 have HO:=Lib.hid ho
 have hob:o≤200000000:=by omega
 obtain ⟨t,ht⟩:∃ t,c+a=t:=⟨_,rfl⟩
 have hti:(c:Int)+(a:Int)=(t:Int):=by omega
 have htb:t≤200000000:=by omega
 have HT:=Lib.hid ht
 clear ht ho
 go_enter Tryz.func63,Tryz.ntmps63
 go_upto_region 1 with fail
 go_region
 all_goals
  have M1:=K0.out.2.drew
  have g1:=M1.cell 0 rfl 1
  have h1:=M1.frozen 0 rfl 1
  clear c0 c1 f1
  generalize w.drew=w1 at *
  have K1:=Lib.hid (And.intro K0.out.1 M1)
  clear M1
  have M2:=K1.out.2
  obtain ⟨w3,hw3⟩:∃ w3,w3=w1.setCell ⟨eg,1,none⟩ (.int .i64 (o:Int)):=⟨_,rfl⟩
  have M3:=M2.set 1 (.int .i64 (o:Int))
  rw [← hw3] at M3
  replace M3:Mv w (encB eg a c ct vb::Hb) w3 (encB eg a o ct vb::Hb):=M3
  have K3:=Lib.hid (And.intro K1.out.1 M3)
  have HW:=Lib.hid hw3
  clear hw3 M2 M3
  go_upto_region 3 with fail
  rw [← HW.out]
  have g3:=K3.out.2.cell 0 rfl 1
  have h3:=K3.out.2.frozen 0 rfl 1
  clear g1 h1 HW OF hti
  obtain ⟨fc,hfcE⟩:∃ fc,flushC ⟨a,c,ct,b⟩=fc:=⟨_,rfl⟩
  rw [hfcE] at hfc
  have HF:=Lib.hid hfcE
  clear hfcE
  go_upto_if 28 with fail
  go_cut [28] from 29 (fun _ wx=>Mv w (encB eg a c ct vb::Hb) wx (encB eg a fc ct vb::Hb))
  case first =>
   have FE:Hid (fc=if t≤o then o - 32768 else o):=Lib.hid (by rw [← HF.out,← HT.out,← HO.out];rfl)
   by_cases hto:t≤o
   ·have d1:decide ((t:Int)≤(o:Int))=true:=by simp;omega
    have FG:=Lib.hid (FE.out.trans (if_pos hto))
    have d2:(o:Int) - 32768=((o - 32768:Nat):Int):=by have:=HO.out;omega
    have M4:=K3.out.2.set 1 (.int .i64 ((o - 32768:Nat):Int))
    go_wp2_with fail
    go_meet
    rw [FG.out]
    exact M4
   ·have d1:decide ((t:Int)≤(o:Int))=false:=by simp;omega
    have FG:=Lib.hid (FE.out.trans (if_neg hto))
    go_wp2_with fail
    go_meet
    rw [FG.out]
    exact K3.out.2
  case rest =>
   clear g3 h3
   have KC:=Lib.hid hcut
   have FL:Hid (flushE ⟨a,c,ct,b⟩=flushN 2 ⟨a,fc,ct,b⟩):=Lib.hid (by rw [← HF.out];rfl)
   clear hcut
   obtain ⟨R,hR⟩:∃ R,flushN 2 ⟨a,fc,ct,b⟩=R:=⟨_,rfl⟩
   rw [hR] at FL
   have HR:=Lib.hid hR
   clear hR
   go_wp2_with fail
   go_loopg [4] 2 (fun m s4 wx=>∃ (k:Nat) (e1:EncM) (H1:List HB),k≤2∧m=2 - k∧s4=.int .i64 (k:Int)∧MqR eg e1 H1∧Mv w (encB eg a c ct vb::Hb) wx H1∧e1.c≤200000000∧e1.ct≤12∧e1.b≠[]∧1≤e1.a∧e1.a<65536∧e1.b.length≤80000000+k∧flushN (2 - k) e1=R)
   case atStart=>exact ⟨0,⟨a,fc,ct,b⟩,_,by omega,rfl,rfl,⟨vb,Hb,rfl,K3.out.1⟩,KC.out,hfc,hct,HE.out.1.1.2.2.2.2.2,HE.out.1.1.1,hab,hl,HR.out⟩
   case round =>
    obtain ⟨k,e1,H1,hk,rfl,rfl,q1,m1,b1,b2,b3,b4,b5,b6,hres⟩:=hrel
    by_cases hlt:k<2
    ·have d1:decide ((k:Int)<2)=true:=by simp;omega
     obtain ⟨a1,cc1,ct1,bs1⟩:=e1
     simp only at b1 b2 b3 b4 b5 b6
     have FO:=Lib.hid (flush1_ok (e:=⟨a1,cc1,ct1,bs1⟩) b4 b5)
     have LO:=Lib.hid (outE_len ⟨a1,cc1 * 2 ^ ct1,ct1,bs1⟩ b3)
     have SC:Hid (wrap64 ((cc1:Int) * 2 ^ min ct1 64)=((cc1 * 2 ^ ct1:Nat):Int)):=Lib.hid (by
      have h1:2 ^ ct1≤2 ^ 12:=Nat.pow_le_pow_right (by omega) b2
      have h2:cc1 * 2 ^ ct1≤200000000 * 2 ^ 12:=Nat.mul_le_mul b1 h1
      have e:(cc1:Int) * 2 ^ ct1=((cc1 * 2 ^ ct1:Nat):Int):=by push_cast;rfl
      rw [show min ct1 64=ct1 by omega,e,IntWalk.wrap64_in _ (by omega)])
     obtain ⟨v1,Hb1,rfl,hr1⟩:=q1
     simp only at hr1 m1
     have KR:=Lib.hid (And.intro hr1 (And.intro m1 (And.intro hres b6)))
     have x1:=m1.cell 0 rfl 1
     have x2:=m1.cell 0 rfl 2
     have x3:=m1.frozen 0 rfl 1
     clear hr1 m1 hres
     go_upto_region 8 with fail
     clear x1 x2 x3
     have x1:=KR.out.2.1.drew.cell 0 rfl 1
     have x2:=KR.out.2.1.drew.cell 0 rfl 2
     have x3:=KR.out.2.1.drew.frozen 0 rfl 1
     go_still_tail 11,(by kernel_rfl)
     change wpList _ _ _ _ _ wr.drew
     have M5:=KR.out.2.1.drew.set 1 (.int .i64 ((cc1 * 2 ^ ct1:Nat):Int))
     generalize wr.drew=w5 at *
     obtain ⟨w6,hw6⟩:∃ w6,w6=w5.setCell ⟨eg,1,none⟩ (.int .i64 ((cc1 * 2 ^ ct1:Nat):Int)):=⟨_,rfl⟩
     rw [← hw6] at M5
     replace M5:Mv w (encB eg a c ct vb::Hb) w6 (encB eg a1 (cc1 * 2 ^ ct1) ct1 v1::Hb1):=M5
     have HW6:=Lib.hid hw6
     have K6:=Lib.hid M5
     clear hw6 M5
     go_upto_region 9 with fail
     rw [SC.out,← HW6.out]
     clear x1 x2 x3
     have OA:=Lib.hid (out_any eg ⟨a1,cc1 * 2 ^ ct1,ct1,bs1⟩ w6 _ ⟨v1,Hb1,rfl,KR.out.1⟩ K6.out.sat b3 (by simp only;omega) (by simp only;have:=Nat.mul_le_mul b1 (Nat.pow_le_pow_right (n:=2) (by omega) b2);omega))
     go_wp2_with (go_at_call 104;refine OA.out.mono ?_;rintro e w7 ⟨rfl,H7,h7,m7⟩;have K7:=Lib.hid (And.intro h7 (Mv.call (R:=[]) (by simpa using K6.out) m7));clear h7 m7)
     go_roundg (2 - (k+1))
     case measure=>omega
     case rel =>
      have hF:outE ⟨a1,cc1 * 2 ^ ct1,ct1,bs1⟩=flush1 ⟨a1,cc1,ct1,bs1⟩:=rfl
      have hcl:(flush1 ⟨a1,cc1,ct1,bs1⟩).c≤200000000:=by
       have h1:=FO.out.2.2.2.1
       have h2:(flush1 ⟨a1,cc1,ct1,bs1⟩).c+(flush1 ⟨a1,cc1,ct1,bs1⟩).a≤((flush1 ⟨a1,cc1,ct1,bs1⟩).c+(flush1 ⟨a1,cc1,ct1,bs1⟩).a) * 2 ^ (flush1 ⟨a1,cc1,ct1,bs1⟩).ct:=Nat.le_mul_of_pos_right _ (Nat.two_pow_pos _)
       omega
      have hll:(flush1 ⟨a1,cc1,ct1,bs1⟩).b.length≤80000000+(k+1):=by
       have h1:(flush1 ⟨a1,cc1,ct1,bs1⟩).b.length=bs1.length+1:=LO.out
       omega
      have hfl:flushN (2 - (k+1)) (flush1 ⟨a1,cc1,ct1,bs1⟩)=R:=by
       have h1:=KR.out.2.2.1
       rw [show 2 - k=(2 - (k+1))+1 by omega] at h1
       exact h1
      exact ⟨k+1,flush1 ⟨a1,cc1,ct1,bs1⟩,H7,by omega,rfl,by push_cast;rfl,K7.out.1,by simpa using K7.out.2,hcl,FO.out.2.2.1,FO.out.2.2.2.2,by rw [FO.out.1];exact b4,by rw [FO.out.1];exact b5,hll,hfl⟩
    ·have d1:decide ((k:Int)<2)=false:=by simp;omega
     have ek:k=2:=by omega
     subst ek
     have ER:Hid (flushE ⟨a,c,ct,b⟩=e1):=Lib.hid (FL.out.trans hres.symm)
     clear hres
     have LE:Hid ((flushE ⟨a,c,ct,b⟩).b.length=b.length+2):=Lib.hid (flushE_len HE.out.1)
     obtain ⟨a1,cc1,ct1,bs1⟩:=e1
     simp only at b3 b6
     have LB:Hid (bs1.length=b.length+2):=Lib.hid (by have:=LE.out;rw [ER.out] at this;exact this)
     have FB:Hid (flushB ⟨a,c,ct,b⟩=noLast255 (bs1.drop 1)):=Lib.hid (by unfold flushB;rw [ER.out])
     obtain ⟨vb1,Hb1,rfl,hr1⟩:=q1
     simp only at hr1 m1
     have hl1:=LB.out
     obtain ⟨g1,cp1,cur1,rfl,k1,k2,-,-,-⟩:=RowH.form hr1 (by omega)
     have x1:=m1.cell 0 rfl 3
     have BD:=Lib.hid (BV.mid2 (hr1.bv (m1.sat.right (A:=[_]))) 1 (by omega))
     have M1:=m1.alloc 5 #[]
     have c0:=M1.cell 1 rfl 3
     have B1:=Lib.hid (BV.mid2 (hr1.bv (M1.sat.right (A:=[_,_]))) 1 (by omega))
     have R1:=Lib.hid (RowB.lit wr.heap.size [] 0 rfl (by decide))
     have K1:=Lib.hid M1
     obtain ⟨n1,hn1⟩:∃ n1,bs1.length=n1:=⟨_,rfl⟩
     have KB:=Lib.hid hr1
     rw [hn1] at hl1 k1 c0 x1
     have hn1g:(1:Int)≤(n1:Int):=by omega
     have hcp:(n1:Int)≤(cp1:Int):=by omega
     clear M1 hr1 m1
     rw [hn1] at B1
     have HLD:=Lib.hid (show (bs1.drop 1).length=n1 - 1 by rw [List.length_drop,hn1])
     have n1lo:2≤n1:=by omega
     have n1hi:n1≤80000002:=by omega
     have hlb:(bs1.drop 1).length≤80000002:=by rw [List.length_drop];omega
     clear hn1 hl1 LE LB b1 b2 b4 b5 BD
     obtain ⟨l4,hl4⟩:∃ l4,bs1.drop 1=l4:=⟨_,rfl⟩
     rw [hl4] at B1 HLD FB hlb
     clear hl4
     go_upto_region 11 with (at_builtin;go_must (refine wpList_appB rfl (.tmp 56) (.tmp 61) rfl _ _ [] l4 [_] rfl rfl R1.out K1.out.sat.left B1.out (by simp only [List.length_nil];omega) ?_;intro v3 w3 H3 hr3 m3;obtain ⟨a3,c3,rfl⟩:=hr3.slice;have K5:=Lib.hid (And.intro hr3 (Mv.call (H:=[_]) K1.out m3));clear hr3 m3))
     rw [List.nil_append] at K5
     have RF4:=FB
     obtain ⟨n4,hn4e⟩:∃ n4,n1 - 1=n4:=⟨_,rfl⟩
     rw [hn4e] at HLD
     rw [HLD.out] at K5 ⊢
     have hnl:n4≤90000000:=by omega
     have hn0:0<n4:=by omega
     have K4:Hid (RowB (.slice a3 n4 c3) l4 H3∧Mv w (encB eg a c ct vb::Hb) w3 (H3++(encB eg a1 cc1 ct1 (.slice (some ⟨g1,0,none⟩) bs1.length cp1)::Hb1))):=K5
     clear K5 hn4e n1lo n1hi hlb
     have T4:=K4.out.2.sat.left
     have QE:Hid (MqR eg (flushE ⟨a,c,ct,b⟩) (encB eg a1 cc1 ct1 (.slice (some ⟨g1,0,none⟩) bs1.length cp1)::Hb1)):=Lib.hid (by rw [ER.out];exact ⟨_,_,rfl,KB.out⟩)
     obtain ⟨g,ha⟩:∃ g,a3=some ⟨g,0,none⟩:=by
      obtain ⟨g,cp,cur4,hv,-⟩:=RowH.form K4.out.1 (by rw [HLD.out];exact hn0)
      injection hv with ha
      exact ⟨g,ha⟩
     subst ha
     obtain ⟨s1,s2,s3⟩:=RowB.short K4.out.1 hn0
     obtain ⟨k1',-⟩:=RowB.at_last K4.out.1 T4 HLD.out hn0
     obtain ⟨q,hq⟩:∃ q,l4.getLastD 0=q:=⟨_,rfl⟩
     rw [hq] at k1'
     have HQ:=Lib.hid hq
     have S3:=Lib.hid s3
     have y1:(n4:Int) - 1=((n4 - 1:Nat):Int):=by omega
     have y2:((n4 - 1:Nat):Int)<(n4:Int):=by omega
     have y3:((n4 - 1:Nat):Int)≤(c3:Int):=by omega
     clear hq s3 T4
     by_cases h255:q=255
     ·have d0:((q.toNat:Int) == 255)=true:=by rw [h255];rfl
      have RG:=Lib.hid (RF4.out.trans (noLast255_yes (HQ.out.trans h255)))
      clear h255
      go_wp2_with fail
      go_ret
      exact ⟨_,H3,_,rfl,by rw [RG.out];exact S3.out,QE.out,K4.out.2⟩
     ·have d0:((q.toNat:Int) == 255)=false:=by
       have:q.toNat≠255:=fun e=>h255 (UInt8.toNat_inj.1 (by rw [e];rfl))
       exact beq_eq_false_iff_ne.2 (by omega)
      have RG:=Lib.hid (RF4.out.trans (noLast255_no (fun e=>h255 (HQ.out.symm.trans e))))
      clear h255
      go_wp2_with fail
      go_ret
      exact ⟨_,H3,_,rfl,by rw [RG.out];exact K4.out.1,QE.out,K4.out.2⟩
end
section
open Go.RowKit
theorem adjM_zero {x:List UInt8} {e:Nat} (h:min e x.length=0):adjM x e=0:=by
 unfold adjM
 rw [if_neg (by omega),h]
theorem adjM_yes {x:List UInt8} {e n:Nat} (h:min e x.length=n) (h0:0<n) (h1:x[n - 1]?=some 255):adjM x e=n - 1:=by
 unfold adjM
 rw [h,if_pos ⟨h0,h1⟩]
theorem adjM_no {x:List UInt8} {e n:Nat} (h:min e x.length=n) (h1:¬ x[n - 1]?=some 255):adjM x e=n:=by
 unfold adjM
 rw [h,if_neg (fun hh=>h1 hh.2)]
theorem RowB.at_ {w:World} {g n c:Nat} {l:List UInt8} {H:List HB} (h:RowB (.slice (some ⟨g,0,none⟩) n c) l H) (hs:Sat w H) {i:Nat} {b:UInt8} (hi:l[i]?=some b):w.cell? ⟨g,i,none⟩=some (.int .u8 (b.toNat:Int)):=by
 have hn:=h.len
 subst hn
 have h1:=(List.getElem?_eq_some_iff.1 hi).1
 rw [(RowH.cell h hs rfl i (by omega)).1]
 simp [cellsB,hi]
theorem seg_set {w0 w:World} {H0 Hc R:List HB} {b0:HB} {g n c j:Nat} {cur:List (Int × Bool)} {p:Int × Bool} (hm:Mv w0 H0 w (b0::(Hc++R))) (hr:RowQ (.slice (some ⟨g,0,none⟩) n c) cur Hc) (hcj:cur[j]?=some p) (e:Int) :
  ∃ Hc',RowQ (.slice (some ⟨g,0,none⟩) n c) (cur.set j (e,p.2)) Hc'∧Mv w0 H0 (w.setCell ⟨g,j * 2,none⟩ (.int .i64 e)) (b0::(Hc'++R)):=by
 have h1:Mv w0 H0 w (Hc++([b0]++R)):=Mv.mv1 (A:=[b0]) hm
 obtain ⟨Hc',k1,k2⟩:=hr.set_ h1.sat.left hcj e
 exact ⟨Hc',k1,Mv.mv1 (B:=[b0]) (Mv.call h1 k2)⟩
theorem enc_p6 (K:Act→World→Prop) (bb pl pg pn pc k first:Nat) (at_:Nat) (x:List UInt8) (ps:List (Int × Bool)) (bv xv:Value) (Hp Hx R H0:List HB) (w0 w:World) (s0 s1 s2 s3 s4 s5 s6 s7 s8 s9 s10 s11 s12 s14 s15 s16 s18 s19 s23 s24 s25 s26 s27 s28 s29 s30 s31 s32 s33 s34 s35 s36 s37 s38 s39 s40 s41 s42 s43 s44 s45 s46 s47 s48 s49 s50 s51 s52 s53 s54 s55 s56 s57 s58 s59 s60 s61 s62 s63 s64 s65 s66 s67 s68 s69 s70 s71 s72 s73 s74 s75 s76 s77 s78 s79 s80 s81 s82 s83 s84 s85 s86 s87 s88 s89 s90 s91 s92 s93 s94 s95 s96 s97 s98 s99 s100 s101 s102 s103 s104 s105 s106 s107 s108 s109 s110 s111 s112 s113 s114 s115 s116 s117 s118 s119 s120 s121 s122 s123 s124 s125 s126 s127 s128 s129 s130 s131 s132 s133 s134 s135 s136 s137 s138 s139 s140 s141 s142 s143 s144 s145 s146 s147 s148 s149 s150 s151 s152 s153 s154 s155 s156 s157 s158 s159 s160 s161 s162 s163 s164 s165 s166 s167 s168 s169 s170 s171 s172 s173 s174 s175 s176 s177 s178 s179 s180 s181 s182 s183 s184 s185 s186 s187 s188 s189 s190 s191 s192 s193 s194 s195 s196 s197 s198 s199 s200 s201 s202 s203 s204 s205 s206 s207 s208 s209 s210 s211 s212 s213 s214 s215 s216 s217 s218 s219 s220 s221 s222 s223 s224 s225 s226 s227 s228 s229 s230 s231 s232 s233 s234 s235 s236 s237 s238 s239 s240 s241:Value)
  (hl:ps.length=k+1) (hf:first≤k) (hkl:k≤1000) (hxl:x.length≤80000000) (hat:at_≤80000000) (hpos:∀ p∈ps,0≤p.1∧p.1≤90000000)
  (hp:RowQ (.slice (some ⟨pg,0,none⟩) pn pc) ps Hp) (hx:RowB xv x Hx) (M:Mv w0 H0 w (bB bb pl (.slice (some ⟨pg,0,none⟩) pn pc) bv::(Hp++(Hx++R))))
  (hk:∀ (t22 t23 t197 t198 t199 t200 t201 t202 t203 t204 t205 t206 t207 t208 t209 t210 t211 t212 t213 t214 t215 t216 t217 t218 t219 t220 t221 t222 t223 t224 t225 t226 t227 t228 t229 t230:Value) (cur:List (Int × Bool)) (Hc:List HB) (wx:World),Clo at_ x ps first (k+1) cur→RowQ (.slice (some ⟨pg,0,none⟩) pn pc) cur Hc→Mv w0 H0 wx (bB bb pl (.slice (some ⟨pg,0,none⟩) pn pc) bv::(Hc++(Hx++R))) →
   K ⟨List.toArray (s0::s1::s2::s3::s4::s5::s6::s7::s8::s9::s10::s11::s12::(ptr0 bb)::s14::s15::s16::(.int .i64 (k:Int))::s18::s19::xv::(.int .i64 (at_:Int))::t22::t23::s24::s25::s26::s27::s28::s29::s30::s31::s32::s33::s34::s35::s36::s37::s38::s39::s40::s41::s42::s43::s44::s45::s46::s47::s48::s49::s50::s51::s52::s53::s54::s55::s56::s57::s58::s59::s60::s61::s62::s63::s64::s65::s66::s67::s68::s69::s70::s71::s72::s73::s74::s75::s76::s77::s78::s79::s80::s81::s82::s83::s84::s85::s86::s87::s88::s89::s90::s91::s92::s93::s94::s95::s96::s97::s98::s99::s100::s101::s102::s103::s104::s105::s106::s107::s108::s109::s110::s111::s112::s113::s114::s115::s116::s117::s118::s119::s120::s121::s122::s123::s124::s125::s126::s127::s128::s129::s130::s131::s132::s133::s134::s135::s136::s137::s138::s139::s140::s141::s142::s143::s144::s145::s146::s147::s148::s149::s150::s151::s152::s153::s154::s155::s156::s157::s158::s159::s160::s161::s162::s163::s164::s165::s166::s167::s168::s169::s170::s171::s172::s173::s174::s175::s176::s177::s178::s179::s180::s181::s182::s183::s184::s185::s186::s187::s188::s189::s190::s191::s192::s193::s194::s195::s196::t197::t198::t199::t200::t201::t202::t203::t204::t205::t206::t207::t208::t209::t210::t211::t212::t213::t214::t215::t216::t217::t218::t219::t220::t221::t222::t223::t224::t225::t226::t227::t228::t229::t230::s231::s232::s233::s234::s235::s236::s237::s238::s239::s240::s241::[]),[]⟩ wx) :
  (blockOf 6 Tryz.f17).wp Tryz.prog (Exit.then K noQ) ⟨List.toArray (s0::s1::s2::s3::s4::s5::s6::s7::s8::s9::s10::s11::s12::(ptr0 bb)::s14::s15::s16::(.int .i64 (k:Int))::s18::s19::xv::(.int .i64 (at_:Int))::(.int .i64 (first:Int))::s23::s24::s25::s26::s27::s28::s29::s30::s31::s32::s33::s34::s35::s36::s37::s38::s39::s40::s41::s42::s43::s44::s45::s46::s47::s48::s49::s50::s51::s52::s53::s54::s55::s56::s57::s58::s59::s60::s61::s62::s63::s64::s65::s66::s67::s68::s69::s70::s71::s72::s73::s74::s75::s76::s77::s78::s79::s80::s81::s82::s83::s84::s85::s86::s87::s88::s89::s90::s91::s92::s93::s94::s95::s96::s97::s98::s99::s100::s101::s102::s103::s104::s105::s106::s107::s108::s109::s110::s111::s112::s113::s114::s115::s116::s117::s118::s119::s120::s121::s122::s123::s124::s125::s126::s127::s128::s129::s130::s131::s132::s133::s134::s135::s136::s137::s138::s139::s140::s141::s142::s143::s144::s145::s146::s147::s148::s149::s150::s151::s152::s153::s154::s155::s156::s157::s158::s159::s160::s161::s162::s163::s164::s165::s166::s167::s168::s169::s170::s171::s172::s173::s174::s175::s176::s177::s178::s179::s180::s181::s182::s183::s184::s185::s186::s187::s188::s189::s190::s191::s192::s193::s194::s195::s196::s197::s198::s199::s200::s201::s202::s203::s204::s205::s206::s207::s208::s209::s210::s211::s212::s213::s214::s215::s216::s217::s218::s219::s220::s221::s222::s223::s224::s225::s226::s227::s228::s229::s230::s231::s232::s233::s234::s235::s236::s237::s238::s239::s240::s241::[]),[]⟩ w:=by
 conv in (blockOf _ _)=>whnf
 unfold noQ
 have HK:=Lib.hid hk
 clear hk
 unfold ptr0
 obtain ⟨xa,xc,rfl⟩:=hx.slice
 obtain ⟨L,hL⟩:∃ L,x.length=L:=⟨_,rfl⟩
 rw [hL] at hx hxl HK ⊢
 have hpn:pn=k+1:=by
  obtain ⟨a,c,e⟩:=hp.slice
  cases e
  exact hl
 have KL:=Lib.hid (And.intro hL (And.intro hl (And.intro hpos hpn)))
 have KX:=Lib.hid hx
 have K0:=Lib.hid (And.intro hp M)
 have hpk:(k:Int)<(pn:Int):=by omega
 clear hL hl hpos hx hp M hpn
 go_wp2_with fail
 go_loopg [22] (k+1 - first) (fun mm s22 wx=>∃ (j:Nat) (cur:List (Int × Bool)) (Hc:List HB),first≤j∧j≤k+1∧mm=k+1 - j∧s22=.int .i64 (j:Int)∧Clo at_ x ps first j cur∧RowQ (.slice (some ⟨pg,0,none⟩) pn pc) cur Hc∧Mv w0 H0 wx (bB bb pl (.slice (some ⟨pg,0,none⟩) pn pc) bv::(Hc++(Hx++R))))
 case atStart=>exact ⟨first,ps,Hp,Nat.le_refl _,by omega,rfl,rfl,Clo.start _ _ _ _,K0.out.1,K0.out.2⟩
 case round =>
  obtain ⟨j,cur,Hc,j1,j2,rfl,rfl,hc,hr,hm⟩:=hrel
  by_cases hlt:j≤k
  ·have d1:decide ((j:Int)≤(k:Int))=true:=by simp;omega
   obtain ⟨p,hp⟩:∃ p,ps[j]?=some p:=⟨_,List.getElem?_eq_getElem (by have:=KL.out.2.1;omega)⟩
   have hcj:=hc.get hp
   obtain ⟨e,he⟩:∃ e:Nat,p.1=(e:Int):=⟨p.1.toNat,by have:=KL.out.2.2.1 p (List.mem_of_getElem? hp);omega⟩
   have hel:e≤90000000:=by have:=KL.out.2.2.1 p (List.mem_of_getElem? hp);omega
   have S1:=hm.drop1.sat.left
   obtain ⟨c0,f0⟩:=hr.at_ S1 hcj
   rw [he] at c0
   have cp:wr.cell? ⟨bb,1,none⟩=some (.slice (some ⟨pg,0,none⟩) pn pc):=hm.cell 0 rfl 1
   have hjp:(j:Int)<(pn:Int):=by omega
   obtain ⟨n,hn⟩:∃ n,min e L=n:=⟨_,rfl⟩
   have hnl:n≤90000000:=by omega
   have EM:Hid ((if L<e then (L:Int) else (e:Int))=(n:Int)):=Lib.hid (by split <;> omega)
   have KM:=Lib.hid (And.intro hm (And.intro hr (And.intro hc (And.intro hp (And.intro hcj (And.intro he hn))))))
   clear hm hr hc hp hcj he hn S1
   go_upto_region 41 with fail
   rw [EM.out]
   have KEY:Hid (∀ nn:Nat,adjM x e=nn→∃ Hc',Clo at_ x ps first (j+1) (cur.set j (((at_+nn:Nat):Int),p.2))∧RowQ (.slice (some ⟨pg,0,none⟩) pn pc) (cur.set j (((at_+nn:Nat):Int),p.2)) Hc'∧Mv w0 H0 (wr.setCell ⟨pg,j * 2,none⟩ (.int .i64 ((at_+nn:Nat):Int))) (bB bb pl (.slice (some ⟨pg,0,none⟩) pn pc) bv::(Hc'++(Hx++R)))):=Lib.hid (by
    intro nn hnn
    obtain ⟨m1,m2,m3,m4,m5,m6,m7⟩:=KM.out
    obtain ⟨Hc',r1,r2⟩:=seg_set m1 m2 m5 ((at_+nn:Nat):Int)
    refine ⟨Hc',?_,r1,r2⟩
    have:=m3.step j1 m4
    rw [m6,Int.toNat_natCast,hnn] at this
    exact this)
   by_cases h0:n=0
   ·obtain ⟨Hc',q1,q2,q3⟩:=KEY.out 0 (adjM_zero (by rw [KL.out.1,KM.out.2.2.2.2.2.2,h0]))
    have Q:=Lib.hid (And.intro q1 (And.intro q2 q3))
    subst h0
    clear q1 q2 q3 KEY EM
    go_wp2_with fail
    go_roundg (k+1 - (j+1))
    case measure=>omega
    case rel=>exact ⟨j+1,_,Hc',by omega,by omega,rfl,by push_cast;rfl,Q.out.1,Q.out.2.1,Q.out.2.2⟩
   ·have hn0:0<n:=by omega
    have hLn:n≤L:=by have:=KM.out.2.2.2.2.2.2;omega
    obtain ⟨xg,hxa⟩:∃ g,xa=some ⟨g,0,none⟩:=by
     obtain ⟨g,cp,cur4,hv,-⟩:=RowH.form KX.out (by have:=KL.out.1;omega)
     injection hv with ha
     exact ⟨g,ha⟩
    subst hxa
    obtain ⟨b,hb⟩:∃ b,x[n - 1]?=some b:=⟨_,List.getElem?_eq_getElem (by have:=KL.out.1;omega)⟩
    have S2:Sat wr (Hx++R):=Sat.right (A:=Hc) KM.out.1.drop1.sat
    have cb:=RowB.at_ KX.out S2.left hb
    have e1:(n:Int) - 1=((n - 1:Nat):Int):=by omega
    have e2:((n - 1:Nat):Int)<(L:Int):=by omega
    have e3:decide ((0:Int)<(n:Int))=true:=by simp;omega
    have HB:=Lib.hid hb
    clear hb S2
    by_cases h255:b=255
    ·obtain ⟨Hc',q1,q2,q3⟩:=KEY.out (n - 1) (adjM_yes (by rw [KL.out.1];exact KM.out.2.2.2.2.2.2) hn0 (by rw [HB.out,h255]))
     have Q:=Lib.hid (And.intro q1 (And.intro q2 q3))
     have d0:((b.toNat:Int) == 255)=true:=by rw [h255];rfl
     clear q1 q2 q3 KEY EM h255
     go_wp2_with fail
     go_roundg (k+1 - (j+1))
     case measure=>omega
     case rel=>exact ⟨j+1,_,Hc',by omega,by omega,rfl,by push_cast;rfl,Q.out.1,Q.out.2.1,by simpa using Q.out.2.2⟩
    ·obtain ⟨Hc',q1,q2,q3⟩:=KEY.out n (adjM_no (by rw [KL.out.1];exact KM.out.2.2.2.2.2.2) (by rw [HB.out];intro hh;exact h255 (Option.some.inj hh)))
     have Q:=Lib.hid (And.intro q1 (And.intro q2 q3))
     have d0:((b.toNat:Int) == 255)=false:=by
      have:b.toNat≠255:=fun e=>h255 (UInt8.toNat_inj.1 (by rw [e];rfl))
      exact beq_eq_false_iff_ne.2 (by omega)
     clear q1 q2 q3 KEY EM h255
     go_wp2_with fail
     go_roundg (k+1 - (j+1))
     case measure=>omega
     case rel=>exact ⟨j+1,_,Hc',by omega,by omega,rfl,by push_cast;rfl,Q.out.1,Q.out.2.1,by simpa using Q.out.2.2⟩
  ·have d1:decide ((j:Int)≤(k:Int))=false:=by simp;omega
   obtain rfl:j=k+1:=by omega
   have Q:=Lib.hid (And.intro hc (And.intro hr hm))
   clear hc hr hm
   go_wp2_with fail
   exact HK.out _ _ _ _ _ _ _ _ _ _ _ _ _ _ _ _ _ _ _ _ _ _ _ _ _ _ _ _ _ _ _ _ _ _ _ _ _ _ _ Q.out.1 Q.out.2.1 Q.out.2.2
end
section
open Go.RowKit
def CodF (A:CodA) (G:GeoM) (c:CodM) (cx:List CxM) (t:List Value):List HB :=
 [codH A G cx t,rowN A.gm G.mag,rowN A.gn G.neg,rowL A.gs c.sig,rowL A.ge c.seen,rowL A.ga c.again]
theorem CodR.eq {A:CodA} {G:GeoM} {q:CS} {raw:Bool} {eg rg:Nat} {H:List HB} (h:CodR A G q raw eg rg H):∃ He Hr,MqR eg q.s.e He∧RawR rg q.s.r Hr∧H=CodF A G q.c q.s.cx (tailP true raw (ptr0 eg) (ptr0 rg))++(He++Hr):=by
 obtain ⟨He,Hr,h1,h2,rfl⟩:=h
 exact ⟨He,Hr,h1,h2,rfl⟩
theorem CodR.of {A:CodA} {G:GeoM} {q:CS} {raw:Bool} {eg rg:Nat} {He Hr:List HB} (h1:MqR eg q.s.e He) (h2:RawR rg q.s.r Hr):CodR A G q raw eg rg (CodF A G q.c q.s.cx (tailP true raw (ptr0 eg) (ptr0 rg))++(He++Hr)):=⟨He,Hr,h1,h2,rfl⟩
def CodS (A:CodA) (G:GeoM) (t:EncS) (k:Nat) (H:List HB):Prop :=
 (k=t.first∧∃ raw pe pr,H=CodF A G t.q.c t.q.s.cx (tailP true raw pe pr))∨(k≠t.first∧∃ eg rg,CodR A G t.q t.raw eg rg H)
def BkR (A:CodA) (bb:Nat) (G:GeoM) (pl:Nat) (t:EncS) (k:Nat) (H:List HB):Prop :=
 ∃ Hc pv Hp bv Hb,CodS A G t k Hc∧RowQ pv t.passes Hp∧RowB bv t.bytes Hb∧H=Hc++(bB bb pl pv bv::(Hp++Hb))
theorem enc_p29 (K:Act→World→Prop) (G:GeoM) (n k:Nat) (w:World) (s0 s1 s2 s4 s5 s6 s7 s8 s9 s10 s11 s12 s13 s14 s16 s18 s19 s20 s21 s22 s23 s24 s25 s26 s27 s28 s29 s30 s31 s32 s33 s34 s35 s36 s37 s38 s39 s40 s41 s42 s43 s44 s45 s46 s47 s48 s49 s50 s51 s52 s53 s54 s55 s56 s57 s58 s59 s60 s61 s62 s63 s64 s65 s66 s67 s68 s69 s70 s71 s72 s73 s74 s75 s76 s77 s78 s79 s80 s81 s82 s83 s84 s85 s86 s87 s88 s89 s90 s91 s92 s93 s94 s95 s96 s97 s98 s99 s100 s101 s102 s103 s104 s105 s106 s107 s108 s109 s110 s111 s112 s113 s114 s115 s116 s117 s118 s119 s120 s121 s122 s123 s124 s125 s126 s127 s128 s129 s130 s131 s132 s133 s134 s135 s136 s137 s138 s139 s140 s141 s142 s143 s144 s145 s146 s147 s148 s149 s150 s151 s152 s153 s154 s155 s156 s157 s158 s159 s160 s161 s162 s163 s164 s165 s166 s167 s168 s169 s170 s171 s172 s173 s174 s175 s176 s177 s178 s179 s180 s181 s182 s183 s184 s185 s186 s187 s188 s189 s190 s191 s192 s193 s194 s195 s196 s197 s198 s199 s200 s201 s202 s203 s204 s205 s206 s207 s208 s209 s210 s211 s212 s213 s214 s215 s216 s217 s218 s219 s220 s221 s222 s223 s224 s225 s226 s227 s228 s229 s230 s231 s232 s233 s234 s235 s236 s237 s238 s239 s240 s241:Value) (hs:G.style≤63) (hk:k<n) (hn:n≤1000)
  (hK:∀ (t155 t156 t157 t158 t159 t160 t161 t162 t163:Value),K ⟨List.toArray (s0::s1::s2::(.int .i64 (G.style:Int))::s4::s5::s6::s7::s8::s9::s10::s11::s12::s13::s14::(.int .i64 (n:Int))::s16::(.int .i64 (k:Int))::s18::(.bool (stEnd G n k))::s20::s21::s22::s23::s24::s25::s26::s27::s28::s29::s30::s31::s32::s33::s34::s35::s36::s37::s38::s39::s40::s41::s42::s43::s44::s45::s46::s47::s48::s49::s50::s51::s52::s53::s54::s55::s56::s57::s58::s59::s60::s61::s62::s63::s64::s65::s66::s67::s68::s69::s70::s71::s72::s73::s74::s75::s76::s77::s78::s79::s80::s81::s82::s83::s84::s85::s86::s87::s88::s89::s90::s91::s92::s93::s94::s95::s96::s97::s98::s99::s100::s101::s102::s103::s104::s105::s106::s107::s108::s109::s110::s111::s112::s113::s114::s115::s116::s117::s118::s119::s120::s121::s122::s123::s124::s125::s126::s127::s128::s129::s130::s131::s132::s133::s134::s135::s136::s137::s138::s139::s140::s141::s142::s143::s144::s145::s146::s147::s148::s149::s150::s151::s152::s153::s154::t155::t156::t157::t158::t159::t160::t161::t162::t163::s164::s165::s166::s167::s168::s169::s170::s171::s172::s173::s174::s175::s176::s177::s178::s179::s180::s181::s182::s183::s184::s185::s186::s187::s188::s189::s190::s191::s192::s193::s194::s195::s196::s197::s198::s199::s200::s201::s202::s203::s204::s205::s206::s207::s208::s209::s210::s211::s212::s213::s214::s215::s216::s217::s218::s219::s220::s221::s222::s223::s224::s225::s226::s227::s228::s229::s230::s231::s232::s233::s234::s235::s236::s237::s238::s239::s240::s241::[]),[]⟩ w) :
  (regionOf 29 Tryz.f17).wp Tryz.prog (Exit.then K noQ) ⟨List.toArray (s0::s1::s2::(.int .i64 (G.style:Int))::s4::s5::s6::s7::s8::s9::s10::s11::s12::s13::s14::(.int .i64 (n:Int))::s16::(.int .i64 (k:Int))::s18::s19::s20::s21::s22::s23::s24::s25::s26::s27::s28::s29::s30::s31::s32::s33::s34::s35::s36::s37::s38::s39::s40::s41::s42::s43::s44::s45::s46::s47::s48::s49::s50::s51::s52::s53::s54::s55::s56::s57::s58::s59::s60::s61::s62::s63::s64::s65::s66::s67::s68::s69::s70::s71::s72::s73::s74::s75::s76::s77::s78::s79::s80::s81::s82::s83::s84::s85::s86::s87::s88::s89::s90::s91::s92::s93::s94::s95::s96::s97::s98::s99::s100::s101::s102::s103::s104::s105::s106::s107::s108::s109::s110::s111::s112::s113::s114::s115::s116::s117::s118::s119::s120::s121::s122::s123::s124::s125::s126::s127::s128::s129::s130::s131::s132::s133::s134::s135::s136::s137::s138::s139::s140::s141::s142::s143::s144::s145::s146::s147::s148::s149::s150::s151::s152::s153::s154::s155::s156::s157::s158::s159::s160::s161::s162::s163::s164::s165::s166::s167::s168::s169::s170::s171::s172::s173::s174::s175::s176::s177::s178::s179::s180::s181::s182::s183::s184::s185::s186::s187::s188::s189::s190::s191::s192::s193::s194::s195::s196::s197::s198::s199::s200::s201::s202::s203::s204::s205::s206::s207::s208::s209::s210::s211::s212::s213::s214::s215::s216::s217::s218::s219::s220::s221::s222::s223::s224::s225::s226::s227::s228::s229::s230::s231::s232::s233::s234::s235::s236::s237::s238::s239::s240::s241::[]),[]⟩ w:=by
 conv in (regionOf _ _)=>whnf
 unfold noQ
 have HK:=Lib.hid hK
 clear hK
 have EA:=Lib.hid (fun W=>ends_any G.style k W hs (by omega))
 have e1:(n:Int) - 1=((n - 1:Nat):Int):=by omega
 obtain ⟨S,hS⟩:∃ S,G.style=S:=⟨_,rfl⟩
 rw [hS] at EA HK hs ⊢
 by_cases he:endsM S k=true
 ·have r:stEnd G n k=true:=by unfold stEnd;rw [hS,he];rfl
  rw [r] at HK
  go_wp2_with (go_at_call 62;refine (EA.out _).mono ?_;rintro e w7 ⟨rfl,rfl⟩;rw [he])
  exact HK.out _ _ _ _ _ _ _ _ _
 ·have he':endsM S k=false:=by simpa using he
  by_cases hkn:k+1=n
  ·have r:stEnd G n k=true:=by unfold stEnd;rw [hS,he',decide_eq_true hkn];rfl
   rw [r] at HK
   have d:((k:Int) == ((n - 1:Nat):Int))=true:=beq_iff_eq.2 (by omega)
   clear hkn
   go_wp2_with (go_at_call 62;refine (EA.out _).mono ?_;rintro e w7 ⟨rfl,rfl⟩;rw [he'])
   exact HK.out _ _ _ _ _ _ _ _ _
  ·have r:stEnd G n k=false:=by unfold stEnd;rw [hS,he',decide_eq_false hkn];rfl
   rw [r] at HK
   have d:((k:Int) == ((n - 1:Nat):Int))=false:=beq_eq_false_iff_ne.2 (by omega)
   clear hkn
   go_wp2_with (go_at_call 62;refine (EA.out _).mono ?_;rintro e w7 ⟨rfl,rfl⟩;rw [he'])
   exact HK.out _ _ _ _ _ _ _ _ _
end
end Go.Proofs.YtjngfhgakokejaaGreat
