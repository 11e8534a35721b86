/- packet: what a head says of a block: its Lblock, the sizes of its segments. packet: what a head says of a block: the loops that say its Lblock and the sizes. packet: what a head says of a block: its segments are made. packet: what a head says of a block. packet: has a block new passes? how many planes has it? -/
import Derived.Test.YtjngfhgakokejaaGreatCp16
import Derived.Test.YtjngfhgakokejaaGreatCp05
set_option maxRecDepth 100000
set_option maxHeartbeats 8000000
set_option linter.all false
namespace Go.Proofs.YtjngfhgakokejaaGreat
section
open Go.RowKit
def needK (L1 L2:List Int) (lb:Int):Nat→Int
 | 0=>lb
 | k+1=>if 0<L2.getD k 0 then max (needK L1 L2 lb k) (((L2.getD k 0).toNat.log2:Int)+1 - ((L1.getD k 0).toNat.log2:Int)) else needK L1 L2 lb k
def bitsK (L1 L2:List Int) (lb:Int):Nat→List Bool
 | 0=>[]
 | k+1=>bitsK L1 L2 lb k++bitsG (L2.getD k 0) (lb+((L1.getD k 0).toNat.log2:Int))
theorem needK_succ (L1 L2:List Int) (lb:Int) (k:Nat):needK L1 L2 lb (k+1)=if 0<L2.getD k 0 then max (needK L1 L2 lb k) (((L2.getD k 0).toNat.log2:Int)+1 - ((L1.getD k 0).toNat.log2:Int)) else needK L1 L2 lb k:=rfl
theorem bitsK_length (L1 L2:List Int) (lb:Int):∀ n,(bitsK L1 L2 lb n).length≤32 * n
 | 0=>Nat.zero_le _
 | n+1=>by
  have h1:=bitsK_length L1 L2 lb n
  have h2:=bitsG_length (L2.getD n 0) (lb+((L1.getD n 0).toNat.log2:Int))
  rw[bitsK,List.length_append]
  omega
theorem needK_bd (L1 L2:List Int) (lb:Int) (h:∀ i,L2.getD i 0≤1000000000):∀ n,lb≤needK L1 L2 lb n∧needK L1 L2 lb n≤max lb 41
 | 0=>⟨Int.le_refl _,by unfold needK;omega⟩
 | n+1=>by
  obtain⟨h1,h2⟩:=needK_bd L1 L2 lb h n
  have h3:=log_le (n:=(L2.getD n 0).toNat) (by have:=h n;omega)
  rw[needK]
  split
  ·omega
  ·exact⟨h1,h2⟩
theorem max_if (a b:Int):(if a<b then b else a)=max a b:=by split <;> omega
theorem hd_p2 (K:Act→World→Prop) (n c1 c2 g1 g2:Nat) (lb:Int) (L1 L2:List Int) (X:List HB) (H0:List HB) (w0 w:World) (s0 s1 s2 s3 s4 s5 s6 s7 s8 s9 s10 s14 s15 s16 s17 s18 s19 s20 s21 s22 s23 s24 s25 s26 s27 s28 s29 s30 s31 s32 s33 s34 s35 s36 s37 s38 s39 s40 s41 s42 s43 s44 s45 s46 s47 s48 s49 s50 s51 s52 s53 s54 s55 s56 s57 s58 s59 s60 s61 s62 s63 s64 s65 s66 s67 s68 s69 s70 s71 s72 s73 s74 s75 s76 s77 s78 s79 s80 s81 s82 s83 s84 s85 s86 s87 s88 s89 s90 s91 s92 s93 s94 s95 s96 s97 s98 s99 s100 s101 s102 s103 s104 s105 s106 s107 s108 s109 s110 s111 s112 s116 s117 s118 s119 s120 s121 s122 s123 s124 s125 s126 s127 s128 s129 s130 s131 s132 s133 s134 s135 s136 s137 s138 s139 s140 s141 s142 s143 s144 s145 s146 s147 s148 s149 s150 s151 s152 s153 s154 s155 s156 s157 s158 s159 s160 s161 s162 s163 s164 s165 s166 s167 s168 s169 s170 s171 s172 s173 s174:Value)
  (hn:n≤1000) (_hlb:0≤lb∧lb≤1000) (h1:∀ i,0≤L1.getD i 0∧L1.getD i 0≤1000) (h2:∀ i,-1000000000≤L2.getD i 0∧L2.getD i 0≤1000000000) (hr:∀ W,Sat W X→∀ i,i<n→W.cell? ⟨g1,i,none⟩=some (.int .i64 (L1.getD i 0))∧W.cell? ⟨g2,i,none⟩=some (.int .i64 (L2.getD i 0))) (M:Mv w0 H0 w X)
  (hk:∀ (t14 t15 t115 t116 t117 t118 t119 t120 t121 t122 t123 t124 t125 t126 t127 t128 t129 t130 t131 t132 t133:Value) (wx:World),Mv w0 H0 wx X →
   K ⟨List.toArray (s0::s1::s2::s3::s4::s5::s6::s7::s8::s9::s10::(.slice (some ⟨g1,0,none⟩) n c1)::(.slice (some ⟨g2,0,none⟩) n c2)::(.int .i64 (needK L1 L2 lb n))::t14::t15::s16::s17::s18::s19::s20::s21::s22::s23::s24::s25::s26::s27::s28::s29::s30::s31::s32::s33::s34::s35::s36::s37::s38::s39::s40::s41::s42::s43::s44::s45::s46::s47::s48::s49::s50::s51::s52::s53::s54::s55::s56::s57::s58::s59::s60::s61::s62::s63::s64::s65::s66::s67::s68::s69::s70::s71::s72::s73::s74::s75::s76::s77::s78::s79::s80::s81::s82::s83::s84::s85::s86::s87::s88::s89::s90::s91::s92::s93::s94::s95::s96::s97::s98::s99::s100::s101::s102::s103::s104::s105::s106::s107::s108::s109::s110::s111::s112::(.slice (some ⟨g2,0,none⟩) n c2)::(.int .i64 (n:Int))::t115::t116::t117::t118::t119::t120::t121::t122::t123::t124::t125::t126::t127::t128::t129::t130::t131::t132::t133::s134::s135::s136::s137::s138::s139::s140::s141::s142::s143::s144::s145::s146::s147::s148::s149::s150::s151::s152::s153::s154::s155::s156::s157::s158::s159::s160::s161::s162::s163::s164::s165::s166::s167::s168::s169::s170::s171::s172::s173::s174::[]),[]⟩ wx) :
  (blockOf 2 Tryz.f29).wp Tryz.prog (Exit.then K noQ) ⟨List.toArray (s0::s1::s2::s3::s4::s5::s6::s7::s8::s9::s10::(.slice (some ⟨g1,0,none⟩) n c1)::(.slice (some ⟨g2,0,none⟩) n c2)::(.int .i64 lb)::s14::s15::s16::s17::s18::s19::s20::s21::s22::s23::s24::s25::s26::s27::s28::s29::s30::s31::s32::s33::s34::s35::s36::s37::s38::s39::s40::s41::s42::s43::s44::s45::s46::s47::s48::s49::s50::s51::s52::s53::s54::s55::s56::s57::s58::s59::s60::s61::s62::s63::s64::s65::s66::s67::s68::s69::s70::s71::s72::s73::s74::s75::s76::s77::s78::s79::s80::s81::s82::s83::s84::s85::s86::s87::s88::s89::s90::s91::s92::s93::s94::s95::s96::s97::s98::s99::s100::s101::s102::s103::s104::s105::s106::s107::s108::s109::s110::s111::s112::(.slice (some ⟨g2,0,none⟩) n c2)::(.int .i64 (n:Int))::(.int .i64 0)::s116::s117::s118::s119::s120::s121::s122::s123::s124::s125::s126::s127::s128::s129::s130::s131::s132::s133::s134::s135::s136::s137::s138::s139::s140::s141::s142::s143::s144::s145::s146::s147::s148::s149::s150::s151::s152::s153::s154::s155::s156::s157::s158::s159::s160::s161::s162::s163::s164::s165::s166::s167::s168::s169::s170::s171::s172::s173::s174::[]),[]⟩ w:=by
 conv in (blockOf _ _)=>whnf
 unfold noQ
 have HK:=Lib.hid hk
 clear hk
 have ND:=Lib.hid (needK_bd L1 L2 lb (fun i=>(h2 i).2))
 have HR:=Lib.hid hr
 have KM:=Lib.hid M
 have B1:=Lib.hid h1
 have B2:=Lib.hid h2
 clear hr M h1 h2
 go_wp2_with fail
 go_loopg [13,115] n (fun mm s13 s115 wx=>∃ k:Nat,k≤n∧mm=n - k∧s13=.int .i64 (needK L1 L2 lb k)∧s115=.int .i64 (k:Int)∧Mv w0 H0 wx X)
 case atStart=>exact⟨0,Nat.zero_le _,rfl,rfl,rfl,KM.out⟩
 case round =>
  obtain⟨k,hk,rfl,rfl,rfl,m⟩:=hrel
  by_cases hlt:k<n
  ·have d1:decide ((k:Int)<(n:Int))=true:=by simp;omega
   have hkn:(k:Int)<(n:Int):=by omega
   obtain⟨z1,z2⟩:=HR.out wr m.sat k hlt
   obtain⟨e1,he1⟩:∃ e,L1.getD k 0=e:=⟨_,rfl⟩
   obtain⟨e2,he2⟩:∃ e,L2.getD k 0=e:=⟨_,rfl⟩
   obtain⟨nd,hnd⟩:∃ e,needK L1 L2 lb k=e:=⟨_,rfl⟩
   have b1:=B1.out k
   have b2:=B2.out k
   have b3:=ND.out k
   have NX:=Lib.hid (needK_succ L1 L2 lb k)
   rw[he1,he2,hnd] at NX
   rw[he1] at b1 z1
   rw[he2] at b2 z2
   rw[hnd] at b3 ⊢
   have KM2:=Lib.hid m
   have KE:=Lib.hid (And.intro he1 (And.intro he2 hnd))
   clear m he1 he2 hnd
   by_cases hp:0<e2
   ·have d2:decide (0<e2)=true:=decide_eq_true hp
    obtain⟨u,rfl⟩:=Int.eq_ofNat_of_zero_le (Int.le_of_lt hp)
    obtain⟨v,rfl⟩:=Int.eq_ofNat_of_zero_le b1.1
    have hu0:0<u:=by omega
    have l1:=log_le (n:=v) (by omega)
    have l2:=log_le (n:=u) (by omega)
    have LU:=Lib.hid (fun W=>log_any u W (by omega))
    have LV:=Lib.hid (fun W=>log_any v W (by omega))
    have NX2:=Lib.hid (NX.out.trans (if_pos hp))
    rw[Int.toNat_natCast,Int.toNat_natCast] at NX2
    generalize u.log2=lu at *
    generalize v.log2=lv at *
    have mx1:=max_if nd ((lu:Int)+1 - (lv:Int))
    clear NX hp
    go_upto_region 17 with fail
    have hmx:Tryz.prog.follows .mixedOrders=true:=by kernel_rfl
    obtain⟨C,hC⟩:∃ C:World→Prop,C=fun w'=>Hid (Mv w0 H0 w' X):=⟨_,rfl⟩
    have CF:Hid (∀ w',C w'→w'.cell? ⟨g1,k,none⟩=some (.int .i64 (v:Int))∧w'.cell? ⟨g2,k,none⟩=some (.int .i64 (u:Int))):=Lib.hid (by
     intro w' h
     rw[hC] at h
     have:=HR.out w' h.out.sat k hlt
     rw[KE.out.1,KE.out.2.1] at this
     exact this)
    have CU:Hid (∀ w',C w'→Calls Tryz.prog 77 #[.int .i64 (u:Int)] w' fun e w4=>e=.returned (.int .i64 (lu:Int))∧C w4):=Lib.hid (by
     intro w' h
     refine(LU.out w').mono ?_
     rintro e w4 ⟨rfl,rfl⟩
     exact⟨rfl,h⟩)
    have CV:Hid (∀ w',C w'→Calls Tryz.prog 77 #[.int .i64 (v:Int)] w' fun e w4=>e=.returned (.int .i64 (lv:Int))∧C w4):=Lib.hid (by
     intro w' h
     refine(LV.out w').mono ?_
     rintro e w4 ⟨rfl,rfl⟩
     exact⟨rfl,h⟩)
    have CD:C wr.drew:=by rw[hC];exact Lib.hid KM2.out.drew
    have HC:=Lib.hid hC
    clear hC z1 z2
    refine plain_quiet_tail 11 C hmx CD (by kernel_rfl) ?_
    simp only[List.take_succ_cons,List.take_zero,List.drop_succ_cons,List.drop_zero]
    iterate 11 (first | ((with_reducible refine qc_pass ?_ ?_);(next=>(go_simp;done));(try simp only[Act.put,List.setIfInBounds_toArray,List.set_cons_zero,List.set_cons_succ])) | ((with_reducible refine qc_one ?_ ?_ (fun w' hw'=>?_) ?_);rotate_left;(next=>(go_simp;done));(next=>(first | (refine qc_val ?_;(obtain⟨z1,z2⟩:=CF.out w' hw');clear hw';go_simp;done) | (refine qc_val ?_;(obtain⟨z1,z2⟩:=CF.out w' hw');clear hw';go_simp;rfl) | (refine qc_call (f:=?_) (args:=?_) ?_ ?_;rotate_left 2;(next=>((obtain⟨z1,z2⟩:=CF.out w' hw');go_simp;constructor <;> rfl));(next=>(first | with_reducible exact CU.out w' hw' | with_reducible exact CV.out w' hw'))) | (refine qc_skip ?_;(obtain⟨z1,z2⟩:=CF.out w' hw');clear hw';go_simp;done)));(try simp only[Act.put,List.setIfInBounds_toArray,List.set_cons_zero,List.set_cons_succ])))
    refine wpQuiet_nil ?_
    intro w' hw'
    have m4:Hid (Mv w0 H0 w' X):=by rw[HC.out] at hw';exact hw'
    clear hw' CD CU CV CF HC C
    have ww:IntKind.i64.wrap (IntKind.i64.wrap ((lu:Int)+1) - (lv:Int))=(lu:Int)+1 - (lv:Int):=by rw[IntWalk.i64_in ((lu:Int)+1) (by omega),IntWalk.i64_in _ (by omega)]
    go_wp2_with fail
    all_goals
     go_roundg (n - (k+1))
     case measure=>omega
     case rel=>exact⟨k+1,by omega,rfl,by rw[NX2.out],by push_cast;rfl,m4.out⟩
   ·have d2:decide (0<e2)=false:=decide_eq_false hp
    have NX2:=Lib.hid (NX.out.trans (if_neg hp))
    clear NX
    go_wp2_with fail
    go_roundg (n - (k+1))
    case measure=>omega
    case rel=>exact⟨k+1,by omega,rfl,by rw[NX2.out],by push_cast;rfl,KM2.out⟩
  ·have d1:decide ((k:Int)<(n:Int))=false:=by simp;omega
   obtain rfl:k=n:=by omega
   have KM2:=Lib.hid m
   clear m
   go_wp2_with fail
   exact HK.out _ _ _ _ _ _ _ _ _ _ _ _ _ _ _ _ _ _ _ _ _ _ KM2.out
end
section
open Go.RowKit
def StM.withS (s:StM) (said lb:Int):StM:={ s with said:=said,lb:=lb }
def StG.withS (s:StG) (said lb:Int):StG:={ s with m:=s.m.withS said lb }
def BandG.setS (b:BandG) (k:Nat) (s:StG) (said lb:Int):BandG:={ b with G:=b.G.set k (s.withS said lb) }
theorem flatMap_set_same {α:Type} (f:α→List HB) {x x':α} (hx:f x'=f x):∀ (l:List α) (k:Nat),l[k]?=some x→(l.set k x').flatMap f=l.flatMap f
 | [],_,h=>by simp at h
 | y::l,0,h=>by
  simp only[List.getElem?_cons_zero,Option.some.injEq] at h
  subst h
  rw[List.set_cons_zero,List.flatMap_cons,List.flatMap_cons,hx]
 | y::l,k+1,h=>by
  rw[List.set_cons_succ,List.flatMap_cons,List.flatMap_cons,flatMap_set_same f hx l k (by simpa using h)]
theorem BandG.setS_ok {b:BandG} {d:BandA} (ok:b.ok d) {k:Nat} {s:StG} (hg:b.G[k]?=some s) {said lb:Int} (hs:0≤said∧said≤s.m.ps.length) (hl:0≤lb∧lb≤1000):(b.setS k s said lb).ok d:=by
 refine⟨ok.tf,ok.tz,ok.kf,ok.kz,?_,?_,ok.n,ok.pl,ok.hw,ok.hh⟩
 ·intro x hx
  rcases List.mem_or_eq_of_mem_set hx with h | rfl
  ·exact ok.st x h
  ·have hso:=ok.st s (List.mem_of_getElem? hg)
   exact⟨hso.1,hso.2.1,⟨hso.2.2.np,hso.2.2.nb,hso.2.2.pl,hs,hl,hso.2.2.ends⟩⟩
 ·exact(List.length_set ..).trans ok.len
theorem BandG.setS_model (b:BandG) (k:Nat) (s:StG) (said lb:Int):(b.setS k s said lb).model={ b.model with ss:=b.model.ss.set k (s.m.withS said lb) }:=by
 simp only[BandG.setS,BandG.model,List.map_set,StG.withS]
theorem BandG.setS_get {b:BandG} {k:Nat} {s:StG} (hg:b.G[k]?=some s) (said lb:Int):(b.setS k s said lb).G[k]?=some (s.withS said lb) :=
 List.getElem?_set_self (List.getElem?_eq_some_iff.1 hg).1
theorem BandG.setS_setS (b:BandG) (k:Nat) (s:StG) (said lb said' lb':Int):(b.setS k s said lb).setS k (s.withS said lb) said' lb'=b.setS k s said' lb':=by
 simp only[BandG.setS,StG.withS,StM.withS,List.set_set]
theorem BandG.setS_self {b:BandG} {k:Nat} {s:StG} (hg:b.G[k]?=some s):b.setS k s s.m.said s.m.lb=b:=by
 have:s.withS s.m.said s.m.lb=s:=rfl
 unfold BandG.setS
 have e:b.G.set k s=b.G:=by
  apply List.ext_getElem?
  intro i
  rw[List.getElem?_set]
  split
  ·rename_i h
   subst h
   rw[hg,if_pos (List.getElem?_eq_some_iff.1 hg).1]
  ·rfl
 rw[this,e]
theorem BandG.setS_mv {b:BandG} {d:BandA} {w0 w:World} {H0 A:List HB} (M:Mv w0 H0 w (A++b.heap d)) {k:Nat} {s:StG} (hg:b.G[k]?=some s) (said lb:Int) (i:Nat) (v:Value) (hi:i<5) (hv:(s.withS said lb).v=s.v.set i v) :
  Mv w0 H0 (w.setCell ⟨d.lb,k * 5+i,none⟩ v) (A++(b.setS k s said lb).heap d):=by
 have m1:Mv w0 H0 w ((A++[bandB b d])++statesB b d::(b.Hf++(b.Hz++b.G.flatMap StG.heap))):=by
  simpa [BandG.heap] using M
 have m2:=Mv.setAt m1 (k * 5+i) v
 have e:(b.G.flatMap StG.v).toArray.setIfInBounds (k * 5+i) v=((b.G.set k (s.withS said lb)).flatMap StG.v).toArray:=by
  rw[List.setIfInBounds_toArray,flat_set StG.v 5 StG.v_length b.G k s _ hg i hi v hv]
 rw[e] at m2
 have e2:(b.setS k s said lb).heap d=bandB b d::⟨d.lb,69,((b.G.set k (s.withS said lb)).flatMap StG.v).toArray⟩::(b.Hf++(b.Hz++b.G.flatMap StG.heap)):=by
  unfold BandG.heap
  rw[show (b.setS k s said lb).G.flatMap StG.heap=b.G.flatMap StG.heap from flatMap_set_same StG.heap (x:=s) (x':=s.withS said lb) rfl _ _ hg]
  rfl
 rw[e2]
 simpa using m2
theorem hd_p4 (K:Act→World→Prop) (d:BandA) (b:BandG) (k g wb r:Nat) (l0:Int) (st:StG) (bs:List Bool) (HW X H0:List HB) (w0 w:World) (s0 s2 s3 s4 s6 s7 s8 s9 s10 s11 s12 s14 s15 s16 s17 s18 s19 s20 s21 s22 s23 s24 s25 s26 s27 s28 s29 s30 s31 s32 s33 s34 s35 s36 s37 s38 s39 s40 s41 s42 s43 s44 s45 s46 s47 s48 s49 s50 s51 s52 s53 s54 s55 s56 s57 s58 s59 s60 s61 s62 s63 s64 s65 s66 s67 s68 s69 s70 s71 s72 s73 s74 s75 s76 s77 s78 s79 s80 s81 s82 s83 s84 s85 s86 s87 s88 s89 s90 s91 s92 s93 s94 s95 s96 s97 s98 s99 s100 s101 s102 s103 s104 s105 s106 s107 s108 s109 s110 s111 s112 s113 s114 s115 s116 s117 s118 s119 s120 s121 s122 s123 s124 s125 s126 s127 s128 s129 s130 s131 s132 s133 s134 s135 s136 s137 s138 s139 s140 s141 s142 s143 s144 s145 s146 s147 s148 s149 s150 s151 s152 s153 s154 s155 s156 s157 s158 s159 s160 s161 s162 s163 s164 s165 s166 s167 s168 s169 s170 s171 s172 s173 s174:Value)
  (ok:b.ok d) (hkn:k<d.n) (hst:b.G[k]?=some st) (hx:⟨g,66,SpotX.cells ⟨d,k⟩⟩∈X) (hw:WrB wb bs HW) (M:Mv w0 H0 w (HW++(X++b.heap d))) (hl0:st.m.lb=l0) (hl1:0≤l0∧l0≤500) (hr:r≤400) (hbs:bs.length≤60000000)
  (hk:∀ (t134 t135 t136 t137 t138 t139 t140 t141 t142 t143 t144 t145 t146 t147 t148 t149 t150:Value) (wx:World) (HW':List HB),(b.setS k st st.m.said (l0+(r:Int))).ok d→WrB wb (bs++List.replicate r true) HW'→Mv w0 H0 wx (HW'++(X++(b.setS k st st.m.said (l0+(r:Int))).heap d)) →
   K ⟨List.toArray (s0::(ptr0 wb)::s2::s3::s4::(ptr0 g)::s6::s7::s8::s9::s10::s11::s12::(.int .i64 (l0+(r:Int)))::s14::s15::s16::s17::s18::s19::s20::s21::s22::s23::s24::s25::s26::s27::s28::s29::s30::s31::s32::s33::s34::s35::s36::s37::s38::s39::s40::s41::s42::s43::s44::s45::s46::s47::s48::s49::s50::s51::s52::s53::s54::s55::s56::s57::s58::s59::s60::s61::s62::s63::s64::s65::s66::s67::s68::s69::s70::s71::s72::s73::s74::s75::s76::s77::s78::s79::s80::s81::s82::s83::s84::s85::s86::s87::s88::s89::s90::s91::s92::s93::s94::s95::s96::s97::s98::s99::s100::s101::s102::s103::s104::s105::s106::s107::s108::s109::s110::s111::s112::s113::s114::s115::s116::s117::s118::s119::s120::s121::s122::s123::s124::s125::s126::s127::s128::s129::s130::s131::s132::s133::t134::t135::t136::t137::t138::t139::t140::t141::t142::t143::t144::t145::t146::t147::t148::t149::t150::s151::s152::s153::s154::s155::s156::s157::s158::s159::s160::s161::s162::s163::s164::s165::s166::s167::s168::s169::s170::s171::s172::s173::s174::[]),[]⟩ wx) :
  (blockOf 4 Tryz.f29).wp Tryz.prog (Exit.then K noQ) ⟨List.toArray (s0::(ptr0 wb)::s2::s3::s4::(ptr0 g)::s6::s7::s8::s9::s10::s11::s12::(.int .i64 (l0+(r:Int)))::s14::s15::s16::s17::s18::s19::s20::s21::s22::s23::s24::s25::s26::s27::s28::s29::s30::s31::s32::s33::s34::s35::s36::s37::s38::s39::s40::s41::s42::s43::s44::s45::s46::s47::s48::s49::s50::s51::s52::s53::s54::s55::s56::s57::s58::s59::s60::s61::s62::s63::s64::s65::s66::s67::s68::s69::s70::s71::s72::s73::s74::s75::s76::s77::s78::s79::s80::s81::s82::s83::s84::s85::s86::s87::s88::s89::s90::s91::s92::s93::s94::s95::s96::s97::s98::s99::s100::s101::s102::s103::s104::s105::s106::s107::s108::s109::s110::s111::s112::s113::s114::s115::s116::s117::s118::s119::s120::s121::s122::s123::s124::s125::s126::s127::s128::s129::s130::s131::s132::s133::s134::s135::s136::s137::s138::s139::s140::s141::s142::s143::s144::s145::s146::s147::s148::s149::s150::s151::s152::s153::s154::s155::s156::s157::s158::s159::s160::s161::s162::s163::s164::s165::s166::s167::s168::s169::s170::s171::s172::s173::s174::[]),[]⟩ w:=by
 conv in (blockOf _ _)=>whnf
 unfold noQ
 have HK:=Lib.hid hk
 clear hk
 unfold ptr0
 have hkk:k<4096:=Nat.lt_of_lt_of_le hkn ok.small
 have ST0:=Lib.hid (And.intro ok (And.intro hw M))
 have FX:=Lib.hid (And.intro hst (And.intro hx hl0))
 have hsd:=(ok.st st (List.mem_of_getElem? hst)).2.2.said
 obtain⟨sd,hsd1⟩:∃ sd,st.m.said=sd:=⟨_,rfl⟩
 have HSD:=Lib.hid (And.intro hsd1 hsd)
 clear ok hw M hst hx hl0 hsd hsd1
 go_wp2_with fail
 go_loopg [] r (fun mm wx=>∃ (q:Nat) (HW':List HB),q≤r∧mm=r - q∧(b.setS k st st.m.said (l0+(q:Int))).ok d∧WrB wb (bs++List.replicate q true) HW'∧Mv w0 H0 wx (HW'++(X++(b.setS k st st.m.said (l0+(q:Int))).heap d)))
 case atStart=>exact⟨0,HW,Nat.zero_le _,rfl,by rw[Int.natCast_zero,Int.add_zero,← FX.out.2.2,BandG.setS_self FX.out.1];exact ST0.out.1,by simpa using ST0.out.2.1,by rw[Int.natCast_zero,Int.add_zero,← FX.out.2.2,BandG.setS_self FX.out.1];exact ST0.out.2.2⟩
 case round =>
  obtain⟨q,HW1,hq,rfl,ok1,hw1,M1⟩:=hrel
  obtain⟨⟨x0,x1,x2⟩,-,z0,z1,z2,z3,z4o,z5⟩:=hd_cells M1 FX.out.2.1 (BandG.setS_get FX.out.1 _ _)
  have z4:wr.cell? ⟨d.lb,k * 5+4,none⟩=some (.int .i64 (l0+(q:Int))):=z4o
  clear z4o z0 z1 z2 z3 x1 x2 z5
  by_cases hlt:q<r
  ·have d1:decide (l0+(q:Int)<l0+(r:Int))=true:=decide_eq_true (by omega)
   have BI:=Lib.hid (bit_any wb _ 1 wr HW1 hw1 M1.sat.left (by rw[List.length_append,List.length_replicate];omega))
   have KS:=Lib.hid (And.intro ok1 (And.intro hw1 M1))
   have AFT:Hid (∀ HW2 W2,WrB wb ((bs++List.replicate q true)++[decide ((1:Int) % 2=1)]) HW2→Mv wr HW1 W2 HW2→Mv w0 H0 W2 (HW2++(X++(b.setS k st st.m.said (l0+(q:Int))).heap d))∧WrB wb (bs++List.replicate (q+1) true) HW2∧W2.cell? ⟨g,0,none⟩=some (.pointer (some ⟨d.lb,k * 5,none⟩))∧W2.cell? ⟨d.lb,k * 5+4,none⟩=some (.int .i64 (l0+(q:Int)))∧W2.frozen? ⟨d.lb,k * 5+4,none⟩=false):=Lib.hid (by
    intro HW2 W2 h1 h2
    have m2:=Mv.call KS.out.2.2 h2
    obtain⟨⟨x0,-,-⟩,-,-,-,-,-,z4,z5⟩:=hd_cells m2 FX.out.2.1 (BandG.setS_get FX.out.1 _ _)
    refine⟨m2,?_,x0,z4,z5 _⟩
    rw[List.replicate_succ',← List.append_assoc]
    exact h1)
   have SET:Hid (∀ HW2 W2,Mv w0 H0 W2 (HW2++(X++(b.setS k st st.m.said (l0+(q:Int))).heap d))→(b.setS k st st.m.said (l0+((q+1:Nat):Int))).ok d∧Mv w0 H0 (W2.setCell ⟨d.lb,k * 5+4,none⟩ (.int .i64 (l0+(q:Int)+1))) (HW2++(X++(b.setS k st st.m.said (l0+((q+1:Nat):Int))).heap d))):=Lib.hid (by
    intro HW2 W2 m2
    have e:l0+((q+1:Nat):Int)=l0+(q:Int)+1:=by push_cast;omega
    refine⟨BandG.setS_ok ST0.out.1 FX.out.1 HSD.out.2 (by omega),?_⟩
    have m3:=BandG.setS_mv (A:=HW2++X) (by simpa using m2) (BandG.setS_get FX.out.1 st.m.said (l0+(q:Int))) st.m.said (l0+(q:Int)+1) 4 (.int .i64 (l0+(q:Int)+1)) (by omega) rfl
    rw[BandG.setS_setS] at m3
    rw[e]
    simpa using m3)
   clear ok1 hw1 M1
   go_wp2_with (go_at_call 71;(with_reducible refine BI.out.mono ?_);rintro e w2 ⟨rfl,HW2,q1,q2⟩;obtain⟨m2,h2,y0,y4,y5⟩:=AFT.out HW2 w2 q1 q2;have K2:=Lib.hid (And.intro h2 (SET.out HW2 w2 m2));clear q1 q2 m2 h2)
   go_roundg (r - (q+1))
   case measure=>omega
   case rel=>exact⟨q+1,HW2,by omega,rfl,K2.out.2.1,K2.out.1,K2.out.2.2⟩
  ·have d1:decide (l0+(q:Int)<l0+(r:Int))=false:=decide_eq_false (by omega)
   obtain rfl:q=r:=by omega
   have KS:=Lib.hid (And.intro ok1 (And.intro hw1 M1))
   clear ok1 hw1 M1
   go_wp2_with fail
   exact HK.out _ _ _ _ _ _ _ _ _ _ _ _ _ _ _ _ _ _ HW1 KS.out.1 KS.out.2.1 KS.out.2.2
theorem hd_p6 (K:Act→World→Prop) (d:BandA) (b:BandG) (k g wb n g1 g2 c1 c2:Nat) (lb:Int) (L1 L2:List Int) (st:StG) (bs:List Bool) (HW X H0:List HB) (w0 w:World) (s0 s2 s3 s4 s6 s7 s8 s9 s10 s12 s13 s14 s15 s16 s17 s18 s19 s20 s21 s22 s23 s24 s25 s26 s27 s28 s29 s30 s31 s32 s33 s34 s35 s36 s37 s38 s39 s40 s41 s42 s43 s44 s45 s46 s47 s48 s49 s50 s51 s52 s53 s54 s55 s56 s57 s58 s59 s60 s61 s62 s63 s64 s65 s66 s67 s68 s69 s70 s71 s72 s73 s74 s75 s76 s77 s78 s79 s80 s81 s82 s83 s84 s85 s86 s87 s88 s89 s90 s91 s92 s93 s94 s95 s96 s97 s98 s99 s100 s101 s102 s103 s104 s105 s106 s107 s108 s109 s110 s111 s112 s113 s114 s115 s116 s117 s118 s119 s120 s121 s122 s123 s124 s125 s126 s127 s128 s129 s130 s131 s132 s133 s134 s135 s136 s137 s138 s139 s140 s141 s142 s143 s144 s145 s146 s147 s148 s149 s150 s151 s152 s156 s157 s158 s159 s160 s161 s162 s163 s164 s165 s166 s167 s168 s169 s170 s171 s172 s173 s174:Value)
  (_hkn:k<4096) (hst:b.G[k]?=some st) (hx:⟨g,66,SpotX.cells ⟨d,k⟩⟩∈X) (hw:WrB wb bs HW) (M:Mv w0 H0 w (HW++(X++b.heap d))) (hlb:st.m.lb=lb) (hl1:0≤lb∧lb≤1000) (hbs:bs.length≤60000000)
  (hn:n≤1000) (h1:∀ i,0≤L1.getD i 0∧L1.getD i 0≤1000) (hr:∀ W,Sat W X→∀ i,i<n→W.cell? ⟨g1,i,none⟩=some (.int .i64 (L1.getD i 0))∧W.cell? ⟨g2,i,none⟩=some (.int .i64 (L2.getD i 0)))
  (hk:∀ (t16 t17 t155 t156 t157 t158 t159 t160 t161 t162 t163 t164 t165 t166 t167 t168 t169 t170 t171 t172 t173 t174:Value) (wx:World) (HW':List HB),WrB wb (bs++bitsK L1 L2 lb n) HW'→Mv w0 H0 wx (HW'++(X++b.heap d)) →
   K ⟨List.toArray (s0::(ptr0 wb)::s2::s3::s4::(ptr0 g)::s6::s7::s8::s9::s10::(.slice (some ⟨g1,0,none⟩) n c1)::s12::s13::s14::s15::t16::t17::s18::s19::s20::s21::s22::s23::s24::s25::s26::s27::s28::s29::s30::s31::s32::s33::s34::s35::s36::s37::s38::s39::s40::s41::s42::s43::s44::s45::s46::s47::s48::s49::s50::s51::s52::s53::s54::s55::s56::s57::s58::s59::s60::s61::s62::s63::s64::s65::s66::s67::s68::s69::s70::s71::s72::s73::s74::s75::s76::s77::s78::s79::s80::s81::s82::s83::s84::s85::s86::s87::s88::s89::s90::s91::s92::s93::s94::s95::s96::s97::s98::s99::s100::s101::s102::s103::s104::s105::s106::s107::s108::s109::s110::s111::s112::s113::s114::s115::s116::s117::s118::s119::s120::s121::s122::s123::s124::s125::s126::s127::s128::s129::s130::s131::s132::s133::s134::s135::s136::s137::s138::s139::s140::s141::s142::s143::s144::s145::s146::s147::s148::s149::s150::s151::s152::(.slice (some ⟨g2,0,none⟩) n c2)::(.int .i64 (n:Int))::t155::t156::t157::t158::t159::t160::t161::t162::t163::t164::t165::t166::t167::t168::t169::t170::t171::t172::t173::t174::[]),[]⟩ wx) :
  (blockOf 6 Tryz.f29).wp Tryz.prog (Exit.then K noQ) ⟨List.toArray (s0::(ptr0 wb)::s2::s3::s4::(ptr0 g)::s6::s7::s8::s9::s10::(.slice (some ⟨g1,0,none⟩) n c1)::s12::s13::s14::s15::s16::s17::s18::s19::s20::s21::s22::s23::s24::s25::s26::s27::s28::s29::s30::s31::s32::s33::s34::s35::s36::s37::s38::s39::s40::s41::s42::s43::s44::s45::s46::s47::s48::s49::s50::s51::s52::s53::s54::s55::s56::s57::s58::s59::s60::s61::s62::s63::s64::s65::s66::s67::s68::s69::s70::s71::s72::s73::s74::s75::s76::s77::s78::s79::s80::s81::s82::s83::s84::s85::s86::s87::s88::s89::s90::s91::s92::s93::s94::s95::s96::s97::s98::s99::s100::s101::s102::s103::s104::s105::s106::s107::s108::s109::s110::s111::s112::s113::s114::s115::s116::s117::s118::s119::s120::s121::s122::s123::s124::s125::s126::s127::s128::s129::s130::s131::s132::s133::s134::s135::s136::s137::s138::s139::s140::s141::s142::s143::s144::s145::s146::s147::s148::s149::s150::s151::s152::(.slice (some ⟨g2,0,none⟩) n c2)::(.int .i64 (n:Int))::(.int .i64 0)::s156::s157::s158::s159::s160::s161::s162::s163::s164::s165::s166::s167::s168::s169::s170::s171::s172::s173::s174::[]),[]⟩ w:=by
 conv in (blockOf _ _)=>whnf
 unfold noQ
 have HK:=Lib.hid hk
 clear hk
 unfold ptr0
 have ST0:=Lib.hid (And.intro hw M)
 have FX:=Lib.hid (And.intro hst (And.intro hx hlb))
 have HR:=Lib.hid hr
 have B1:=Lib.hid h1
 have BL:=Lib.hid (bitsK_length L1 L2 lb)
 clear hw M hst hx hlb hr h1
 go_wp2_with fail
 go_loopg [155] n (fun mm s155 wx=>∃ (j:Nat) (HW':List HB),j≤n∧mm=n - j∧s155=.int .i64 (j:Int)∧WrB wb (bs++bitsK L1 L2 lb j) HW'∧Mv w0 H0 wx (HW'++(X++b.heap d)))
 case atStart=>exact⟨0,HW,Nat.zero_le _,rfl,rfl,by simpa [bitsK] using ST0.out.1,ST0.out.2⟩
 case round =>
  obtain⟨j,HW1,hj,rfl,rfl,hw1,M1⟩:=hrel
  by_cases hlt:j<n
  ·have d1:decide ((j:Int)<(n:Int))=true:=by simp;omega
   have hjn:(j:Int)<(n:Int):=by omega
   obtain⟨z1,z2⟩:=HR.out wr M1.sat.right.left j hlt
   obtain⟨e1,he1⟩:∃ e,L1.getD j 0=e:=⟨_,rfl⟩
   obtain⟨e2,he2⟩:∃ e,L2.getD j 0=e:=⟨_,rfl⟩
   have b1:=B1.out j
   rw[he1] at b1 z1
   rw[he2] at z2
   obtain⟨v,rfl⟩:=Int.eq_ofNat_of_zero_le b1.1
   have l1:=log_le (n:=v) (by omega)
   have LV:=Lib.hid (fun W=>log_any v W (by omega))
   have NX:Hid (bitsK L1 L2 lb (j+1)=bitsK L1 L2 lb j++bitsG e2 (lb+(v.log2:Int))):=Lib.hid (by rw[bitsK,he1,he2,Int.toNat_natCast])
   generalize v.log2=lv at *
   have hbl:(bs++bitsK L1 L2 lb j).length≤70000000:=by rw[List.length_append];have:=BL.out j;omega
   have BI:=Lib.hid (fun W=>bits_any wb (bs++bitsK L1 L2 lb j) e2 (lb+(lv:Int)) W HW1 hw1)
   have KM2:=Lib.hid M1
   have KE:=Lib.hid (And.intro he1 he2)
   clear M1 he1 he2 hw1
   go_upto_region 26 with fail
   have hmx:Tryz.prog.follows .mixedOrders=true:=by kernel_rfl
   obtain⟨C,hC⟩:∃ C:World→Prop,C=fun w'=>Hid (Mv w0 H0 w' (HW1++(X++b.heap d))):=⟨_,rfl⟩
   have CF:Hid (∀ w',C w'→w'.cell? ⟨g1,j,none⟩=some (.int .i64 (v:Int))∧w'.cell? ⟨g,0,none⟩=some (.pointer (some ⟨d.lb,k * 5,none⟩))∧w'.cell? ⟨d.lb,k * 5+4,none⟩=some (.int .i64 lb)):=Lib.hid (by
    intro w' h
    rw[hC] at h
    obtain⟨⟨x0,-,-⟩,-,-,-,-,-,z4,-⟩:=hd_cells h.out FX.out.2.1 FX.out.1
    have:=HR.out w' h.out.sat.right.left j hlt
    rw[KE.out.1] at this
    rw[FX.out.2.2] at z4
    exact⟨this.1,x0,z4⟩)
   have CV:Hid (∀ w',C w'→Calls Tryz.prog 77 #[.int .i64 (v:Int)] w' fun e w4=>e=.returned (.int .i64 (lv:Int))∧C w4):=Lib.hid (by
    intro w' h
    refine(LV.out w').mono ?_
    rintro e w4 ⟨rfl,rfl⟩
    exact⟨rfl,h⟩)
   have CD:C wr.drew:=by rw[hC];exact Lib.hid KM2.out.drew
   have HC:=Lib.hid hC
   clear hC z1 z2
   refine plain_quiet_tail 13 C hmx CD (by kernel_rfl) ?_
   simp only[List.take_succ_cons,List.take_zero,List.drop_succ_cons,List.drop_zero]
   iterate 13 (first | ((with_reducible refine qc_pass ?_ ?_);(next=>(go_simp;done));(try simp only[Act.put,List.setIfInBounds_toArray,List.set_cons_zero,List.set_cons_succ])) | ((with_reducible refine qc_one ?_ ?_ (fun w' hw'=>?_) ?_);rotate_left;(next=>(go_simp;done));(next=>(first | (refine qc_val ?_;(obtain⟨z1,z2,z3⟩:=CF.out w' hw');clear hw';go_simp;done) | (refine qc_val ?_;(obtain⟨z1,z2,z3⟩:=CF.out w' hw');clear hw';go_simp;rfl) | (refine qc_call (f:=?_) (args:=?_) ?_ ?_;rotate_left 2;(next=>((obtain⟨z1,z2,z3⟩:=CF.out w' hw');go_simp;constructor <;> rfl));(next=>(with_reducible exact CV.out w' hw'))) | (refine qc_skip ?_;(obtain⟨z1,z2,z3⟩:=CF.out w' hw');clear hw';go_simp;done)));(try simp only[Act.put,List.setIfInBounds_toArray,List.set_cons_zero,List.set_cons_succ])))
   refine wpQuiet_nil ?_
   intro w' hw'
   have m4:Hid (Mv w0 H0 w' (HW1++(X++b.heap d))):=by rw[HC.out] at hw';exact hw'
   have BJ:=Lib.hid (BI.out w' m4.out.sat.left hbl)
   clear hw' CD CV CF HC C BI
   go_wp2_with (go_at_call 26;(with_reducible refine BJ.out.mono ?_);rintro e w2 ⟨rfl,HW2,q1,q2⟩;have K2:=Lib.hid (And.intro q1 (Mv.call m4.out q2));clear q1 q2)
   go_roundg (n - (j+1))
   case measure=>omega
   case rel=>exact⟨j+1,HW2,by omega,rfl,by push_cast;rfl,by rw[NX.out,← List.append_assoc];exact K2.out.1,K2.out.2⟩
  ·have d1:decide ((j:Int)<(n:Int))=false:=by simp;omega
   obtain rfl:j=n:=by omega
   have KS:=Lib.hid (And.intro hw1 M1)
   clear hw1 M1
   go_wp2_with fail
   exact HK.out _ _ _ _ _ _ _ _ _ _ _ _ _ _ _ _ _ _ _ _ _ _ _ HW1 KS.out.1 KS.out.2
end
section
open Go.RowKit
theorem pcs_ne (style to_:Nat):∀ (f k b:Nat),f+1=to_ - k→pcs style to_ (f+1) k b≠[]
 | 0,k,b,h=>by
  rw[pcs,if_pos (by simp;omega)]
  exact List.cons_ne_nil _ _
 | f+1,k,b,h=>by
  rw[pcs]
  split
  ·exact List.cons_ne_nil _ _
  ·exact pcs_ne style to_ f (k+1) b (by omega)
theorem pieces_ne (style from_ to_:Nat) (h:from_<to_):piecesM style from_ to_≠[]:=by
 unfold piecesM
 obtain⟨f,hf⟩:∃ f,to_ - from_=f+1:=⟨to_ - from_ - 1,by omega⟩
 rw[hf]
 exact pcs_ne style to_ f from_ from_ hf.symm
theorem lensM_bd (style from_ to_:Nat) (ht:to_≤1000) (i:Nat):0≤(lensM (piecesM style from_ to_)).getD i 0∧(lensM (piecesM style from_ to_)).getD i 0≤1000:=by
 rw[List.getD_eq_getElem?_getD]
 cases hx:(lensM (piecesM style from_ to_))[i]? with
 | none=>exact⟨by simp,by simp⟩
 | some x =>
  obtain⟨p,hp,rfl⟩:=List.mem_map.1 (List.mem_of_getElem? hx)
  obtain⟨h1,h2,h3⟩:=pieces_in style from_ to_ p hp
  simp only[Option.getD_some]
  omega
theorem sizesM_bd (ends:List Int) (h:∀ i,0≤ends.getD i 0∧ends.getD i 0≤100000000):∀ (was:Int) (l:List (Nat × Nat)),(0≤was∧was≤100000000)→∀ e∈sizesM ends was l,-100000000≤e∧e≤100000000
 | _,[],_,e,he=>by cases he
 | was,p::l,hw,e,he=>by
  rw[sizesM] at he
  have h1:=h (p.2 - 1)
  rcases List.mem_cons.1 he with rfl | he
  ·omega
  ·exact sizesM_bd ends h _ l h1 e he
theorem sizesM_getD (ends:List Int) (h:∀ e∈ends,0≤e∧e≤100000000) (from_:Nat) (l:List (Nat × Nat)) (i:Nat) : -1000000000≤(sizesM ends (was0 ends from_) l).getD i 0∧(sizesM ends (was0 ends from_) l).getD i 0≤1000000000:=by
 rw[List.getD_eq_getElem?_getD]
 cases hx:(sizesM ends (was0 ends from_) l)[i]? with
 | none=>exact⟨by simp,by simp⟩
 | some x =>
  have:=sizesM_bd ends (getD_bd ends h) _ l (was0_bd ends h from_) x (List.mem_of_getElem? hx)
  simp only[Option.getD_some]
  omega
theorem ends_len (l:List (Int × Bool)):(l.map (·.1)).length=l.length:=List.length_map _
theorem hd_r11 (K:Act→World→Prop) (d:BandA) (b:BandG) (k g style said to_ n:Nat) (st:StG) (HW X H0:List HB) (w0 w:World) (s0 s1 s3 s6 s7 s8 s9 s10 s11 s12 s13 s14 s15 s16 s17 s18 s19 s20 s21 s22 s23 s24 s25 s26 s27 s28 s29 s30 s31 s32 s33 s34 s35 s36 s37 s38 s39 s40 s41 s42 s43 s44 s45 s46 s47 s48 s49 s50 s51 s52 s53 s54 s55 s56 s57 s58 s59 s60 s61 s62 s63 s64 s65 s66 s67 s68 s69 s70 s71 s72 s73 s74 s75 s76 s77 s78 s79 s80 s81 s82 s83 s84 s85 s86 s87 s88 s89 s90 s91 s92 s93 s94 s95 s96 s97 s98 s99 s100 s101 s102 s103 s104 s105 s106 s107 s108 s109 s110 s111 s112 s113 s114 s115 s116 s117 s118 s119 s120 s121 s122 s123 s124 s125 s126 s127 s128 s129 s130 s131 s132 s133 s134 s135 s136 s137 s138 s139 s140 s141 s142 s143 s144 s145 s146 s147 s148 s149 s150 s151 s152 s153 s154 s155 s156 s157 s158 s159 s160 s161 s162 s163 s164 s165 s166 s167 s168 s169 s170 s171 s172 s173 s174:Value)
  (ok:b.ok d) (hkn:k<d.n) (hst:b.G[k]?=some st) (hx:⟨g,66,SpotX.cells ⟨d,k⟩⟩∈X) (M:Mv w0 H0 w (HW++(X++b.heap d))) (hsd:st.m.said=(said:Int)) (hst2:said<to_) (hto:to_≤st.m.ps.length) (hs63:style≤63) (hn:(piecesM style said to_).length=n)
  (hk:∀ (t95 t96 t97 t98 t99 t100 t101 t102 t103 t104 t105 t106 t107:Value) (g1 c1 g2 c2:Nat) (H1 H2:List HB) (wx:World),RowI (.slice (some ⟨g1,0,none⟩) n c1) (lensM (piecesM style said to_)) H1→RowI (.slice (some ⟨g2,0,none⟩) n c2) (sizesM (st.m.ps.map (·.1)) (was0 (st.m.ps.map (·.1)) said) (piecesM style said to_)) H2→Mv w0 H0 wx (HW++((H1++(H2++X))++b.heap d)) →
   K ⟨List.toArray (s0::s1::(.int .i64 (style:Int))::s3::(.int .i64 (to_:Int))::(ptr0 g)::s6::s7::s8::s9::s10::(.slice (some ⟨g1,0,none⟩) n c1)::(.slice (some ⟨g2,0,none⟩) n c2)::s13::s14::s15::s16::s17::s18::s19::s20::s21::s22::s23::s24::s25::s26::s27::s28::s29::s30::s31::s32::s33::s34::s35::s36::s37::s38::s39::s40::s41::s42::s43::s44::s45::s46::s47::s48::s49::s50::s51::s52::s53::s54::s55::s56::s57::s58::s59::s60::s61::s62::s63::s64::s65::s66::s67::s68::s69::s70::s71::s72::s73::s74::s75::s76::s77::s78::s79::s80::s81::s82::s83::s84::s85::s86::s87::s88::s89::s90::s91::s92::s93::s94::t95::t96::t97::t98::t99::t100::t101::t102::t103::t104::t105::t106::t107::s108::s109::s110::s111::s112::s113::s114::s115::s116::s117::s118::s119::s120::s121::s122::s123::s124::s125::s126::s127::s128::s129::s130::s131::s132::s133::s134::s135::s136::s137::s138::s139::s140::s141::s142::s143::s144::s145::s146::s147::s148::s149::s150::s151::s152::s153::s154::s155::s156::s157::s158::s159::s160::s161::s162::s163::s164::s165::s166::s167::s168::s169::s170::s171::s172::s173::s174::[]),[]⟩ wx) :
  (regionOf 11 Tryz.f29).wp Tryz.prog (Exit.then K noQ) ⟨List.toArray (s0::s1::(.int .i64 (style:Int))::s3::(.int .i64 (to_:Int))::(ptr0 g)::s6::s7::s8::s9::s10::s11::s12::s13::s14::s15::s16::s17::s18::s19::s20::s21::s22::s23::s24::s25::s26::s27::s28::s29::s30::s31::s32::s33::s34::s35::s36::s37::s38::s39::s40::s41::s42::s43::s44::s45::s46::s47::s48::s49::s50::s51::s52::s53::s54::s55::s56::s57::s58::s59::s60::s61::s62::s63::s64::s65::s66::s67::s68::s69::s70::s71::s72::s73::s74::s75::s76::s77::s78::s79::s80::s81::s82::s83::s84::s85::s86::s87::s88::s89::s90::s91::s92::s93::s94::s95::s96::s97::s98::s99::s100::s101::s102::s103::s104::s105::s106::s107::s108::s109::s110::s111::s112::s113::s114::s115::s116::s117::s118::s119::s120::s121::s122::s123::s124::s125::s126::s127::s128::s129::s130::s131::s132::s133::s134::s135::s136::s137::s138::s139::s140::s141::s142::s143::s144::s145::s146::s147::s148::s149::s150::s151::s152::s153::s154::s155::s156::s157::s158::s159::s160::s161::s162::s163::s164::s165::s166::s167::s168::s169::s170::s171::s172::s173::s174::[]),[]⟩ w:=by
 conv in (regionOf _ _)=>whnf
 unfold noQ
 have HK:=Lib.hid hk
 clear hk
 unfold ptr0
 have hkk:k<4096:=Nat.lt_of_lt_of_le hkn ok.small
 have hso:=ok.st st (List.mem_of_getElem? hst)
 have SHp:Hid (∀ W A,Mv w0 H0 W (A++(HW++(X++b.heap d)))→Sat W st.Hp):=Lib.hid (fun W A m=>(StG.sat m.sat.right.right.right (List.mem_of_getElem? hst)).1)
 have CE:=Lib.hid (hd_cells M.drew hx hst)
 obtain⟨E,hE⟩:∃ E,st.m.ps.map (·.1)=E:=⟨_,rfl⟩
 have hEl:E.length=st.m.ps.length:=by rw[← hE,ends_len]
 have hEb:∀ e∈E,0≤e∧e≤100000000:=by rw[← hE];intro e h;obtain⟨p,hp,rfl⟩:=List.mem_map.1 h;exact hso.2.2.ends p hp
 have hnp:=hso.2.2.np
 have EC:=Lib.hid (spot_ends ⟨d,k⟩ st.vp st.m.ps st.Hp w.drew CE.out.2.2.2.1 hso.1 (SHp.out w.drew [] M.drew) hnp (by show k≤100000;omega))
 unfold SpotX.v at EC
 rw[hE] at HK EC
 have SC:=Lib.hid (fun (v:Value) (Hn:List HB) (W:World) (h:RowI v E Hn) (s:Sat W Hn)=>segments_any style said to_ E v Hn W hs63 (by omega) (by omega) (by omega) hEb h s)
 obtain⟨P,hP⟩:∃ P,piecesM style said to_=P:=⟨_,rfl⟩
 have hPn:=pieces_ne style said to_ hst2
 rw[hP] at HK SC hn hPn
 have hnp0:0<n:=by rw[← hn];exact List.length_pos_iff.2 hPn
 have hL1:(lensM P).length=n:=by rw[← hn];exact List.length_map _
 have hL2:=(sizesM_length E (was0 E said) P).trans hn
 have FRM:Hid (∀ v1 v2 H1 H2,RowI v1 (lensM P) H1→RowI v2 (sizesM E (was0 E said) P) H2→∃ g1 c1 g2 c2,v1=.slice (some ⟨g1,0,none⟩) n c1∧v2=.slice (some ⟨g2,0,none⟩) n c2):=Lib.hid (by
  intro v1 v2 H1 H2 r1 r2
  obtain⟨a1,c1,rfl⟩:=r1.slice
  obtain⟨a2,c2,rfl⟩:=r2.slice
  rw[hL1] at r1 ⊢
  rw[hL2] at r2 ⊢
  obtain⟨g1,rfl⟩:=r1.form hnp0
  obtain⟨g2,rfl⟩:=r2.form hnp0
  exact⟨g1,c1,g2,c2,rfl,rfl⟩)
 have AFT:Hid (∀ v Hn W,RowI v E Hn→Mv w.drew [] W Hn→Mv w0 H0 W (Hn++(HW++(X++b.heap d)))∧W.cell? ⟨g,0,none⟩=some (.pointer (some ⟨d.lb,k * 5,none⟩))∧W.cell? ⟨d.lb,k * 5+3,none⟩=some (.int .i64 (said:Int))):=Lib.hid (by
  intro v Hn W r m
  have m2:Mv w0 H0 W (Hn++(HW++(X++b.heap d))):=Mv.call (H:=[]) M.drew m
  have m3:Mv w0 H0 W ((Hn++HW)++(X++b.heap d)):=by simpa using m2
  have c:=hd_cells m3 hx hst
  rw[hsd] at c
  exact⟨m2,c.1.1,c.2.2.2.2.2.1⟩)
 have FIN:Hid (∀ Hn H1 H2 W W',Mv w0 H0 W (Hn++(HW++(X++b.heap d)))→Mv W Hn W' (H1++(H2++Hn))→Mv w0 H0 W' (HW++((H1++(H2++X))++b.heap d))):=Lib.hid (by
  intro Hn H1 H2 W W' m1 m2
  exact(Mv.call m1 m2).sub (fun g=>by simp only[cnt_append];omega) (fun c hc=>by simp only[List.mem_append] at hc ⊢;grind))
 obtain⟨⟨x0,x1,x2⟩,-,-,-,-,z3,-⟩:=CE.out
 rw[hsd] at z3
 clear CE ok hst hx M hsd hto hn hso SHp hE hEl hEb hP hPn hL1 hL2 hs63 hst2 hnp
 go_region_law (first
  | (go_simp;go_at_call 76;(with_reducible refine EC.out.mono ?_);rintro e w1 ⟨v,Hn,rfl,hr,m1⟩;obtain⟨ea,ec,rfl⟩:=hr.slice;(have AF:=AFT.out _ _ _ hr m1);(have y0:w1.cell? ⟨g,0,none⟩=some (.pointer (some ⟨d.lb,k * 5,none⟩)):=(by first | exact AF.2.1));(have y3:w1.cell? ⟨d.lb,k * 5+3,none⟩=some (.int .i64 (said:Int)):=(by first | exact AF.2.2));have K1:=Lib.hid (And.intro hr (And.intro m1 AF.1));clear hr m1 AF)
  | (go_simp;go_at_call 75;(with_reducible refine(SC.out _ Hn w1 K1.out.1 K1.out.2.1.sat).mono ?_);rintro e w2 ⟨v1,v2,H1,H2,rfl,r1,r2,m2⟩;obtain⟨g1,c1,g2,c2,rfl,rfl⟩:=FRM.out _ _ _ _ r1 r2;have K2:=Lib.hid (And.intro r1 (And.intro r2 (FIN.out _ _ _ _ _ K1.out.2.2 m2)));clear r1 r2 m2))
 all_goals
  exact HK.out _ _ _ _ _ _ _ _ _ _ _ _ _ g1 c1 g2 c2 H1 H2 w2 K2.out.1 K2.out.2.1 K2.out.2.2
end
section
open Go.RowKit
def segL1 (style said to_:Nat):List Int:=lensM (piecesM style said to_)
def segL2 (s:StM) (style said to_:Nat):List Int:=sizesM (s.ps.map (·.1)) (was0 (s.ps.map (·.1)) said) (piecesM style said to_)
def needM (s:StM) (style said to_:Nat):Int:=needK (segL1 style said to_) (segL2 s style said to_) s.lb (piecesM style said to_).length
def sizesB (s:StM) (style said to_:Nat):List Bool:=List.replicate (needM s style said to_ - s.lb).toNat true++(false::bitsK (segL1 style said to_) (segL2 s style said to_) (needM s style said to_) (piecesM style said to_).length)
def headF (m:BandM) (k layer said to_:Nat):List LevM × List Bool:=if said=0 then encAt m.first k ((layer:Int)+1) else (m.first,bitsG (if said<to_ then 1 else 0) 1)
def headZ (m:BandM) (k said:Nat) (s:StM):List LevM × List Bool:=if said=0 then zerosE m.zeros k (max (m.planes - s.pl) 0+1).toNat else (m.zeros,[])
def headM (m:BandM) (k style layer said to_:Nat) (s:StM):BandM × List Bool :=
 if to_=said then ({ m with first:=(headF m k layer said to_).1 },(headF m k layer said to_).2)
 else ({ m with first:=(headF m k layer said to_).1,zeros:=(headZ m k said s).1,ss:=m.ss.set k (s.withS s.said (needM s style said to_)) },(headF m k layer said to_).2++((headZ m k said s).2++(tellM (to_ - said)++sizesB s style said to_)))
theorem headF_length (m:BandM) (k layer said to_:Nat) (hT:m.first.length≤20) (hl:layer≤100):(headF m k layer said to_).2.length≤3000:=by
 unfold headF
 split
 ·have h:=(encAt_length m.first k ((layer:Int)+1)).2
  have h2:m.first.length * ((layer:Int)+1).toNat≤20 * 101:=Nat.mul_le_mul hT (by omega)
  omega
 ·have:=bitsG_length (if said<to_ then 1 else 0) 1
  simp only
  omega
theorem headZ_length (m:BandM) (k said:Nat) (s:StM) (hT:m.zeros.length≤20) (hz:max (m.planes - s.pl) 0+1≤64):(headZ m k said s).2.length≤90000:=by
 unfold headZ
 split
 ·have:=(zerosE_length m.zeros k hT (max (m.planes - s.pl) 0+1).toNat (by omega)).2
  omega
 ·simp only[List.length_nil]
  omega
theorem pieces_length (style from_ to_:Nat):(piecesM style from_ to_).length≤to_ - from_:=pcs_length style to_ (to_ - from_) from_ from_
theorem wp_piece_end {P:Program} {c:Code} {Q:Exit→Act→World→Prop} {a:Act} {w:World} (h:c.wp P (Exit.then (fun a w=>Q .normal a w) noQ) a w):c.wp P Q a w:=by
 refine wp_mono h ?_
 intro e a' w' hq
 cases e with
 | normal=>exact hq
 | _=>exact hq.elim
def HeadR (d:BandA) (b:BandG) (k wb style layer said to_:Nat) (st:StG) (bs:List Bool) (HW:List HB) (w w':World):Prop :=
 ∃ (b':BandG) (HW':List HB),b'.ok d∧b'.model=(headM b.model k style layer said to_ st.m).1∧WrB wb (bs++(headM b.model k style layer said to_ st.m).2) HW'∧Mv w (HW++b.heap d) w' (HW'++b'.heap d)
theorem head_any (d:BandA) (b:BandG) (k wb style layer said to_:Nat) (st:StG) (bs:List Bool) (HW:List HB) (w:World)
  (ok:b.ok d) (hkn:k<d.n) (hst:b.G[k]?=some st) (hw:WrB wb bs HW) (hs:Sat w (HW++b.heap d)) (hpl:0≤b.planes∧b.planes≤60) (hsp:0≤st.m.pl∧st.m.pl≤60) (hlb:st.m.lb≤100) (hsd:st.m.said=(said:Int)) (hst2:said≤to_) (hto:to_≤st.m.ps.length) (hs63:style≤63) (hly:layer≤100) (hbs:bs.length≤40000000) :
  Calls Tryz.prog 29 #[SpotX.v ⟨d,k⟩,.pointer (some ⟨wb,0,none⟩),.int .i64 (style:Int),.int .i64 (layer:Int),.int .i64 (to_:Int)] w fun e w'=>e=.returned (.tuple #[]) ∧
   HeadR d b k wb style layer said to_ st bs HW w w':=by
 have hkk:k<4096:=Nat.lt_of_lt_of_le hkn ok.small
 have hso:=ok.st st (List.mem_of_getElem? hst)
 obtain⟨g,hg⟩:∃ g,w.heap.size=g:=⟨_,rfl⟩
 obtain⟨X,hX⟩:∃ X:List HB,[⟨g,66,SpotX.cells ⟨d,k⟩⟩]=X:=⟨_,rfl⟩
 obtain⟨w1,hw1⟩:∃ w1,w1=w.alloc (.cells (SpotX.cells ⟨d,k⟩) 66):=⟨_,rfl⟩
 have M1:Mv w (HW++b.heap d) w1 (HW++(X++b.heap d)):=by
  have m:=(Mv.refl hs).alloc 66 (SpotX.cells ⟨d,k⟩)
  rw[hg,← hw1] at m
  rw[← hX]
  exact m.sub (fun g=>by simp only[cnt_append,cnt_cons,cnt_nil];omega) (fun c hc=>by simp only[List.mem_append,List.mem_cons,List.not_mem_nil,or_false] at hc ⊢;grind)
 have hx:⟨g,66,SpotX.cells ⟨d,k⟩⟩∈X:=by rw[← hX];exact List.mem_cons_self
 -- the first stage: is it there?
 obtain⟨F,hF⟩:∃ F,headF b.model k layer said to_=F:=⟨_,rfl⟩
 have hFl:F.2.length≤3000:=by rw[← hF];exact headF_length _ _ _ _ _ (by have:=ok.kf.1;simpa [BandG.model] using this) hly
 have KF:=Lib.hid (And.intro ok (And.intro hst (And.intro hx (And.intro hF (And.intro hX hso)))))
 have CE:=Lib.hid (hd_cells M1 hx hst)
 have DRP:Hid (∀ W A H1,Mv w (HW++b.heap d) W (A++(X++H1))→Mv w (HW++b.heap d) W (A++H1)):=Lib.hid (fun W A H1 m=>m.sub (fun g=>by simp only[cnt_append];omega) (fun c hc=>by simp only[List.mem_append] at hc ⊢;grind))
 have EF:Hid (said=0→Calls Tryz.prog 73 #[.pointer (some ⟨b.ft,0,none⟩),.pointer (some ⟨wb,0,none⟩),.int .i64 (k:Int),.int .i64 ((layer:Int)+1)] w1.drew fun e w2=>e=.returned (.tuple #[]) ∧
   ∃ (b':BandG) (HW':List HB),b'.ok d∧b'.model={ b.model with first:=F.1 }∧b'.G=b.G∧WrB wb (bs++F.2) HW'∧Mv w (HW++b.heap d) w2 (HW'++(X++b'.heap d))):=Lib.hid (by
  intro h0
  have e:F=encAt b.model.first k ((layer:Int)+1):=by rw[← hF];unfold headF;rw[if_pos h0]
  rw[e]
  exact band_encF ok hw M1.drew k hkn ((layer:Int)+1) (by omega) (by omega))
 have EB:Hid (said≠0→Calls Tryz.prog 26 #[.pointer (some ⟨wb,0,none⟩),.int .i64 (if said<to_ then 1 else 0),.int .i64 1] w1 fun e w2=>e=.returned (.tuple #[]) ∧
   ∃ (b':BandG) (HW':List HB),b'.ok d∧b'.model={ b.model with first:=F.1 }∧b'.G=b.G∧WrB wb (bs++F.2) HW'∧Mv w (HW++b.heap d) w2 (HW'++(X++b'.heap d))):=Lib.hid (by
  intro h0
  have e:F=(b.model.first,bitsG (if said<to_ then 1 else 0) 1):=by rw[← hF];unfold headF;rw[if_neg h0]
  rw[e]
  refine(bits_any wb bs _ 1 w1 HW hw M1.sat.left (by omega)).mono ?_
  rintro e w2 ⟨rfl,HW',h1,m1⟩
  exact⟨rfl,b,HW',ok,rfl,rfl,h1,Mv.call M1 m1⟩)
 obtain⟨⟨x0,x1,x2⟩,⟨y1,y2,y3⟩,z0,-,-,z3,z4,-⟩:=CE.out
 rw[hsd] at z3
 have HW1:=Lib.hid (show w1=w.alloc (.cells #[.pointer (some ⟨d.lb,k * 5,none⟩),.pointer (some ⟨d.bb,0,none⟩),.int .i64 (k:Int)] 66) from hw1)
 unfold SpotX.v
 clear hw1 ok hst hx hF M1 CE hs hw hX hso
 go_enter Tryz.func29,Tryz.ntmps29
 go_upto_region 1 with fail
 rw[← HW1.out]
 go_upto_if 23 with fail
 go_cut [23] from 24 (fun _ wx=>∃ (b1:BandG) (HW1:List HB),b1.ok d∧b1.model={ b.model with first:=F.1 }∧b1.G=b.G∧WrB wb (bs++F.2) HW1∧Mv w (HW++b.heap d) wx (HW1++(X++b1.heap d)))
 case first =>
  by_cases h0:said=0
  ·have E0:=Lib.hid (EF.out h0)
   subst h0
   go_upto_region 2 with fail
   go_still_tail 10,(by kernel_rfl)
   change wpList _ _ _ _ _ w1.drew
   go_wp2_with (go_at_call 73;(with_reducible refine E0.out.mono ?_);rintro e w2 ⟨rfl,b1,HW2,q⟩;have K2:=Lib.hid q;clear q)
   go_meet
   exact⟨b1,HW2,K2.out⟩
  ·have E0:=Lib.hid (EB.out h0)
   have h1:¬ ((said:Int)=0):=by omega
   have FL:=Lib.hid (fun W=>flag_any (decide (said<to_)) W)
   have e1:(if decide (said<to_)=true then (1:Int) else 0)=(if said<to_ then 1 else 0):=by
    by_cases h:said<to_
    ·rw[if_pos h,decide_eq_true h,if_pos rfl]
    ·rw[if_neg h,decide_eq_false h,if_neg (by simp)]
   rw[e1] at FL
   generalize (if said<to_ then (1:Int) else 0)=fl at *
   clear e1
   go_wp2_with (first
    | (go_at_call 27;(with_reducible refine(FL.out _).mono ?_);rintro e w2 ⟨rfl,rfl⟩)
    | (go_at_call 26;(with_reducible refine E0.out.mono ?_);rintro e w3 ⟨rfl,b1,HW2,q⟩;have K2:=Lib.hid q;clear q))
   go_meet
   exact⟨b1,HW2,K2.out⟩
 case rest =>
  obtain⟨b1,HW1',ok1,hm1,hG1,hw1,M1⟩:=hcut
  obtain⟨⟨x0,x1,x2⟩,⟨y1,y2,y3⟩,z0,-,-,z3,z4,-⟩:=hd_cells M1 KF.out.2.2.1 (by rw[hG1];exact KF.out.2.1)
  rw[hsd] at z3
  clear EF EB HW1
  have K1:=Lib.hid (And.intro ok1 (And.intro hm1 (And.intro hG1 (And.intro hw1 M1))))
  clear ok1 hm1 hG1 hw1 M1
  by_cases hne:to_=said
  ·subst hne
   go_wp2_with fail
   refine bodyPost_ret (results_none rfl _ _ _) rfl ⟨rfl,b1,HW1',K1.out.1,?_,?_,DRP.out _ _ _ K1.out.2.2.2.2⟩
   ·rw[K1.out.2.1];unfold headM;rw[if_pos rfl,KF.out.2.2.2.1]
   ·unfold headM;rw[if_pos rfl,KF.out.2.2.2.1];exact K1.out.2.2.2.1
  ·have hne2:¬ ((to_:Int)=(said:Int)):=by omega
   obtain⟨Z,hZ⟩:∃ Z,headZ b.model k said st.m=Z:=⟨_,rfl⟩
   have hZl:Z.2.length≤90000:=by rw[← hZ];exact headZ_length _ _ _ _ (by have:=KF.out.1.kz.1;simpa [BandG.model] using this) (by show max (b.planes - st.m.pl) 0+1≤64;omega)
   have HZ:=Lib.hid hZ
   clear hZ
   go_upto_if 57 with fail
   go_cut [10,51,57] from 58 (fun _ _ _ wx=>∃ (b2:BandG) (HW2:List HB),b2.ok d∧b2.model={ b.model with first:=F.1,zeros:=Z.1 }∧b2.G=b.G∧WrB wb ((bs++F.2)++Z.2) HW2∧Mv w (HW++b.heap d) wx (HW2++(X++b2.heap d)))
   case first =>
    by_cases h0:said=0
    ·have hp1:b1.planes=b.planes:=congrArg BandM.planes K1.out.2.1
     have hz1:b1.model.zeros=b.model.zeros:=by rw[K1.out.2.1]
     obtain⟨nz,hnz⟩:∃ nz:Nat,(nz:Int)=max (b.planes - st.m.pl) 0+1:=⟨(max (b.planes - st.m.pl) 0+1).toNat,by omega⟩
     have eZ:Hid (Z=zerosE b1.model.zeros k nz):=Lib.hid (by rw[← HZ.out,hz1];unfold headZ;rw[if_pos h0];show zerosE _ _ (max (b.planes - st.m.pl) 0+1).toNat=_;rw[← hnz];rfl)
     have hbl:(bs++F.2).length≤50000000:=by rw[List.length_append];omega
     have hz64:nz≤64:=by omega
     subst h0
     go_upto_block 0 with fail
     refine wp_piece (hd_p0 _ d b1 k g wb nz st (bs++F.2) HW1' X (HW++b.heap d) w wc _ _ _ _ _ _ _ _ _ _ _ _ _ _ _ _ _ _ _ _ _ _ _ _ _ _ _ _ _ _ _ _ _ _ _ _ _ _ _ _ _ _ _ _ _ _ _ _ _ _ _ _ _ _ _ _ _ _ _ _ _ _ _ _ _ _ _ _ _ _ _ _ _ _ _ _ _ _ _ _ _ _ _ _ _ _ _ _ _ _ _ _ _ _ _ _ _ _ _ _ _ _ _ _ _ _ _ _ _ _ _ _ _ _ _ _ _ _ _ _ _ _ _ _ _ _ _ _ _ _ _ _ _ _ _ _ _ _ _ _ _ _ _ _ _ _ _ _ _ _ _ _ _ _ _ _ _ _ _ _ _ _ _ _ _ _ _ _ _ _ _ _ K1.out.1 hkn (by rw[K1.out.2.2.1];exact KF.out.2.1) KF.out.2.2.1 K1.out.2.2.2.1 K1.out.2.2.2.2 (by rw[hp1];exact hnz) hz64 (by rw[hp1];omega) (by omega) hbl ?_)
     rintro _ _ _ _ _ _ _ _ _ _ _ _ _ _ _ _ _ _ _ _ _ _ _ _ _ _ _ _ _ wx b2 HW2 q1 q2 q3 q4 q5
     unfold ptr0
     go_wp2_with fail
     go_meet
     refine⟨b2,HW2,q1,?_,q3.trans K1.out.2.2.1,?_,q5⟩
     ·rw[q2,eZ.out,K1.out.2.1]
     ·rw[eZ.out];exact q4
    ·have eZ:Z=(b.model.zeros,[]):=by rw[← HZ.out];unfold headZ;rw[if_neg h0]
     have h0':¬ ((said:Int)=0):=by omega
     go_wp2_with fail
     go_meet
     refine⟨b1,HW1',K1.out.1,?_,K1.out.2.2.1,?_,K1.out.2.2.2.2⟩
     ·rw[K1.out.2.1,eZ]
     ·rw[eZ,List.append_nil];exact K1.out.2.2.2.1
   case rest =>
    obtain⟨b2,HW2,ok2,hm2,hG2,hw2,M2⟩:=hcut
    clear x0 x1 x2 y1 y2 y3 z0 z3 z4
    have hst':b2.G[k]?=some st:=by rw[hG2];exact KF.out.2.1
    obtain⟨⟨x0,-,-⟩,-,-,-,-,z3,-,-⟩:=hd_cells M2 KF.out.2.2.1 hst'
    rw[hsd] at z3
    have hlt:said<to_:=by omega
    have eTS:(to_:Int) - (said:Int)=((to_ - said:Nat):Int):=by omega
    have hnp:=KF.out.2.2.2.2.2.2.2.np
    have hends:=KF.out.2.2.2.2.2.2.2.ends
    have hlb0:=KF.out.2.2.2.2.2.2.2.lb
    have hbl2:((bs++F.2)++Z.2).length≤45000000:=by rw[List.length_append,List.length_append];omega
    obtain⟨B2,hB2⟩:∃ B2,(bs++F.2)++Z.2=B2:=⟨_,rfl⟩
    rw[hB2] at hw2 hbl2
    have TL:=Lib.hid (tell_any wb B2 (to_ - said) wc HW2 hw2 M2.sat.left (by omega) (by omega))
    have HL2:=Lib.hid (And.intro ok2 (And.intro hm2 (And.intro hst' (And.intro M2 hB2))))
    clear ok2 hm2 hG2 hw2 M2 hst' hB2 K1
    obtain⟨n,hn⟩:∃ n,(piecesM style said to_).length=n:=⟨_,rfl⟩
    have hn1000:n≤1000:=by rw[← hn];have:=pieces_length style said to_;omega
    have HN:=Lib.hid hn
    clear hn
    obtain⟨L1,hL1⟩:∃ L,segL1 style said to_=L:=⟨_,rfl⟩
    obtain⟨L2,hL2⟩:∃ L,segL2 st.m style said to_=L:=⟨_,rfl⟩
    have B1:∀ i,0≤L1.getD i 0∧L1.getD i 0≤1000:=by rw[← hL1];exact lensM_bd style said to_ (by omega)
    have B2d:∀ i,-1000000000≤L2.getD i 0∧L2.getD i 0≤1000000000:=by rw[← hL2];exact sizesM_getD _ (by intro e h;obtain⟨p,hp,rfl⟩:=List.mem_map.1 h;exact hends p hp) said _
    have ND:=needK_bd L1 L2 st.m.lb (fun i=>(B2d i).2) n
    have lL1:L1.length=n:=by rw[← hL1,← HN.out];exact List.length_map _
    have lL2:L2.length=n:=by rw[← hL2,← HN.out];exact sizesM_length _ _ _
    have HBD:=Lib.hid (And.intro B1 B2d)
    have HLS:=Lib.hid (And.intro hL1 (And.intro hL2 (And.intro lL1 lL2)))
    clear B1 B2d hL1 hL2 hends lL1 lL2
    obtain⟨r,hr⟩:∃ r:Nat,needK L1 L2 st.m.lb n=st.m.lb+(r:Int):=⟨(needK L1 L2 st.m.lb n - st.m.lb).toNat,by omega⟩
    have hr4:r≤41:=by omega
    have HR:=Lib.hid hr
    clear hr ND
    go_upto_region 11 with (go_at_call 74;(with_reducible refine TL.out.mono ?_);rintro e w3 ⟨rfl,HW3,q1,q2⟩;have K3:=Lib.hid (And.intro q1 (Mv.call HL2.out.2.2.2.1 q2));clear q1 q2)
    refine wp_piece (hd_r11 _ d b2 k g style said to_ n st HW3 X (HW++b.heap d) w w3 _ _ _ _ _ _ _ _ _ _ _ _ _ _ _ _ _ _ _ _ _ _ _ _ _ _ _ _ _ _ _ _ _ _ _ _ _ _ _ _ _ _ _ _ _ _ _ _ _ _ _ _ _ _ _ _ _ _ _ _ _ _ _ _ _ _ _ _ _ _ _ _ _ _ _ _ _ _ _ _ _ _ _ _ _ _ _ _ _ _ _ _ _ _ _ _ _ _ _ _ _ _ _ _ _ _ _ _ _ _ _ _ _ _ _ _ _ _ _ _ _ _ _ _ _ _ _ _ _ _ _ _ _ _ _ _ _ _ _ _ _ _ _ _ _ _ _ _ _ _ _ _ _ _ _ _ _ _ _ _ _ _ _ _ _ _ _ _ _ _ _ _ HL2.out.1 hkn HL2.out.2.2.1 KF.out.2.2.1 K3.out.2 hsd hlt hto hs63 HN.out ?_)
    rintro _ _ _ _ _ _ _ _ _ _ _ _ _ g1 c1 g2 c2 H1 H2 w4 r1 r2 M4
    unfold ptr0
    have hx':⟨g,66,SpotX.cells ⟨d,k⟩⟩∈H1++(H2++X):=List.mem_append_right _ (List.mem_append_right _ KF.out.2.2.1)
    have RX:Hid (∀ W,Sat W (H1++(H2++X))→∀ i,i<n→W.cell? ⟨g1,i,none⟩=some (.int .i64 (L1.getD i 0))∧W.cell? ⟨g2,i,none⟩=some (.int .i64 (L2.getD i 0))):=Lib.hid (by
     intro W hW i hi
     have e1:L1[i]?=some (L1.getD i 0):=by rw[List.getD_eq_getElem?_getD,List.getElem?_eq_getElem (by rw[HLS.out.2.2.1];exact hi)];rfl
     have e2:L2[i]?=some (L2.getD i 0):=by rw[List.getD_eq_getElem?_getD,List.getElem?_eq_getElem (by rw[HLS.out.2.2.2];exact hi)];rfl
     rw[← HLS.out.1] at e1 ⊢
     rw[← HLS.out.2.1] at e2 ⊢
     exact⟨r1.at_ hW.left e1,r2.at_ hW.right.left e2⟩)
    obtain⟨⟨x0',-,-⟩,-,-,-,-,-,z4',-⟩:=hd_cells M4 hx' HL2.out.2.2.1
    have K4:=Lib.hid (And.intro M4 hx')
    clear r1 r2 M4 hx' x0 z3 TL eTS
    go_upto_block 2 with fail
    refine wp_piece (hd_p2 _ n c1 c2 g1 g2 st.m.lb L1 L2 (HW3++((H1++(H2++X))++b2.heap d)) (HW++b.heap d) w w4 _ _ _ _ _ _ _ _ _ _ _ _ _ _ _ _ _ _ _ _ _ _ _ _ _ _ _ _ _ _ _ _ _ _ _ _ _ _ _ _ _ _ _ _ _ _ _ _ _ _ _ _ _ _ _ _ _ _ _ _ _ _ _ _ _ _ _ _ _ _ _ _ _ _ _ _ _ _ _ _ _ _ _ _ _ _ _ _ _ _ _ _ _ _ _ _ _ _ _ _ _ _ _ _ _ _ _ _ _ _ _ _ _ _ _ _ _ _ _ _ _ _ _ _ _ _ _ _ _ _ _ _ _ _ _ _ _ _ _ _ _ _ _ _ _ _ _ _ _ _ _ _ _ _ _ _ _ _ _ _ _ _ _ _ _ _ _ _ _ hn1000 (by omega) HBD.out.1 HBD.out.2 (fun W h=>RX.out W h.right.left) K4.out.1 ?_)
    rintro _ _ _ _ _ _ _ _ _ _ _ _ _ _ _ _ _ _ _ _ _ w5 M5
    rw[HR.out]
    have hlB:(B2++tellM (to_ - said)).length≤50000000:=by rw[List.length_append];have:=tellM_length (to_ - said);omega
    go_upto_block 4 with fail
    refine wp_piece (hd_p4 _ d b2 k g wb r st.m.lb st (B2++tellM (to_ - said)) HW3 (H1++(H2++X)) (HW++b.heap d) w w5 _ _ _ _ _ _ _ _ _ _ _ _ _ _ _ _ _ _ _ _ _ _ _ _ _ _ _ _ _ _ _ _ _ _ _ _ _ _ _ _ _ _ _ _ _ _ _ _ _ _ _ _ _ _ _ _ _ _ _ _ _ _ _ _ _ _ _ _ _ _ _ _ _ _ _ _ _ _ _ _ _ _ _ _ _ _ _ _ _ _ _ _ _ _ _ _ _ _ _ _ _ _ _ _ _ _ _ _ _ _ _ _ _ _ _ _ _ _ _ _ _ _ _ _ _ _ _ _ _ _ _ _ _ _ _ _ _ _ _ _ _ _ _ _ _ _ _ _ _ _ _ _ _ _ _ _ _ _ _ _ _ _ _ _ _ _ _ _ _ _ _ _ HL2.out.1 hkn HL2.out.2.2.1 K4.out.2 K3.out.1 M5 rfl (by omega) (by omega) (by omega) ?_)
    rintro _ _ _ _ _ _ _ _ _ _ _ _ _ _ _ _ _ w6 HW6 ok6 hw6 M6
    unfold ptr0
    have hlB6:((B2++tellM (to_ - said))++List.replicate r true).length≤50000100:=by rw[List.length_append,List.length_replicate];omega
    obtain⟨B6,hB6⟩:∃ B6,(B2++tellM (to_ - said))++List.replicate r true=B6:=⟨_,rfl⟩
    rw[hB6] at hw6 hlB6
    have BI:=Lib.hid (bit_any wb B6 0 w6 HW6 hw6 M6.sat.left (by omega))
    have K6:=Lib.hid (And.intro ok6 (And.intro M6 hB6))
    clear ok6 hw6 M6 hB6 M5 x0' z4' hlB
    go_upto_block 6 with (go_at_call 71;(with_reducible refine BI.out.mono ?_);rintro e w7 ⟨rfl,HW7,q1,q2⟩;have K7:=Lib.hid (And.intro q1 (Mv.call K6.out.2.1 q2));clear q1 q2)
    have hlB7:(B6++[decide ((0:Int) % 2=1)]).length≤60000000:=by rw[List.length_append];simp only[List.length_cons,List.length_nil];omega
    refine wp_piece_end (hd_p6 _ d (b2.setS k st st.m.said (st.m.lb+(r:Int))) k g wb n g1 g2 c1 c2 (st.m.lb+(r:Int)) L1 L2 (st.withS st.m.said (st.m.lb+(r:Int))) (B6++[decide ((0:Int) % 2=1)]) HW7 (H1++(H2++X)) (HW++b.heap d) w w7 _ _ _ _ _ _ _ _ _ _ _ _ _ _ _ _ _ _ _ _ _ _ _ _ _ _ _ _ _ _ _ _ _ _ _ _ _ _ _ _ _ _ _ _ _ _ _ _ _ _ _ _ _ _ _ _ _ _ _ _ _ _ _ _ _ _ _ _ _ _ _ _ _ _ _ _ _ _ _ _ _ _ _ _ _ _ _ _ _ _ _ _ _ _ _ _ _ _ _ _ _ _ _ _ _ _ _ _ _ _ _ _ _ _ _ _ _ _ _ _ _ _ _ _ _ _ _ _ _ _ _ _ _ _ _ _ _ _ _ _ _ _ _ _ _ _ _ _ _ _ _ _ _ _ _ _ _ _ _ _ _ _ _ _ _ _ _ _ _ hkk (BandG.setS_get HL2.out.2.2.1 _ _) K4.out.2 K7.out.1 K7.out.2 rfl (by omega) hlB7 hn1000 HBD.out.1 RX.out ?_)
    rintro _ _ _ _ _ _ _ _ _ _ _ _ _ _ _ _ _ _ _ _ _ _ w8 HW8 hw8 M8
    unfold ptr0
    have K8:=Lib.hid (And.intro hw8 M8)
    clear hw8 M8
    refine bodyPost_end (results_none rfl _ _ _) rfl ⟨rfl,b2.setS k st st.m.said (st.m.lb+(r:Int)),HW8,K6.out.1,?_,?_,?_⟩
    ·have e:needM st.m style said to_=st.m.lb+(r:Int):=by unfold needM;rw[HLS.out.1,HLS.out.2.1,HN.out,HR.out]
     rw[BandG.setS_model,HL2.out.2.1]
     unfold headM
     rw[if_neg hne,KF.out.2.2.2.1,HZ.out,e]
    ·have e:needM st.m style said to_=st.m.lb+(r:Int):=by unfold needM;rw[HLS.out.1,HLS.out.2.1,HN.out,HR.out]
     have e2:(st.m.lb+(r:Int) - st.m.lb).toNat=r:=by omega
     unfold headM
     rw[if_neg hne,KF.out.2.2.2.1,HZ.out]
     unfold sizesB
     rw[e,HLS.out.1,HLS.out.2.1,HN.out,e2]
     have h:=K8.out.1
     rw[← K6.out.2.2,← HL2.out.2.2.2.2] at h
     simpa [List.append_assoc] using h
    ·exact K8.out.2.sub (fun g=>by simp only[cnt_append];omega) (fun c hc=>by simp only[List.mem_append] at hc ⊢;grind)
end
section
open Go.RowKit
def hereM (l:List UInt8) (m:BandM) (s:StM) (k layer:Nat) (r:RdM):BandM × Bool × RdM :=
 if s.ps.length=0 then ({ m with first:=(decAt l m.first k ((layer:Int)+1) r).1 },(decAt l m.first k ((layer:Int)+1) r).2.1,(decAt l m.first k ((layer:Int)+1) r).2.2)
 else (m,decide ((rdBit l r).1=1),(rdBit l r).2)
theorem here_any (d:BandA) (b:BandG) (k rb layer:Nat) (st:StG) (l:List UInt8) (r:RdM) (HR:List HB) (w:World)
  (ok:b.ok d) (hkn:k<d.n) (hst:b.G[k]?=some st) (hr:ReadH rb l r HR) (hs:Sat w (HR++b.heap d)) (hly:layer≤100) (hll:l.length≤90000000) (hrb:r.begun≤70000000) (hr8:r.left≤8) :
  Calls Tryz.prog 89 #[SpotX.v ⟨d,k⟩,.pointer (some ⟨rb,0,none⟩),.int .i64 (layer:Int)] w fun e w'=>e=.returned (.bool (hereM l b.model st.m k layer r).2.1) ∧
   ∃ (b':BandG) (HR':List HB),b'.ok d∧b'.model=(hereM l b.model st.m k layer r).1∧b'.G=b.G∧ReadH rb l (hereM l b.model st.m k layer r).2.2 HR'∧Mv w (HR++b.heap d) w' (HR'++b'.heap d):=by
 have hkk:k<4096:=Nat.lt_of_lt_of_le hkn ok.small
 have hso:=ok.st st (List.mem_of_getElem? hst)
 obtain⟨pa,pc,hvp⟩:=hso.passes
 obtain⟨g,hg⟩:∃ g,w.heap.size=g:=⟨_,rfl⟩
 obtain⟨X,hX⟩:∃ X:List HB,[⟨g,66,SpotX.cells ⟨d,k⟩⟩]=X:=⟨_,rfl⟩
 obtain⟨w1,hw1⟩:∃ w1,w1=w.alloc (.cells (SpotX.cells ⟨d,k⟩) 66):=⟨_,rfl⟩
 have M1:Mv w (HR++b.heap d) w1 (HR++(X++b.heap d)):=by
  have m:=(Mv.refl hs).alloc 66 (SpotX.cells ⟨d,k⟩)
  rw[hg,← hw1] at m
  rw[← hX]
  exact m.sub (fun g=>by simp only[cnt_append,cnt_cons,cnt_nil];omega) (fun c hc=>by simp only[List.mem_append,List.mem_cons,List.not_mem_nil,or_false] at hc ⊢;grind)
 have hx:⟨g,66,SpotX.cells ⟨d,k⟩⟩∈X:=by rw[← hX];exact List.mem_cons_self
 obtain⟨⟨x0,x1,x2⟩,⟨y1,y2,y3⟩,z0,z1,-,z3,z4,-⟩:=hd_cells M1 hx hst
 rw[hvp] at z1
 obtain⟨np,hnp⟩:∃ np,st.m.ps.length=np:=⟨_,rfl⟩
 rw[hnp] at z1
 have DRP:Hid (∀ W A H1,Mv w (HR++b.heap d) W (A++(X++H1))→Mv w (HR++b.heap d) W (A++H1)):=Lib.hid (fun W A H1 m=>m.sub (fun g=>by simp only[cnt_append];omega) (fun c hc=>by simp only[List.mem_append] at hc ⊢;grind))
 have EF:=Lib.hid (band_decF ok hr M1.drew k hkn ((layer:Int)+1) (by omega) hll (by omega) hr8)
 have EB:=Lib.hid (bit_rd rb l r w1 HR hr M1.sat.left hll (by omega) hr8)
 have hq1:=(rdBit_inv l r hr8).1
 have KF:=Lib.hid (And.intro ok M1)
 have HW1:=Lib.hid (show w1=w.alloc (.cells #[.pointer (some ⟨d.lb,k * 5,none⟩),.pointer (some ⟨d.bb,0,none⟩),.int .i64 (k:Int)] 66) from hw1)
 unfold hereM SpotX.v
 rw[hnp]
 clear hw1 ok hst hx M1 hs hX hso hnp hvp
 by_cases h0:np=0
 ·rw[if_pos h0]
  subst h0
  generalize decAt l b.model.first k ((layer:Int)+1) r=q at *
  go_enter Tryz.func89,Tryz.ntmps89
  go_upto_region 1 with fail
  rw[← HW1.out]
  go_upto_region 3 with fail
  go_still_tail 10,(by kernel_rfl)
  change wpList _ _ _ _ _ w1.drew
  go_wp2_with (go_at_call 112;(with_reducible refine EF.out.mono ?_);rintro e w2 ⟨rfl,b1,HR2,q1,q2,q3,q4,q5⟩;have K2:=Lib.hid (And.intro q1 (And.intro q2 (And.intro q3 (And.intro q4 (DRP.out _ _ _ q5)))));clear q1 q2 q3 q4 q5)
  go_ret
  exact⟨rfl,b1,HR2,K2.out.1,K2.out.2.1,K2.out.2.2.1,K2.out.2.2.2.1,K2.out.2.2.2.2⟩
 ·rw[if_neg h0]
  have h1:(0:Int)<(np:Int):=by omega
  obtain⟨r1,hr1⟩:∃ r1,(rdBit l r).2=r1:=⟨_,rfl⟩
  rw[hr1] at EB
  simp only[hr1]
  clear h0
  by_cases hq:(rdBit l r).1=1
  ·rw[hq] at EB
   rw[decide_eq_true hq]
   clear hq hq1 hr1
   go_enter Tryz.func89,Tryz.ntmps89
   go_upto_region 1 with fail
   rw[← HW1.out]
   go_wp2_with (go_at_call 88;(with_reducible refine EB.out.mono ?_);rintro e w2 ⟨rfl,HR2,q1,q2⟩;have K2:=Lib.hid (And.intro q1 (DRP.out _ _ _ (Mv.call KF.out.2 q2)));clear q1 q2)
   go_ret
   exact⟨rfl,b,HR2,KF.out.1,rfl,rfl,K2.out.1,K2.out.2⟩
  ·have hq0:(rdBit l r).1=0:=by omega
   rw[hq0] at EB
   rw[decide_eq_false hq]
   clear hq hq1 hr1 hq0
   go_enter Tryz.func89,Tryz.ntmps89
   go_upto_region 1 with fail
   rw[← HW1.out]
   go_wp2_with (go_at_call 88;(with_reducible refine EB.out.mono ?_);rintro e w2 ⟨rfl,HR2,q1,q2⟩;have K2:=Lib.hid (And.intro q1 (DRP.out _ _ _ (Mv.call KF.out.2 q2)));clear q1 q2)
   go_ret
   exact⟨rfl,b,HR2,KF.out.1,rfl,rfl,K2.out.1,K2.out.2⟩
end
end Go.Proofs.YtjngfhgakokejaaGreat
