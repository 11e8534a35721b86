/- waveletref2: the writer's bytes. waveletref15's Encode, whole: its packet is the program's. The law's Make: the walk. The law's Make: whole. PacketEncodes: what Make's bands are. Plain. -/
import Derived.Test.YtjngfhgakokejaaGreatZp04
import Derived.Test.YtjngfhgakokejaaGreatZp03
import Derived.Test.YtjngfhgakokejaaGreatZp25
set_option maxRecDepth 100000
set_option maxHeartbeats 8000000
namespace Go.Proofs.YtjngfhgakokejaaGreat
section
open Go.RowKit
theorem last_cases {w:World} {v:Value} {l:List UInt8} {H:List HB} (h:RowB v l H) (hs:Sat w H) :
  (l=[]∧∃ a c,v=.slice a 0 c)∨(∃ g m c,l.length=m+1∧v=.slice (some ⟨g,0,none⟩) (m+1) c∧w.cell? ⟨g,m,none⟩=some (.int .u8 ((l.getLastD 0).toNat:Int))∧((l.getLast?=some 255)↔l.getLastD 0=255)):=by
 by_cases hl:l=[]
 ·subst hl
  obtain ⟨a,c,rfl⟩:=RowB.slice h
  exact .inl ⟨rfl,a,c,rfl⟩
 ·have h0:0<l.length:=List.length_pos_iff.2 hl
  obtain ⟨g,c,rfl,h1,-⟩:=h.last hs h0
  obtain ⟨m,hm⟩:∃ m,l.length=m+1:=⟨l.length - 1,by omega⟩
  rw [hm] at h1 ⊢
  refine .inr ⟨g,m,c,rfl,rfl,h1,?_⟩
  constructor
  ·intro e
   rw [List.getLastD_eq_getLast?,e]
   rfl
  ·intro e
   rw [getLast_255 e]
   trivial
def full (l:List UInt8):Bool:=decide (l.getLast?=some 255)
theorem rb_r3 (K:Act→World→Prop) (l:List UInt8) (v:Value) (w:World) (s0 s1 s2 s4 s5 s6 s7 s8 s9 s10 s11 s12 s13 s14 s15 s16 s17 s18 s19 s20 s21 s22 s23 s24 s25 s26 s27 s28 s29 s30 s31 s32 s33 s34 s35 s36 s37 s38 s39 s40 s41 s42 s43 s44 s45 s46 s47 s48 s49 s50 s51 s52:Value) (hl:l.length≤90000000)
  (LC:(l=[]∧∃ a c,v=.slice a 0 c)∨(∃ g m c,l.length=m+1∧v=.slice (some ⟨g,0,none⟩) (m+1) c∧w.cell? ⟨g,m,none⟩=some (.int .u8 ((l.getLastD 0).toNat:Int))∧((l.getLast?=some 255)↔l.getLastD 0=255)))
  (hK:∀ (t11 t12 t13 t14 t15 t16 t17 t18 t19 t20 t21:Value),K ⟨List.toArray (s0::s1::s2::v::s4::s5::s6::s7::s8::s9::s10::t11::t12::t13::t14::t15::t16::t17::t18::t19::t20::t21::(.bool (full l))::s23::s24::s25::s26::s27::s28::s29::s30::s31::s32::s33::s34::s35::s36::s37::s38::s39::s40::s41::s42::s43::s44::s45::s46::s47::s48::s49::s50::s51::s52::[]),[]⟩ w) :
  (regionOf 3 Tryz.f36).wp Tryz.prog (Exit.then K noQ) ⟨List.toArray (s0::s1::s2::v::s4::s5::s6::s7::s8::s9::s10::s11::s12::s13::s14::s15::s16::s17::s18::s19::s20::s21::s22::s23::s24::s25::s26::s27::s28::s29::s30::s31::s32::s33::s34::s35::s36::s37::s38::s39::s40::s41::s42::s43::s44::s45::s46::s47::s48::s49::s50::s51::s52::[]),[]⟩ w:=by
 conv in (regionOf _ _)=>whnf
 unfold noQ
 have HK:=Lib.hid hK
 clear hK
 rcases LC with ⟨h0,a,k,rfl⟩ | ⟨g,m,k,hm,rfl,hc,h255⟩
 ·have hf:full l=false:=by rw [h0];rfl
  rw [hf] at HK
  clear h0 hf hl
  go_wp2_with fail
  exact HK.out _ _ _ _ _ _ _ _ _ _ _
 ·have hmb:(m:Int)≤90000000:=by omega
  by_cases hx:l.getLastD 0=255
  ·have hf:full l=true:=decide_eq_true (h255.2 hx)
   rw [hf] at HK
   rw [hx] at hc
   have h25:((255:UInt8).toNat:Int)=255:=rfl
   rw [h25] at hc
   clear hx h255 hf hm hl h25
   go_wp2_with fail
   exact HK.out _ _ _ _ _ _ _ _ _ _ _
  ·have hf:full l=false:=decide_eq_false fun h=>hx (h255.1 h)
   rw [hf] at HK
   obtain ⟨x,hxx⟩:∃ x,l.getLastD 0=x:=⟨_,rfl⟩
   rw [hxx] at hc hx
   have d3:((x.toNat:Int) == 255)=false:=beq_eq_false_iff_ne.2 (fun h=>hx (UInt8.toNat_inj.1 (by show x.toNat=255;omega)))
   clear hx h255 hm hxx hf hl
   go_wp2_with fail
   exact HK.out _ _ _ _ _ _ _ _ _ _ _
theorem rb_r7 (K:Act→World→Prop) (l:List UInt8) (v:Value) (w:World) (s0 s1 s2 s4 s5 s6 s7 s8 s9 s10 s11 s12 s13 s14 s15 s16 s17 s18 s19 s20 s21 s22 s23 s24 s25 s26 s27 s28 s29 s30 s31 s32 s33 s34 s35 s36 s37 s38 s39 s40 s41 s42 s43 s44 s45 s46 s47 s48 s49 s50 s51 s52:Value) (hl:l.length≤90000000)
  (LC:(l=[]∧∃ a c,v=.slice a 0 c)∨(∃ g m c,l.length=m+1∧v=.slice (some ⟨g,0,none⟩) (m+1) c∧w.cell? ⟨g,m,none⟩=some (.int .u8 ((l.getLastD 0).toNat:Int))∧((l.getLast?=some 255)↔l.getLastD 0=255)))
  (hK:∀ (t37 t38 t39 t40 t41 t42 t43 t44 t45 t46 t47:Value),K ⟨List.toArray (s0::s1::s2::v::s4::s5::s6::s7::s8::s9::s10::s11::s12::s13::s14::s15::s16::s17::s18::s19::s20::s21::s22::s23::s24::s25::s26::s27::s28::s29::s30::s31::s32::s33::s34::s35::s36::t37::t38::t39::t40::t41::t42::t43::t44::t45::t46::t47::(.bool (full l))::s49::s50::s51::s52::[]),[]⟩ w) :
  (regionOf 7 Tryz.f36).wp Tryz.prog (Exit.then K noQ) ⟨List.toArray (s0::s1::s2::v::s4::s5::s6::s7::s8::s9::s10::s11::s12::s13::s14::s15::s16::s17::s18::s19::s20::s21::s22::s23::s24::s25::s26::s27::s28::s29::s30::s31::s32::s33::s34::s35::s36::s37::s38::s39::s40::s41::s42::s43::s44::s45::s46::s47::s48::s49::s50::s51::s52::[]),[]⟩ w:=by
 conv in (regionOf _ _)=>whnf
 unfold noQ
 have HK:=Lib.hid hK
 clear hK
 rcases LC with ⟨h0,a,k,rfl⟩ | ⟨g,m,k,hm,rfl,hc,h255⟩
 ·have hf:full l=false:=by rw [h0];rfl
  rw [hf] at HK
  clear h0 hf hl
  go_wp2_with fail
  exact HK.out _ _ _ _ _ _ _ _ _ _ _
 ·have hmb:(m:Int)≤90000000:=by omega
  by_cases hx:l.getLastD 0=255
  ·have hf:full l=true:=decide_eq_true (h255.2 hx)
   rw [hf] at HK
   rw [hx] at hc
   have h25:((255:UInt8).toNat:Int)=255:=rfl
   rw [h25] at hc
   clear hx h255 hf hm hl h25
   go_wp2_with fail
   exact HK.out _ _ _ _ _ _ _ _ _ _ _
  ·have hf:full l=false:=decide_eq_false fun h=>hx (h255.1 h)
   rw [hf] at HK
   obtain ⟨x,hxx⟩:∃ x,l.getLastD 0=x:=⟨_,rfl⟩
   rw [hxx] at hc hx
   have d3:((x.toNat:Int) == 255)=false:=beq_eq_false_iff_ne.2 (fun h=>hx (UInt8.toNat_inj.1 (by show x.toNat=255;omega)))
   clear hx h255 hm hxx hf hl
   go_wp2_with fail
   exact HK.out _ _ _ _ _ _ _ _ _ _ _
theorem rbytes_any (wb:Nat) (bs:List Bool) (w:World) (H:List HB) (h:RWrB wb bs H) (hs:Sat w H) (hl:bs.length≤70000000) :
  Calls Tryz.prog 36 #[.pointer (some ⟨wb,0,none⟩)] w fun e w'=>∃ v Hn,e=.returned v∧RowB v (wout (wbits bs)) Hn∧Mv w H w' (Hn++H):=by
 rw [wout_rout]
 obtain ⟨h1,h2,h3⟩:=rbits_inv bs
 unfold RWrB at h
 generalize rbits bs=s at *
 obtain ⟨l,c,f⟩:=s
 obtain ⟨v,Hr,rfl,hr⟩:=h
 simp only at hr h1 h2 h3 hs ⊢
 have hll:l.length≤70000000:=by omega
 obtain ⟨va,vc,rfl⟩:=RowB.slice hr
 have M0:=(Mv.refl hs).alloc 5 #[]
 obtain ⟨X,hX⟩:∃ X:HB,X=rwB wb (.slice va l.length vc) (c.toNat:Int) (f:Int):=⟨_,rfl⟩
 replace M0:Mv w (X::Hr) (w.alloc (.cells #[] 5)) ([⟨w.heap.size,5,#[]⟩]++(X::Hr)):=by rw [hX];exact M0
 have y0:w.cell? ⟨wb,0,none⟩=some (.slice va l.length vc):=(Mv.refl hs).cell 0 rfl 0
 have y0':(w.alloc (.cells #[] 5)).cell? ⟨wb,0,none⟩=some (.slice va l.length vc):=by
  have:=M0.cell 1 rfl 0
  rw [hX] at this
  exact this
 have R0:RowB (.slice (some ⟨w.heap.size,0,none⟩) 0 0) [] [⟨w.heap.size,5,#[]⟩]:=RowB.lit _ [] 0 rfl (by decide)
 have B0:=hr.bv (w:=w.alloc (.cells #[] 5)) (Sat.right (A:=[_,_]) M0.sat)
 have K0:=Lib.hid (And.intro R0 (And.intro M0 B0))
 have HX:=Lib.hid (And.intro hX hr)
 show Calls Tryz.prog _ _ w fun e w'=>∃ v Hn,e=.returned v∧RowB v (rout (l,c,f)) Hn∧Mv w (rwB wb (.slice va l.length vc) (c.toNat:Int) (f:Int)::Hr) w' (Hn++(rwB wb (.slice va l.length vc) (c.toNat:Int) (f:Int)::Hr))
 rw [← hX]
 clear R0 M0 B0 hX hr hs
 generalize hn:l.length=n at *
 have HL:Hid (([]:List UInt8).length+l.length≤100000000):=Lib.hid (by rw [hn,List.length_nil];omega)
 obtain ⟨wh,hwh⟩:∃ wh:Nat,(if l.getLast?=some 255 then 7 else 8)=wh:=⟨_,rfl⟩
 obtain ⟨b2,hb2⟩:∃ b2,(if f<wh then l++[c] else l)=b2:=⟨_,rfl⟩
 have hout:rout (l,c,f)=if b2.getLast?=some 255 then b2++[0] else b2:=by
  unfold rout
  simp only [hwh,hb2]
 rw [hout]
 obtain ⟨out,ho⟩:∃ out,(if b2.getLast?=some 255 then b2++[0] else b2)=out:=⟨_,rfl⟩
 rw [ho]
 have HWH:=Lib.hid hwh
 have HB2:=Lib.hid hb2
 have HO:=Lib.hid ho
 clear hwh hb2 ho hout
 go_enter Tryz.func36,Tryz.ntmps36
 go_upto_region 2 with (at_builtin;refine wpList_appB rfl (.tmp 5) (.tmp 9) rfl _ _ [] l _ rfl rfl K0.out.1 K0.out.2.1.sat.left K0.out.2.2 HL.out ?_;intro v1 w1 H1 hr1 m1;replace hr1:RowB v1 l H1:=hr1;have K1:=Lib.hid (And.intro hr1 (Mv.call K0.out.2.1 m1));clear hr1 m1)
 have M1:Mv w (X::Hr) w1 (H1++(X::Hr)):=K1.out.2
 have K2:=Lib.hid (And.intro K1.out.1 M1)
 clear K1 K0 y0 y0' HL M1
 obtain ⟨a1,k1,rfl⟩:=RowB.slice K2.out.1
 rw [hn] at K2 ⊢
 have LC:=last_cases K2.out.1 K2.out.2.sat.left
 have K3:=Lib.hid (And.intro hn hll)
 go_upto_region 3 with fail
 refine wp_piece (rb_r3 _ l _ w1 _ _ _ _ _ _ _ _ _ _ _ _ _ _ _ _ _ _ _ _ _ _ _ _ _ _ _ _ _ _ _ _ _ _ _ _ _ _ _ _ _ _ _ _ _ _ _ _ _ _ _ _ (by omega) LC ?_)
 rintro t11 t12 t13 t14 t15 t16 t17 t18 t19 t20 t21
 clear LC
 go_upto_if 22 with fail
 go_cut [4,22] from 23 (fun s4 _ wx=>s4=.int .i64 (wh:Int)∧wx=w1)
 case first =>
  cases hf:full l with
  | true =>
   have HW8:Hid (wh=7):=Lib.hid (by rw [← HWH.out,if_pos (of_decide_eq_true hf)])
   clear hf
   go_wp2_with fail
   go_meet
   exact ⟨by rw [HW8.out];rfl,rfl⟩
  | false =>
   have HW8:Hid (wh=8):=Lib.hid (by rw [← HWH.out,if_neg (of_decide_eq_false hf)])
   clear hf
   go_wp2_with fail
   go_meet
   exact ⟨by rw [HW8.out];rfl,rfl⟩
 case rest =>
  obtain ⟨rfl,rfl⟩:=hcut
  obtain ⟨w1,rfl⟩:∃ w1:World,w1=wc:=⟨_,rfl⟩
  have M1:=K2.out.2
  have c1:w1.cell? ⟨wb,1,none⟩=some (.int .i64 (c.toNat:Int)):=by
   have h:=M1.sat.right.at_ 0 (g:=wb) (t:=X.t) (cs:=X.cs) (by rw [HX.out.1];rfl)
   rw [HX.out.1] at h
   exact h.cell 1
  have c2:w1.cell? ⟨wb,2,none⟩=some (.int .i64 (f:Int)):=by
   have h:=M1.sat.right.at_ 0 (g:=wb) (t:=X.t) (cs:=X.cs) (by rw [HX.out.1];rfl)
   rw [HX.out.1] at h
   exact h.cell 2
  have hc256:=UInt8.toNat_lt c
  have hx8:IntKind.u8.wrap (c.toNat:Int)=(c.toNat:Int):=by rw [IntKind.wrap_u8];omega
  have P1:=M1.alloc 5 #[.int .u8 (c.toNat:Int)]
  have P2:Mv w (X::Hr) (w1.alloc (.cells #[.int .u8 (c.toNat:Int)] 5)) (H1++(⟨w1.heap.size,5,#[.int .u8 (c.toNat:Int)]⟩::(X::Hr))):=P1.sub (fun g=>by simp only [cnt_append,cnt_cons];omega) (fun c hc=>by simp only [List.mem_append,List.mem_cons] at hc ⊢;grind)
  have KP:=Lib.hid P2
  have HL2:Hid (l.length+[c].length≤100000000):=Lib.hid (by rw [hn,List.length_singleton];omega)
  have K2r:Hid (RowB (.slice a1 n k1) l H1):=Lib.hid K2.out.1
  have BO:Hid (BV (w1.alloc (.cells #[.int .u8 (c.toNat:Int)] 5)) (.slice (some ⟨w1.heap.size,0,none⟩) 1 1) [c]):=Lib.hid (bv_one w1 c _ rfl)
  clear M1 P1 P2 hc256 hn
  go_upto_if 28 with fail
  go_cut [3,28] from 29 (fun s3 _ wx=>∃ H2,RowB s3 b2 H2∧Mv w (X::Hr) wx (H2++(X::Hr)))
  case first =>
   by_cases hf:f<wh
   ·have d1:decide ((f:Int)<(wh:Int))=true:=decide_eq_true (by omega)
    have HB3:Hid (b2=l++[c]):=Lib.hid (by rw [← HB2.out,if_pos hf])
    go_wp2_with (at_builtin;refine wpList_appB rfl (.tmp 29) (.tmp 35) rfl _ _ l [c] _ rfl rfl K2r.out KP.out.sat.left BO.out HL2.out ?_;intro v6 w6 H6 hr6 m6;have K6:=Lib.hid (And.intro hr6 (Mv.call KP.out m6));clear hr6 m6)
    go_meet
    exact ⟨H6,by rw [HB3.out];exact K6.out.1,K6.out.2.sub (fun g=>by simp only [cnt_append,cnt_cons];omega) (fun c hc=>by simp only [List.mem_append,List.mem_cons] at hc ⊢;grind)⟩
   ·have d1:decide ((f:Int)<(wh:Int))=false:=decide_eq_false (by omega)
    have HB3:Hid (b2=l):=Lib.hid (by rw [← HB2.out,if_neg hf])
    go_wp2_with fail
    go_meet
    exact ⟨H1,by rw [HB3.out];exact K2r.out,K2.out.2⟩
  case rest =>
   obtain ⟨H2,hr2,m2⟩:=hcut
   have hb2l:b2.length≤80000000:=by
    have hn:=K3.out.1
    rw [← HB2.out]
    split
    ·simp only [List.length_append,List.length_singleton]
     omega
    ·omega
   have LC2:=last_cases hr2 m2.sat.left
   have K4:=Lib.hid (And.intro hr2 m2)
   clear hr2 m2 c1 c2 KP BO K2 K2r HL2 K3
   go_upto_region 7 with fail
   refine wp_piece (rb_r7 _ b2 _ wc _ _ _ _ _ _ _ _ _ _ _ _ _ _ _ _ _ _ _ _ _ _ _ _ _ _ _ _ _ _ _ _ _ _ _ _ _ _ _ _ _ _ _ _ _ _ _ _ _ _ _ _ (by omega) LC2 ?_)
   rintro t37 t38 t39 t40 t41 t42 t43 t44 t45 t46 t47
   clear LC2
   have P2:Mv w (X::Hr) (wc.alloc (.cells #[.int .u8 ((0:UInt8).toNat:Int)] 5)) (H2++(⟨wc.heap.size,5,#[.int .u8 ((0:UInt8).toNat:Int)]⟩::(X::Hr))):=(K4.out.2.alloc 5 #[.int .u8 ((0:UInt8).toNat:Int)]).sub (fun g=>by simp only [cnt_append,cnt_cons];omega) (fun c hc=>by simp only [List.mem_append,List.mem_cons] at hc ⊢;grind)
   have BO2:=bv_one wc 0 _ rfl
   have hz:((0:UInt8).toNat:Int)=0:=rfl
   rw [hz] at P2 BO2
   have KP:=Lib.hid P2
   have BO:=Lib.hid BO2
   have HL2:Hid (b2.length+[(0:UInt8)].length≤100000000):=Lib.hid (by rw [List.length_singleton];omega)
   clear P2 BO2 hz
   go_upto_if 48 with fail
   go_cut [3,48] from 49 (fun s3 _ wx=>∃ H3,RowB s3 out H3∧Mv w (X::Hr) wx (H3++(X::Hr)))
   case first =>
    cases hf:full b2 with
    | true =>
     have HO2:Hid (out=b2++[0]):=Lib.hid (by rw [← HO.out,if_pos (of_decide_eq_true hf)])
     clear hf
     go_wp2_with (at_builtin;refine wpList_appB rfl (.tmp 49) (.tmp 50) rfl _ _ b2 [0] _ rfl rfl K4.out.1 KP.out.sat.left BO.out HL2.out ?_;intro v6 w6 H6 hr6 m6;have K6:=Lib.hid (And.intro hr6 (Mv.call KP.out m6));clear hr6 m6)
     go_meet
     exact ⟨H6,by rw [HO2.out];exact K6.out.1,K6.out.2.sub (fun g=>by simp only [cnt_append,cnt_cons];omega) (fun c hc=>by simp only [List.mem_append,List.mem_cons] at hc ⊢;grind)⟩
    | false =>
     have HO2:Hid (out=b2):=Lib.hid (by rw [← HO.out,if_neg (of_decide_eq_false hf)])
     clear hf
     go_wp2_with fail
     go_meet
     exact ⟨H2,by rw [HO2.out];exact K4.out.1,K4.out.2⟩
   case rest =>
    obtain ⟨H3,hr3,m3⟩:=hcut
    have K5:=Lib.hid (And.intro hr3 m3)
    clear hr3 m3 KP BO K4
    go_wp2_with fail
    go_ret
    first
     | exact ⟨_,H3,rfl,K5.out.1,K5.out.2⟩
     | exact ⟨_,rfl,H3,K5.out.1,K5.out.2⟩
end
section
open Go.RowKit
theorem rbandA_of {b:Nat} {m:BandM} {H:List HB} (h:RBandP b m H):RBandA b m H:=.inl h
theorem renc_any (A:Option Addr) (c n style count layer:Nat) (Bs:List Nat) (D:List BandA) (M:Nat→BandM) (HL HB0:List HB) (W:World) (hL:RListH (.slice A n c) Bs HL) (hB:RBandsQ RBandA Bs D M HB0) (hs:Sat W (HL++HB0)) (hn:D.length=n) (hn3:n≤1000) (hnd:(D.map (·.bb)).Nodup) (hdn:∀ d∈D,(M d.bb).ss.length=d.n)
  (hc:1≤count∧count≤100) (hl:layer≤99) (hsty:style≤63) (hsp:(spotsOf D).length≤90) (hsd:SaidInv count layer D [] M) (hbo:∀ d∈D,BothB (M d.bb)) :
  Calls Tryz.prog 11 #[.slice A n c,.int .i64 (style:Int),.int .i64 (count:Int),.int .i64 (layer:Int)] W fun e W'=>∃ v1 v2 H1 H2 HB',e=.returned (.tuple #[v1,v2])∧RowB v1 (wout (wbits (encS count style layer D M).bits)) H1∧RowB v2 (encS count style layer D M).body H2 ∧
   RBandsQ RBandP Bs D (encS count style layer D M).M HB'∧Mv W (HL++HB0) W' (H1++(H2++(HL++HB'))):=by
 have M0:=Mv.refl hs
 obtain ⟨M1,hM1⟩:∃ M1,(spotsOf D).foldl (encM count) M=M1:=⟨_,rfl⟩
 have hpl:∀ d∈D,M1 d.bb=plantE count (M d.bb):=by rw [← hM1];exact (encM_fold count D M hnd hdn).1
 have hsd1:SaidInv count layer D [] M1:=by
  intro d hd k s hs
  rw [← hM1,encM_ss] at hs
  exact hsd d hd k s hs
 have hdn1:∀ d∈D,(M1 d.bb).ss.length=d.n:=fun d hd=>by rw [← hM1,encM_ss];exact hdn d hd
 have hbo1:∀ d∈D,BothB (M1 d.bb):=by rw [← hM1];exact encM_both count D _ M (fun x hx=>(mem_spots hx).1) hbo
 obtain ⟨mo,hmo⟩:∃ mo,moreM count layer M (spotsOf D)=mo:=⟨_,rfl⟩
 have hS:encS count style layer D M=if mo=true then (spotsOf D).foldl (stepE count style layer) ⟨M1,[true],[]⟩ else ⟨M1,[false],[]⟩:=by unfold encS;rw [hmo,hM1]
 obtain ⟨H0,hH0⟩:∃ H0,HL++HB0=H0:=⟨_,rfl⟩
 rw [hH0] at M0 ⊢
 have KI:=Lib.hid (And.intro hL (And.intro hB (And.intro hn (And.intro hnd (And.intro hdn (And.intro hsd (And.intro hpl (And.intro hS hmo))))))))
 have KE:Hid (EncI count layer style D ⟨M1,[true],[]⟩ [] ⟨M1,[true],[]⟩):=Lib.hid ⟨rfl,hsd1,hdn1,hbo1,by simp,by simp⟩
 have KM:Hid (Mv W H0 W (HL++(HB0++[]))):=Lib.hid (by rw [List.append_nil,hH0];exact M0)
 have NW:=Lib.hid (rnew_writer W)
 clear hL hB hs hn hnd hdn hsd hbo hM1 hpl hsd1 hdn1 hbo1 hmo hS hH0 M0
 go_enter Tryz.func11,Tryz.ntmps11
 go_upto_block 0 with (go_at_call 32;refine NW.out.mono ?_;rintro e w1 ⟨wb,HW,rfl,q1,q2⟩;have q3:Mv W H0 w1 (HW++(HL++(HB0++[]))):=Mv.call (H:=[]) KM.out q2;have K1:=Lib.hid (And.intro q1 q3);clear q1 q2 q3)
 have M2:Mv W H0 w1 (HL++(HB0++HW)):=K1.out.2.sub (fun g=>by simp only [cnt_append,cnt_nil];omega) (fun x hx=>by simp only [List.mem_append,List.not_mem_nil,or_false] at hx ⊢;grind)
 refine wp_piece (renc_b0 _ A c n count layer Bs D M M1 HL HB0 HW H0 W w1 _ _ _ _ _ _ _ _ _ _ _ _ _ _ _ _ _ _ _ _ _ _ _ _ _ _ _ _ _ _ _ _ _ _ _ _ _ _ _ _ _ _ _ _ _ _ _ _ _ _ _ _ _ _ _ _ _ _ _ _ _ _ _ _ _ _ _ _ _ _ _ _ _ _ _ _ _ _ _ _ _ _ _ _ _ _ _ _ _ _ _ _ _ _ _ _ _ _ _ _ _ _ _ _ _ _ _ _ _ _ _ _ _ _ _ _ _ _ _ _ _ _ _ _ _ _ _ _ _ _ _ _ _ _ _ _ _ _ _ _ _ _ _ _ _ _ _ _ _ _ _ _ _ _ _ _ _ _ _ _ _ _ _ _ _ _ _ KI.out.1 KI.out.2.1 M2 KI.out.2.2.1 hn3 KI.out.2.2.2.2.2.2.1 KI.out.2.2.2.2.1 hc hl KI.out.2.2.2.2.2.1 ?_)
 rintro _ _ _ _ _ _ _ _ _ _ _ _ _ _ _ _ _ _ _ _ _ _ _ _ _ _ _ _ _ _ _ _ _ _ _ _ _ _ _ _ _ _ _ _ _ _ _ _ _ _ HB1 w2 r1 r2
 rw [KI.out.2.2.2.2.2.2.2.2]
 have M3:Mv W H0 w2 (HW++(HL++HB1)):=r2.sub (fun g=>by simp only [cnt_append];omega) (fun x hx=>by simp only [List.mem_append] at hx ⊢;grind)
 have K2:=Lib.hid (And.intro r1 M3)
 have B0:=Lib.hid (rbit_bs wb [] 0 w2 HW K1.out.1 M3.sat.left (by simp))
 have B1:=Lib.hid (rbit_bs wb [] 1 w2 HW K1.out.1 M3.sat.left (by simp))
 clear r1 r2 M2 M3
 cases mo with
 | false =>
  have ES:=KI.out.2.2.2.2.2.2.2.1
  rw [if_neg (by simp)] at ES
  replace ES:=Lib.hid ES
  go_upto_region 14 with (go_at_call 35;refine B0.out.mono ?_;rintro e w3 ⟨rfl,HW3,q1,q2⟩;have K3:=Lib.hid (And.intro q1 (Mv.call K2.out.2 q2));clear q1 q2)
  have BY:=Lib.hid (rbytes_any wb _ w3 HW3 K3.out.1 K3.out.2.sat.left (by simp))
  go_wp2_with (go_at_call 36;refine BY.out.mono ?_;rintro e w4 ⟨v4,H4,rfl,q1,q2⟩;have K4:=Lib.hid (And.intro q1 (Mv.call K3.out.2 q2));clear q1 q2)
  go_ret2
  have M5:Mv W H0 w4 (H4++([]++(HL++HB1))):=K4.out.2.sub (fun g=>by simp only [cnt_append,cnt_nil];omega) (fun x hx=>by simp only [List.mem_append,List.not_mem_nil,false_or] at hx ⊢;grind)
  rw [ES.out]
  first
   | exact ⟨v4,.slice none 0 0,H4,[],HB1,rfl,K4.out.1,RowH.nil _ _,K2.out.1,M5⟩
   | exact ⟨v4,.slice none 0 0,rfl,H4,K4.out.1,[],RowH.nil _ _,HB1,K2.out.1,M5⟩
 | true =>
  have ES:=KI.out.2.2.2.2.2.2.2.1
  rw [if_pos rfl] at ES
  replace ES:=Lib.hid ES
  go_upto_block 4 with (go_at_call 35;refine B1.out.mono ?_;rintro e w3 ⟨rfl,HW3,q1,q2⟩;have K3:=Lib.hid (And.intro q1 (Mv.call K2.out.2 q2));clear q1 q2)
  have M4:Mv W H0 w3 (HW3++([]++(HL++(HB1++[])))):=by simpa using K3.out.2
  refine wp_piece (renc_b4 _ A c n wb style count layer Bs D ⟨M1,[true],[]⟩ (.slice none 0 0) HL HW3 [] HB1 [] H0 W w3 _ _ _ _ _ _ _ _ _ _ _ _ _ _ _ _ _ _ _ _ _ _ _ _ _ _ _ _ _ _ _ _ _ _ _ _ _ _ _ _ _ _ _ _ _ _ _ _ _ _ _ _ _ _ _ _ _ _ _ _ _ _ _ _ _ _ _ _ _ _ _ _ _ _ _ _ _ _ _ _ _ _ _ _ _ _ _ _ _ _ _ _ _ _ _ _ _ _ _ _ _ _ _ _ _ _ _ _ _ _ _ _ _ _ _ _ _ _ _ _ _ _ _ _ _ _ _ _ _ _ _ _ _ _ _ _ _ _ _ _ _ _ _ _ _ _ _ _ _ _ _ _ _ _ _ _ _ _ _ _ _ _ _ _ _ KI.out.1 K2.out.1 K3.out.1 (RowH.nil _ _) M4 KI.out.2.2.1 hn3 KI.out.2.2.2.1 KE.out hc hl hsty hsp ?_)
  rintro t16 _ _ _ _ _ _ _ _ _ _ _ _ _ _ _ _ _ _ _ _ _ _ _ _ _ _ _ _ _ _ _ _ _ _ _ _ _ _ _ _ _ _ _ _ _ _ _ _ _ _ _ _ _ _ _ _ _ _ _ _ _ _ _ _ _ _ _ _ _ _ _ _ _ _ _ _ _ _ _ _ _ _ _ _ _ _ _ _ _ _ _ _ _ _ _ _ _ _ _ _ HW5 HY5 HB5 w5 r1 r2 r3 r4 r5
  have M6:Mv W H0 w5 (HW5++(HY5++(HL++HB5))):=by simpa using r5
  have hb6:=r1.bits
  have BY:=Lib.hid (rbytes_any wb _ w5 HW5 r2 M6.sat.left (by omega))
  have K5:=Lib.hid (And.intro r3 (And.intro r4 M6))
  clear r1 r2 r3 r4 r5 M6 hb6 M4
  go_wp2_with (go_at_call 36;refine BY.out.mono ?_;rintro e w6 ⟨v6,H6,rfl,q1,q2⟩;have K6:=Lib.hid (And.intro q1 (Mv.call K5.out.2.2 q2));clear q1 q2)
  go_ret2
  have M7:Mv W H0 w6 (H6++(HY5++(HL++HB5))):=K6.out.2.sub (fun g=>by simp only [cnt_append];omega) (fun x hx=>by simp only [List.mem_append] at hx ⊢;grind)
  rw [ES.out]
  first
   | exact ⟨v6,t16,H6,HY5,HB5,rfl,K6.out.1,K5.out.1,K5.out.2.1,M7⟩
   | exact ⟨v6,t16,rfl,H6,K6.out.1,HY5,K5.out.1,HB5,K5.out.2.1,M7⟩
end
section
open Go.RowKit
section
variable {w0 W:World} {xb:Nat} {P:Int} {pv:Value} {ba:Option Addr} {bn bc:Nat} {ps:List (Int × Bool)} {bs:List UInt8} {Hp Hb:List HB}
theorem mk_add (hb:RowB (.slice ba bn bc) bs Hb) (hpl : -1000≤P∧P≤1000) (hn:ps.length≤1000) (hm:bs.length≤10000000) (he:∀ p∈ps,0≤p.1∧p.1≤100000000) {d:BandA} {m:BandM} {HA H1 HC:List HB} {vp:Value} (r1:RowP vp ps H1) (hB:BandR d m HA) (k:Int) (hsd:(stOf m k).said=0)
  (M:Mv w0 [] W (H1++((HA++HC)++noneX xb P pv (.slice ba bn bc) Hp Hb))) :
  Calls Tryz.prog 19 #[.pointer (some ⟨d.bb,0,none⟩),.int .i64 k,.agg #[.int .i64 P,vp,.slice ba bn bc]] W fun e w'=>e=.returned (.tuple #[])∧∃ HA',BandR d (addM m k P ps bs) HA'∧Mv w0 [] w' (HA'++(HC++noneX xb P pv (.slice ba bn bc) Hp Hb)):=by
 have sX:Sat W (noneX xb P pv (.slice ba bn bc) Hp Hb):=M.sat.right.right
 have sB:Sat W Hb:=Sat.right (A:=[_]++Hp) (by simpa [noneX] using sX)
 have M2:Mv w0 [] W (HA++(HC++noneX xb P pv (.slice ba bn bc) Hp Hb)):=by
  have:=M.drop
  rwa [List.append_assoc] at this
 refine (add_any d m HA W hB M2.sat.left k P vp (.slice ba bn bc) ps bs (r1.pv M.sat.left) (hb.bv sB) hpl hn hm he (by rw [hsd];omega)).mono ?_
 rintro e w' ⟨rfl,HA',h1,h2⟩
 exact ⟨rfl,HA',h1,Mv.call M2 h2⟩
end
theorem mk_r6 (K:Act→World→Prop) (n c i b o sw sh:Nat) (x y:Int) (w:World) (s1 s2 s3 s4 s5 s6 s7 s8 s9 s10 s11 s13 s14 s15 s16 s17 s18 s19 s20 s21 s22 s23 s24 s25 s26 s27 s28 s29 s30 s31 s32 s33 s34 s35 s36 s37 s38 s39 s40 s41 s42 s43 s44 s45 s46 s47 s48 s49 s50 s51 s52 s53 s54 s55 s56 s57 s58 s59 s60 s61 s62 s63 s64 s65 s66 s67 s68 s69 s70 s71 s72 s73 s74 s75 s76 s77 s78 s79 s80 s81 s82 s83 s84 s85 s86 s87 s88 s89 s90 s91 s92 s93 s94 s95 s96 s97 s98 s99 s100 s101 s102 s103 s104 s105 s106 s107 s108 s109 s110 s111 s112 s113 s114 s115 s116 s117 s118 s119 s120 s121 s122 s123 s124 s125 s126 s127 s128 s129 s130 s131 s132 s133:Value) (hi:i<n) (_hn:n≤3)
  (e0:w.cell? ⟨b,o+i * 5,none⟩=some (.int .i64 x)) (e1:w.cell? ⟨b,o+i * 5+1,none⟩=some (.int .i64 y))
  (W1:Hid (∀ V,Calls Tryz.prog 8 #[.int .i64 x,.int .i64 4] V fun e w'=>e=.returned (.int .i64 (sw:Int))∧w'=V)) (W2:Hid (∀ V,Calls Tryz.prog 8 #[.int .i64 y,.int .i64 4] V fun e w'=>e=.returned (.int .i64 (sh:Int))∧w'=V))
  (hK:∀ (t28 t29 t30 t31 t32 t33 t34 t35 t36 t37 t38 t39:Value),K ⟨List.toArray ((.slice (some ⟨b,o,none⟩) n c)::s1::s2::s3::s4::s5::s6::s7::s8::s9::s10::s11::(.int .i64 (i:Int))::(.int .i64 (sw:Int))::(.int .i64 (sh:Int))::s15::s16::s17::s18::s19::s20::s21::s22::s23::s24::s25::s26::s27::t28::t29::t30::t31::t32::t33::t34::t35::t36::t37::t38::t39::s40::s41::s42::s43::s44::s45::s46::s47::s48::s49::s50::s51::s52::s53::s54::s55::s56::s57::s58::s59::s60::s61::s62::s63::s64::s65::s66::s67::s68::s69::s70::s71::s72::s73::s74::s75::s76::s77::s78::s79::s80::s81::s82::s83::s84::s85::s86::s87::s88::s89::s90::s91::s92::s93::s94::s95::s96::s97::s98::s99::s100::s101::s102::s103::s104::s105::s106::s107::s108::s109::s110::s111::s112::s113::s114::s115::s116::s117::s118::s119::s120::s121::s122::s123::s124::s125::s126::s127::s128::s129::s130::s131::s132::s133::[]),[]⟩ w.drew) :
  (regionOf 6 Tryz.f9).wp Tryz.prog (Exit.then K noQ) ⟨List.toArray ((.slice (some ⟨b,o,none⟩) n c)::s1::s2::s3::s4::s5::s6::s7::s8::s9::s10::s11::(.int .i64 (i:Int))::s13::s14::s15::s16::s17::s18::s19::s20::s21::s22::s23::s24::s25::s26::s27::s28::s29::s30::s31::s32::s33::s34::s35::s36::s37::s38::s39::s40::s41::s42::s43::s44::s45::s46::s47::s48::s49::s50::s51::s52::s53::s54::s55::s56::s57::s58::s59::s60::s61::s62::s63::s64::s65::s66::s67::s68::s69::s70::s71::s72::s73::s74::s75::s76::s77::s78::s79::s80::s81::s82::s83::s84::s85::s86::s87::s88::s89::s90::s91::s92::s93::s94::s95::s96::s97::s98::s99::s100::s101::s102::s103::s104::s105::s106::s107::s108::s109::s110::s111::s112::s113::s114::s115::s116::s117::s118::s119::s120::s121::s122::s123::s124::s125::s126::s127::s128::s129::s130::s131::s132::s133::[]),[]⟩ w:=by
 conv in (regionOf _ _)=>whnf
 unfold noQ
 have HK:=Lib.hid hK
 clear hK
 go_region_law (first
  | (go_simp;go_at_call 8;(with_reducible refine (W1.out _).mono ?_);rintro e w' ⟨rfl,rfl⟩)
  | (go_simp;go_at_call 8;(with_reducible refine (W2.out _).mono ?_);rintro e w' ⟨rfl,rfl⟩))
 all_goals exact HK.out _ _ _ _ _ _ _ _ _ _ _ _
theorem mk_r14 (K:Act→World→Prop) (n c i b o k L pb po pc q nk:Nat) (x:Int) (w:World) (s1 s2 s3 s4 s5 s6 s7 s8 s9 s10 s11 s13 s14 s15 s16 s17 s19 s20 s21 s22 s23 s24 s25 s26 s27 s28 s29 s30 s31 s32 s33 s34 s35 s36 s37 s38 s39 s40 s41 s42 s43 s44 s45 s46 s47 s48 s49 s50 s51 s52 s53 s54 s55 s56 s57 s58 s59 s60 s61 s62 s63 s64 s65 s66 s67 s68 s69 s70 s71 s72 s73 s74 s75 s76 s77 s78 s79 s80 s81 s82 s83 s84 s85 s86 s87 s88 s89 s90 s91 s92 s93 s94 s95 s96 s97 s98 s99 s100 s101 s102 s103 s104 s105 s106 s107 s108 s109 s110 s111 s112 s113 s114 s115 s116 s117 s118 s119 s120 s121 s122 s123 s124 s125 s126 s127 s128 s129 s130 s131 s132 s133:Value) (hi:i<n) (_hn:n≤3) (_hk:k≤100) (hq:q<L) (_hL2:L≤9223372036854775807)
  (e0:w.cell? ⟨b,o+i * 5+3,none⟩=some (.slice (some ⟨pb,po,none⟩) L pc)) (e1:w.cell? ⟨pb,po+q,none⟩=some (.int .i64 x)) (E1:Int.tmod (k:Int) (L:Int)=(q:Int))
  (W1:Hid (∀ V,Calls Tryz.prog 8 #[.int .i64 x,.int .i64 13] V fun e w'=>e=.returned (.int .i64 (nk:Int))∧w'=V))
  (hK:∀ (t69 t70 t71 t72 t73 t74 t75 t76 t77 t78 t79 t80 t81 t82 t83 t84:Value),K ⟨List.toArray ((.slice (some ⟨b,o,none⟩) n c)::s1::s2::s3::s4::s5::s6::s7::s8::s9::s10::s11::(.int .i64 (i:Int))::s13::s14::s15::s16::s17::(.int .i64 (k:Int))::(.int .i64 (nk:Int))::s20::s21::s22::s23::s24::s25::s26::s27::s28::s29::s30::s31::s32::s33::s34::s35::s36::s37::s38::s39::s40::s41::s42::s43::s44::s45::s46::s47::s48::s49::s50::s51::s52::s53::s54::s55::s56::s57::s58::s59::s60::s61::s62::s63::s64::s65::s66::s67::s68::t69::t70::t71::t72::t73::t74::t75::t76::t77::t78::t79::t80::t81::t82::t83::t84::s85::s86::s87::s88::s89::s90::s91::s92::s93::s94::s95::s96::s97::s98::s99::s100::s101::s102::s103::s104::s105::s106::s107::s108::s109::s110::s111::s112::s113::s114::s115::s116::s117::s118::s119::s120::s121::s122::s123::s124::s125::s126::s127::s128::s129::s130::s131::s132::s133::[]),[]⟩ w.drew) :
  (regionOf 14 Tryz.f9).wp Tryz.prog (Exit.then K noQ) ⟨List.toArray ((.slice (some ⟨b,o,none⟩) n c)::s1::s2::s3::s4::s5::s6::s7::s8::s9::s10::s11::(.int .i64 (i:Int))::s13::s14::s15::s16::s17::(.int .i64 (k:Int))::s19::s20::s21::s22::s23::s24::s25::s26::s27::s28::s29::s30::s31::s32::s33::s34::s35::s36::s37::s38::s39::s40::s41::s42::s43::s44::s45::s46::s47::s48::s49::s50::s51::s52::s53::s54::s55::s56::s57::s58::s59::s60::s61::s62::s63::s64::s65::s66::s67::s68::s69::s70::s71::s72::s73::s74::s75::s76::s77::s78::s79::s80::s81::s82::s83::s84::s85::s86::s87::s88::s89::s90::s91::s92::s93::s94::s95::s96::s97::s98::s99::s100::s101::s102::s103::s104::s105::s106::s107::s108::s109::s110::s111::s112::s113::s114::s115::s116::s117::s118::s119::s120::s121::s122::s123::s124::s125::s126::s127::s128::s129::s130::s131::s132::s133::[]),[]⟩ w:=by
 conv in (regionOf _ _)=>whnf
 unfold noQ
 have HK:=Lib.hid hK
 clear hK
 have hL1:¬ L=0:=by omega
 go_region_law (go_simp;go_at_call 8;(with_reducible refine (W1.out _).mono ?_);rintro e w' ⟨rfl,rfl⟩)
 all_goals exact HK.out _ _ _ _ _ _ _ _ _ _ _ _ _ _ _ _
theorem mk_enc (i style nk:Nat) (ns:List Int) (hs:style≤63) (hn:nk≤12) (V:World) (g:Nat) (hB:Blk V g 3 (rowI g (valsM nk ns)).cs) :
  Calls Tryz.prog 17 #[.int .i64 3,.int .i64 5,.int .i64 ((i:Int) % 4),.int .i64 (style:Int),.slice (some ⟨g,0,none⟩) 15 15] V fun e w'=>∃ pa np pc ba nb bc Hp Hb,e=.returned (.tuple #[.agg #[.int .i64 ((encodeM (geoV (i % 4) style (valsM nk ns))).planes:Int),.slice pa np pc,.slice ba nb bc],.int .i64 0]) ∧
   (encodeM (geoV (i % 4) style (valsM nk ns))).passes.length=np∧(encodeM (geoV (i % 4) style (valsM nk ns))).bytes.length=nb∧RowQ (.slice pa np pc) (encodeM (geoV (i % 4) style (valsM nk ns))).passes Hp∧RowB (.slice ba nb bc) (encodeM (geoV (i % 4) style (valsM nk ns))).bytes Hb∧Mv V [] w' (Hp++Hb):=by
 have E:=encode_any (geoV (i % 4) style (valsM nk ns)) (valsM nk ns) g 15 V (geoV_ok (i % 4) style nk ns (by omega) hs hn) rfl rfl (fun j m hj=>by
  rw [hB.cell j]
  simp only [rowI,List.getElem?_toArray,List.getElem?_map,hj,Option.map_some]) hB.lt
 rw [valsM_length] at E
 have e1:(((geoV (i % 4) style (valsM nk ns)).band:Nat):Int)=(i:Int) % 4:=by show ((i % 4:Nat):Int)=_;push_cast;rfl
 rw [e1] at E
 refine Calls.mono (show Calls Tryz.prog 17 #[.int .i64 3,.int .i64 5,.int .i64 ((i:Int) % 4),.int .i64 (style:Int),.slice (some ⟨g,0,none⟩) 15 15] V _ from E) ?_
 rintro e w' ⟨pv,bv,Hp,Hb,rfl,rp,rb,m⟩
 obtain ⟨pa,pc,rfl⟩:=rp.slice
 obtain ⟨ba,bc,rfl⟩:=RowB.slice rb
 exact ⟨pa,_,pc,ba,_,bc,Hp,Hb,rfl,rfl,rfl,rp,rb,m⟩
theorem mk_b3 (K:Act→World→Prop) (n c i b o k style rb nk:Nat) (d:BandA) (s:ShapeM) (vp vn:Value) (HA HC R:List HB) (W w:World) (s2 s3 s4 s5 s6 s7 s8 s9 s10 s11 s13 s14 s15 s19 s20 s21 s22 s23 s24 s25 s26 s27 s28 s29 s30 s31 s32 s33 s34 s35 s36 s37 s38 s39 s40 s41 s42 s43 s44 s45 s46 s47 s48 s49 s50 s51 s52 s53 s54 s55 s56 s57 s58 s59 s60 s61 s62 s63 s64 s65 s66 s67 s68 s69 s70 s71 s72 s73 s74 s75 s76 s77 s78 s79 s80 s81 s82 s83 s84 s85 s86 s87 s88 s89 s90 s91 s92 s93 s94 s95 s96 s97 s98 s99 s100 s101 s102 s103 s104 s105 s106 s107 s108 s109 s110 s111 s112 s113 s114 s115 s116 s117 s118 s119 s120 s121 s122 s123 s124 s125 s126 s127 s128 s129 s130 s131 s132 s133:Value) (hi:i<n) (hn:n≤3) (hs:style≤63) (hk:k<s.W * s.H) (hk9:k≤9)
  (q3:W.cell? ⟨b,o+i * 5+3,none⟩=some vp) (q4:W.cell? ⟨b,o+i * 5+4,none⟩=some vn) (hlb:b<W.heap.size) (r1:RdI W vp s.planes) (r2:RdI W vn s.ns)
  (hBA:BandR d (s.band i style k) HA) (hBC:RBandR rb (s.band i style k) false false HC) (m:Mv W [] w (HA++(HC++R))) (hnk:s.n k=nk)
  (hK:∀ (t19 t20 t21 t62 t63 t64 t65 t66 t67 t68 t69 t70 t71 t72 t73 t74 t75 t76 t77 t78 t79 t80 t81 t82 t83 t84 t85 t86 t87 t88 t89 t90 t91 t92 t93 t94 t95 t96 t97 t98 t99 t100 t101 t102 t103 t104 t105 t106 t107:Value) (wx:World) (HA' HC':List HB),BandR d (s.band i style (k+1)) HA'→RBandR rb (s.band i style (k+1)) false false HC'→Mv W [] wx (HA'++(HC'++R))→K ⟨List.toArray ((.slice (some ⟨b,o,none⟩) n c)::(.int .i64 (style:Int))::s2::s3::s4::s5::s6::s7::s8::s9::s10::s11::(.int .i64 (i:Int))::s13::s14::s15::(.pointer (some ⟨d.bb,0,none⟩))::(.pointer (some ⟨rb,0,none⟩))::(.int .i64 (k:Int))::t19::t20::t21::s22::s23::s24::s25::s26::s27::s28::s29::s30::s31::s32::s33::s34::s35::s36::s37::s38::s39::s40::s41::s42::s43::s44::s45::s46::s47::s48::s49::s50::s51::s52::s53::s54::s55::s56::s57::s58::s59::s60::s61::t62::t63::t64::t65::t66::t67::t68::t69::t70::t71::t72::t73::t74::t75::t76::t77::t78::t79::t80::t81::t82::t83::t84::t85::t86::t87::t88::t89::t90::t91::t92::t93::t94::t95::t96::t97::t98::t99::t100::t101::t102::t103::t104::t105::t106::t107::s108::s109::s110::s111::s112::s113::s114::s115::s116::s117::s118::s119::s120::s121::s122::s123::s124::s125::s126::s127::s128::s129::s130::s131::s132::s133::[]),[]⟩ wx) :
  (blockOf 3 Tryz.f9).wp Tryz.prog (Exit.then K noQ) ⟨List.toArray ((.slice (some ⟨b,o,none⟩) n c)::(.int .i64 (style:Int))::s2::s3::s4::s5::s6::s7::s8::s9::s10::s11::(.int .i64 (i:Int))::s13::s14::s15::(.pointer (some ⟨d.bb,0,none⟩))::(.pointer (some ⟨rb,0,none⟩))::(.int .i64 (k:Int))::s19::s20::s21::s22::s23::s24::s25::s26::s27::s28::s29::s30::s31::s32::s33::s34::s35::s36::s37::s38::s39::s40::s41::s42::s43::s44::s45::s46::s47::s48::s49::s50::s51::s52::s53::s54::s55::s56::s57::s58::s59::s60::s61::s62::s63::s64::s65::s66::s67::s68::s69::s70::s71::s72::s73::s74::s75::s76::s77::s78::s79::s80::s81::s82::s83::s84::s85::s86::s87::s88::s89::s90::s91::s92::s93::s94::s95::s96::s97::s98::s99::s100::s101::s102::s103::s104::s105::s106::s107::s108::s109::s110::s111::s112::s113::s114::s115::s116::s117::s118::s119::s120::s121::s122::s123::s124::s125::s126::s127::s128::s129::s130::s131::s132::s133::[]),[]⟩ w:=by
 conv in (blockOf _ _)=>whnf
 unfold noQ
 have HK:=Lib.hid hK
 clear hK
 replace q3:=Lib.hid q3
 replace q4:=Lib.hid q4
 have e3:=m.old q3.out hlb
 have e4:=m.old q4.out hlb
 obtain ⟨pA,pc,hvp,hp1,hp2,hp3⟩:=r1
 obtain ⟨L,hL⟩:∃ L,s.planes.length=L:=⟨_,rfl⟩
 rw [hL] at hvp hp1
 subst hvp
 have hnk12:nk≤12:=by rw [← hnk];exact s.n_le k
 have hL2:L≤9223372036854775807:=by unfold maxLen at hp2;omega
 have PF:Hid (0<L→∃ pb po q x,pA=some ⟨pb,po,none⟩∧q<L∧k % L=q∧W.cell? ⟨pb,po+q,none⟩=some (.int .i64 x)∧wIn x 13=nk):=Lib.hid (by
  intro h0
  have hq:=Nat.mod_lt k h0
  obtain ⟨x,hx⟩:∃ x,s.planes[k % L]?=some x:=⟨_,List.getElem?_eq_getElem (by rw [hL];exact hq)⟩
  obtain ⟨pb,po,e,hc⟩:=hp3 _ x hx
  refine ⟨pb,po,_,x,e,hq,rfl,hc,?_⟩
  rw [← hnk]
  unfold ShapeM.n
  rw [hL,if_neg (by omega),List.getD_eq_getElem?_getD,hx]
  rfl)
 have PZ:Hid (L=0→nk=0):=Lib.hid (by
  intro h0
  rw [← hnk]
  unfold ShapeM.n
  rw [hL,if_pos h0])
 have KM:=Lib.hid (And.intro hBA (And.intro hBC m))
 have HNK:=Lib.hid hnk
 have KH:=Lib.hid hk
 clear hp1 hp2 hp3 hL hBA hBC m hnk hk
 go_upto_if 68 with fail
 go_cut [18,19,68] from 69 to 107 (fun s18 s19 _ wx=>s18=.int .i64 (k:Int)∧s19=.int .i64 (nk:Int)∧Mv W [] wx (HA++(HC++R)))
 case first =>
  by_cases h0:0<L
  ·have d3:decide (0<(L:Int))=true:=by simp;omega
   obtain ⟨pb,po,q,x,rfl,hq,hkq,hc,hnk⟩:=PF.out h0
   have hc2:=KM.out.2.2.old hc (World.block_lt_of_cell? W _ hc)
   have E1:Int.tmod (k:Int) (L:Int)=(q:Int):=by
    rw [Int.tmod_eq_emod_of_nonneg (by omega),← hkq]
    push_cast
    rfl
   have W1:=Lib.hid fun V=>within15W x 13 V (by decide) (by decide)
   rw [hnk] at W1
   simp only [Int.cast_ofNat_Int] at W1
   clear hkq hc hnk
   go_upto_region 14 with fail
   refine wp_piece (mk_r14 _ n c i b o k L pb po pc q nk x _ _ _ _ _ _ _ _ _ _ _ _ _ _ _ _ _ _ _ _ _ _ _ _ _ _ _ _ _ _ _ _ _ _ _ _ _ _ _ _ _ _ _ _ _ _ _ _ _ _ _ _ _ _ _ _ _ _ _ _ _ _ _ _ _ _ _ _ _ _ _ _ _ _ _ _ _ _ _ _ _ _ _ _ _ _ _ _ _ _ _ _ _ _ _ _ _ _ _ _ _ _ _ _ _ _ _ _ _ _ _ _ _ _ _ _ _ _ _ _ _ _ _ _ _ _ _ _ _ _ _ _ hi hn (by omega) hq hL2 e3 hc2 E1 W1 ?_)
   rintro t69 t70 t71 t72 t73 t74 t75 t76 t77 t78 t79 t80 t81 t82 t83 t84
   go_wp2_with fail
   go_meet
   exact ⟨rfl,rfl,KM.out.2.2.drew⟩
  ·have d3:decide (0<(L:Int))=false:=by simp;omega
   have hnk:=PZ.out (by omega)
   subst hnk
   go_wp2_with fail
   go_meet
   exact ⟨rfl,rfl,KM.out.2.2⟩
 case rest =>
  obtain ⟨rfl,rfl,mc⟩:=hcut
  have e4:=mc.old q4.out hlb
  have KC:=Lib.hid mc
  have VAL:Hid (∀ V,Mv W [] V (HA++(HC++R))→Calls Tryz.prog 18 #[.int .i64 3,.int .i64 5,.int .i64 (nk:Int),vn] V fun e W'=>∃ g,e=.returned (.slice (some ⟨g,0,none⟩) 15 15)∧Mv W [] W' (rowI g (valsM nk s.ns)::(HA++(HC++R)))):=Lib.hid (fun V mV=>by
   refine (values_any nk hnk12 s.ns vn V (r2.keep mV.below0)).mono ?_
   rintro e W' ⟨g,rfl,m1⟩
   exact ⟨g,rfl,Mv.call (H:=[]) mV m1⟩)
  have BE:=geoV_bounds (i % 4) style nk s.ns hnk12
  have EBL:Hid (s.blk i style k=encodeM (geoV (i % 4) style (valsM nk s.ns))):=Lib.hid (by unfold ShapeM.blk;rw [HNK.out])
  have ENC0:=fun V g hB=>mk_enc i style nk s.ns hs hnk12 V g hB
  obtain ⟨E,hE⟩:∃ E,encodeM (geoV (i % 4) style (valsM nk s.ns))=E:=⟨_,rfl⟩
  simp only [hE] at ENC0 BE EBL
  clear hE
  have ENC:Hid (∀ V g,Mv W [] V (rowI g (valsM nk s.ns)::(HA++(HC++R)))→Calls Tryz.prog 17 #[.int .i64 3,.int .i64 5,.int .i64 ((i:Int) % 4),.int .i64 (style:Int),.slice (some ⟨g,0,none⟩) 15 15] V fun e w'=>∃ pa np pc ba nb bc Hp Hb,e=.returned (.tuple #[.agg #[.int .i64 (E.planes:Int),.slice pa np pc,.slice ba nb bc],.int .i64 0]) ∧
    E.passes.length=np∧E.bytes.length=nb∧RowQ (.slice pa np pc) E.passes Hp∧RowB (.slice ba nb bc) E.bytes Hb∧Mv W [] w' ((Hp++Hb)++(HA++(HC++R)))):=Lib.hid (fun V g mV=>by
   refine (ENC0 V g (mV.blk 0 rfl)).mono ?_
   rintro e w' ⟨pa,np,pc,ba,nb,bc,Hp,Hb,rfl,h1,h2,h3,h4,h5⟩
   exact ⟨pa,np,pc,ba,nb,bc,Hp,Hb,rfl,h1,h2,h3,h4,Mv.call (H:=[]) mV.drop1 h5⟩)
  obtain ⟨P,ps,bs⟩:=E
  simp only at ENC BE EBL
  obtain ⟨hP,hnp,hnb,he⟩:=BE
  clear ENC0 mc PF PZ r2
  go_upto_region 16 with (first
   | (go_at_call 18;(with_reducible refine (VAL.out _ KC.out).mono ?_);rintro e w1 ⟨g,rfl,m1⟩;have K1:=Lib.hid m1;clear m1)
   | (go_at_call 17;(with_reducible refine (ENC.out _ _ K1.out).mono ?_);rintro e w4 ⟨pa,np,pc,ba,nb,bc,Hp,Hb,rfl,l1,l2,rp,rq,m4⟩;have K4:=Lib.hid (And.intro l1 (And.intro l2 (And.intro rp (And.intro rq m4))));clear l1 l2 rp rq m4))
  have l1:=K4.out.1
  have l2:=K4.out.2.1
  have rp:=K4.out.2.2.1
  have rq:=K4.out.2.2.2.1
  have M5:=K4.out.2.2.2.2.alloc 51 #[.int .i64 (P:Int),.slice pa np pc,.slice ba nb bc]
  obtain ⟨xb,hxb⟩:∃ xb,w4.heap.size=xb:=⟨_,rfl⟩
  rw [hxb] at M5 ⊢
  obtain ⟨w5,hw5⟩:∃ w5,w5=w4.alloc (.cells #[.int .i64 (P:Int),.slice pa np pc,.slice ba nb bc] 51):=⟨_,rfl⟩
  rw [← hw5] at M5 ⊢
  have M6:Mv W [] w5 ((HA++(HC++R))++noneX xb (P:Int) (.slice pa np pc) (.slice ba nb bc) Hp Hb):=M5.sub (fun g=>by simp only [noneX,blQ,cnt_append,cnt_cons];omega) (fun c hc=>by simp only [noneX,blQ,List.mem_append,List.mem_cons] at hc ⊢;grind)
  obtain ⟨s1,s2',s3',s4',s5',s6',s7',s8',-⟩:=s.band_ss i style k (by have:=KH.out;omega)
  have hnew:=s2' k (Nat.le_refl _) KH.out
  have hst:=stOf_in hnew
  have hsd:(stOf (s.band i style k) (k:Int)).said=0:=by rw [hst];rfl
  have hWH:=s.lt
  have hWH2:s.W * s.H≤3 * 3:=Nat.mul_le_mul (show s.W≤3 by omega) (show s.H≤3 by omega)
  have OFC:=Lib.hid (fun (V:World) (m:Mv W [] V ((HA++(HC++R))++noneX xb (P:Int) (.slice pa np pc) (.slice ba nb bc) Hp Hb))=>none_of rp (by omega) m)
  have BND:Hid (s.band i style (k+1)=addM (s.band i style k) (k:Int) (P:Int) ps bs):=Lib.hid (by
   show addM _ _ _ _ _=_
   rw [EBL.out])
  have ADC:=Lib.hid (fun (V:World) (H1:List YtjngfhgakokejaaGreat.HB) (vp:Value) (r1:RowP vp ps H1) (M:Mv W [] V (H1++((HA++(HC++R))++noneX xb (P:Int) (.slice pa np pc) (.slice ba nb bc) Hp Hb)))=>mk_add (P:=(P:Int)) rq (by omega) (by omega) (by omega) (fun p hp=>by have:=he p hp;omega) r1 KM.out.1 (k:Int) hsd M)
  have RAD:Hid (∀ (V:World) (HA':List YtjngfhgakokejaaGreat.HB),Mv W [] V (HA'++((HC++R)++noneX xb (P:Int) (.slice pa np pc) (.slice ba nb bc) Hp Hb))→Calls Tryz.prog 21 #[.pointer (some ⟨rb,0,none⟩),.int .i64 (k:Int),.agg #[.int .i64 (P:Int),.slice pa np pc,.slice ba nb bc]] V fun e w'=>e=.returned (.tuple #[])∧∃ HC',RBandR rb (addM (s.band i style k) (k:Int) (P:Int) ps bs) false false HC'∧Mv W [] w' (HA'++(HC'++R))):=Lib.hid (by
   intro V HA' mV
   have m1:Mv W [] V ((HC++(Hp++Hb))++(HA'++R)):=mV.sub (fun g=>by simp only [noneX,cnt_append,cnt_cons];omega) (fun c hc=>by simp only [noneX,List.mem_append,List.mem_cons] at hc ⊢;grind)
   refine (radd_any rb (s.band i style k) false false HC Hp Hb V KM.out.2.1 m1.sat.left k (by rw [s1];exact KH.out) (by rw [s1];omega) (P:Int) (.slice pa np pc) ba nb bc ps bs rp rq (by omega) (by omega) (by omega) (fun p hp=>by have:=he p hp;omega) (by rw [hsd];omega)).mono ?_
   rintro e w' ⟨rfl,HC',h1,h2⟩
   refine ⟨rfl,HC',h1,(Mv.call m1 h2).sub (fun g=>by simp only [cnt_append];omega) (fun c hc=>by simp only [List.mem_append] at hc ⊢;grind)⟩)
  have XC:Hid (∀ V H,Mv W [] V (H++noneX xb (P:Int) (.slice pa np pc) (.slice ba nb bc) Hp Hb)→V.cell? ⟨xb,0,none⟩=some (.int .i64 (P:Int))∧V.cell? ⟨xb,1,none⟩=some (.slice pa np pc)∧V.cell? ⟨xb,2,none⟩=some (.slice ba nb bc)):=Lib.hid (fun V H m=>noneX_cells m)
  obtain ⟨x0,x1,x2⟩:=noneX_cells M6
  have K6:=Lib.hid M6
  clear M5 M6 hw5 hxb l1 l2 rp rq K4 he hnew hst hsd s1 s2' s3' s4' s5' s6' s7' s8' hWH hWH2 K1 VAL ENC e3 e4 hnp hnb
  go_upto_region 17 with (first
   | (go_at_call 20;(with_reducible refine (OFC.out _ K6.out).mono ?_);rintro e w6 ⟨vp',H1,rfl,r1,m6⟩;have K7:=Lib.hid (And.intro r1 m6);clear r1 m6)
   | (go_at_call 19;(with_reducible refine (ADC.out _ _ _ K7.out.1 K7.out.2).mono ?_);rintro e w7 ⟨rfl,HA',h7,m7⟩;have K8:=Lib.hid (And.intro h7 m7);clear h7 m7))
  clear x0 x1 x2 K7 K6
  have M8:=K8.out.2
  rw [← List.append_assoc] at M8
  obtain ⟨x0,x1,x2⟩:=XC.out _ _ M8
  clear M8
  go_wp2_with (go_at_call 21;(with_reducible refine (RAD.out _ _ K8.out.2).mono ?_);rintro e w9 ⟨rfl,HC',h9,m9⟩;have K9:=Lib.hid (And.intro h9 m9);clear h9 m9)
  exact HK.out _ _ _ _ _ _ _ _ _ _ _ _ _ _ _ _ _ _ _ _ _ _ _ _ _ _ _ _ _ _ _ _ _ _ _ _ _ _ _ _ _ _ _ _ _ _ _ _ _ _ HA' HC' (by rw [BND.out];exact K8.out.1) (by rw [BND.out];exact K9.out.1) K9.out.2
end
section
open Go.RowKit
theorem results_tmp4 {fn:Func} {t u v x:Tmp} (h:fn.results=#[.tmp t,.tmp u,.tmp v,.tmp x]) (tmps:Array Value) (P:Program) (w:World) :
  (results fn tmps).run P w=.ok (.tuple #[tmps.getD t undef,tmps.getD u undef,tmps.getD v undef,tmps.getD x undef]) w:=by
 simp [results,h]
section
variable {W w:World} {H1 X:List HB} {T:TypeId} {cs:Array Value} {g:Nat}
theorem mk_push (m:Mv W [] w (H1++X)) (T:TypeId) (cs:Array Value):Mv W [] (w.alloc (.cells cs T)) (H1++(⟨w.heap.size,T,cs⟩::X)) :=
 (m.alloc T cs).sub (fun g=>by simp only [cnt_append,cnt_cons];omega) (fun c hc=>by simp only [List.mem_append,List.mem_cons] at hc ⊢;grind)
theorem mk_pop (m:Mv W [] w (H1++(⟨g,T,cs⟩::X))):Mv W [] w (H1++X) :=
 m.sub (fun g=>by simp only [cnt_append,cnt_cons];omega) (fun c hc=>by simp only [List.mem_append,List.mem_cons] at hc ⊢;grind)
theorem mk_sh1 {A B H1 H2 H3 H4 B1 B2 B3 B4:List HB} (m:Mv W [] w (A++(B++(H1++(H2++(H3++(H4++(B1++(B2++(B3++B4)))))))))):Mv W [] w (H1++(H2++(H3++(H4++((B1++(B2++(B3++B4)))++(A++B)))))) :=
 m.sub (fun g=>by simp only [cnt_append];omega) (fun c hc=>by
  simp only [List.mem_append,or_assoc] at hc ⊢
  rcases hc with h | h | h | h | h | h | h | h | h | h <;> simp only [h,true_or,or_true])
theorem mk_sh2 {H9 N H6 H3 H4 Z:List HB} (m:Mv W [] w (H9++(N++(H6++(H3++(H4++Z)))))):Mv W [] w (H3++(H4++(H9++(N++(H6++Z))))) :=
 m.sub (fun g=>by simp only [cnt_append];omega) (fun c hc=>by
  simp only [List.mem_append] at hc ⊢
  rcases hc with h | h | h | h | h | h <;> simp only [h,true_or,or_true])
theorem mk_sh3 {H12 HQ H10 H9 N H6 A B B1 B2 B3 B4:List HB} (m:Mv W [] w (H12++(HQ++(H10++(H9++(N++(H6++((B1++(B2++(B3++B4)))++(A++B))))))))):Mv W [] w (H6++(H9++(H10++(H12++((B1++A)++((B2++N)++((B3++B)++(B4++HQ)))))))) :=
 m.sub (fun g=>by simp only [cnt_append];omega) (fun c hc=>by
  simp only [List.mem_append,or_assoc] at hc ⊢
  rcases hc with h | h | h | h | h | h | h | h | h | h | h | h <;> simp only [h,true_or,or_true])
theorem ptr_one (b:Nat):∀ u∈(#[Value.pointer (some ⟨b,0,none⟩)]:Array Value).toList,u.oneCell'=true:=by
 intro u hu
 simp only [List.mem_singleton] at hu
 subst hu
 rfl
end
theorem make_any (l:List ShapeM) (style:Nat) (v:Value) (W:World) (hv:RdS W v l) (hl:l.length≤3) (hs:style≤63) :
  Calls Tryz.prog 9 #[v,.int .i64 (style:Int)] W fun e W'=>∃ va vb vc vd G,e=.returned (.tuple #[va,vb,vc,vd])∧MkG.ok G l style l.length va vb vc vd∧Mv W [] W' G.heap:=by
 obtain ⟨A,c,rfl,hv1,hv2,hv3⟩:=hv
 obtain ⟨n,hn⟩:∃ n,l.length=n:=⟨_,rfl⟩
 have HV:=Lib.hid (And.intro hn hv3)
 rw [hn] at hv1 hl ⊢
 clear hv3 hn
 go_enter Tryz.func9,Tryz.ntmps9
 go_wp2_with fail
 go_loopg [8,9,10,11,12] n (fun mm s8 s9 s10 s11 s12 wx=>∃ (i:Nat) (G:MkG),i≤n∧mm=n - i∧s12=.int .i64 (i:Int)∧G.ok l style i s8 s9 s10 s11∧Mv W [] wx G.heap)
 case atStart=>exact ⟨0,⟨[],[],[],[],[],[],[],[],[],[],[],[]⟩,Nat.zero_le _,rfl,rfl,⟨RowH.nil _ _,RowH.nil _ _,RowH.nil _ _,RowH.nil _ _,rfl,rfl,rfl,rfl,rfl,rfl,rfl,rfl⟩,Mv.refl (Sat.nil _)⟩
 case round =>
  obtain ⟨i,G,hi,rfl,rfl,hG,m⟩:=hrel
  by_cases hlti:i<n
  ·have d1:decide ((i:Int)<(n:Int))=true:=by simp;omega
   obtain ⟨s,hsi⟩:∃ s,l[i]?=some s:=⟨_,List.getElem?_eq_getElem (by rw [HV.out.1];exact hlti)⟩
   obtain ⟨b,o,vp,vn,rfl,c0,c1,c2,c3,c4,r1,r2⟩:=HV.out.2 i s hsi
   have hlb:b<W.heap.size:=World.block_lt_of_cell? W _ c0
   have e0:=m.old c0 hlb
   have e1:=m.old c1 hlb
   have e2:=m.old c2 hlb
   have W1:=Lib.hid fun V=>within15W s.w 4 V (by decide) (by decide)
   have W2:=Lib.hid fun V=>within15W s.h 4 V (by decide) (by decide)
   have W3:=Lib.hid fun V=>within15W s.spare 4 V (by decide) (by decide)
   simp only [Int.cast_ofNat_Int] at W1 W2 W3
   have hs4:=s.lt
   obtain ⟨sw,hsw⟩:∃ sw,s.W=sw:=⟨_,rfl⟩
   obtain ⟨sh,hsh⟩:∃ sh,s.H=sh:=⟨_,rfl⟩
   obtain ⟨sm,hsm⟩:∃ sm,wIn s.spare 4=sm:=⟨_,rfl⟩
   have hsm2:s.most=12+sm:=by unfold ShapeM.most;rw [hsm]
   rw [hsw,hsh,hsm2] at hs4
   rw [show wIn s.w 4=sw from hsw] at W1
   rw [show wIn s.h 4=sh from hsh] at W2
   rw [hsm] at W3
   obtain ⟨R,hR⟩:∃ R,G.heap=R:=⟨_,rfl⟩
   rw [hR] at m
   have KM:=Lib.hid (And.intro hG m)
   have KR:=Lib.hid hR
   have HS:=Lib.hid (And.intro hsi (And.intro hsw (And.intro hsh hsm2)))
   have RD:=Lib.hid (And.intro c3 (And.intro c4 (And.intro r1 r2)))
   obtain ⟨hsw4,hsh4,-,hsm4⟩:=hs4
   clear hR hG m hsi hsw hsh hsm hsm2 c0 c1 c2 c3 c4 r1 r2
   go_upto_region 6 with fail
   refine wp_piece (mk_r6 _ n c i b o sw sh s.w s.h wr _ _ _ _ _ _ _ _ _ _ _ _ _ _ _ _ _ _ _ _ _ _ _ _ _ _ _ _ _ _ _ _ _ _ _ _ _ _ _ _ _ _ _ _ _ _ _ _ _ _ _ _ _ _ _ _ _ _ _ _ _ _ _ _ _ _ _ _ _ _ _ _ _ _ _ _ _ _ _ _ _ _ _ _ _ _ _ _ _ _ _ _ _ _ _ _ _ _ _ _ _ _ _ _ _ _ _ _ _ _ _ _ _ _ _ _ _ _ _ _ _ _ _ _ _ _ _ _ _ _ _ _ hlti hl e0 e1 W1 W2 ?_)
   rintro t28 t29 t30 t31 t32 t33 t34 t35 t36 t37 t38 t39
   clear W1 W2
   go_upto_region 8 with (go_at_call 8;(with_reducible refine (W3.out _).mono ?_);rintro e w' ⟨rfl,rfl⟩)
   have NB:Hid (∀ V,Calls Tryz.prog 15 #[.int .i64 (sw:Int),.int .i64 (sh:Int),.int .i64 (12+(sm:Int))] V fun e W'=>∃ d H,e=.returned (.pointer (some ⟨d.bb,0,none⟩))∧BandR d s.new H∧Mv V [] W' H):=Lib.hid (fun V=>by
    refine (band_new sw sh (12+(sm:Int)) V (by omega) (by omega) (by omega)).mono ?_
    rintro e W' ⟨d,H,rfl,-,h2,h3⟩
    refine ⟨d,H,rfl,?_,h3⟩
    unfold ShapeM.new
    rw [HS.out.2.1,HS.out.2.2.1,HS.out.2.2.2,show ((12+sm:Nat):Int)=12+(sm:Int) by omega]
    exact h2)
   have RNB:Hid (∀ V,Calls Tryz.prog 16 #[.int .i64 (sw:Int),.int .i64 (sh:Int),.int .i64 (12+(sm:Int))] V fun e W'=>∃ bb H,e=.returned (.pointer (some ⟨bb,0,none⟩))∧RBandR bb s.new false false H∧Mv V [] W' H):=Lib.hid (fun V=>by
    refine (rband_new sw sh (12+(sm:Int)) V (by omega) (by omega) (by omega)).mono ?_
    rintro e W' ⟨d,H,rfl,h2,h3⟩
    refine ⟨d,H,rfl,?_,h3⟩
    unfold ShapeM.new
    rw [HS.out.2.1,HS.out.2.2.1,HS.out.2.2.2,show ((12+sm:Nat):Int)=12+(sm:Int) by omega]
    exact h2)
   clear W3 e0 e1 e2
   go_upto_region 9 with (first
    | (go_at_call 15;(with_reducible refine (NB.out _).mono ?_);rintro e w1 ⟨d,HA,rfl,q1,q2⟩;have K1:=Lib.hid (And.intro q1 (Mv.call (H:=[]) (Mv.drew KM.out.2) q2));clear q1 q2)
    | (go_at_call 16;(with_reducible refine (RNB.out _).mono ?_);rintro e w2 ⟨rb,HC,rfl,q1,q2⟩;have K2:=Lib.hid (And.intro q1 (Mv.call (H:=[]) K1.out.2 q2));clear q1 q2))
   have M2:Mv W [] w2 (HA++(HC++R)):=(show Mv W [] w2 (HC++(HA++R)) from K2.out.2).sub (fun g=>by simp only [cnt_append];omega) (fun c hc=>by simp only [List.mem_append] at hc ⊢;grind)
   have K3:Hid (BandR d (s.band i style 0) HA∧RBandR rb (s.band i style 0) false false HC∧Mv W [] w2 (HA++(HC++R))):=Lib.hid ⟨K1.out.1,K2.out.1,M2⟩
   have KG:=Lib.hid (And.intro KM.out.1 KR.out)
   obtain ⟨nn,hnn⟩:∃ nn,sw * sh=nn:=⟨_,rfl⟩
   have hn9:sw * sh≤3 * 3:=Nat.mul_le_mul (by omega) (by omega)
   have hn9':nn≤9:=by omega
   have b1:(sw:Int) * (sh:Int)≤9:=by exact_mod_cast hn9
   have b2:0≤(sw:Int) * (sh:Int):=by exact_mod_cast Nat.zero_le (sw * sh)
   have HN:=Lib.hid hnn
   clear K1 K2 M2 KM KR hnn hn9
   go_wp2_with fail
   go_loopg [18] nn (fun mm s18 wx=>∃ (k:Nat) (HA' HC':List YtjngfhgakokejaaGreat.HB),k≤nn∧mm=nn - k∧s18=.int .i64 (k:Int)∧BandR d (s.band i style k) HA'∧RBandR rb (s.band i style k) false false HC'∧Mv W [] wx (HA'++(HC'++R)))
   case atStart=>exact ⟨0,HA,HC,Nat.zero_le _,rfl,rfl,K3.out.1,K3.out.2.1,K3.out.2.2⟩
   case round =>
    clear K3
    obtain ⟨k,HA1,HC1,hk,rfl,rfl,hBA,hBC,m⟩:=hrel
    by_cases hlt:k<nn
    ·have d2:decide ((k:Int)<(sw:Int) * (sh:Int))=true:=decide_eq_true (by have:=HN.out;exact_mod_cast (by omega:k<sw * sh))
     have KA:=Lib.hid (And.intro hBA (And.intro hBC m))
     clear hBA hBC m
     go_upto_block 3 with fail
     refine wp_piece (mk_b3 _ n c i b o k style rb (s.n k) d s vp vn HA1 HC1 R W _ _ _ _ _ _ _ _ _ _ _ _ _ _ _ _ _ _ _ _ _ _ _ _ _ _ _ _ _ _ _ _ _ _ _ _ _ _ _ _ _ _ _ _ _ _ _ _ _ _ _ _ _ _ _ _ _ _ _ _ _ _ _ _ _ _ _ _ _ _ _ _ _ _ _ _ _ _ _ _ _ _ _ _ _ _ _ _ _ _ _ _ _ _ _ _ _ _ _ _ _ _ _ _ _ _ _ _ _ _ _ _ _ _ _ _ _ _ _ _ _ _ _ _ _ _ _ _ _ hlti hl hs (by rw [HS.out.2.1,HS.out.2.2.1,HN.out];exact hlt) (by omega) RD.out.1 RD.out.2.1 hlb RD.out.2.2.1 RD.out.2.2.2 KA.out.1 KA.out.2.1 KA.out.2.2 rfl ?_)
     rintro t19 t20 t21 t62 t63 t64 t65 t66 t67 t68 t69 t70 t71 t72 t73 t74 t75 t76 t77 t78 t79 t80 t81 t82 t83 t84 t85 t86 t87 t88 t89 t90 t91 t92 t93 t94 t95 t96 t97 t98 t99 t100 t101 t102 t103 t104 t105 t106 t107 wx HA' HC' h1 h2 h3
     have KB:=Lib.hid (And.intro h1 (And.intro h2 h3))
     clear h1 h2 h3 KA
     go_wp2_with fail
     go_roundg (nn - (k+1))
     case measure=>omega
     case rel=>exact ⟨k+1,HA',HC',hlt,rfl,by push_cast;rfl,KB.out.1,KB.out.2.1,KB.out.2.2⟩
    ·have d2:decide ((k:Int)<(sw:Int) * (sh:Int))=false:=decide_eq_false (by intro h;have h2:=HN.out;have h3:k<sw * sh:=(by exact_mod_cast h);omega)
     obtain rfl:k=nn:=by omega
     have KA:=Lib.hid (And.intro hBA (And.intro hBC m))
     clear hBA hBC m
     obtain ⟨n1,n2,n3,n4⟩:=KG.out.1.lens (by rw [HV.out.1];omega)
     have R8:RowH 43 1 u8 i ((G.La.map (·.1)).map fun d=>.pointer (some ⟨d.bb,0,none⟩)) G.H1:=by have h:=KG.out.1.ra;unfold ListH at h;rwa [List.length_map,n1] at h
     have R9:RowH 43 1 u9 i ((G.Lb.map (·.1)).map fun d=>.pointer (some ⟨d.bb,0,none⟩)) G.H2:=by have h:=KG.out.1.rb;unfold ListH at h;rwa [List.length_map,n2] at h
     have R10:RowH 47 1 u10 i ((G.Lc.map (·.1)).map fun b=>.pointer (some ⟨b,0,none⟩)) G.H3:=by have h:=KG.out.1.rc;unfold RListH at h;rwa [List.length_map,n3] at h
     have R11:RowH 47 1 u11 i ((G.Ld.map (·.1)).map fun b=>.pointer (some ⟨b,0,none⟩)) G.H4:=by have h:=KG.out.1.rd;unfold RListH at h;rwa [List.length_map,n4] at h
     obtain ⟨a8,c8,rfl⟩:=R8.slice
     obtain ⟨a9,c9,rfl⟩:=R9.slice
     obtain ⟨a10,c10,rfl⟩:=R10.slice
     obtain ⟨a11,c11,rfl⟩:=R11.slice
     obtain ⟨Z,hZ⟩:∃ Z,(G.B1++(G.B2++(G.B3++G.B4)))++(HA1++HC1)=Z:=⟨_,rfl⟩
     have M1:Mv W [] wr (G.H1++(G.H2++(G.H3++(G.H4++Z)))):=by
      rw [← hZ]
      refine mk_sh1 ?_
      have h:=KA.out.2.2
      rw [← KG.out.2] at h
      exact h
     have P8:=Lib.hid (mk_push M1 43 #[.pointer (some ⟨d.bb,0,none⟩)])
     have RR:=Lib.hid (And.intro R8 (And.intro R9 (And.intro R10 R11)))
     have HZ:=Lib.hid hZ
     have KB:=Lib.hid (And.intro KA.out.1 KA.out.2.1)
     clear M1 R8 R9 R10 R11 hZ KA n1 n2 n3 n4
     go_upto_region 19 with (first
      | (at_builtin;refine wpList_appR Tryz.underlying26 infoPb rfl (by decide) (by decide) rfl (.tmp 108) (.tmp 110) rfl (.slice a8 i c8) rfl rfl RR.out.1 P8.out.sat.left (reads_new rfl rfl) ?one8 ?len8 ?nxt8;(case one8=>exact ptr_one d.bb);(case len8=>omega);intro v6 w6 H6 h6 m6;obtain ⟨a6,c6,rfl⟩:=h6.slice;have K6:=Lib.hid (And.intro h6 (mk_pop (Mv.call P8.out m6)));clear h6 m6)
      | (go_at_call 15;(with_reducible refine (NB.out _).mono ?_);rintro e w7 ⟨d2,HN2,rfl,q1,q2⟩;have K7:=Lib.hid (And.intro q1 (mk_push (Mv.mv2 (Mv.call (H:=[]) K6.out.2 q2)) 43 #[.pointer (some ⟨d2.bb,0,none⟩)]));clear q1 q2)
      | (at_builtin;refine wpList_appR Tryz.underlying26 infoPb rfl (by decide) (by decide) rfl (.tmp 112) (.tmp 117) rfl (.slice a9 i c9) rfl rfl RR.out.2.1 K7.out.2.sat.left (reads_new rfl rfl) ?one9 ?len9 ?nxt9;(case one9=>exact ptr_one d2.bb);(case len9=>omega);intro v9 w9 H9 h9 m9;obtain ⟨a9,c9,rfl⟩:=h9.slice;have K9:=Lib.hid (And.intro h9 (mk_pop (Mv.call K7.out.2 m9)));clear h9 m9))
     have M9:Mv W [] w9 (G.H3++(G.H4++(H9++(HN2++(H6++Z))))):=mk_sh2 K9.out.2
     have P10:=Lib.hid (mk_push M9 47 #[.pointer (some ⟨rb,0,none⟩)])
     have K9r:=Lib.hid (And.intro K6.out.1 (And.intro K7.out.1 K9.out.1))
     clear M9 P8 K6 K7 K9
     go_upto_region 5 with (first
      | (at_builtin;refine wpList_appR Tryz.underlying27 infoRb rfl (by decide) (by decide) rfl (.tmp 119) (.tmp 121) rfl (.slice a10 i c10) rfl rfl RR.out.2.2.1 P10.out.sat.left (reads_new rfl rfl) ?one10 ?len10 ?nxt10;(case one10=>exact ptr_one rb);(case len10=>omega);intro v10 w10 H10 h10 m10;obtain ⟨a10,c10,rfl⟩:=h10.slice;have K10:=Lib.hid (And.intro h10 (mk_pop (Mv.call P10.out m10)));clear h10 m10)
      | (go_at_call 16;(with_reducible refine (RNB.out _).mono ?_);rintro e w11 ⟨rq,HQ,rfl,q1,q2⟩;have K11:=Lib.hid (And.intro q1 (mk_push (Mv.mv2 (Mv.call (H:=[]) K10.out.2 q2)) 47 #[.pointer (some ⟨rq,0,none⟩)]));clear q1 q2)
      | (at_builtin;refine wpList_appR Tryz.underlying27 infoRb rfl (by decide) (by decide) rfl (.tmp 123) (.tmp 128) rfl (.slice a11 i c11) rfl rfl RR.out.2.2.2 K11.out.2.sat.left (reads_new rfl rfl) ?one12 ?len12 ?nxt12;(case one12=>exact ptr_one rq);(case len12=>omega);intro v12 w12 H12 h12 m12;obtain ⟨a12,c12,rfl⟩:=h12.slice;have K12:=Lib.hid (And.intro h12 (mk_pop (Mv.call K11.out.2 m12)));clear h12 m12))
     have G2:Hid (∃ G':MkG,G'.ok l style (i+1) (.slice a6 (i+1) c6) (.slice a9 (i+1) c9) (.slice a10 (i+1) c10) (.slice a12 (i+1) c12)∧Mv W [] w12 G'.heap):=Lib.hid (by
      obtain ⟨n1,n2,n3,n4⟩:=KG.out.1.lens (by rw [HV.out.1];omega)
      have hsi:=HS.out.1
      have hks:k=s.W * s.H:=by rw [HS.out.2.1,HS.out.2.2.1];exact HN.out.symm
      have m:=K12.out.2
      rw [← HZ.out] at m
      refine ⟨⟨G.La++[(d,s.band i style k)],G.Lb++[(d2,s.new)],G.Lc++[(rb,s.band i style k)],G.Ld++[(rq,s.new)],H6,H9,H10,H12,G.B1++HA1,G.B2++HN2,G.B3++HC1,G.B4++HQ⟩,⟨?_,?_,?_,?_,KG.out.1.ba.snoc KB.out.1,KG.out.1.bb.snoc K9r.out.2.1,KG.out.1.bc.snoc KB.out.2,KG.out.1.bd.snoc K11.out.1,?_,?_,?_,?_⟩,mk_sh3 m⟩
      ·have h:=K9r.out.1
       unfold ListH
       simp only [List.map_append,List.map_cons,List.map_nil,List.length_append,List.length_map,List.length_cons,List.length_nil,n1,Nat.zero_add]
       exact h
      ·have h:=K9r.out.2.2
       unfold ListH
       simp only [List.map_append,List.map_cons,List.map_nil,List.length_append,List.length_map,List.length_cons,List.length_nil,n2,Nat.zero_add]
       exact h
      ·have h:=K10.out.1
       unfold RListH
       simp only [List.map_append,List.map_cons,List.map_nil,List.length_append,List.length_map,List.length_cons,List.length_nil,n3,Nat.zero_add]
       exact h
      ·have h:=K12.out.1
       unfold RListH
       simp only [List.map_append,List.map_cons,List.map_nil,List.length_append,List.length_map,List.length_cons,List.length_nil,n4,Nat.zero_add]
       exact h
      ·rw [fullB_take l style hsi,List.map_append,KG.out.1.ma,hks]
       rfl
      ·rw [voidB_take l hsi,List.map_append,KG.out.1.mb]
       rfl
      ·rw [fullB_take l style hsi,List.map_append,KG.out.1.mc,hks]
       rfl
      ·rw [voidB_take l hsi,List.map_append,KG.out.1.md]
       rfl)
     clear K12 K11 K10 K9r P10 RR HZ KB NB RNB KG RD HS b1 b2
     go_wp2_with fail
     go_roundg (n - (i+1))
     case measure=>omega
     case rel =>
      obtain ⟨G',h1,h2⟩:=G2.out
      exact ⟨i+1,G',hlti,rfl,by push_cast;rfl,h1,h2⟩
  ·have d1:decide ((i:Int)<(n:Int))=false:=by simp;omega
   obtain rfl:i=n:=by omega
   have KA:=Lib.hid (And.intro hG m)
   clear hG m
   go_wp2_with fail
   (try simp only [Exit.inBlock,Exit.then])
   refine bodyPost_ret (results_tmp4 rfl _ _ _) rfl ?_
   exact ⟨u8,u9,u10,u11,G,rfl,KA.out.1,KA.out.2⟩
end
section
open Go.RowKit
theorem blk_good (s:ShapeM) (i style k:Nat) (_hs:style≤63):SGood (s.most:Int) ⟨((s.blk i style k).planes:Int),(s.blk i style k).passes,(s.blk i style k).bytes,0,3⟩:=by
 have hb:=geoV_bounds (i % 4) style (s.n k) s.ns (s.n_le k)
 have hm:=s.lt
 have ok:=(encodeM_ok (geoV (i % 4) style (valsM (s.n k) s.ns)) (by show 1≤5;decide)).1
 unfold ShapeM.blk
 generalize encodeM (geoV (i % 4) style (valsM (s.n k) s.ns))=B at *
 obtain ⟨h1,h2,h3,h4⟩:=hb
 refine ⟨⟨?_,?_⟩,?_,(by show (3:Int)≤45;decide),?_,?_,ok.pos⟩
 ·show (B.planes:Int)≤(s.most:Int);omega
 ·show (s.most:Int)≤(B.planes:Int)+60;omega
 ·show B.passes.length≤100;omega
 ·show B.bytes.length≤300000;omega
 ·intro a b hab hbl
  replace hbl:b<B.passes.length:=hbl
  show (B.passes.map (·.1)).getD a 0≤(B.passes.map (·.1)).getD b 0
  rcases Nat.lt_or_eq_of_le hab with h | h
  ·have hu:=List.pairwise_iff_getElem.1 ok.up a b (by omega) hbl h
   rw [List.getD_eq_getElem?_getD,List.getD_eq_getElem?_getD,List.getElem?_map,List.getElem?_map,List.getElem?_eq_getElem hbl,List.getElem?_eq_getElem (show a<B.passes.length by omega)]
   exact hu
  ·subst h;exact Int.le_refl _
theorem stNew_good (P:Int) (h:0≤P∧P≤60):SGood P stNew.m:=by
 refine ⟨⟨?_,?_⟩,?_,?_,?_,?_,?_⟩
 ·show (0:Int)≤P;omega
 ·show P≤0+60;omega
 ·exact Nat.zero_le _
 ·show (3:Int)≤45;decide
 ·exact Nat.zero_le _
 ·intro i j _ hj
  exact absurd hj (Nat.not_lt_zero _)
 ·intro p hp
  cases hp
theorem shape_relN (s:ShapeM) (i style:Nat) (hs:style≤63):RelN (s.band i style (s.W * s.H))∧∀ x∈(s.band i style (s.W * s.H)).ss,x.said=0:=by
 obtain ⟨h1,-,h3,h4,h5,h6,h7,h8,h9⟩:=s.band_ss i style (s.W * s.H) (Nat.le_refl _)
 have hl:=s.lt
 have hm:s.W * s.H≤3 * 3:=Nat.mul_le_mul (by omega) (by omega)
 refine ⟨⟨by rw [h1];omega,fun x hx=>?_,h6,by rw [h1,h4,h5],by rw [h4,h5];omega,by rw [h7,h4,h5],by rw [h8,h4,h5]⟩,fun x hx=>?_⟩
 ·rw [h3]
  rcases h9 x hx with rfl | ⟨j,-,rfl⟩
  ·exact stNew_good _ (by omega)
  ·exact blk_good s i style j hs
 ·rcases h9 x hx with rfl | ⟨j,-,rfl⟩
  ·rfl
  ·rfl
theorem full_relN (l:List ShapeM) (style:Nat) (hs:style≤63):∀ m∈fullB l style,RelN m∧∀ x∈m.ss,x.said=0:=by
 intro m hm
 unfold fullB at hm
 obtain ⟨i,s,hi,rfl⟩:=List.mem_mapIdx.1 hm
 exact shape_relN _ _ style hs
theorem rq_of:∀ (La:List (BandA × BandM)) (Lc:List (Nat × BandM)) (H:List HB) (M:Nat→BandM),RBandsL Lc H→La.map (·.2)=Lc.map (·.2)→(∀ p∈La,RelN p.2)→(∀ p∈La,M p.1.bb=p.2)→RBandsQ RBandA (Lc.map (·.1)) (La.map (·.1)) M H
 | [],[],H,M,h,_,_,_=>h
 | p::La,q::Lc,H,M,⟨H1,H2,e,h1,h2⟩,he,hr,hm=>by
  rw [List.map_cons,List.map_cons,List.cons.injEq] at he
  refine ⟨H1,H2,e,?_,rq_of La Lc H2 M h2 he.2 (fun x hx=>hr x (List.mem_cons_of_mem _ hx)) fun x hx=>hm x (List.mem_cons_of_mem _ hx)⟩
  show RBandA q.1 (M p.1.bb) H1
  rw [hm p List.mem_cons_self]
  refine .inr ⟨?_,hr p List.mem_cons_self⟩
  rw [he.1]
  exact h1
 | [],_::_,_,_,_,he,_,_=>by simp at he
 | _::_,[],_,_,_,he,_,_=>by simp at he
theorem said_zero (count:Nat) (La:List (BandA × BandM)) (M:Nat→BandM) (h:∀ p∈La,∀ x∈p.2.ss,x.said=0) (hm:∀ p∈La,M p.1.bb=p.2):SaidInv count 0 (La.map (·.1)) [] M:=by
 intro d hd k s hs
 obtain ⟨p,hp,rfl⟩:=List.mem_map.1 hd
 rw [hm p hp] at hs
 rw [h p hp s (List.mem_of_getElem? hs)]
 rw [if_neg (by simp [donePre])]
 unfold passN
 rw [if_pos (by decide)]
theorem bands_len {D:List BandA} {M:Nat→BandM} {H:List HB} (h:BandsR D M H):∀ d∈D,(M d.bb).ss.length=d.n:=by
 intro d hd
 obtain ⟨b,e1,e2,-⟩:=h.band hd
 rw [← e1]
 show (b.G.map _).length=_
 rw [List.length_map]
 exact e2.len
end
end Go.Proofs.YtjngfhgakokejaaGreat
