/- packet.Encode: whole. The document's bands beside the program's: what is alike. Plain. Planted trees beside new ones; their leaves. Plain. waveletref15: set, beside the program's; the bands' list. A law's numbers and shapes, as they read; waveletlaw8: within, Values. -/
import Derived.Test.YtjngfhgakokejaaGreatCp22
import Derived.Test.YtjngfhgakokejaaGreatCp11
import Derived.Test.YtjngfhgakokejaaGreatCp20
import Derived.Test.YtjngfhgakokejaaGreatCp21
import Derived.Test.YtjngfhgakokejaaGreatCp19
set_option maxRecDepth 100000
set_option maxHeartbeats 8000000
set_option linter.all false
namespace Go.Proofs.YtjngfhgakokejaaGreat
section
open Go.RowKit Go.Shelf
attribute [local go_sem] Oper.semAt_some
def encS (count style layer:Nat) (D:List BandA) (M:Nat→BandM):PackS :=
 if moreM count layer M (spotsOf D)=true then (spotsOf D).foldl (stepE count style layer) ⟨(spotsOf D).foldl (encM count) M,[true],[]⟩ else ⟨(spotsOf D).foldl (encM count) M,[false],[]⟩
theorem encM_good (c:Nat) (D:List BandA):∀ (l:List SpotX) (M:Nat→BandM),(∀ d∈D,GoodB (M d.bb))→∀ d∈D,GoodB ((l.foldl (encM c) M) d.bb)
 | [],M,h=>h
 | x::l,M,h=>by
  rw[List.foldl_cons]
  refine encM_good c D l _ fun d hd=>?_
  unfold encM updM
  split
  ·rename_i e
   rw[← e]
   exact(h d hd).plant c
  ·exact h d hd
theorem enc_results2 (tmps:Array Value) (w:World) (v:Value) (g:Nat) (u:Value) (h8:tmps.getD 8 undef=v) (h9:tmps.getD 9 undef=.pointer (some ⟨g,0,none⟩)) (hb:Blk w g 30 #[u]) :
  (results Tryz.f10 tmps).run Tryz.prog w=.ok (.tuple #[v,u]) w:=by
 rw[results_tmp_cell (u:=8) (p:=9) (ty:=30) rfl,h8,h9]
 have c0:=hb.cell 0
 simp only[asAddr]
 go_simp
theorem bits_one (b:Bool):bitsG (if b=true then 1 else 0) 1=[b]:=by cases b <;> rfl
theorem enc_any (A:Option Addr) (c:Nat) (D:List BandA) (M:Nat→BandM) (style layer count:Nat) (HL HB0:List HB) (W:World) (hD:D.length≤1000) (hL:ListH (.slice A D.length c) D HL) (hB:BandsR D M HB0) (hs:Sat W (HL++HB0)) (hct:count≤100000) (hly:layer≤100) (hst:style≤63)
  (hn:(spotsOf D).length≤200) (hg:∀ d∈D,GoodB (M d.bb)) :
  Calls Tryz.prog 10 #[.slice A D.length c,.int .i64 (style:Int),.int .i64 (count:Int),.int .i64 (layer:Int)] W fun e W'=>∃ v1 v2 H1 H2 HB',e=.returned (.tuple #[v1,v2])∧RowB v1 (wout (wbits (encS count style layer D M).bits)) H1∧RowB v2 (encS count style layer D M).body H2 ∧
   BandsR D (encS count style layer D M).M HB'∧Mv W (HL++HB0) W' (H1++(H2++(HL++HB'))):=by
 refine(callsIn_wide (n:=8)).1 ?_
 refine callsIn_of_wp_marks Tryz.func10 rfl trivial ?_ rfl
 simp only[Tryz.ntmps10,List.size_toArray,List.length_cons,List.length_nil,Nat.reduceAdd,Nat.reduceSub,Array.replicate_succ,Array.replicate_zero,List.push_toArray,List.append_toArray,List.nil_append,List.cons_append]
 have K1:=((((((Mv.refl hs).alloc 3 #[.int .i64 (style:Int)]).alloc 3 #[.int .i64 (count:Int)]).alloc 3 #[.int .i64 (layer:Int)]).alloc 30 #[.slice none 0 0]).alloc 4 #[.bool false]).alloc 26 #[.slice A D.length c]
 simp only[World.size_alloc] at K1
 have K:=Lib.hid K1
 have KI:=Lib.hid (And.intro hL (And.intro hB (And.intro hg hs)))
 clear K1 hs hL hB hg
 refine wpIn_wide.2 ?_
 go_wp2_with (go_at_call 22;refine(spots_any _ _ _ _).mono ?_;rintro e w' ⟨rfl,rfl⟩)
 refine(wpIn_wide (n:=8)).1 ?_
 refine range_spots1 (n:=8) (by omega) 11 W (HL++HB0) (by simp;omega) (box:=W.heap.size+5) (c:=c) (A:=A) (D:=D) rfl (by omega) (fun e he=>by obtain⟨b,-,k2,-⟩:=KI.out.2.1.band he;have:=k2.small;omega)
  (encPm W.heap.size A c D style count layer HL M) (fun _ _=>False) ?sp ?no ⟨_,⟨HB0,rfl,KI.out.2.1⟩,K.out⟩ ?assign ?body ?done ?stop
 case sp =>
  rintro pre H w ⟨HB',rfl,h2⟩ hs
  exact ListH.sp KI.out.1 h2 hs (List.mem_append_left _ List.mem_cons_self) (fun x hx=>List.mem_append_right _ (List.mem_append_left _ hx)) (fun x hx=>List.mem_append_right _ (List.mem_append_right _ hx))
 case no =>
  rintro pre H ⟨HB',rfl,h2⟩
  exact(encX_no _ _ _ _ _ _ _ _).append ((NoSpot.row KI.out.1 (by decide)).append h2.noSpot)
 case assign =>
  intro l x y z w K hK
  simp only[List.setIfInBounds_toArray,List.set_cons_succ,List.set_cons_zero] at hK ⊢
  gi_wp2
  exact hK
 case body =>
  intro l pre x hx B w H hr hP hs hlen
  simp only[List.setIfInBounds_toArray,List.set_cons_succ,List.set_cons_zero]
  exact enc_round1 l D A c W.heap.size B HL style count layer M pre x hx w H _ _ _ _ _ _ _ _ _ _ _ _ _ _ _ _ _ _ _ _ _ _ _ _ _ _ _ _ _ _ _ _ _ _ _ _ _ _ _ _ _ _ _ _ _ _ _ _ _ _ _ _ _ _ _ _ _ _ _ _ _ _ _ _ _ _ _ _ _ _ _ _ _ _ _ _ _ _ hP hs hly hct
 case stop =>
  intro K pre w H _ _ h
  exact h.elim
 case done =>
  intro K ys w H hK hy hP hM hd
  obtain⟨HB2,rfl,h2⟩:=hP
  obtain⟨mo,hmo⟩:∃ mo,moreM count layer M (spotsOf D)=mo:=⟨_,rfl⟩
  rw[hy] at h2 hM
  rw[hmo] at hM
  obtain⟨M1,hM1⟩:∃ M1,(spotsOf D).foldl (encM count) M=M1:=⟨_,rfl⟩
  have hg1:∀ d∈D,GoodB (M1 d.bb):=by rw[← hM1];exact encM_good count D _ M KI.out.2.2.1
  have hS:encS count style layer D M=if mo=true then (spotsOf D).foldl (stepE count style layer) ⟨M1,[true],[]⟩ else ⟨M1,[false],[]⟩:=by unfold encS;rw[hmo,hM1]
  rw[hM1] at h2
  have HS:=Lib.hid hS
  have b9:=(Mv.blkm hM (x:=⟨W.heap.size+4,4,#[.bool mo]⟩) (List.mem_append_left _ (by simp[encX]))).cell 0
  have KD:=Lib.hid (And.intro h2 (And.intro hM hg1))
  obtain⟨XX,hXX⟩:∃ XX:List HB,XX=encX W.heap.size A D.length c style count layer mo:=⟨_,rfl⟩
  have NW:Hid (Calls Tryz.prog 25 #[] w fun e w'=>∃ wb H',e=.returned (.pointer (some ⟨wb,0,none⟩))∧Hid (WrB wb [] H'∧Mv W (HL++HB0) w' (H'++(XX++(HL++HB2)))∧w'.heap[K]?=some (.deferred (some [])))):=Lib.hid (by
   refine(new_writer w).mono ?_
   rintro e w' ⟨wb,H',rfl,h3,m3⟩
   have m4:Mv W (HL++HB0) w' (H'++(XX++(HL++HB2))):=by rw[hXX];exact Mv.call (H:=[]) hM m3
   exact⟨wb,H',rfl,Lib.hid ⟨h3,m4,m3.others (Sat.nil _) K _ hd (fun c t f e=>by cases e)⟩⟩)
  have MC:Hid (∀ W' A',Mv W (HL++HB0) W' (A'++(XX++(HL++HB2)))→W'.cell? ⟨W.heap.size+4,0,none⟩=some (.bool mo)∧W'.cell? ⟨W.heap.size+3,0,none⟩=some (.slice none 0 0)∧W'.frozen? ⟨W.heap.size+3,0,none⟩=false):=Lib.hid (by
   intro W' A' m
   have s1:Sat W' XX:=m.sat.right.left
   rw[hXX] at s1
   exact⟨(s1.at_ 1 rfl).cell 0,(s1.at_ 2 rfl).cell 0,(s1.at_ 2 rfl).frozen 0⟩)
  have HXX:=Lib.hid hXX
  clear h2 hd hM hg1 hS hmo hM1 hy hXX
  go_upto_region 7 with (go_at_call 25;refine NW.out.mono ?_;rintro e w2 ⟨wb,HW,rfl,K2⟩)
  obtain⟨w3,hw3⟩:∃ w3,w3=w2.alloc (.cells #[.pointer (some ⟨wb,0,none⟩)] 70):=⟨_,rfl⟩
  obtain⟨wx,hwx⟩:∃ wx,w2.heap.size=wx:=⟨_,rfl⟩
  have hK2:w2.heap[K]?=some (.deferred (some [])):=K2.out.2.2
  have M3:Mv W (HL++HB0) w3 (⟨wx,70,#[.pointer (some ⟨wb,0,none⟩)]⟩::(HW++(XX++(HL++HB2)))):=by rw[hw3,← hwx];exact K2.out.2.1.alloc _ _
  have hK3:w3.heap[K]?=some (.deferred (some [])):=by rw[hw3];exact(Below.heap_alloc _ _ _ (Array.getElem?_eq_some_iff.1 hK2).1).trans hK2
  obtain⟨fl,hfl⟩:∃ fl:Int,(if mo=true then 1 else 0)=fl:=⟨_,rfl⟩
  have FL:Hid (∀ V,Calls Tryz.prog 27 #[.bool mo] V fun e w'=>e=.returned (.int .i64 fl)∧w'=V):=Lib.hid (fun V=>by rw[← hfl];exact flag_any mo V)
  have hb1:bitsG fl 1=[mo]:=by rw[← hfl];exact bits_one mo
  have BI:Hid (Calls Tryz.prog 26 #[.pointer (some ⟨wb,0,none⟩),.int .i64 fl,.int .i64 1] w3.drew fun e w4=>e=.returned (.tuple #[])∧∃ HW',Hid (WrB wb [mo] HW'∧Mv W (HL++HB0) w4 (⟨wx,70,#[.pointer (some ⟨wb,0,none⟩)]⟩::(HW'++(XX++(HL++HB2))))∧w4.heap[K]?=some (.deferred (some []))) ∧
    w4.cell? ⟨wx,0,none⟩=some (.pointer (some ⟨wb,0,none⟩))∧w4.cell? ⟨W.heap.size+4,0,none⟩=some (.bool mo)):=Lib.hid (by
   have m1:Mv W (HL++HB0) w3.drew (HW++(⟨wx,70,#[.pointer (some ⟨wb,0,none⟩)]⟩::(XX++(HL++HB2)))) :=
    (Mv.drew M3).sub (fun g=>by simp only[cnt_append,cnt_cons];omega) (fun c hc=>by simp only[List.mem_append,List.mem_cons] at hc ⊢;grind)
   refine(bits_any wb [] fl 1 w3.drew HW K2.out.1 m1.sat.left (by simp)).mono ?_
   rintro e w4 ⟨rfl,HW',h4,m4⟩
   rw[hb1,List.nil_append] at h4
   have m5:Mv W (HL++HB0) w4 (⟨wx,70,#[.pointer (some ⟨wb,0,none⟩)]⟩::(HW'++(XX++(HL++HB2)))) :=
    (Mv.call m1 m4).sub (fun g=>by simp only[cnt_append,cnt_cons];omega) (fun c hc=>by simp only[List.mem_append,List.mem_cons] at hc ⊢;grind)
   exact⟨rfl,HW',Lib.hid ⟨h4,m5,m4.others m1.sat.left K _ hK3 (fun c t f e=>by cases e)⟩,(Mv.blkm m5 List.mem_cons_self).cell 0,(MC.out w4 (⟨wx,70,#[.pointer (some ⟨wb,0,none⟩)]⟩::HW') m5).1⟩)
  have c0:=(Mv.blkm M3 List.mem_cons_self).cell 0
  have c1:=(MC.out w3 (⟨wx,70,#[.pointer (some ⟨wb,0,none⟩)]⟩::HW) M3).1
  have hmx:Tryz.prog.follows .mixedOrders=true:=by kernel_rfl
  obtain⟨C,hC⟩:∃ C:World→Prop,C=fun w'=>w'=w3.drew:=⟨_,rfl⟩
  have CF:∀ w',C w'→w'.cell? ⟨wx,0,none⟩=some (.pointer (some ⟨wb,0,none⟩))∧w'.cell? ⟨W.heap.size+4,0,none⟩=some (.bool mo):=by
   intro w' h
   rw[hC] at h
   subst h
   exact⟨c0,c1⟩
  have CK:∀ w',C w'→Calls Tryz.prog 27 #[.bool mo] w' fun e w''=>e=.returned (.int .i64 fl)∧C w'':=by
   intro w' h
   refine(FL.out w').mono ?_
   rintro e w'' ⟨rfl,rfl⟩
   exact⟨rfl,h⟩
  have CD:C w3.drew:=by rw[hC]
  replace CF:=Lib.hid CF
  replace CK:=Lib.hid CK
  have HC:=Lib.hid hC
  have HW3:=Lib.hid hw3
  rw[← hw3]
  simp only[hwx]
  clear hC hw3 hwx hfl hb1 hK2 hK3 M3 NW c0 c1
  refine plain_quiet_tail 3 C hmx CD (by kernel_rfl) ?_
  simp only[List.take_succ_cons,List.take_zero,List.drop_succ_cons,List.drop_zero]
  iterate 3 (first | ((with_reducible refine qc_pass ?_ ?_);(next=>(go_simp;done));(try simp only[Act.put,List.setIfInBounds_toArray,List.set_cons_zero,List.set_cons_succ])) | ((with_reducible refine qc_one ?_ ?_ (fun w' hw'=>?_) ?_);rotate_left;(next=>(go_simp;done));(next=>(first | (refine qc_val ?_;(obtain⟨a0,a1⟩:=CF.out w' hw');clear hw';go_simp;done) | (refine qc_val ?_;(obtain⟨a0,a1⟩:=CF.out w' hw');clear hw';go_simp;rfl) | (refine qc_call (f:=?_) (args:=?_) ?_ ?_;rotate_left 2;(next=>((obtain⟨a0,a1⟩:=CF.out w' hw');go_simp;constructor <;> rfl));(next=>(exact CK.out w' hw'))) | (refine qc_skip ?_;(obtain⟨a0,a1⟩:=CF.out w' hw');clear hw';go_simp;done)));(try simp only[Act.put,List.setIfInBounds_toArray,List.set_cons_zero,List.set_cons_succ])))
  refine wpQuiet_nil ?_
  intro w' hw'
  obtain rfl:w'=w3.drew:=by rw[HC.out] at hw';exact hw'
  obtain⟨c0,c1⟩:=CF.out _ hw'
  clear hw' CD CK CF HC C
  cases mo with
  | false =>
   go_wp2_with (first
    | (go_at_call 26;(with_reducible refine BI.out.mono ?_);rintro e w4 ⟨rfl,HW',K4,d0,d1⟩;have K4':Hid (∀ V,V=w4→Calls Tryz.prog 28 #[.pointer (some ⟨wb,0,none⟩)] V fun e w5=>∃ g c5 H1,e=.returned (.slice g 1 c5)∧Hid (RowB (.slice g 1 c5) [0] H1∧Mv W (HL++HB0) w5 (H1++(XX++(HL++HB2)))∧w5.heap[K]?=some (.deferred (some [])))):=Lib.hid (by
      rintro V rfl
      obtain⟨q1,q2,q3⟩:=K4.out
      have m1:Mv W (HL++HB0) V (HW'++(XX++(HL++HB2))):=q2.drop1
      refine(bytes_any wb [false] V HW' q1 m1.sat.left (by simp)).mono ?_
      rintro e w5 ⟨v',Hn,rfl,h5,m5⟩
      have h6:RowB v' [0] Hn:=h5
      obtain⟨g,c5,rfl⟩:=h6.slice
      have m6:Mv W (HL++HB0) w5 (Hn++(XX++(HL++HB2))) :=
       (Mv.call m1 m5).sub (fun g=>by simp only[cnt_append];omega) (fun c hc=>by simp only[List.mem_append] at hc ⊢;grind)
      exact⟨g,c5,Hn,rfl,Lib.hid ⟨h6,m6,m5.others m1.sat.left K _ q3 (fun c t f e=>by cases e)⟩⟩))
    | (go_at_call 28;(with_reducible refine(K4'.out _ rfl).mono ?_);rintro e w5 ⟨g5,c5,H1,rfl,K5⟩;obtain⟨e1,e2,e3⟩:=MC.out w5 H1 K5.out.2.1))
   have hk:(w5.setCell ⟨W.heap.size+1+1+1,0,none⟩ (.slice none 0 0)).heap[K]?=some (.deferred (some [])):=(KeepsOthers.setCell w5 ⟨W.heap.size+3,0,none⟩ _).same K _ K5.out.2.2 rfl
   have m8:Mv W (HL++HB0) (w5.setCell ⟨W.heap.size+1+1+1,0,none⟩ (.slice none 0 0)) (H1++(XX++(HL++HB2))):=by
    have m9:=K5.out.2.1
    rw[HXX.out] at m9 ⊢
    have e9:H1++(encX W.heap.size A D.length c style count layer false++(HL++HB2))=(H1++[⟨W.heap.size+5,26,#[.slice A D.length c]⟩,⟨W.heap.size+4,4,#[.bool false]⟩])++⟨W.heap.size+3,30,#[.slice none 0 0]⟩::([⟨W.heap.size+2,3,#[.int .i64 layer]⟩,⟨W.heap.size+1,3,#[.int .i64 count]⟩,⟨W.heap.size,3,#[.int .i64 style]⟩]++(HL++HB2)):=by simp[encX]
    rw[e9] at m9 ⊢
    exact Mv.setAt m9 0 (.slice none 0 0)
   have m10:=m8.putObj (.deferred none) hK hk rfl
   have eS:encS count style layer D M=⟨M1,[false],[]⟩:=HS.out
   refine⟨by simp,.inl ⟨_,_,rfl,run_takeDeferred hk,?_⟩⟩
   refine⟨_,enc_results _ _ _ (W.heap.size+3) rfl rfl (Mv.blkm m10 (x:=⟨W.heap.size+3,30,#[.slice none 0 0]⟩) (List.mem_append_right _ (List.mem_append_left _ (by rw[HXX.out];simp[encX])))),_,_,H1,[],HB2,rfl,?_,?_,?_,?_⟩
   ·rw[eS];exact K5.out.1
   ·rw[eS];exact RowH.nil _ _
   ·rw[eS];exact KD.out.1
   ·exact m10.sub (fun g=>by simp only[cnt_append,cnt_nil];omega) (fun c hc=>by simp only[List.mem_append,List.not_mem_nil,false_or] at hc ⊢;grind)
  | true =>
   go_wp2_with (first
    | (go_at_call 26;(with_reducible refine BI.out.mono ?_);rintro e w4 ⟨rfl,HW',K4,d0,d1⟩)
    | (go_at_call 22;refine(spots_any _ _ _ _).mono ?_;rintro e w' ⟨rfl,rfl⟩))
   obtain⟨w6,hw6⟩:∃ w6,w6=w4.alloc (.cells #[.slice A D.length c] 26):=⟨_,rfl⟩
   obtain⟨bx,hbx⟩:∃ bx,w4.heap.size=bx:=⟨_,rfl⟩
   obtain⟨H0,hH0⟩:∃ H0,H0=(HW'++(encY bx wx wb W.heap.size A D.length c style count layer (.slice none 0 0)++([]++HL)))++HB2:=⟨_,rfl⟩
   have M7:Mv W (HL++HB0) w6 H0:=by
    have m:=K4.out.2.1.alloc 26 #[.slice A D.length c]
    rw[← hw6,hbx,HXX.out] at m
    rw[hH0]
    refine m.sub (fun g=>?_) (fun y hy=>?_)
    ·simp only[encX,encY,cnt_append,cnt_cons,cnt_nil];omega
    ·simp only[encX,encY,List.mem_append,List.mem_cons,List.not_mem_nil,or_false,false_or] at hy ⊢;grind
   have hK6:w6.heap[K]?=some (.deferred (some [])):=by rw[hw6];exact(Below.heap_alloc _ _ _ (Array.getElem?_eq_some_iff.1 K4.out.2.2).1).trans K4.out.2.2
   have K6:=Lib.hid (And.intro M7 hK6)
   have P0:encP2 bx wx wb W.heap.size A c D style count layer HL ⟨M1,[true],[]⟩ [] H0:=⟨_,HW',[],.slice none 0 0,HB2,rfl,hH0,K4.out.1,RowH.nil _ _,KD.out.1,KD.out.2.2,by simp,by simp⟩
   rw[← hw6]
   simp only[hbx]
   clear hw6 hbx M7 hK6 hH0 d0 d1 c0 c1
   refine(wpIn_wide (n:=8)).1 ?_
   refine range_spots1 (n:=8) (by omega) 13 w6 H0 (Nat.le_refl _) (box:=bx) (c:=c) (A:=A) (D:=D) rfl (by omega) (fun e he=>by obtain⟨b,-,k2,-⟩:=KI.out.2.1.band he;have:=k2.small;omega)
    (encP2 bx wx wb W.heap.size A c D style count layer HL ⟨M1,[true],[]⟩) (fun _ _=>False) ?sp2 ?no2 ⟨_,P0,Mv.refl K6.out.1.sat⟩ ?assign2 ?body2 ?done2 ?stop2
   case sp2 =>
    rintro pre H w ⟨S,HW2,Hb,vb,HB',-,rfl,-,-,h2,-⟩ hs
    exact ListH.sp KI.out.1 h2 hs (List.mem_append_left _ (List.mem_append_right _ (List.mem_append_left _ List.mem_cons_self))) (fun x hx=>List.mem_append_left _ (List.mem_append_right _ (List.mem_append_right _ (List.mem_append_right _ hx)))) (fun x hx=>List.mem_append_right _ hx)
   case no2 =>
    rintro pre H ⟨S,HW2,Hb,vb,HB',-,rfl,hw,hb,h2,-⟩
    obtain⟨v,Hr,rfl,hr⟩:=hw
    exact((NoSpot.cons (show 148≠66 by decide) (NoSpot.row hr (by decide))).append ((encY_no _ _ _ _ _ _ _ _ _ _ _).append ((NoSpot.row hb (by decide)).append (NoSpot.row KI.out.1 (by decide))))).append h2.noSpot
   case assign2 =>
    intro l x y z w K hK
    simp only[List.setIfInBounds_toArray,List.set_cons_succ,List.set_cons_zero] at hK ⊢
    gi_wp2
    exact hK
   case body2 =>
    intro l pre x hx B w H hr hP hs hlen
    simp only[List.setIfInBounds_toArray,List.set_cons_succ,List.set_cons_zero]
    exact enc_round l D A c bx wx wb W.heap.size B HL style count layer ⟨M1,[true],[]⟩ pre x hx w H _ _ _ _ _ _ _ _ _ _ _ _ _ _ _ _ _ _ _ _ _ _ _ _ _ _ _ _ _ _ _ _ _ _ _ _ _ _ _ _ _ _ _ _ _ _ _ _ _ _ _ _ _ _ _ _ _ _ _ _ _ _ _ _ _ _ _ _ _ _ _ _ _ _ _ _ _ _ hP hs (by omega) hst hly hct
   case stop2 =>
    intro K pre w H _ _ h
    exact h.elim
   case done2 =>
    intro K2 ys w7 H hK2 hy hP hM hd
    obtain⟨S,HW2,Hb,vb,HB',hS,rfl,hw,hb,hB,-,hl1,hl2⟩:=hP
    rw[hy] at hS
    have hyl:ys.length=(spotsOf D).length:=by rw[← hy,List.length_map]
    have hl1':S.bits.length≤30000000:=by omega
    have hl2':S.body.length≤60000000:=by omega
    have eS:encS count style layer D M=S:=by rw[HS.out,if_pos trivial,hS]
    have hK7:w7.heap[K]?=some (.deferred (some [])):=hM.others K6.out.1.sat K _ K6.out.2 (fun c t f e=>by cases e)
    obtain⟨ba,bc,rfl⟩:=hb.slice
    obtain⟨HE,hHE⟩:∃ HE,(HW2++(encY bx wx wb W.heap.size A D.length c style count layer (.slice ba S.body.length bc)++(Hb++HL)))++HB'=HE:=⟨_,rfl⟩
    rw[hHE] at hM
    have CE:Hid (∀ V A',Mv w6 H0 V (A'++HE)→V.cell? ⟨wx,0,none⟩=some (.pointer (some ⟨wb,0,none⟩))∧V.cell? ⟨W.heap.size+3,0,none⟩=some (.slice ba S.body.length bc)∧V.frozen? ⟨W.heap.size+3,0,none⟩=false):=Lib.hid (by
     intro V A' m
     have s1:Sat V HE:=m.sat.right
     rw[← hHE] at s1
     have s2:=s1.left.right.left
     exact⟨(s2.at_ 1 rfl).cell 0,(s2.at_ 2 rfl).cell 0,(s2.at_ 2 rfl).frozen 0⟩)
    have BY:Hid (Calls Tryz.prog 28 #[.pointer (some ⟨wb,0,none⟩)] w7.drew fun e w8=>∃ g8 n8 c8 H8,e=.returned (.slice g8 n8 c8)∧Hid (RowB (.slice g8 n8 c8) (wout (wbits S.bits)) H8∧Mv w6 H0 w8 (H8++HE)∧w8.heap[K]?=some (.deferred (some []))∧w8.heap[K2]?=some (.deferred (some [])))):=Lib.hid (by
     have m1:Mv w6 H0 w7.drew (HW2++((encY bx wx wb W.heap.size A D.length c style count layer (.slice ba S.body.length bc)++(Hb++HL))++HB')):=by
      have m:=hM.drew
      rw[← hHE,List.append_assoc] at m
      exact m
     refine(bytes_any wb S.bits w7.drew HW2 hw m1.sat.left (by omega)).mono ?_
     rintro e w8 ⟨v',Hn,rfl,h5,m5⟩
     obtain⟨g,c5,rfl⟩:=h5.slice
     refine⟨g,_,c5,Hn,rfl,Lib.hid ⟨h5,?_,m5.others m1.sat.left K _ hK7 (fun c t f e=>by cases e),m5.others m1.sat.left K2 _ hd (fun c t f e=>by cases e)⟩⟩
     have m6:=Mv.call m1 m5
     rw[← hHE]
     exact m6.sub (fun g=>by simp only[cnt_append];omega) (fun c hc=>by simp only[List.mem_append] at hc ⊢;grind))
    have CL:Hid (∀ w8 H8,Mv w6 H0 w8 (H8++HE)→w8.heap[K]?=some (.deferred (some []))→w8.heap[K2]?=some (.deferred (some []))→Calls Tryz.prog 31 #[.slice ba S.body.length bc] w8 fun e w9=>∃ g9 n9 c9 H9,e=.returned (.slice g9 n9 c9)∧Hid (RowB (.slice g9 n9 c9) S.body H9∧Mv w6 H0 w9 (H9++(H8++HE))∧w9.heap[K]?=some (.deferred (some []))∧w9.heap[K2]?=some (.deferred (some [])))):=Lib.hid (by
     intro w8 H8 m k1 k2
     have sb:Sat w8 Hb:=by
      have s1:=m.sat.right
      rw[← hHE] at s1
      exact s1.left.right.right.left
     refine(clone_any _ S.body w8 (hb.bv sb) (by omega)).mono ?_
     rintro e w9 ⟨v',Hn,rfl,h5,m5⟩
     obtain⟨g,c5,rfl⟩:=h5.slice
     exact⟨g,_,c5,Hn,rfl,Lib.hid ⟨h5,Mv.call (H:=[]) m m5,m5.others (Sat.nil _) K _ k1 (fun c t f e=>by cases e),m5.others (Sat.nil _) K2 _ k2 (fun c t f e=>by cases e)⟩⟩)
    obtain⟨x1,x2,x3⟩:=CE.out w7.drew [] hM.drew
    have KE:=Lib.hid (And.intro eS (And.intro hB (And.intro hK hK2)))
    have HHE:=Lib.hid hHE
    clear hS hw hb hB hl1 hl2 hyl hl1' hl2' eS hK7 hHE hM hd hy P0
    obtain⟨nb,hnb⟩:∃ nb,S.body.length=nb:=⟨_,rfl⟩
    rw[hnb] at x2 CE CL HHE
    clear hnb
    go_upto_region 17 with fail
    refine wp_piece ?_
    unfold noQ
    go_region_law (first
     | (go_simp;go_at_call 28;(with_reducible refine BY.out.mono ?_);rintro e w8 ⟨g8,n8,c8,H8,rfl,K8⟩;(have y1:w8.cell? ⟨wx,0,none⟩=some (.pointer (some ⟨wb,0,none⟩)):=(by first | exact(CE.out w8 H8 K8.out.2.1).1));(have y2:w8.cell? ⟨W.heap.size+3,0,none⟩=some (.slice ba nb bc):=(by first | exact(CE.out w8 H8 K8.out.2.1).2.1));(have y3:w8.frozen? ⟨W.heap.size+3,0,none⟩=false:=(by first | exact(CE.out w8 H8 K8.out.2.1).2.2)))
     | (go_simp;go_at_call 31;(with_reducible refine(CL.out w8 H8 K8.out.2.1 K8.out.2.2.1 K8.out.2.2.2).mono ?_);rintro e w9 ⟨g9,n9,c9,H9,rfl,K9⟩;(have z1:w9.cell? ⟨wx,0,none⟩=some (.pointer (some ⟨wb,0,none⟩)):=(by first | exact(CE.out w9 (H9++H8) (by rw[List.append_assoc];exact K9.out.2.1)).1));(have z2:w9.cell? ⟨W.heap.size+3,0,none⟩=some (.slice ba nb bc):=(by first | exact(CE.out w9 (H9++H8) (by rw[List.append_assoc];exact K9.out.2.1)).2.1));(have z3:w9.frozen? ⟨W.heap.size+3,0,none⟩=false:=(by first | exact(CE.out w9 (H9++H8) (by rw[List.append_assoc];exact K9.out.2.1)).2.2))))
    all_goals
     obtain⟨w10,hw10⟩:∃ w10,w10=w9.setCell ⟨W.heap.size+3,0,none⟩ (.slice g9 n9 c9):=⟨_,rfl⟩
     have m10:Mv w6 H0 w10 (((H9++(H8++HW2))++[⟨bx,26,#[.slice A D.length c]⟩,⟨wx,70,#[.pointer (some ⟨wb,0,none⟩)]⟩])++⟨W.heap.size+3,30,#[.slice g9 n9 c9]⟩::([⟨W.heap.size+2,3,#[.int .i64 layer]⟩,⟨W.heap.size+1,3,#[.int .i64 count]⟩,⟨W.heap.size,3,#[.int .i64 style]⟩]++(Hb++(HL++HB')))):=by
      have m:=K9.out.2.1
      rw[← HHE.out] at m
      have m2:Mv w6 H0 w9 (((H9++(H8++HW2))++[⟨bx,26,#[.slice A D.length c]⟩,⟨wx,70,#[.pointer (some ⟨wb,0,none⟩)]⟩])++⟨W.heap.size+3,30,#[.slice ba nb bc]⟩::([⟨W.heap.size+2,3,#[.int .i64 layer]⟩,⟨W.heap.size+1,3,#[.int .i64 count]⟩,⟨W.heap.size,3,#[.int .i64 style]⟩]++(Hb++(HL++HB')))):=by
       simpa only[encY,List.append_assoc,List.cons_append,List.nil_append] using m
      have m3:=Mv.setAt m2 0 (.slice g9 n9 c9)
      rw[hw10]
      exact m3
     have k10:w10.heap[K]?=some (.deferred (some [])):=by rw[hw10];exact(KeepsOthers.setCell w9 ⟨W.heap.size+3,0,none⟩ _).same K _ K9.out.2.2.1 rfl
     have k20:w10.heap[K2]?=some (.deferred (some [])):=by rw[hw10];exact(KeepsOthers.setCell w9 ⟨W.heap.size+3,0,none⟩ _).same K2 _ K9.out.2.2.2 rfl
     have e12:w9.setCell ⟨W.heap.size+1+1+1,0,none⟩ (.slice g9 n9 c9)=w10:=hw10.symm
     rw[e12]
     have K10:=Lib.hid (And.intro m10 (And.intro k10 k20))
     clear m10 k10 k20 e12 hw10
     go_wp2_with fail
     have m11:=K10.out.1.putObj (.deferred none) hK2 K10.out.2.2 rfl
     have hKlt:K<w6.heap.size:=(Array.getElem?_eq_some_iff.1 K6.out.2).1
     have k11:(w10.putObj K2 (.deferred none)).heap[K]?=some (.deferred (some [])):=by
      refine((grownBy_putObj' w10 K2 (.deferred none)).block K (Nat.lt_of_lt_of_le hKlt K10.out.1.only.size) (fun e=>?_)).trans K10.out.2.1
      simp only[Option.some.injEq] at e
      omega
     have m12:=(K6.out.1.trans m11).putObj (.deferred none) hK k11 rfl
     refine⟨by simp,.inl ⟨_,_,rfl,run_takeDeferred K10.out.2.2,?_⟩⟩
     refine⟨by simp,.inl ⟨_,_,rfl,run_takeDeferred k11,?_⟩⟩
     refine⟨_,enc_results2 _ _ _ (W.heap.size+3) _ rfl rfl (Mv.blkm m12 (x:=⟨W.heap.size+3,30,#[.slice g9 n9 c9]⟩) (List.mem_append_right _ List.mem_cons_self)),_,_,H8,H9,HB',rfl,?_,?_,?_,?_⟩
     ·rw[KE.out.1];exact K8.out.1
     ·rw[KE.out.1];exact K9.out.1
     ·rw[KE.out.1];exact KE.out.2.1
     ·exact m12.sub (fun g=>by simp only[cnt_append,cnt_cons];omega) (fun c hc=>by simp only[List.mem_append,List.mem_cons] at hc ⊢;grind)
end
section
open Go.RowKit
def noSaid (s:StM):StM:=s.withS 0 s.lb
structure SGood (planes:Int) (s:StM):Prop where
 z:s.pl≤planes∧planes≤s.pl+60
 np:s.ps.length≤100
 lb:s.lb≤45
 bs:s.bs.length≤300000
 up:∀ i j,i≤j→j<s.ps.length→(s.ps.map (·.1)).getD i 0≤(s.ps.map (·.1)).getD j 0
 ends:∀ p∈s.ps,0≤p.1∧p.1≤(s.bs.length:Int)
structure RelS (mp mr:BandM) (ff fz:Bool):Prop where
 planes:mr.planes=mp.planes
 ss:mr.ss.map noSaid=mp.ss.map noSaid
 few:mp.ss.length≤1000
 good:∀ s∈mp.ss,SGood mp.planes s
 rset:mr.set=true
 pset:0<mp.ss.length→mp.set=true
 first:0<mp.ss.length→(if ff=true then mr.first else fillT mr.first)=mp.first∧EncGood mp.first mp.ss.length
 zeros:0<mp.ss.length→(if fz=true then mr.zeros else fillT mr.zeros)=mp.zeros∧EncGood mp.zeros mp.ss.length
structure RelN (mp:BandM):Prop where
 few:mp.ss.length≤1000
 good:∀ s∈mp.ss,SGood mp.planes s
 set:mp.set=false
 n:mp.ss.length=mp.w * mp.h
 w:mp.w≤3∧mp.h≤3
 first:mp.first=treeOf mp.w mp.h
 zeros:mp.zeros=treeOf mp.w mp.h
theorem strict_one (L:LevM):Strict [L]:=by
 intro A B C h
 rcases List.suffix_cons_iff.1 h with e | e
 ·cases e
 ·have:=e.length_le
  simp at this
theorem strict_new:∀ (k w h:Nat),1≤w→1≤h→Strict (treeNew k w h)
 | 0,_,_,_,_=>by
  intro A B C h
  have:=h.length_le
  simp[treeNew] at this
 | k+1,w,h,hw,hh=>by
  unfold treeNew
  split
  ·exact strict_one _
  ·rename_i hn
   intro A B C hs
   rcases List.suffix_cons_iff.1 hs with e | e
   ·have e1:A=levNew w h:=by injection e
    rw[e1]
    show 1<w * h
    by_cases h2:2≤w
    ·exact Nat.lt_of_lt_of_le (by decide) (Nat.mul_le_mul h2 hh)
    ·exact Nat.lt_of_lt_of_le (by decide) (Nat.mul_le_mul hw (show 2≤h by omega))
   ·exact strict_new k _ _ (by omega) (by omega) A B C e
theorem small_tree {w h:Nat} (hw:1≤w∧w≤3) (hh:1≤h∧h≤3):LeafOk (treeOf w h) (w * h)∧TreeGood (treeOf w h) (w * h):=by
 have e0:treeOf (w:Int) (h:Int)=treeNew 7 w h:=by unfold treeOf;rw[if_neg (by omega),Int.toNat_natCast,Int.toNat_natCast]
 have hs:Strict (treeOf w h):=by rw[e0];exact strict_new 7 w h hw.1 hh.1
 obtain⟨d1,d2,d3,-⟩:=dims_new 6 w h hw.1 hh.1 (Nat.le_trans hw.2 (by decide)) (Nat.le_trans hh.2 (by decide))
 have hd:Dims (treeOf w h):=by rw[e0];exact d1
 have hl:(treeOf w h).length≤20:=by rw[e0];exact Nat.le_trans d3 (by decide)
 have key:(∃ L R,treeOf (w:Int) (h:Int)=L::R∧L.l.length=w * h∧w * h=L.w * L.h)∧offT (treeOf (w:Int) (h:Int)) (treeOf (w:Int) (h:Int)).length≤100000:=by
  obtain⟨w1,w2⟩:=hw
  obtain⟨h1,h2⟩:=hh
  have a:w=1∨w=2∨w=3:=by omega
  have b:h=1∨h=2∨h=3:=by omega
  clear e0 hs d1 d2 d3 hd hl w1 w2 h1 h2
  rcases a with rfl | rfl | rfl <;> rcases b with rfl | rfl | rfl <;> exact⟨⟨_,_,rfl,rfl,rfl⟩,by decide⟩
 obtain⟨⟨L,R,e,a1,a2⟩,ho⟩:=key
 exact⟨⟨⟨L,R,e,a1⟩,ho⟩,⟨L,R,e,a2⟩,hd,hs,ho,hl⟩
theorem setLeaf_shape (T:List LevM) (k:Nat) (v:Int):(setLeaf T k v).map shapeL=T.map shapeL:=by
 unfold setLeaf
 cases T with
 | nil=>rfl
 | cons L R =>
  simp only[List.map_cons]
  congr 1
  split
  ·simp[shapeL]
  ·rfl
theorem rplant_shape (count:Nat) (m:BandM):∀ k,k≤m.ss.length→(rplantTo count m k).first.map shapeL=m.first.map shapeL∧(rplantTo count m k).zeros.map shapeL=m.zeros.map shapeL:=by
 intro k hk
 obtain⟨-,-,-,-,-,e1,e2⟩:=rplantTo_trees count m k hk
 have key:∀ (v:Nat→Int) (T:List LevM) (l:List Nat),(l.foldl (fun T j=>setLeaf T j (v j)) T).map shapeL=T.map shapeL:=by
  intro v T l
  induction l generalizing T with
  | nil=>rfl
  | cons x l ih=>rw[List.foldl_cons,ih,setLeaf_shape]
 exact⟨by rw[e1];exact key _ _ _,by rw[e2];exact key _ _ _⟩
theorem fillT_shape2 (T:List LevM):(fillT T).map shapeL=T.map shapeL:=by
 cases T with
 | nil=>rfl
 | cons L R=>exact fillT_shape L R
def plantE (count:Nat) (m:BandM):BandM:=if m.ss.length=0 then m else plantM count m
theorem relS_new {mp:BandM} (h:RelN mp) (count:Nat) (hc:count≤100) (hn:0<mp.ss.length) (ff fz:Bool) (hff:ff=false∧fz=false):RelS (plantE count mp) (rplantTo count mp mp.ss.length) ff fz:=by
 obtain⟨rfl,rfl⟩:=hff
 have hwh:=h.n
 have hw:1≤mp.w:=Nat.one_le_iff_ne_zero.2 fun e=>by rw[e,Nat.zero_mul] at hwh;omega
 have hh:1≤mp.h:=Nat.one_le_iff_ne_zero.2 fun e=>by rw[e,Nat.mul_zero] at hwh;omega
 have e:plantE count mp=plantM count mp:=if_neg (by omega)
 obtain⟨p1,⟨p2,p3⟩,p4,p5⟩:=planted count mp hc h.set ⟨hw,h.w.1⟩ ⟨hh,h.w.2⟩ h.n h.first h.zeros (fun s hs=>by have:=(h.good s hs).z;omega)
 obtain⟨t1,t2,t3,-⟩:=rplantTo_trees count mp mp.ss.length (Nat.le_refl _)
 obtain⟨s1,s2⟩:=rplant_shape count mp mp.ss.length (Nat.le_refl _)
 obtain⟨-,g⟩:=small_tree ⟨hw,h.w.1⟩ ⟨hh,h.w.2⟩
 rw[e]
 have ess:(plantM count mp).ss=mp.ss:=(plantM_ss count mp).1
 have epl:(plantM count mp).planes=mp.planes:=(plantM_ss count mp).2
 refine⟨t2.trans epl.symm,by rw[t1,ess],by rw[ess];exact h.few,by rw[ess,epl];exact h.good,t3,fun _=>by rw[p1];exact t3,fun _=>⟨?_,?_,p2,p3⟩,fun _=>⟨?_,?_,p4,p5⟩⟩
 ·rw[p1];rfl
 ·rw[ess,h.n]
  refine TreeGood.congr (T:=treeOf mp.w mp.h) g ?_
  rw[p1,← h.first]
  exact(fillT_shape2 _).trans s1
 ·rw[p1];rfl
 ·rw[ess,h.n]
  refine TreeGood.congr (T:=treeOf mp.w mp.h) g ?_
  rw[p1,← h.zeros]
  exact(fillT_shape2 _).trans s2
theorem headZ_rel {m:BandM} {k z from_:Nat} {s:StM} (hz:m.planes - s.pl=z):headZ m k from_ s=(zerosTo m.zeros m.zeros k z from_,zerosIf m.zeros k z from_):=by
 have e:(max (m.planes - s.pl) 0+1).toNat=z+1:=by omega
 unfold headZ zerosTo zerosIf
 rw[e]
 split <;> rfl
theorem zerosE_good2 {T:List LevM} {n k:Nat} (hk:k<n) (h:EncGood T n):∀ j,EncGood (zerosE T k j).1 n
 | 0=>h
 | j+1=>encAt_good _ hk (zerosE_good2 hk h j)
theorem bodyM_rel {planes:Int} {s:StM} (h:SGood planes s) {from_ to_:Nat} (hft:from_<to_) (hto:to_≤s.ps.length) :
  ∃ lo hi_:Nat,(lo:Int)=(if from_=0 then 0 else (s.ps.map (·.1)).getD (from_ - 1) 0)∧(hi_:Int)=(s.ps.map (·.1)).getD (to_ - 1) 0∧lo≤hi_∧hi_≤s.bs.length∧bodyM s.ps s.bs from_ to_=(s.bs.drop lo).take (hi_ - lo):=by
 have hb:∀ i,i<s.ps.length→0≤(s.ps.map (·.1)).getD i 0∧(s.ps.map (·.1)).getD i 0≤(s.bs.length:Int):=by
  intro i hi
  rw[List.getD_eq_getElem?_getD,List.getElem?_map,List.getElem?_eq_getElem hi]
  exact h.ends _ (List.getElem_mem hi)
 have h2:=hb (to_ - 1) (by omega)
 obtain⟨W,hW⟩:∃ W:Int,(if from_=0 then 0 else (s.ps.map (·.1)).getD (from_ - 1) 0)=W:=⟨_,rfl⟩
 have h1:0≤W∧W≤(s.ps.map (·.1)).getD (to_ - 1) 0:=by
  rw[← hW]
  split
  ·exact⟨Int.le_refl _,h2.1⟩
  ·exact⟨(hb _ (by omega)).1,h.up _ _ (by omega) (by omega)⟩
 refine⟨W.toNat,((s.ps.map (·.1)).getD (to_ - 1) 0).toNat,by omega,by omega,by omega,by omega,?_⟩
 have e1:bodyFrom s.ps from_=W:=hW
 unfold bodyM bodyLo bodyHi
 rw[e1]
 have e2:min W.toNat s.bs.length=W.toNat:=by omega
 have e3:min (max ((s.ps.map (·.1)).getD (to_ - 1) 0) W).toNat s.bs.length=((s.ps.map (·.1)).getD (to_ - 1) 0).toNat:=by omega
 rw[e2,e3]
end
section
def lsL (L:LevM):Nat × Nat × List (Int × Bool):=(L.w,L.h,L.l.map fun z=>(z.low,z.said))
theorem set_ls (L:LevM) (k:Nat) (n:Int) {x:NodeM} (hx:L.l[k]?=some x):lsL { L with l:=L.l.set k { x with n:=n } }=lsL L:=by
 unfold lsL
 simp only[Prod.mk.injEq,true_and]
 rw[List.map_set]
 refine List.ext_getElem? fun i=>?_
 rw[List.getElem?_set]
 split
 ·rename_i e
  subst e
  rw[if_pos (by rw[List.length_map];exact(List.getElem?_eq_some_iff.1 hx).1),List.getElem?_map,hx]
  rfl
 ·rfl
theorem setLeaf_ls (T:List LevM) (k:Nat) (v:Int):(setLeaf T k v).map lsL=T.map lsL:=by
 unfold setLeaf
 cases T with
 | nil=>rfl
 | cons L R =>
  simp only[List.map_cons]
  congr 1
  split
  ·rename_i x hx
   exact set_ls L k v hx
  ·rfl
theorem minN_ls (M:LevM) (p:Nat) (n:Int):lsL (minN M p n)=lsL M:=by
 unfold minN
 cases hx:M.l[p]? with
 | some x =>
  have e:M.l.getD p nodeD=x:=by rw[List.getD_eq_getElem?_getD,hx];rfl
  rw[e]
  exact set_ls M p _ hx
 | none =>
  have:M.l.length≤p:=by simpa using hx
  unfold lsL
  simp only
  rw[List.set_eq_of_length_le this]
theorem pullK_ls (L M:LevM):∀ k,lsL (pullK L M k)=lsL M
 | 0=>rfl
 | k+1=>by rw[pullK,minN_ls,pullK_ls L M k]
theorem fillUp_ls:∀ (R:List LevM) (L:LevM),(fillUp L R).map lsL=R.map lsL
 | [],_=>rfl
 | M::R,L=>by simp only[fillUp,List.map_cons,fillUp_ls R,pullK_ls]
theorem top62_ls (L:LevM):lsL (top62 L)=lsL L:=by unfold lsL top62;simp
theorem fillT_ls (T:List LevM):(fillT T).map lsL=T.map lsL:=by
 cases T with
 | nil=>rfl
 | cons L R =>
  simp only[fillT,List.map_cons,fillUp_ls,List.map_map]
  congr 1
  exact List.map_congr_left fun M _=>top62_ls M
theorem getD_ls {L M:LevM} (h:lsL L=lsL M) (i:Nat):(L.l.getD i nodeD).low=(M.l.getD i nodeD).low∧(L.l.getD i nodeD).said=(M.l.getD i nodeD).said:=by
 unfold lsL at h
 simp only[Prod.mk.injEq] at h
 have e:=congrArg (·[i]?) h.2.2
 simp only[List.getElem?_map] at e
 rw[List.getD_eq_getElem?_getD,List.getD_eq_getElem?_getD]
 cases h1:L.l[i]? with
 | none =>
  cases h2:M.l[i]? with
  | none=>exact⟨rfl,rfl⟩
  | some y=>rw[h1,h2] at e;cases e
 | some x =>
  cases h2:M.l[i]? with
  | none=>rw[h1,h2] at e;cases e
  | some y =>
   rw[h1,h2] at e
   simp only[Option.map_some,Option.some.injEq,Prod.mk.injEq] at e
   exact e
theorem syT_of:∀ (U V:List LevM),U.map lsL=V.map lsL→(∀ M∈V,∀ i,(M.l.getD i nodeD).said=false)→SyT U V
 | [],[],_,_=>trivial
 | L::U,M::V,h,hs=>by
  rw[List.map_cons,List.map_cons,List.cons.injEq] at h
  have hlen:L.l.length=M.l.length:=by
   have:=congrArg (fun q:Nat × Nat × List (Int × Bool)=>q.2.2.length) h.1
   simpa [lsL] using this
  refine⟨⟨congrArg (fun q:Nat × Nat × List (Int × Bool)=>q.1) h.1,congrArg (fun q:Nat × Nat × List (Int × Bool)=>q.2.1) h.1,hlen,fun i=>?_⟩,syT_of U V h.2 fun K hK=>hs K (List.mem_cons_of_mem _ hK)⟩
  obtain⟨h1,h2⟩:=getD_ls h.1 i
  exact⟨h1,h2,fun h3=>by rw[h2,hs M List.mem_cons_self i] at h3;cases h3⟩
 | [],_::_,h,_=>by simp at h
 | _::_,[],h,_=>by simp at h
theorem treeNew_said:∀ (k w h:Nat),∀ M∈treeNew k w h,∀ i,(M.l.getD i nodeD).said=false
 | 0,_,_,M,hM,_=>by cases hM
 | k+1,w,h,M,hM,i=>by
  have e:((levNew w h).l.getD i nodeD).said=false:=by
   unfold levNew
   simp only
   rw[List.getD_eq_getElem?_getD]
   cases hx:(List.replicate (w * h) (⟨0,0,false⟩:NodeM))[i]? with
   | none=>rfl
   | some x =>
    rw[List.eq_of_mem_replicate (List.mem_of_getElem? hx)]
    rfl
  unfold treeNew at hM
  split at hM
  ·rw[List.mem_singleton] at hM
   rw[hM];exact e
  ·rcases List.mem_cons.1 hM with rfl | hM
   ·exact e
   ·exact treeNew_said k _ _ M hM i
theorem treeOf_said (w h:Int):∀ M∈treeOf w h,∀ i,(M.l.getD i nodeD).said=false:=by
 unfold treeOf
 split
 ·intro M hM;cases hM
 ·exact treeNew_said _ _ _
def leafN (T:List LevM) (j:Nat):Int:=match T with
 | []=>0
 | L::_=>(L.l.getD j nodeD).n
def leafS (T:List LevM) (j:Nat):Bool:=match T with
 | []=>false
 | L::_=>(L.l.getD j nodeD).said
theorem leafN_fill (T:List LevM) (j:Nat):leafN (fillT T) j=leafN T j:=by cases T <;> rfl
theorem leafN_set (T:List LevM) (k j n:Nat) (v:Int) (h:LeafOk T n) (hk:k<n):leafN (setLeaf T k v) j=if j=k then v else leafN T j:=by
 obtain⟨⟨L,R,rfl,hl⟩,-⟩:=h
 obtain⟨x,hx⟩:∃ x,L.l[k]?=some x:=⟨_,List.getElem?_eq_getElem (by omega)⟩
 unfold setLeaf leafN
 simp only[hx]
 rw[List.getD_eq_getElem?_getD,List.getElem?_set]
 by_cases e:k=j
 ·subst e
  rw[if_pos rfl,if_pos (by omega),if_pos rfl]
  rfl
 ·rw[if_neg e,if_neg (fun h=>e h.symm),← List.getD_eq_getElem?_getD]
theorem leafN_fold (v:Nat→Int) (n:Nat) (T:List LevM) (h:LeafOk T n) (j:Nat):∀ k,k≤n→leafN ((List.range k).foldl (fun U i=>setLeaf U i (v i)) T) j=(if j<k then v j else leafN T j)∧LeafOk ((List.range k).foldl (fun U i=>setLeaf U i (v i)) T) n
 | 0,_=>⟨by simp,h⟩
 | k+1,hk=>by
  obtain⟨h1,h2⟩:=leafN_fold v n T h j k (by omega)
  rw[List.range_succ,List.foldl_append]
  simp only[List.foldl_cons,List.foldl_nil]
  refine⟨?_,setLeaf_ok h2 _ _⟩
  rw[leafN_set _ k j n (v k) h2 (by omega),h1]
  by_cases e:j=k
  ·subst e
   rw[if_pos rfl,if_pos (by omega)]
  ·rw[if_neg e]
   by_cases e2:j<k
   ·rw[if_pos e2,if_pos (by omega)]
   ·rw[if_neg e2,if_neg (by omega)]
theorem leafN_ns {T U:List LevM} (h:T.map nsL=U.map nsL) (j:Nat):leafN T j=leafN U j:=by
 cases T with
 | nil =>
  cases U with
  | nil=>rfl
  | cons L R=>simp at h
 | cons L R =>
  cases U with
  | nil=>simp at h
  | cons M Q =>
   rw[List.map_cons,List.map_cons,List.cons.injEq] at h
   have e:=congrArg (fun q:Nat × Nat × List Int=>q.2.2[j]?) h.1
   simp only[nsL,List.getElem?_map] at e
   unfold leafN
   simp only
   rw[List.getD_eq_getElem?_getD,List.getD_eq_getElem?_getD]
   cases h1:L.l[j]? with
   | none =>
    cases h2:M.l[j]? with
    | none=>rfl
    | some y=>rw[h1,h2] at e;cases e
   | some x =>
    cases h2:M.l[j]? with
    | none=>rw[h1,h2] at e;cases e
    | some y =>
     rw[h1,h2] at e
     exact Option.some.inj e
theorem encAt_ns {T:List LevM} {k:Nat} (b:Int):(encAt T k b).1.map nsL=T.map nsL:=by
 cases T with
 | nil=>rfl
 | cons L R=>exact encT_ns (L::R) (k % L.w) (k / L.w) b
theorem leafS_other (T:List LevM) (k j:Nat) (b:Int) (h:j≠k):leafS (encAt T k b).1 j=leafS T j:=by
 cases T with
 | nil=>rfl
 | cons L R =>
  unfold leafS encAt
  simp only[encT]
  unfold LevM.set_
  simp only
  rw[Nat.div_add_mod' k L.w,List.getD_eq_getElem?_getD,List.getElem?_set_ne (fun e=>h e.symm),← List.getD_eq_getElem?_getD]
theorem at_read {l:List UInt8} {T:List Bool} (hR:RdsOn l T) (U V:List LevM) (n k i:Nat) (b:Int) (hs:SyT U V) (hg:EncGood U n) (hk:k<n) (h:Seg T i (encAt U k b).2) (hsd:leafS U k=true→leafN U k<b) :
  ∃ V',decAt l V k b (At T i)=(V',decide (leafN U k<b),At T (i+(encAt U k b).2.length))∧SyT (encAt U k b).1 V'∧(leafN U k<b→knownAt V' k=leafN U k)∧(leafS (encAt U k b).1 k=true↔leafN U k<b):=by
 obtain⟨hT,hm,ha⟩:=hg
 obtain⟨⟨L,R,rfl,hn⟩,hd,-⟩:=id hT
 obtain⟨p1,p2,p3⟩:=place_in (w:=L.w) (h:=L.h) (by rw[← hn];exact hk)
 cases V with
 | nil=>exact hs.elim
 | cons M Q =>
  have hsL:=hs.1
  obtain⟨V',e1,e2⟩:=tree_read hR (L::R) (M::Q) (k % L.w) (k / L.w) b i hs hd (fun L' R' e=>by cases e;exact⟨p1,p2⟩) ha hm h
  obtain⟨-,hlow,-⟩:=encT_ok R (k % L.w / 2) (k / L.w / 2) b hd.tail (by
   rintro M R' rfl
   have h1:=hd.at_ (L0:=L) rfl p1 p2 (i:=1) (L:=M) rfl
   simpa using h1) (fun M hM=>ha M (List.mem_cons_of_mem _ hM)) hm.2
  have hin:k<L.l.length:=by rw[hd.len0,← hn];exact hk
  have hatk:L.at_ (k % L.w) (k / L.w)=L.l.getD k nodeD:=by unfold LevM.at_;rw[p3]
  have hz:NodeOk (L.at_ (k % L.w) (k / L.w)):=by rw[hatk];exact ha L List.mem_cons_self _ hin
  have hlow2:(encT R (k % L.w / 2) (k / L.w / 2) b).2.1≤(L.at_ (k % L.w) (k / L.w)).n:=by
   cases R with
   | nil=>exact Int.le_trans hz.1 hz.2.1
   | cons M R'=>exact Int.le_trans (hlow M R' rfl) (hm.1 M R' rfl _ _ p1 p2)
  obtain⟨lo,hlo⟩:∃ lo,(encT R (k % L.w / 2) (k / L.w / 2) b).2.1=lo:=⟨_,rfl⟩
  rw[hlo] at hlow2
  have hn0:leafN (L::R) k=(L.at_ (k % L.w) (k / L.w)).n:=by rw[hatk];rfl
  have hs0:leafS (L::R) k=(L.at_ (k % L.w) (k / L.w)).said:=by rw[hatk];rfl
  rw[hs0,hn0] at hsd
  obtain⟨q1,q2⟩:=encL_known (b - max (L.at_ (k % L.w) (k / L.w)).low lo).toNat { L.at_ (k % L.w) (k / L.w) with low:=max (L.at_ (k % L.w) (k / L.w)).low lo } b (by
   show max _ _≤(L.at_ (k % L.w) (k / L.w)).n
   have:=hz.2.1
   omega) (Nat.le_refl _) hsd (fun _=>by
   show max _ _≤(L.at_ (k % L.w) (k / L.w)).n
   have:=hz.2.1
   omega)
  replace q1:(encNode (L.at_ (k % L.w) (k / L.w)) lo b).1.said=true↔(L.at_ (k % L.w) (k / L.w)).n<b:=q1
  replace q2:(encNode (L.at_ (k % L.w) (k / L.w)) lo b).1.n=(L.at_ (k % L.w) (k / L.w)).n:=q2
  have hset:∀ z:NodeM,((L.set_ (k % L.w) (k / L.w) z).l.getD k nodeD)=z:=by
   intro z
   unfold LevM.set_
   simp only
   rw[p3,List.getD_eq_getElem?_getD,List.getElem?_set_self hin]
   rfl
  have e2':SyT (L.set_ (k % L.w) (k / L.w) (encNode (L.at_ (k % L.w) (k / L.w)) lo b).1::(encT R (k % L.w / 2) (k / L.w / 2) b).1) V':=by
   have:(encT (L::R) (k % L.w) (k / L.w) b).1=L.set_ (k % L.w) (k / L.w) (encNode (L.at_ (k % L.w) (k / L.w)) lo b).1::(encT R (k % L.w / 2) (k / L.w / 2) b).1:=by simp only[encT,hlo]
   rw[← this]
   exact e2
  cases V' with
  | nil=>exact e2'.elim
  | cons M' Q' =>
   have k0:=e2'.1.at_ k
   rw[hset] at k0
   have hMw:M.w=L.w:=hsL.w.symm
   have hMw':M'.w=L.w:=e2'.1.w.symm
   have hat':M'.at_ (k % L.w) (k / L.w)=M'.l.getD k nodeD:=by unfold LevM.at_;rw[hMw',p3]
   refine⟨M'::Q',?_,?_,?_,?_⟩
   ·unfold decAt
    simp only[hMw,e1]
    rw[Prod.mk.injEq,Prod.mk.injEq]
    refine⟨rfl,?_,rfl⟩
    show belowM (M'.at_ (k % L.w) (k / L.w)) b=_
    rw[hat',hn0]
    unfold belowM
    by_cases hb:(L.at_ (k % L.w) (k / L.w)).n<b
    ·have h1:=q1.2 hb
     rw[← k0.2.1,h1,k0.2.2 h1,q2,decide_eq_true hb]
     rfl
    ·have h1:(encNode (L.at_ (k % L.w) (k / L.w)) lo b).1.said=false:=by
      cases hx:(encNode (L.at_ (k % L.w) (k / L.w)) lo b).1.said with
      | false=>rfl
      | true=>exact absurd (q1.1 hx) hb
     rw[← k0.2.1,h1,decide_eq_false hb]
     rfl
   ·exact e2
   ·intro hb
    rw[hn0] at hb ⊢
    unfold knownAt leafT
    simp only[hMw']
    rw[hat']
    unfold knownM
    have h1:=q1.2 hb
    rw[← k0.2.1,h1,if_pos rfl,k0.2.2 h1,q2]
   ·have e3:leafS (encAt (L::R) k b).1 k=(encNode (L.at_ (k % L.w) (k / L.w)) lo b).1.said:=by
     unfold encAt leafS
     simp only[encT,hlo]
     rw[hset]
    rw[e3,hn0]
    exact q1
end
section
open Go.RowKit
theorem plantM_twice (c:Nat) (m:BandM) (_h:0<m.ss.length):plantM c (plantM c m)=plantM c m:=by
 have hs:(plantM c m).set=true:=by
  unfold plantM
  split
  ·assumption
  ·have key:∀ (l:List Nat) (n:BandM),n.set=true→(l.foldl (plantStep c) n).set=true:=by
    intro l
    induction l with
    | nil=>intro n h;exact h
    | cons x l ih =>
     intro n h
     rw[List.foldl_cons]
     refine ih _ ?_
     unfold plantStep
     split
     ·exact h
     ·exact h
   exact key _ _ rfl
 have key2:∀ x:BandM,x.set=true→plantM c x=x:=by
  intro x hx
  unfold plantM
  rw[if_pos hx]
 exact key2 _ hs
theorem encM_fold (c:Nat):∀ (D:List BandA) (M:Nat→BandM),(D.map (·.bb)).Nodup→(∀ d∈D,(M d.bb).ss.length=d.n)→(∀ d∈D,((spotsOf D).foldl (encM c) M) d.bb=plantE c (M d.bb))∧∀ b,b ∉ D.map (·.bb)→((spotsOf D).foldl (encM c) M) b=M b
 | [],M,_,_=>⟨(fun d hd=>by cases hd),fun b _=>rfl⟩
 | d::D,M,hn,hl=>by
  rw[List.map_cons,List.nodup_cons] at hn
  have hone:∀ n,n≤d.n→((List.range n).map (fun k=>(⟨d,k⟩:SpotX))).foldl (encM c) M=if n=0 then M else updM M d.bb (plantM c (M d.bb)):=by
   intro n
   induction n with
   | zero=>intro _;rfl
   | succ n ih =>
    intro hnn
    rw[List.range_succ,List.map_append,List.foldl_append,ih (by omega),if_neg (Nat.succ_ne_zero n)]
    simp only[List.map_cons,List.map_nil,List.foldl_cons,List.foldl_nil]
    by_cases h0:n=0
    ·rw[if_pos h0];rfl
    ·rw[if_neg h0]
     unfold encM
     simp only[updM_same,updM_updM]
     rw[plantM_twice c _ (by rw[hl d List.mem_cons_self];omega)]
  have e0:(spotsOf (d::D)).foldl (encM c) M=(spotsOf D).foldl (encM c) (if d.n=0 then M else updM M d.bb (plantM c (M d.bb))):=by
   have:spotsOf (d::D)=(List.range d.n).map (fun k=>(⟨d,k⟩:SpotX))++spotsOf D:=rfl
   rw[this,List.foldl_append,hone d.n (Nat.le_refl _)]
  obtain⟨N,hN⟩:∃ N,(if d.n=0 then M else updM M d.bb (plantM c (M d.bb)))=N:=⟨_,rfl⟩
  rw[hN] at e0
  have eN:N d.bb=plantE c (M d.bb):=by
   rw[← hN]
   unfold plantE
   rw[hl d List.mem_cons_self]
   split
   ·rfl
   ·exact updM_same _ _ _
  have eO:∀ b,b≠d.bb→N b=M b:=by
   intro b hb
   rw[← hN]
   split
   ·rfl
   ·exact updM_other _ _ hb
  have hne:∀ x∈D,x.bb≠d.bb:=fun x hx h=>hn.1 (h ▸ List.mem_map.2 ⟨x,hx,rfl⟩)
  obtain⟨i1,i2⟩:=encM_fold c D N hn.2 (fun x hx=>by rw[eO _ (hne x hx)];exact hl x (List.mem_cons_of_mem _ hx))
  rw[e0]
  refine⟨fun x hx=>?_,fun b hb=>?_⟩
  ·rcases List.mem_cons.1 hx with rfl | hx
   ·rw[i2 _ hn.1,eN]
   ·rw[i1 x hx,eO _ (hne x hx)]
  ·rw[List.map_cons,List.mem_cons,not_or] at hb
   rw[i2 b hb.2,eO b hb.1]
end
section
open Go.RowKit
def RdI (w:World) (v:Value) (xs:List Int):Prop :=
 ∃ (a:Option Addr) (cap:Nat),v=.slice a xs.length cap∧xs.length≤cap∧cap≤maxLen ∧
  ∀ k x,xs[k]?=some x→∃ b o,a=some ⟨b,o,none⟩∧w.cell? ⟨b,o+k,none⟩=some (.int .i64 x)
theorem RdI.keep {w w':World} {v:Value} {xs:List Int} (h:RdI w v xs) (hb:Below w.heap.size w w'):RdI w' v xs:=by
 obtain⟨a,cap,rfl,h1,h2,h3⟩:=h
 refine⟨a,cap,rfl,h1,h2,fun k x hx=>?_⟩
 obtain⟨b,o,rfl,hc⟩:=h3 k x hx
 exact⟨b,o,rfl,(hb.cell (World.block_lt_of_cell? w _ hc)).trans hc⟩
def RdS (w:World) (v:Value) (l:List ShapeM):Prop :=
 ∃ (a:Option Addr) (cap:Nat),v=.slice a l.length cap∧l.length≤cap∧cap≤maxLen ∧
  ∀ k s,l[k]?=some s→∃ b o vp vn,a=some ⟨b,o,none⟩∧w.cell? ⟨b,o+k * 5,none⟩=some (.int .i64 s.w)∧w.cell? ⟨b,o+k * 5+1,none⟩=some (.int .i64 s.h)∧w.cell? ⟨b,o+k * 5+2,none⟩=some (.int .i64 s.spare) ∧
   w.cell? ⟨b,o+k * 5+3,none⟩=some vp∧w.cell? ⟨b,o+k * 5+4,none⟩=some vn∧RdI w vp s.planes∧RdI w vn s.ns
theorem RdS.keep {w w':World} {v:Value} {l:List ShapeM} (h:RdS w v l) (hb:Below w.heap.size w w'):RdS w' v l:=by
 obtain⟨a,cap,rfl,h1,h2,h3⟩:=h
 refine⟨a,cap,rfl,h1,h2,fun k x hx=>?_⟩
 obtain⟨b,o,vp,vn,rfl,c0,c1,c2,c3,c4,r1,r2⟩:=h3 k x hx
 have g:∀ (j:Nat) (u:Value),w.cell? ⟨b,j,none⟩=some u→w'.cell? ⟨b,j,none⟩=some u:=fun j u hc=>(hb.cell (World.block_lt_of_cell? w _ hc)).trans hc
 exact⟨b,o,vp,vn,rfl,g _ _ c0,g _ _ c1,g _ _ c2,g _ _ c3,g _ _ c4,r1.keep hb,r2.keep hb⟩
theorem within8 (x n:Int) (w:World) (h3:1≤n) (h4:n≤1000000) :
  Calls Tryz.prog 65 #[.int .i64 x,.int .i64 n] w fun e w'=>e=.returned (.int .i64 (x % n))∧w'=w:=by
 obtain⟨h5,h6⟩:=tmod_bd x n h3
 have E:=Lib.hid (tmod_adj x n h3)
 go_enter Tryz.func65,Tryz.ntmps65
 go_wp2
 all_goals go_ret
 ·exact⟨by rw[← E.out,if_pos (by assumption)];rfl,rfl⟩
 ·exact⟨by rw[← E.out,if_neg (by omega)];rfl,rfl⟩
theorem within8W (x:Int) (n:Nat) (w:World) (h3:1≤n) (h4:n≤1000000) :
  Calls Tryz.prog 65 #[.int .i64 x,.int .i64 (n:Int)] w fun e w'=>e=.returned (.int .i64 (wIn x n:Nat))∧w'=w:=by
 rw[wIn_cast x h3]
 exact within8 x n w (by omega) (by omega)
theorem within15W (x:Int) (n:Nat) (w:World) (h3:1≤n) (h4:n≤1000000) :
  Calls Tryz.prog 8 #[.int .i64 x,.int .i64 (n:Int)] w fun e w'=>e=.returned (.int .i64 (wIn x n:Nat))∧w'=w:=by
 rw[wIn_cast x h3]
 exact within15 x n w (by omega) (by omega)
theorem flat_int15:(List.replicate 15 (Value.int .i64 0).cells.toList).flatten=(List.replicate 15 (0:Int)).map (Value.int .i64):=by rw[flat_int];rfl
theorem valsM_length (n:Nat) (ns:List Int):(valsM n ns).length=15:=by simp[valsM]
theorem valsM_get (n:Nat) (ns:List Int) {i:Nat} (hi:i<15):(valsM n ns)[i]?=some (valM n ns i):=by simp[valsM,hi]
theorem midI_get0 (l:List Int) (i:Nat) (hi:i<l.length):(midI l i)[i]?=some 0:=by
 unfold midI
 rw[List.getElem?_append_right (by rw[List.length_take];omega),List.length_take,show i - min i l.length=0 by omega,List.getElem?_replicate,if_pos (by omega)]
theorem set_same {α:Type} {l:List α} {i:Nat} {x:α} (h:l[i]?=some x):l.set i x=l:=by
 apply List.ext_getElem?
 intro j
 rw[List.getElem?_set]
 split
 ·rename_i e
  subst e
  rw[if_pos (List.getElem?_eq_some_iff.1 h).1,h]
 ·rfl
theorem midI_skip (l:List Int) (i:Nat) (h:l[i]?=some 0):midI l (i+1)=midI l i:=by
 rw[← midI_set l i h]
 have hi:=(List.getElem?_eq_some_iff.1 h).1
 have h0:=midI_get0 l i hi
 exact set_same h0
theorem pow_w64 (p:Nat) (hp:p≤12):wrap64 ((2:Int) ^ p)=((2 ^ p:Nat):Int):=by
 have key:∀ q<13,wrap64 ((2:Int) ^ q)=((2 ^ q:Nat):Int):=by decide +kernel
 exact key p (by omega)
theorem valM_eq (n:Nat) (ns:List Int) (j L q r:Nat) (x:Int) (hL:ns.length=L) (h0:0<L) (hq:j % L=q) (hr:j / L=r) (hx:ns[q]?=some x) (p:Nat) (hp:wIn (wrap64 (Int.tdiv x 7)) (n+1)=p) (m:Nat) (hm:wIn (wrap64 (wrap64 (Int.tdiv x 64)+(j:Int))) (2 ^ p)=m) (c:Nat) (hc:wIn (wrap64 (x+(r:Int))) 5=c) :
  valM n ns j=if c<2 then (m:Int) else if c<4 then -(m:Int) else 0:=by
 have e:ns.getD q 0=x:=by rw[List.getD_eq_getElem?_getD,hx];rfl
 unfold valM
 rw[hL,if_neg (by omega),hq,e,hr]
 simp only[hp,hm,hc]
theorem vals_zero (n:Nat) (ns:List Int) (h:ns.length=0):valsM n ns=midI (valsM n ns) 0:=by
 rw[midI_zero,valsM_length]
 apply List.ext_getElem?
 intro i
 by_cases hi:i<15
 ·rw[valsM_get n ns hi,List.getElem?_replicate,if_pos hi]
  unfold valM
  rw[if_pos h]
 ·rw[List.getElem?_eq_none (by rw[valsM_length];omega),List.getElem?_eq_none (by simp;omega)]
theorem values_any (n:Nat) (hn:n≤12) (ns:List Int) (v:Value) (W:World) (hv:RdI W v ns) :
  Calls Tryz.prog 18 #[.int .i64 3,.int .i64 5,.int .i64 (n:Int),v] W fun e W'=>∃ g,e=.returned (.slice (some ⟨g,0,none⟩) 15 15)∧Mv W [] W' [rowI g (valsM n ns)]:=by
 obtain⟨i0,hi,hz0,hz1,hz2⟩:=info_parts infoI
 have hm:(Instr.makeSlice 38 (.int .i64 15) (.int .i64 15)).run Tryz.prog W=.ok (.slice (some ⟨W.heap.size,0,none⟩) 15 15) _:=run_made (P:=Tryz.prog) 38 3 i0 _ 1 8 15 Tryz.underlying38 hi hz0 hz1 hz2 rfl (by decide) (by decide) (by decide) W
 rw[flat_int15] at hm
 have M0:Mv W [] (W.alloc (.cells ((List.replicate 15 (0:Int)).map (Value.int .i64)).toArray 3)) [rowI W.heap.size (midI (valsM n ns) 0)]:=by
  rw[midI_zero,valsM_length]
  exact mv_alloc W 3 ((List.replicate 15 (0:Int)).map (Value.int .i64)).toArray
 obtain⟨g,hg⟩:∃ g,W.heap.size=g:=⟨_,rfl⟩
 obtain⟨w1,hw1⟩:∃ w1,W.alloc (.cells ((List.replicate 15 (0:Int)).map (Value.int .i64)).toArray 3)=w1:=⟨_,rfl⟩
 have M1:Mv W [] w1 [rowI W.heap.size (midI (valsM n ns) 0)]:=by rw[← hw1];exact M0
 rw[hw1] at hm
 rw[hg] at hm M1
 have K1:=Lib.hid M1
 obtain⟨A,c,rfl,hv1,hv2,hv3⟩:=hv
 obtain⟨L,hL⟩:∃ L,ns.length=L:=⟨_,rfl⟩
 have HV:=Lib.hid (And.intro hL hv3)
 have HL:=Lib.hid hL
 rw[hL] at hv1 ⊢
 have hL2:L≤9223372036854775807:=by unfold maxLen at hv2;omega
 clear M0 M1 hw1 hi hz0 hz1 hz2 hv3 hL hg hv1 hv2
 go_enter Tryz.func18,Tryz.ntmps18
 go_wp2_with fail
 go_loopg [10] 15 (fun mm s10 wx=>∃ j:Nat,j≤15∧mm=15 - j∧s10=.int .i64 (j:Int)∧(L=0→j=0)∧Mv W [] wx [rowI g (midI (valsM n ns) j)])
 case atStart=>exact⟨0,by decide,rfl,rfl,fun _=>rfl,K1.out⟩
 case round =>
  clear K1
  obtain⟨j,hj,rfl,rfl,hL0,m⟩:=hrel
  by_cases hlt:j<15∧0<L
  ·obtain⟨h1,h2⟩:=hlt
   have d1:decide ((j:Int)<15)=true:=by simp;omega
   have d2:decide (0<(L:Int))=true:=by simp;omega
   have hq:=Nat.mod_lt j h2
   obtain⟨q,hq2⟩:∃ q,j % L=q:=⟨_,rfl⟩
   rw[hq2] at hq
   obtain⟨x,hx⟩:∃ x,ns[q]?=some x:=⟨_,List.getElem?_eq_getElem (by rw[HV.out.1];exact hq)⟩
   obtain⟨b,o,rfl,hc0⟩:=HV.out.2 q x hx
   have hc:=m.old hc0 (World.block_lt_of_cell? W _ hc0)
   have E1:(j:Int) % (L:Int)=(q:Int):=by rw[← hq2];push_cast;rfl
   have KM:=Lib.hid m
   clear m hm HV hc0
   have W1:=Lib.hid fun V=>within8W (wrap64 (Int.tdiv x 7)) (n+1) V (by omega) (by omega)
   obtain⟨p,hp⟩:∃ p,wIn (wrap64 (Int.tdiv x 7)) (n+1)=p:=⟨_,rfl⟩
   have hp12:p≤12:=by
    have:=wIn_lt (wrap64 (Int.tdiv x 7)) (n:=n+1) (by omega)
    omega
   rw[hp] at W1
   simp only[Int.natCast_add,Int.cast_ofNat_Int] at W1
   go_upto_region 7 with (go_at_call 65;(with_reducible refine(W1.out _).mono ?_);rintro e w' ⟨rfl,rfl⟩)
   have hp2:1≤2 ^ p∧2 ^ p≤1000000:=by
    have h3:2 ^ p≤2 ^ 12:=Nat.pow_le_pow_right (by decide) hp12
    exact⟨Nat.pow_pos (by decide),Nat.le_trans h3 (by decide)⟩
   have W2:=Lib.hid fun V=>within8W (wrap64 (wrap64 (Int.tdiv x 64)+(j:Int))) (2 ^ p) V hp2.1 hp2.2
   rw[← pow_w64 p hp12] at W2
   obtain⟨mv,hmv⟩:∃ mv,wIn (wrap64 (wrap64 (Int.tdiv x 64)+(j:Int))) (2 ^ p)=mv:=⟨_,rfl⟩
   have hmv2:mv<4096:=by
    have h3:=wIn_lt (wrap64 (wrap64 (Int.tdiv x 64)+(j:Int))) hp2.1
    have h4:2 ^ p≤2 ^ 12:=Nat.pow_le_pow_right (by decide) hp12
    have h5:(2:Nat) ^ 12=4096:=rfl
    omega
   rw[hmv] at W2
   obtain⟨r,hr⟩:∃ r,j / L=r:=⟨_,rfl⟩
   have hr2:r≤15:=by
    have:=Nat.div_le_self j L
    omega
   have E2:(j:Int) / (L:Int)=(r:Int):=by rw[← hr];push_cast;rfl
   have W3:=Lib.hid fun V=>within8W (wrap64 (x+(r:Int))) 5 V (by decide) (by decide)
   obtain⟨cs,hcs⟩:∃ cs,wIn (wrap64 (x+(r:Int))) 5=cs:=⟨_,rfl⟩
   have hcs2:cs<5:=by
    have h3:=wIn_lt (wrap64 (x+(r:Int))) (n:=5) (by decide)
    omega
   rw[hcs] at W3
   simp only[Int.cast_ofNat_Int] at W3
   have HVAL:=Lib.hid (valM_eq n ns j L q r x HL.out h2 hq2 hr hx p hp mv hmv cs hcs)
   clear hp hmv hr hcs hp2 hx hq2
   go_upto_region 8 with (go_at_call 65;(with_reducible refine(W2.out _).mono ?_);rintro e w' ⟨rfl,rfl⟩)
   have MS:=Lib.hid (KM.out.set (R:=[]) j)
   have zc:w'.cell? ⟨g,j,none⟩=some (.int .i64 0):=by
    refine(KM.out.cell 0 rfl j).trans ?_
    simp only[List.getElem?_toArray,List.getElem?_map]
    rw[midI_get0 _ _ (by rw[valsM_length];exact h1)]
    rfl
   have zf:w'.frozen? ⟨g,j,none⟩=false:=KM.out.frozen 0 rfl j
   have NX:Hid (∀ v:Int,valM n ns j=v→Mv W [] (w'.setCell ⟨g,j,none⟩ (.int .i64 v)) [rowI g (midI (valsM n ns) (j+1))]):=Lib.hid (by
    intro v hv
    have h3:=KM.out.set (R:=[]) j (.int .i64 v)
    rw[show (rowI g (midI (valsM n ns) (j+1)))=⟨g,3,(rowI g (midI (valsM n ns) j)).cs.setIfInBounds j (.int .i64 v)⟩ by rw[rowI_set,midI_set _ _ (by rw[valsM_get n ns h1,hv])];rfl]
    exact h3)
   have KN:Hid (valM n ns j=0→Mv W [] w' [rowI g (midI (valsM n ns) (j+1))]):=Lib.hid (by
    intro hv
    rw[midI_skip _ _ (by rw[valsM_get n ns h1,hv])]
    exact KM.out)
   clear KM MS W1 W2 hc
   obtain h5 | h5 | h5 | h5 | h5:cs=0∨cs=1∨cs=2∨cs=3∨cs=4:=by omega
   all_goals
    subst h5
    clear hcs2
    go_wp2_with (go_at_call 65;(with_reducible refine(W3.out _).mono ?_);rintro e w2 ⟨rfl,rfl⟩)
    go_roundg (15 - (j+1))
    case measure=>omega
    case rel=>exact⟨j+1,h1,rfl,by push_cast;rfl,by omega,by first | exact NX.out _ (by rw[HVAL.out];rfl) | exact KN.out (by rw[HVAL.out];rfl)⟩
  ·have hex:midI (valsM n ns) j=valsM n ns:=by
    by_cases h2:L=0
    ·rw[hL0 h2]
     exact(vals_zero n ns (by rw[HL.out,h2])).symm
    ·have hj15:j=15:=by omega
     rw[hj15]
     have:=midI_all (valsM n ns)
     rw[valsM_length] at this
     exact this
   rw[hex] at m
   have KM:=Lib.hid m
   clear m hex HV hm
   have hlt2:j<15→L=0:=fun h=>by omega
   by_cases h1:j<15
   ·have d1:decide ((j:Int)<15)=true:=by simp;omega
    obtain rfl:L=0:=hlt2 h1
    go_wp2_with fail
    go_ret
    exact⟨g,rfl,KM.out⟩
   ·have d1:decide ((j:Int)<15)=false:=by simp;omega
    go_wp2_with fail
    go_ret
    exact⟨g,rfl,KM.out⟩
end
end Go.Proofs.YtjngfhgakokejaaGreat
