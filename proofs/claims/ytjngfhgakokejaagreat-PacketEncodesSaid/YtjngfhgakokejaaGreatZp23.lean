/- packet.Encode: a round of the loop that looks. packet.Encode: whole. -/
import Derived.Test.YtjngfhgakokejaaGreatZp22
import Derived.Test.YtjngfhgakokejaaGreatZp10
set_option maxRecDepth 100000
set_option maxHeartbeats 8000000
namespace Go.Proofs.YtjngfhgakokejaaGreat
section
open Go.RowKit Go.Shelf
attribute [local go_sem] Oper.semAt_some
theorem newB_encM (count layer c:Nat) (l:List SpotX) (M:Nat→BandM) (x:SpotX):newB count layer (l.foldl (encM c) M) x=newB count layer M x:=by
 unfold newB
 rw [encM_ss]
theorem moreM_snoc (count layer:Nat) (M:Nat→BandM) (l:List SpotX) (x:SpotX):moreM count layer M (l++[x])=(moreM count layer M l || newB count layer M x):=by
 unfold moreM
 rw [List.any_append]
 simp
def encPm (n0:Nat) (A:Option Addr) (c:Nat) (D:List BandA) (style count layer:Nat) (HL:List HB) (M:Nat→BandM) (pre:List (SpotIn D)) (H:List HB):Prop :=
 ∃ HB',H=encX n0 A D.length c style count layer (moreM count layer M (pre.map (·.1)))++(HL++HB')∧BandsR D ((pre.map (·.1)).foldl (encM count) M) HB'
theorem enc_round1 (l:Nat) (D:List BandA) (A:Option Addr) (c n0 B:Nat) (HL:List HB) (style count layer:Nat) (M:Nat→BandM) (pre:List (SpotIn D)) (x:SpotX) (hx:x∈spotsOf D) (w:World) (H:List HB) (s0 s1 s2 s3 s4 s8 s12 s13 s14 s15 s16 s17 s18 s19 s20 s21 s22 s23 s24 s25 s26 s27 s28 s29 s30 s31 s32 s33 s34 s35 s36 s37 s38 s39 s40 s41 s42 s43 s44 s45 s46 s47 s48 s49 s50 s51 s52 s53 s54 s55 s56 s57 s58 s59 s60 s61 s62 s63 s64 s65 s66 s67 s68 s69 s70 s71 s72 s73 s74 s75 s76 s77 s78 s79 s80 s81 s82 s83:Value)
  (hP:encPm n0 A c D style count layer HL M pre H) (hs:Sat w (⟨B,66,x.cells⟩::H)) (hly:layer≤100) (hct:count≤100000) :
  (blockR 1 Tryz.f10).wpIn (Fence.wide.inRound l) 6 Tryz.prog (spPost w (⟨B,66,x.cells⟩::H) (encPm n0 A c D style count layer HL M) (fun _ _=>False) (pre++[⟨x,hx⟩]))
   ⟨List.toArray (s0::s1::s2::s3::s4::(.pointer (some ⟨n0,0,none⟩))::(.pointer (some ⟨n0+1,0,none⟩))::(.pointer (some ⟨n0+2,0,none⟩))::s8::(.pointer (some ⟨n0+3,0,none⟩))::(.pointer (some ⟨n0+4,0,none⟩))::(.pointer (some ⟨B,0,none⟩))::s12::s13::s14::s15::s16::s17::s18::s19::s20::s21::s22::s23::s24::s25::s26::s27::s28::s29::s30::s31::s32::s33::s34::s35::s36::s37::s38::s39::s40::s41::s42::s43::s44::s45::s46::s47::s48::s49::s50::s51::s52::s53::s54::s55::s56::s57::s58::s59::s60::s61::s62::s63::s64::s65::s66::s67::s68::s69::s70::s71::s72::s73::s74::s75::s76::s77::s78::s79::s80::s81::s82::s83::[]),[]⟩ w:=by
 conv in (blockR _ _)=>whnf
 obtain ⟨HB1,rfl,hBs⟩:=hP
 obtain ⟨hxd,hxk⟩:=mem_spots hx
 obtain ⟨d,k⟩:=x
 simp only at hxd hxk
 obtain ⟨mb,hmb⟩:∃ mb,moreM count layer M (pre.map (·.1))=mb:=⟨_,rfl⟩
 obtain ⟨nb,hnb⟩:∃ nb,newB count layer M ⟨d,k⟩=nb:=⟨_,rfl⟩
 have hmn:moreM count layer M ((pre++[(⟨⟨d,k⟩,hx⟩:SpotIn D)]).map (fun x=>x.1))=(mb || nb):=by rw [List.map_append,← hmb,← hnb];exact moreM_snoc _ _ _ _ _
 rw [hmb] at hs ⊢
 obtain ⟨PS,hPS⟩:∃ PS,spPost w (⟨B,66,SpotX.cells ⟨d,k⟩⟩::(encX n0 A D.length c style count layer mb++(HL++HB1))) (encPm n0 A c D style count layer HL M) (fun _ _=>False) (pre++[⟨⟨d,k⟩,hx⟩])=PS:=⟨_,rfl⟩
 have LP:Hid (¬LetsOut PS):=Lib.hid (by rw [← hPS];rintro ⟨a,w,h⟩;exact h)
 rw [hPS]
 obtain ⟨M1,hM1⟩:∃ M1,(pre.map (·.1)).foldl (encM count) M=M1:=⟨_,rfl⟩
 rw [hM1] at hBs
 have hnb1:newB count layer M1 ⟨d,k⟩=nb:=by rw [← hM1,newB_encM];exact hnb
 obtain ⟨XX,hXX⟩:∃ XX:Bool→List HB,XX=fun b=>(⟨B,66,SpotX.cells ⟨d,k⟩⟩::encX n0 A D.length c style count layer b:List HB):=⟨_,rfl⟩
 obtain ⟨HH,hHH⟩:∃ HH,HH=XX mb++(HL++HB1):=⟨_,rfl⟩
 have M0:Mv w HH w HH:=Mv.refl (by rw [hHH,hXX];exact hs)
 have hkn:k<4096:=by obtain ⟨b,-,k2,-⟩:=hBs.band hxd;exact Nat.lt_of_lt_of_le hxk k2.small
 have PL:Hid (Calls Tryz.prog 23 #[.pointer (some ⟨d.bb,0,none⟩),.int .i64 (count:Int)] w fun e w2=>e=.returned (.tuple #[])∧∃ HB2,BandsR D (encM count M1 ⟨d,k⟩) HB2∧Mv w HH w2 (XX mb++(HL++HB2))):=Lib.hid (by
  obtain ⟨H1,R,r1,sm,back⟩:=hBs.split (Sat.right (Sat.right (A:=XX mb) (by rw [← hHH];exact M0.sat))).1 hxd
  have m1:Mv w HH w (H1++(XX mb++(HL++R))):=by
   refine M0.sub (fun g=>?_) (fun y hy=>?_)
   ·have:=sm.1 g
    rw [hHH]
    simp only [cnt_append] at this ⊢
    omega
   ·have:=sm.2 y
    rw [hHH]
    simp only [List.mem_append] at this hy ⊢
    grind
  refine (plant_any d _ w H1 r1 m1.sat.left count hct).mono ?_
  rintro e w2 ⟨rfl,H1',h1,h2⟩
  obtain ⟨HB2,h3,h4⟩:=back _ _ h1
  refine ⟨rfl,HB2,h3,(Mv.call m1 h2).sub (fun g=>?_) (fun y hy=>?_)⟩
  ·have:=h4.1 g
   simp only [cnt_append] at this ⊢
   omega
  ·have:=h4.2 y
   simp only [List.mem_append] at this hy ⊢
   grind)
 have BX:Hid (∀ w' v HB2,Mv w HH w' (XX v++(HL++HB2))→w'.cell? ⟨B,0,none⟩=some (.pointer (some ⟨d.lb,k * 5,none⟩))∧w'.cell? ⟨B,1,none⟩=some (.pointer (some ⟨d.bb,0,none⟩))∧w'.cell? ⟨B,2,none⟩=some (.int .i64 (k:Int))∧w'.cell? ⟨n0+1,0,none⟩=some (.int .i64 (count:Int))∧w'.cell? ⟨n0+2,0,none⟩=some (.int .i64 (layer:Int)) ∧
   w'.cell? ⟨n0+4,0,none⟩=some (.bool v)∧w'.frozen? ⟨n0+4,0,none⟩=false):=Lib.hid (by
  intro w' v HB2 m
  have a0:Sat w' (XX v):=m.sat.left
  rw [hXX] at a0
  have a1:=a0.at_ 0 rfl
  have a4:=a0.at_ 2 rfl
  have a3:=a0.at_ 4 rfl
  have a2:=a0.at_ 5 rfl
  exact ⟨a1.cell 0,a1.cell 1,a1.cell 2,a2.cell 0,a3.cell 0,a4.cell 0,a4.frozen 0⟩)
 have BS:Hid (∀ HB2,BandsR D (encM count M1 ⟨d,k⟩) HB2→∃ (np cp:Nat) (A':Option Addr) (said:Int),np≤1000∧decide (said<passN np count (layer+1))=nb∧∀ w',Mv w HH w' (XX mb++(HL++HB2))→w'.cell? ⟨d.lb,k * 5+1,none⟩=some (.slice A' np cp)∧w'.cell? ⟨d.lb,k * 5+3,none⟩=some (.int .i64 said)):=Lib.hid (by
  intro HB2 h2
  obtain ⟨b,k1,k2,k3⟩:=h2.band hxd
  obtain ⟨st,hst⟩:∃ st,b.G[k]?=some st:=⟨_,List.getElem?_eq_getElem (by rw [k2.len];exact hxk)⟩
  have hso:=k2.st st (List.mem_of_getElem? hst)
  obtain ⟨A',cp,hvp⟩:=hso.passes
  refine ⟨st.m.ps.length,cp,A',st.m.said,hso.2.2.np,?_,fun w' m=>?_⟩
  ·rw [← hnb1]
   have e1:(encM count M1 ⟨d,k⟩ d.bb).ss=(M1 d.bb).ss:=by unfold encM;rw [updM_same];exact (plantM_ss _ _).1
   have e2:(M1 d.bb).ss[k]?=some st.m:=by rw [← e1,← k1];simp [BandG.model,hst]
   unfold newB
   rw [e2]
  ·have a5:=Mv.blkm m (List.mem_append_right _ (List.mem_append_right _ (k3 _ (b.mem_states d))))
   have a6:=state_cells a5 hst
   rw [hvp] at a6
   exact ⟨a6.2.1,a6.2.2.2.1⟩)
 have FIN:Hid (∀ (a:Act) (w4:World) (HB2:List HB),BandsR D (encM count M1 ⟨d,k⟩) HB2→Mv w HH w4 (XX (mb || nb)++(HL++HB2))→PS .normal a w4):=Lib.hid (by
  intro a w4 HB2 h2 m4
  rw [← hPS]
  rw [hHH,hXX] at m4
  refine ⟨encX n0 A D.length c style count layer (mb || nb)++(HL++HB2),⟨HB2,by rw [hmn],?_⟩,Mv.drop1 m4⟩
  rw [List.map_append,List.foldl_append,hM1]
  exact h2)
 have ST:Hid (∀ w4 v v' HB2,Mv w HH w4 (XX v++(HL++HB2))→Mv w HH (w4.setCell ⟨n0+4,0,none⟩ (.bool v')) (XX v'++(HL++HB2))):=Lib.hid (by
  intro w4 v v' HB2 m4
  rw [hXX] at m4 ⊢
  exact Mv.setAt (A:=[_,_]) m4 0 (.bool v'))
 obtain ⟨b0,b1,b2,b3,b4,b5,b6⟩:=BX.out w mb HB1 (by rw [← hHH];exact M0)
 clear M0 hs hBs hXX hHH hM1 hPS hmn hnb hnb1 hmb
 gi_wp2_with (refine ⟨trivial,?_⟩;gi_at_call 23;refine (CallsIn.inRound l (callsIn_wide.2 PL.out)).mono ?_;rintro e w2 ⟨rfl,HB2,h2,m2⟩;have K2:=Lib.hid (And.intro h2 m2);clear h2 m2)
 clear b0 b1 b2 b3 b4 b5 b6
 obtain ⟨np,cp,A',said,hnp,d1,BC⟩:=BS.out HB2 K2.out.1
 have BC:=Lib.hid BC
 have hmx:Tryz.prog.follows .mixedOrders=true:=by kernel_rfl
 obtain ⟨C,hC⟩:∃ C:World→Prop,C=fun w'=>Hid (Mv w HH w' (XX mb++(HL++HB2))):=⟨_,rfl⟩
 have CF:∀ w',C w'→w'.cell? ⟨B,0,none⟩=some (.pointer (some ⟨d.lb,k * 5,none⟩))∧w'.cell? ⟨B,1,none⟩=some (.pointer (some ⟨d.bb,0,none⟩))∧w'.cell? ⟨B,2,none⟩=some (.int .i64 (k:Int))∧w'.cell? ⟨n0+4,0,none⟩=some (.bool mb)∧w'.frozen? ⟨n0+4,0,none⟩=false∧w'.cell? ⟨d.lb,k * 5+3,none⟩=some (.int .i64 said)∧w'.cell? ⟨n0+1,0,none⟩=some (.int .i64 (count:Int))∧w'.cell? ⟨n0+2,0,none⟩=some (.int .i64 (layer:Int)):=by
  intro w' h
  rw [hC] at h
  obtain ⟨a0,a1,a2,a3,a4,a5,a6⟩:=BX.out w' mb HB2 h.out
  exact ⟨a0,a1,a2,a5,a6,(BC.out w' h.out).2,a3,a4⟩
 have CK:∀ w',C w'→Calls Tryz.prog 24 #[.agg #[.pointer (some ⟨d.lb,k * 5,none⟩),.pointer (some ⟨d.bb,0,none⟩),.int .i64 (k:Int)],.int .i64 (count:Int),.int .i64 (layer:Int)] w' fun e w3=>e=.returned (.int .i64 (passN np count ((layer:Int)+1)))∧C w3:=by
  intro w' h
  rw [hC] at h ⊢
  refine (fresh_any ⟨d,k⟩ count layer w' A' np cp (BC.out w' h.out).1 (by simp;omega) (by omega) ⟨by omega,by omega⟩ ⟨by omega,by omega⟩).mono ?_
  rintro e w3 ⟨rfl,m3⟩
  exact ⟨rfl,Lib.hid (Mv.call (H:=[]) (H':=[]) h.out m3)⟩
 have CD:C w2.drew:=by rw [hC];exact Lib.hid (Mv.drew K2.out.2)
 replace CF:=Lib.hid CF
 replace CK:=Lib.hid CK
 have HC:=Lib.hid hC
 clear hC hnp
 cases mb with
 | true =>
  clear d1
  refine round_quiet_tail 13 C hmx (by kernel_rfl) (fun ⟨a,w,h⟩=>LP.out ⟨a,w,h⟩) CD (by kernel_rfl) ?_
  simp only [List.take_succ_cons,List.take_zero,List.drop_succ_cons,List.drop_zero]
  (first | (with_reducible refine qc_pass ?hw1 ?nx1;(case hw1=>(go_simp;done));(try simp only [Act.put,List.setIfInBounds_toArray,List.set_cons_zero,List.set_cons_succ])) | (with_reducible refine qc_one ?v1 ?hw1 (fun w' hw'=>?hr1) ?nx1;(case hw1=>(go_simp;done));(case hr1=>(first | (refine qc_val ?_;(obtain ⟨a0,a1,a2,a3,a4,a5,a6,a7⟩:=CF.out w' hw');clear hw';go_simp;done) | (refine qc_val ?_;(obtain ⟨a0,a1,a2,a3,a4,a5,a6,a7⟩:=CF.out w' hw');clear hw';go_simp;rfl) | (refine qc_call (f:=?f1) (args:=?args1) ?h11 ?h21;(case h11=>((obtain ⟨a0,a1,a2,a3,a4,a5,a6,a7⟩:=CF.out w' hw');go_simp;constructor <;> rfl));(case h21=>(exact CK.out w' hw'))) | (refine qc_skip ?_;(obtain ⟨a0,a1,a2,a3,a4,a5,a6,a7⟩:=CF.out w' hw');clear hw';go_simp;done)));(try simp only [Act.put,List.setIfInBounds_toArray,List.set_cons_zero,List.set_cons_succ])))
  (first | (with_reducible refine qc_pass ?hw2 ?nx2;(case hw2=>(go_simp;done));(try simp only [Act.put,List.setIfInBounds_toArray,List.set_cons_zero,List.set_cons_succ])) | (with_reducible refine qc_one ?v2 ?hw2 (fun w' hw'=>?hr2) ?nx2;(case hw2=>(go_simp;done));(case hr2=>(first | (refine qc_val ?_;(obtain ⟨a0,a1,a2,a3,a4,a5,a6,a7⟩:=CF.out w' hw');clear hw';go_simp;done) | (refine qc_val ?_;(obtain ⟨a0,a1,a2,a3,a4,a5,a6,a7⟩:=CF.out w' hw');clear hw';go_simp;rfl) | (refine qc_call (f:=?f2) (args:=?args2) ?h12 ?h22;(case h12=>((obtain ⟨a0,a1,a2,a3,a4,a5,a6,a7⟩:=CF.out w' hw');go_simp;constructor <;> rfl));(case h22=>(exact CK.out w' hw'))) | (refine qc_skip ?_;(obtain ⟨a0,a1,a2,a3,a4,a5,a6,a7⟩:=CF.out w' hw');clear hw';go_simp;done)));(try simp only [Act.put,List.setIfInBounds_toArray,List.set_cons_zero,List.set_cons_succ])))
  (first | (with_reducible refine qc_pass ?hw3 ?nx3;(case hw3=>(go_simp;done));(try simp only [Act.put,List.setIfInBounds_toArray,List.set_cons_zero,List.set_cons_succ])) | (with_reducible refine qc_one ?v3 ?hw3 (fun w' hw'=>?hr3) ?nx3;(case hw3=>(go_simp;done));(case hr3=>(first | (refine qc_val ?_;(obtain ⟨a0,a1,a2,a3,a4,a5,a6,a7⟩:=CF.out w' hw');clear hw';go_simp;done) | (refine qc_val ?_;(obtain ⟨a0,a1,a2,a3,a4,a5,a6,a7⟩:=CF.out w' hw');clear hw';go_simp;rfl) | (refine qc_call (f:=?f3) (args:=?args3) ?h13 ?h23;(case h13=>((obtain ⟨a0,a1,a2,a3,a4,a5,a6,a7⟩:=CF.out w' hw');go_simp;constructor <;> rfl));(case h23=>(exact CK.out w' hw'))) | (refine qc_skip ?_;(obtain ⟨a0,a1,a2,a3,a4,a5,a6,a7⟩:=CF.out w' hw');clear hw';go_simp;done)));(try simp only [Act.put,List.setIfInBounds_toArray,List.set_cons_zero,List.set_cons_succ])))
  (first | (with_reducible refine qc_pass ?hw4 ?nx4;(case hw4=>(go_simp;done));(try simp only [Act.put,List.setIfInBounds_toArray,List.set_cons_zero,List.set_cons_succ])) | (with_reducible refine qc_one ?v4 ?hw4 (fun w' hw'=>?hr4) ?nx4;(case hw4=>(go_simp;done));(case hr4=>(first | (refine qc_val ?_;(obtain ⟨a0,a1,a2,a3,a4,a5,a6,a7⟩:=CF.out w' hw');clear hw';go_simp;done) | (refine qc_val ?_;(obtain ⟨a0,a1,a2,a3,a4,a5,a6,a7⟩:=CF.out w' hw');clear hw';go_simp;rfl) | (refine qc_call (f:=?f4) (args:=?args4) ?h14 ?h24;(case h14=>((obtain ⟨a0,a1,a2,a3,a4,a5,a6,a7⟩:=CF.out w' hw');go_simp;constructor <;> rfl));(case h24=>(exact CK.out w' hw'))) | (refine qc_skip ?_;(obtain ⟨a0,a1,a2,a3,a4,a5,a6,a7⟩:=CF.out w' hw');clear hw';go_simp;done)));(try simp only [Act.put,List.setIfInBounds_toArray,List.set_cons_zero,List.set_cons_succ])))
  (first | (with_reducible refine qc_pass ?hw5 ?nx5;(case hw5=>(go_simp;done));(try simp only [Act.put,List.setIfInBounds_toArray,List.set_cons_zero,List.set_cons_succ])) | (with_reducible refine qc_one ?v5 ?hw5 (fun w' hw'=>?hr5) ?nx5;(case hw5=>(go_simp;done));(case hr5=>(first | (refine qc_val ?_;(obtain ⟨a0,a1,a2,a3,a4,a5,a6,a7⟩:=CF.out w' hw');clear hw';go_simp;done) | (refine qc_val ?_;(obtain ⟨a0,a1,a2,a3,a4,a5,a6,a7⟩:=CF.out w' hw');clear hw';go_simp;rfl) | (refine qc_call (f:=?f5) (args:=?args5) ?h15 ?h25;(case h15=>((obtain ⟨a0,a1,a2,a3,a4,a5,a6,a7⟩:=CF.out w' hw');go_simp;constructor <;> rfl));(case h25=>(exact CK.out w' hw'))) | (refine qc_skip ?_;(obtain ⟨a0,a1,a2,a3,a4,a5,a6,a7⟩:=CF.out w' hw');clear hw';go_simp;done)));(try simp only [Act.put,List.setIfInBounds_toArray,List.set_cons_zero,List.set_cons_succ])))
  (first | (with_reducible refine qc_pass ?hw6 ?nx6;(case hw6=>(go_simp;done));(try simp only [Act.put,List.setIfInBounds_toArray,List.set_cons_zero,List.set_cons_succ])) | (with_reducible refine qc_one ?v6 ?hw6 (fun w' hw'=>?hr6) ?nx6;(case hw6=>(go_simp;done));(case hr6=>(first | (refine qc_val ?_;(obtain ⟨a0,a1,a2,a3,a4,a5,a6,a7⟩:=CF.out w' hw');clear hw';go_simp;done) | (refine qc_val ?_;(obtain ⟨a0,a1,a2,a3,a4,a5,a6,a7⟩:=CF.out w' hw');clear hw';go_simp;rfl) | (refine qc_call (f:=?f6) (args:=?args6) ?h16 ?h26;(case h16=>((obtain ⟨a0,a1,a2,a3,a4,a5,a6,a7⟩:=CF.out w' hw');go_simp;constructor <;> rfl));(case h26=>(exact CK.out w' hw'))) | (refine qc_skip ?_;(obtain ⟨a0,a1,a2,a3,a4,a5,a6,a7⟩:=CF.out w' hw');clear hw';go_simp;done)));(try simp only [Act.put,List.setIfInBounds_toArray,List.set_cons_zero,List.set_cons_succ])))
  (first | (with_reducible refine qc_pass ?hw7 ?nx7;(case hw7=>(go_simp;done));(try simp only [Act.put,List.setIfInBounds_toArray,List.set_cons_zero,List.set_cons_succ])) | (with_reducible refine qc_one ?v7 ?hw7 (fun w' hw'=>?hr7) ?nx7;(case hw7=>(go_simp;done));(case hr7=>(first | (refine qc_val ?_;(obtain ⟨a0,a1,a2,a3,a4,a5,a6,a7⟩:=CF.out w' hw');clear hw';go_simp;done) | (refine qc_val ?_;(obtain ⟨a0,a1,a2,a3,a4,a5,a6,a7⟩:=CF.out w' hw');clear hw';go_simp;rfl) | (refine qc_call (f:=?f7) (args:=?args7) ?h17 ?h27;(case h17=>((obtain ⟨a0,a1,a2,a3,a4,a5,a6,a7⟩:=CF.out w' hw');go_simp;constructor <;> rfl));(case h27=>(exact CK.out w' hw'))) | (refine qc_skip ?_;(obtain ⟨a0,a1,a2,a3,a4,a5,a6,a7⟩:=CF.out w' hw');clear hw';go_simp;done)));(try simp only [Act.put,List.setIfInBounds_toArray,List.set_cons_zero,List.set_cons_succ])))
  (first | (with_reducible refine qc_pass ?hw8 ?nx8;(case hw8=>(go_simp;done));(try simp only [Act.put,List.setIfInBounds_toArray,List.set_cons_zero,List.set_cons_succ])) | (with_reducible refine qc_one ?v8 ?hw8 (fun w' hw'=>?hr8) ?nx8;(case hw8=>(go_simp;done));(case hr8=>(first | (refine qc_val ?_;(obtain ⟨a0,a1,a2,a3,a4,a5,a6,a7⟩:=CF.out w' hw');clear hw';go_simp;done) | (refine qc_val ?_;(obtain ⟨a0,a1,a2,a3,a4,a5,a6,a7⟩:=CF.out w' hw');clear hw';go_simp;rfl) | (refine qc_call (f:=?f8) (args:=?args8) ?h18 ?h28;(case h18=>((obtain ⟨a0,a1,a2,a3,a4,a5,a6,a7⟩:=CF.out w' hw');go_simp;constructor <;> rfl));(case h28=>(exact CK.out w' hw'))) | (refine qc_skip ?_;(obtain ⟨a0,a1,a2,a3,a4,a5,a6,a7⟩:=CF.out w' hw');clear hw';go_simp;done)));(try simp only [Act.put,List.setIfInBounds_toArray,List.set_cons_zero,List.set_cons_succ])))
  (first | (with_reducible refine qc_pass ?hw9 ?nx9;(case hw9=>(go_simp;done));(try simp only [Act.put,List.setIfInBounds_toArray,List.set_cons_zero,List.set_cons_succ])) | (with_reducible refine qc_one ?v9 ?hw9 (fun w' hw'=>?hr9) ?nx9;(case hw9=>(go_simp;done));(case hr9=>(first | (refine qc_val ?_;(obtain ⟨a0,a1,a2,a3,a4,a5,a6,a7⟩:=CF.out w' hw');clear hw';go_simp;done) | (refine qc_val ?_;(obtain ⟨a0,a1,a2,a3,a4,a5,a6,a7⟩:=CF.out w' hw');clear hw';go_simp;rfl) | (refine qc_call (f:=?f9) (args:=?args9) ?h19 ?h29;(case h19=>((obtain ⟨a0,a1,a2,a3,a4,a5,a6,a7⟩:=CF.out w' hw');go_simp;constructor <;> rfl));(case h29=>(exact CK.out w' hw'))) | (refine qc_skip ?_;(obtain ⟨a0,a1,a2,a3,a4,a5,a6,a7⟩:=CF.out w' hw');clear hw';go_simp;done)));(try simp only [Act.put,List.setIfInBounds_toArray,List.set_cons_zero,List.set_cons_succ])))
  (first | (with_reducible refine qc_pass ?hw10 ?nx10;(case hw10=>(go_simp;done));(try simp only [Act.put,List.setIfInBounds_toArray,List.set_cons_zero,List.set_cons_succ])) | (with_reducible refine qc_one ?v10 ?hw10 (fun w' hw'=>?hr10) ?nx10;(case hw10=>(go_simp;done));(case hr10=>(first | (refine qc_val ?_;(obtain ⟨a0,a1,a2,a3,a4,a5,a6,a7⟩:=CF.out w' hw');clear hw';go_simp;done) | (refine qc_val ?_;(obtain ⟨a0,a1,a2,a3,a4,a5,a6,a7⟩:=CF.out w' hw');clear hw';go_simp;rfl) | (refine qc_call (f:=?f10) (args:=?args10) ?h110 ?h210;(case h110=>((obtain ⟨a0,a1,a2,a3,a4,a5,a6,a7⟩:=CF.out w' hw');go_simp;constructor <;> rfl));(case h210=>(exact CK.out w' hw'))) | (refine qc_skip ?_;(obtain ⟨a0,a1,a2,a3,a4,a5,a6,a7⟩:=CF.out w' hw');clear hw';go_simp;done)));(try simp only [Act.put,List.setIfInBounds_toArray,List.set_cons_zero,List.set_cons_succ])))
  (first | (with_reducible refine qc_pass ?hw11 ?nx11;(case hw11=>(go_simp;done));(try simp only [Act.put,List.setIfInBounds_toArray,List.set_cons_zero,List.set_cons_succ])) | (with_reducible refine qc_one ?v11 ?hw11 (fun w' hw'=>?hr11) ?nx11;(case hw11=>(go_simp;done));(case hr11=>(first | (refine qc_val ?_;(obtain ⟨a0,a1,a2,a3,a4,a5,a6,a7⟩:=CF.out w' hw');clear hw';go_simp;done) | (refine qc_val ?_;(obtain ⟨a0,a1,a2,a3,a4,a5,a6,a7⟩:=CF.out w' hw');clear hw';go_simp;rfl) | (refine qc_call (f:=?f11) (args:=?args11) ?h111 ?h211;(case h111=>((obtain ⟨a0,a1,a2,a3,a4,a5,a6,a7⟩:=CF.out w' hw');go_simp;constructor <;> rfl));(case h211=>(exact CK.out w' hw'))) | (refine qc_skip ?_;(obtain ⟨a0,a1,a2,a3,a4,a5,a6,a7⟩:=CF.out w' hw');clear hw';go_simp;done)));(try simp only [Act.put,List.setIfInBounds_toArray,List.set_cons_zero,List.set_cons_succ])))
  (first | (with_reducible refine qc_pass ?hw12 ?nx12;(case hw12=>(go_simp;done));(try simp only [Act.put,List.setIfInBounds_toArray,List.set_cons_zero,List.set_cons_succ])) | (with_reducible refine qc_one ?v12 ?hw12 (fun w' hw'=>?hr12) ?nx12;(case hw12=>(go_simp;done));(case hr12=>(first | (refine qc_val ?_;(obtain ⟨a0,a1,a2,a3,a4,a5,a6,a7⟩:=CF.out w' hw');clear hw';go_simp;done) | (refine qc_val ?_;(obtain ⟨a0,a1,a2,a3,a4,a5,a6,a7⟩:=CF.out w' hw');clear hw';go_simp;rfl) | (refine qc_call (f:=?f12) (args:=?args12) ?h112 ?h212;(case h112=>((obtain ⟨a0,a1,a2,a3,a4,a5,a6,a7⟩:=CF.out w' hw');go_simp;constructor <;> rfl));(case h212=>(exact CK.out w' hw'))) | (refine qc_skip ?_;(obtain ⟨a0,a1,a2,a3,a4,a5,a6,a7⟩:=CF.out w' hw');clear hw';go_simp;done)));(try simp only [Act.put,List.setIfInBounds_toArray,List.set_cons_zero,List.set_cons_succ])))
  (first | (with_reducible refine qc_pass ?hw13 ?nx13;(case hw13=>(go_simp;done));(try simp only [Act.put,List.setIfInBounds_toArray,List.set_cons_zero,List.set_cons_succ])) | (with_reducible refine qc_one ?v13 ?hw13 (fun w' hw'=>?hr13) ?nx13;(case hw13=>(go_simp;done));(case hr13=>(first | (refine qc_val ?_;(obtain ⟨a0,a1,a2,a3,a4,a5,a6,a7⟩:=CF.out w' hw');clear hw';go_simp;done) | (refine qc_val ?_;(obtain ⟨a0,a1,a2,a3,a4,a5,a6,a7⟩:=CF.out w' hw');clear hw';go_simp;rfl) | (refine qc_call (f:=?f13) (args:=?args13) ?h113 ?h213;(case h113=>((obtain ⟨a0,a1,a2,a3,a4,a5,a6,a7⟩:=CF.out w' hw');go_simp;constructor <;> rfl));(case h213=>(exact CK.out w' hw'))) | (refine qc_skip ?_;(obtain ⟨a0,a1,a2,a3,a4,a5,a6,a7⟩:=CF.out w' hw');clear hw';go_simp;done)));(try simp only [Act.put,List.setIfInBounds_toArray,List.set_cons_zero,List.set_cons_succ])))
  refine wpQuiet_nil ?_
  intro w' hw'
  obtain ⟨a0,a1,a2,a3,a4,a5,a6,a7⟩:=CF.out w' hw'
  have m4:Hid (Mv w HH w' (XX true++(HL++HB2))):=by rw [HC.out] at hw';exact hw'
  clear hw'
  go_wp2_with fail
  exact FIN.out _ _ HB2 K2.out.1 (ST.out _ _ _ HB2 m4.out)
 | false =>
  refine round_quiet_tail 13 C hmx (by kernel_rfl) (fun ⟨a,w,h⟩=>LP.out ⟨a,w,h⟩) CD (by kernel_rfl) ?_
  simp only [List.take_succ_cons,List.take_zero,List.drop_succ_cons,List.drop_zero]
  (first | (with_reducible refine qc_pass ?hw14 ?nx14;(case hw14=>(go_simp;done));(try simp only [Act.put,List.setIfInBounds_toArray,List.set_cons_zero,List.set_cons_succ])) | (with_reducible refine qc_one ?v14 ?hw14 (fun w' hw'=>?hr14) ?nx14;(case hw14=>(go_simp;done));(case hr14=>(first | (refine qc_val ?_;(obtain ⟨a0,a1,a2,a3,a4,a5,a6,a7⟩:=CF.out w' hw');clear hw';go_simp;done) | (refine qc_val ?_;(obtain ⟨a0,a1,a2,a3,a4,a5,a6,a7⟩:=CF.out w' hw');clear hw';go_simp;rfl) | (refine qc_call (f:=?f14) (args:=?args14) ?h114 ?h214;(case h114=>((obtain ⟨a0,a1,a2,a3,a4,a5,a6,a7⟩:=CF.out w' hw');go_simp;constructor <;> rfl));(case h214=>(exact CK.out w' hw'))) | (refine qc_skip ?_;(obtain ⟨a0,a1,a2,a3,a4,a5,a6,a7⟩:=CF.out w' hw');clear hw';go_simp;done)));(try simp only [Act.put,List.setIfInBounds_toArray,List.set_cons_zero,List.set_cons_succ])))
  (first | (with_reducible refine qc_pass ?hw15 ?nx15;(case hw15=>(go_simp;done));(try simp only [Act.put,List.setIfInBounds_toArray,List.set_cons_zero,List.set_cons_succ])) | (with_reducible refine qc_one ?v15 ?hw15 (fun w' hw'=>?hr15) ?nx15;(case hw15=>(go_simp;done));(case hr15=>(first | (refine qc_val ?_;(obtain ⟨a0,a1,a2,a3,a4,a5,a6,a7⟩:=CF.out w' hw');clear hw';go_simp;done) | (refine qc_val ?_;(obtain ⟨a0,a1,a2,a3,a4,a5,a6,a7⟩:=CF.out w' hw');clear hw';go_simp;rfl) | (refine qc_call (f:=?f15) (args:=?args15) ?h115 ?h215;(case h115=>((obtain ⟨a0,a1,a2,a3,a4,a5,a6,a7⟩:=CF.out w' hw');go_simp;constructor <;> rfl));(case h215=>(exact CK.out w' hw'))) | (refine qc_skip ?_;(obtain ⟨a0,a1,a2,a3,a4,a5,a6,a7⟩:=CF.out w' hw');clear hw';go_simp;done)));(try simp only [Act.put,List.setIfInBounds_toArray,List.set_cons_zero,List.set_cons_succ])))
  (first | (with_reducible refine qc_pass ?hw16 ?nx16;(case hw16=>(go_simp;done));(try simp only [Act.put,List.setIfInBounds_toArray,List.set_cons_zero,List.set_cons_succ])) | (with_reducible refine qc_one ?v16 ?hw16 (fun w' hw'=>?hr16) ?nx16;(case hw16=>(go_simp;done));(case hr16=>(first | (refine qc_val ?_;(obtain ⟨a0,a1,a2,a3,a4,a5,a6,a7⟩:=CF.out w' hw');clear hw';go_simp;done) | (refine qc_val ?_;(obtain ⟨a0,a1,a2,a3,a4,a5,a6,a7⟩:=CF.out w' hw');clear hw';go_simp;rfl) | (refine qc_call (f:=?f16) (args:=?args16) ?h116 ?h216;(case h116=>((obtain ⟨a0,a1,a2,a3,a4,a5,a6,a7⟩:=CF.out w' hw');go_simp;constructor <;> rfl));(case h216=>(exact CK.out w' hw'))) | (refine qc_skip ?_;(obtain ⟨a0,a1,a2,a3,a4,a5,a6,a7⟩:=CF.out w' hw');clear hw';go_simp;done)));(try simp only [Act.put,List.setIfInBounds_toArray,List.set_cons_zero,List.set_cons_succ])))
  (first | (with_reducible refine qc_pass ?hw17 ?nx17;(case hw17=>(go_simp;done));(try simp only [Act.put,List.setIfInBounds_toArray,List.set_cons_zero,List.set_cons_succ])) | (with_reducible refine qc_one ?v17 ?hw17 (fun w' hw'=>?hr17) ?nx17;(case hw17=>(go_simp;done));(case hr17=>(first | (refine qc_val ?_;(obtain ⟨a0,a1,a2,a3,a4,a5,a6,a7⟩:=CF.out w' hw');clear hw';go_simp;done) | (refine qc_val ?_;(obtain ⟨a0,a1,a2,a3,a4,a5,a6,a7⟩:=CF.out w' hw');clear hw';go_simp;rfl) | (refine qc_call (f:=?f17) (args:=?args17) ?h117 ?h217;(case h117=>((obtain ⟨a0,a1,a2,a3,a4,a5,a6,a7⟩:=CF.out w' hw');go_simp;constructor <;> rfl));(case h217=>(exact CK.out w' hw'))) | (refine qc_skip ?_;(obtain ⟨a0,a1,a2,a3,a4,a5,a6,a7⟩:=CF.out w' hw');clear hw';go_simp;done)));(try simp only [Act.put,List.setIfInBounds_toArray,List.set_cons_zero,List.set_cons_succ])))
  (first | (with_reducible refine qc_pass ?hw18 ?nx18;(case hw18=>(go_simp;done));(try simp only [Act.put,List.setIfInBounds_toArray,List.set_cons_zero,List.set_cons_succ])) | (with_reducible refine qc_one ?v18 ?hw18 (fun w' hw'=>?hr18) ?nx18;(case hw18=>(go_simp;done));(case hr18=>(first | (refine qc_val ?_;(obtain ⟨a0,a1,a2,a3,a4,a5,a6,a7⟩:=CF.out w' hw');clear hw';go_simp;done) | (refine qc_val ?_;(obtain ⟨a0,a1,a2,a3,a4,a5,a6,a7⟩:=CF.out w' hw');clear hw';go_simp;rfl) | (refine qc_call (f:=?f18) (args:=?args18) ?h118 ?h218;(case h118=>((obtain ⟨a0,a1,a2,a3,a4,a5,a6,a7⟩:=CF.out w' hw');go_simp;constructor <;> rfl));(case h218=>(exact CK.out w' hw'))) | (refine qc_skip ?_;(obtain ⟨a0,a1,a2,a3,a4,a5,a6,a7⟩:=CF.out w' hw');clear hw';go_simp;done)));(try simp only [Act.put,List.setIfInBounds_toArray,List.set_cons_zero,List.set_cons_succ])))
  (first | (with_reducible refine qc_pass ?hw19 ?nx19;(case hw19=>(go_simp;done));(try simp only [Act.put,List.setIfInBounds_toArray,List.set_cons_zero,List.set_cons_succ])) | (with_reducible refine qc_one ?v19 ?hw19 (fun w' hw'=>?hr19) ?nx19;(case hw19=>(go_simp;done));(case hr19=>(first | (refine qc_val ?_;(obtain ⟨a0,a1,a2,a3,a4,a5,a6,a7⟩:=CF.out w' hw');clear hw';go_simp;done) | (refine qc_val ?_;(obtain ⟨a0,a1,a2,a3,a4,a5,a6,a7⟩:=CF.out w' hw');clear hw';go_simp;rfl) | (refine qc_call (f:=?f19) (args:=?args19) ?h119 ?h219;(case h119=>((obtain ⟨a0,a1,a2,a3,a4,a5,a6,a7⟩:=CF.out w' hw');go_simp;constructor <;> rfl));(case h219=>(exact CK.out w' hw'))) | (refine qc_skip ?_;(obtain ⟨a0,a1,a2,a3,a4,a5,a6,a7⟩:=CF.out w' hw');clear hw';go_simp;done)));(try simp only [Act.put,List.setIfInBounds_toArray,List.set_cons_zero,List.set_cons_succ])))
  (first | (with_reducible refine qc_pass ?hw20 ?nx20;(case hw20=>(go_simp;done));(try simp only [Act.put,List.setIfInBounds_toArray,List.set_cons_zero,List.set_cons_succ])) | (with_reducible refine qc_one ?v20 ?hw20 (fun w' hw'=>?hr20) ?nx20;(case hw20=>(go_simp;done));(case hr20=>(first | (refine qc_val ?_;(obtain ⟨a0,a1,a2,a3,a4,a5,a6,a7⟩:=CF.out w' hw');clear hw';go_simp;done) | (refine qc_val ?_;(obtain ⟨a0,a1,a2,a3,a4,a5,a6,a7⟩:=CF.out w' hw');clear hw';go_simp;rfl) | (refine qc_call (f:=?f20) (args:=?args20) ?h120 ?h220;(case h120=>((obtain ⟨a0,a1,a2,a3,a4,a5,a6,a7⟩:=CF.out w' hw');go_simp;constructor <;> rfl));(case h220=>(exact CK.out w' hw'))) | (refine qc_skip ?_;(obtain ⟨a0,a1,a2,a3,a4,a5,a6,a7⟩:=CF.out w' hw');clear hw';go_simp;done)));(try simp only [Act.put,List.setIfInBounds_toArray,List.set_cons_zero,List.set_cons_succ])))
  (first | (with_reducible refine qc_pass ?hw21 ?nx21;(case hw21=>(go_simp;done));(try simp only [Act.put,List.setIfInBounds_toArray,List.set_cons_zero,List.set_cons_succ])) | (with_reducible refine qc_one ?v21 ?hw21 (fun w' hw'=>?hr21) ?nx21;(case hw21=>(go_simp;done));(case hr21=>(first | (refine qc_val ?_;(obtain ⟨a0,a1,a2,a3,a4,a5,a6,a7⟩:=CF.out w' hw');clear hw';go_simp;done) | (refine qc_val ?_;(obtain ⟨a0,a1,a2,a3,a4,a5,a6,a7⟩:=CF.out w' hw');clear hw';go_simp;rfl) | (refine qc_call (f:=?f21) (args:=?args21) ?h121 ?h221;(case h121=>((obtain ⟨a0,a1,a2,a3,a4,a5,a6,a7⟩:=CF.out w' hw');go_simp;constructor <;> rfl));(case h221=>(exact CK.out w' hw'))) | (refine qc_skip ?_;(obtain ⟨a0,a1,a2,a3,a4,a5,a6,a7⟩:=CF.out w' hw');clear hw';go_simp;done)));(try simp only [Act.put,List.setIfInBounds_toArray,List.set_cons_zero,List.set_cons_succ])))
  (first | (with_reducible refine qc_pass ?hw22 ?nx22;(case hw22=>(go_simp;done));(try simp only [Act.put,List.setIfInBounds_toArray,List.set_cons_zero,List.set_cons_succ])) | (with_reducible refine qc_one ?v22 ?hw22 (fun w' hw'=>?hr22) ?nx22;(case hw22=>(go_simp;done));(case hr22=>(first | (refine qc_val ?_;(obtain ⟨a0,a1,a2,a3,a4,a5,a6,a7⟩:=CF.out w' hw');clear hw';go_simp;done) | (refine qc_val ?_;(obtain ⟨a0,a1,a2,a3,a4,a5,a6,a7⟩:=CF.out w' hw');clear hw';go_simp;rfl) | (refine qc_call (f:=?f22) (args:=?args22) ?h122 ?h222;(case h122=>((obtain ⟨a0,a1,a2,a3,a4,a5,a6,a7⟩:=CF.out w' hw');go_simp;constructor <;> rfl));(case h222=>(exact CK.out w' hw'))) | (refine qc_skip ?_;(obtain ⟨a0,a1,a2,a3,a4,a5,a6,a7⟩:=CF.out w' hw');clear hw';go_simp;done)));(try simp only [Act.put,List.setIfInBounds_toArray,List.set_cons_zero,List.set_cons_succ])))
  (first | (with_reducible refine qc_pass ?hw23 ?nx23;(case hw23=>(go_simp;done));(try simp only [Act.put,List.setIfInBounds_toArray,List.set_cons_zero,List.set_cons_succ])) | (with_reducible refine qc_one ?v23 ?hw23 (fun w' hw'=>?hr23) ?nx23;(case hw23=>(go_simp;done));(case hr23=>(first | (refine qc_val ?_;(obtain ⟨a0,a1,a2,a3,a4,a5,a6,a7⟩:=CF.out w' hw');clear hw';go_simp;done) | (refine qc_val ?_;(obtain ⟨a0,a1,a2,a3,a4,a5,a6,a7⟩:=CF.out w' hw');clear hw';go_simp;rfl) | (refine qc_call (f:=?f23) (args:=?args23) ?h123 ?h223;(case h123=>((obtain ⟨a0,a1,a2,a3,a4,a5,a6,a7⟩:=CF.out w' hw');go_simp;constructor <;> rfl));(case h223=>(exact CK.out w' hw'))) | (refine qc_skip ?_;(obtain ⟨a0,a1,a2,a3,a4,a5,a6,a7⟩:=CF.out w' hw');clear hw';go_simp;done)));(try simp only [Act.put,List.setIfInBounds_toArray,List.set_cons_zero,List.set_cons_succ])))
  (first | (with_reducible refine qc_pass ?hw24 ?nx24;(case hw24=>(go_simp;done));(try simp only [Act.put,List.setIfInBounds_toArray,List.set_cons_zero,List.set_cons_succ])) | (with_reducible refine qc_one ?v24 ?hw24 (fun w' hw'=>?hr24) ?nx24;(case hw24=>(go_simp;done));(case hr24=>(first | (refine qc_val ?_;(obtain ⟨a0,a1,a2,a3,a4,a5,a6,a7⟩:=CF.out w' hw');clear hw';go_simp;done) | (refine qc_val ?_;(obtain ⟨a0,a1,a2,a3,a4,a5,a6,a7⟩:=CF.out w' hw');clear hw';go_simp;rfl) | (refine qc_call (f:=?f24) (args:=?args24) ?h124 ?h224;(case h124=>((obtain ⟨a0,a1,a2,a3,a4,a5,a6,a7⟩:=CF.out w' hw');go_simp;constructor <;> rfl));(case h224=>(exact CK.out w' hw'))) | (refine qc_skip ?_;(obtain ⟨a0,a1,a2,a3,a4,a5,a6,a7⟩:=CF.out w' hw');clear hw';go_simp;done)));(try simp only [Act.put,List.setIfInBounds_toArray,List.set_cons_zero,List.set_cons_succ])))
  (first | (with_reducible refine qc_pass ?hw25 ?nx25;(case hw25=>(go_simp;done));(try simp only [Act.put,List.setIfInBounds_toArray,List.set_cons_zero,List.set_cons_succ])) | (with_reducible refine qc_one ?v25 ?hw25 (fun w' hw'=>?hr25) ?nx25;(case hw25=>(go_simp;done));(case hr25=>(first | (refine qc_val ?_;(obtain ⟨a0,a1,a2,a3,a4,a5,a6,a7⟩:=CF.out w' hw');clear hw';go_simp;done) | (refine qc_val ?_;(obtain ⟨a0,a1,a2,a3,a4,a5,a6,a7⟩:=CF.out w' hw');clear hw';go_simp;rfl) | (refine qc_call (f:=?f25) (args:=?args25) ?h125 ?h225;(case h125=>((obtain ⟨a0,a1,a2,a3,a4,a5,a6,a7⟩:=CF.out w' hw');go_simp;constructor <;> rfl));(case h225=>(exact CK.out w' hw'))) | (refine qc_skip ?_;(obtain ⟨a0,a1,a2,a3,a4,a5,a6,a7⟩:=CF.out w' hw');clear hw';go_simp;done)));(try simp only [Act.put,List.setIfInBounds_toArray,List.set_cons_zero,List.set_cons_succ])))
  (first | (with_reducible refine qc_pass ?hw26 ?nx26;(case hw26=>(go_simp;done));(try simp only [Act.put,List.setIfInBounds_toArray,List.set_cons_zero,List.set_cons_succ])) | (with_reducible refine qc_one ?v26 ?hw26 (fun w' hw'=>?hr26) ?nx26;(case hw26=>(go_simp;done));(case hr26=>(first | (refine qc_val ?_;(obtain ⟨a0,a1,a2,a3,a4,a5,a6,a7⟩:=CF.out w' hw');clear hw';go_simp;done) | (refine qc_val ?_;(obtain ⟨a0,a1,a2,a3,a4,a5,a6,a7⟩:=CF.out w' hw');clear hw';go_simp;rfl) | (refine qc_call (f:=?f26) (args:=?args26) ?h126 ?h226;(case h126=>((obtain ⟨a0,a1,a2,a3,a4,a5,a6,a7⟩:=CF.out w' hw');go_simp;constructor <;> rfl));(case h226=>(exact CK.out w' hw'))) | (refine qc_skip ?_;(obtain ⟨a0,a1,a2,a3,a4,a5,a6,a7⟩:=CF.out w' hw');clear hw';go_simp;done)));(try simp only [Act.put,List.setIfInBounds_toArray,List.set_cons_zero,List.set_cons_succ])))
  refine wpQuiet_nil ?_
  intro w' hw'
  obtain ⟨a0,a1,a2,a3,a4,a5,a6,a7⟩:=CF.out w' hw'
  have m4:Hid (Mv w HH w' (XX false++(HL++HB2))):=by rw [HC.out] at hw';exact hw'
  clear hw'
  go_wp2_with fail
  exact FIN.out _ _ HB2 K2.out.1 (ST.out _ _ _ HB2 m4.out)
end
section
open Go.RowKit Go.Shelf
attribute [local go_sem] Oper.semAt_some
def encS (count style layer:Nat) (D:List BandA) (M:Nat→BandM):PackS :=
 if moreM count layer M (spotsOf D)=true then (spotsOf D).foldl (stepE count style layer) ⟨(spotsOf D).foldl (encM count) M,[true],[]⟩ else ⟨(spotsOf D).foldl (encM count) M,[false],[]⟩
theorem encM_good (c:Nat) (D:List BandA):∀ (l:List SpotX) (M:Nat→BandM),(∀ d∈D,GoodB (M d.bb))→∀ d∈D,GoodB ((l.foldl (encM c) M) d.bb)
 | [],M,h=>h
 | x::l,M,h=>by
  rw [List.foldl_cons]
  refine encM_good c D l _ fun d hd=>?_
  unfold encM updM
  split
  ·rename_i e
   rw [← e]
   exact (h d hd).plant c
  ·exact h d hd
theorem enc_results2 (tmps:Array Value) (w:World) (v:Value) (g:Nat) (u:Value) (h8:tmps.getD 8 undef=v) (h9:tmps.getD 9 undef=.pointer (some ⟨g,0,none⟩)) (hb:Blk w g 30 #[u]) :
  (results Tryz.f10 tmps).run Tryz.prog w=.ok (.tuple #[v,u]) w:=by
 rw [results_tmp_cell (u:=8) (p:=9) (ty:=30) rfl,h8,h9]
 have c0:=hb.cell 0
 simp only [asAddr]
 go_simp
theorem bits_one (b:Bool):bitsG (if b=true then 1 else 0) 1=[b]:=by cases b <;> rfl
theorem enc_any (A:Option Addr) (c:Nat) (D:List BandA) (M:Nat→BandM) (style layer count:Nat) (HL HB0:List HB) (W:World) (hD:D.length≤1000) (hL:ListH (.slice A D.length c) D HL) (hB:BandsR D M HB0) (hs:Sat W (HL++HB0)) (hct:count≤100000) (hly:layer≤100) (hst:style≤63)
  (hn:(spotsOf D).length≤200) (hg:∀ d∈D,GoodB (M d.bb)) :
  Calls Tryz.prog 10 #[.slice A D.length c,.int .i64 (style:Int),.int .i64 (count:Int),.int .i64 (layer:Int)] W fun e W'=>∃ v1 v2 H1 H2 HB',e=.returned (.tuple #[v1,v2])∧RowB v1 (wout (wbits (encS count style layer D M).bits)) H1∧RowB v2 (encS count style layer D M).body H2 ∧
   BandsR D (encS count style layer D M).M HB'∧Mv W (HL++HB0) W' (H1++(H2++(HL++HB'))):=by
 refine (callsIn_wide (n:=8)).1 ?_
 refine callsIn_of_wp_marks Tryz.func10 rfl trivial ?_ rfl
 simp only [Tryz.ntmps10,List.size_toArray,List.length_cons,List.length_nil,Nat.reduceAdd,Nat.reduceSub,Array.replicate_succ,Array.replicate_zero,List.push_toArray,List.append_toArray,List.nil_append,List.cons_append]
 have K1:=((((((Mv.refl hs).alloc 3 #[.int .i64 (style:Int)]).alloc 3 #[.int .i64 (count:Int)]).alloc 3 #[.int .i64 (layer:Int)]).alloc 30 #[.slice none 0 0]).alloc 4 #[.bool false]).alloc 26 #[.slice A D.length c]
 simp only [World.size_alloc] at K1
 have K:=Lib.hid K1
 have KI:=Lib.hid (And.intro hL (And.intro hB (And.intro hg hs)))
 clear K1 hs hL hB hg
 refine wpIn_wide.2 ?_
 go_wp2_with (go_at_call 22;refine (spots_any _ _ _ _).mono ?_;rintro e w' ⟨rfl,rfl⟩)
 refine (wpIn_wide (n:=8)).1 ?_
 refine range_spots1 (n:=8) (by omega) 11 W (HL++HB0) (by simp;omega) (box:=W.heap.size+5) (c:=c) (A:=A) (D:=D) rfl (by omega) (fun e he=>by obtain ⟨b,-,k2,-⟩:=KI.out.2.1.band he;have:=k2.small;omega)
  (encPm W.heap.size A c D style count layer HL M) (fun _ _=>False) ?sp ?no ⟨_,⟨HB0,rfl,KI.out.2.1⟩,K.out⟩ ?assign ?body ?done ?stop
 case sp =>
  rintro pre H w ⟨HB',rfl,h2⟩ hs
  exact ListH.sp KI.out.1 h2 hs (List.mem_append_left _ List.mem_cons_self) (fun x hx=>List.mem_append_right _ (List.mem_append_left _ hx)) (fun x hx=>List.mem_append_right _ (List.mem_append_right _ hx))
 case no =>
  rintro pre H ⟨HB',rfl,h2⟩
  exact (encX_no _ _ _ _ _ _ _ _).append ((NoSpot.row KI.out.1 (by decide)).append h2.noSpot)
 case assign =>
  intro l x y z w K hK
  simp only [List.setIfInBounds_toArray,List.set_cons_succ,List.set_cons_zero] at hK ⊢
  gi_wp2
  exact hK
 case body =>
  intro l pre x hx B w H hr hP hs hlen
  simp only [List.setIfInBounds_toArray,List.set_cons_succ,List.set_cons_zero]
  exact enc_round1 l D A c W.heap.size B HL style count layer M pre x hx w H _ _ _ _ _ _ _ _ _ _ _ _ _ _ _ _ _ _ _ _ _ _ _ _ _ _ _ _ _ _ _ _ _ _ _ _ _ _ _ _ _ _ _ _ _ _ _ _ _ _ _ _ _ _ _ _ _ _ _ _ _ _ _ _ _ _ _ _ _ _ _ _ _ _ _ _ _ _ hP hs hly hct
 case stop =>
  intro K pre w H _ _ h
  exact h.elim
 case done =>
  intro K ys w H hK hy hP hM hd
  obtain ⟨HB2,rfl,h2⟩:=hP
  obtain ⟨mo,hmo⟩:∃ mo,moreM count layer M (spotsOf D)=mo:=⟨_,rfl⟩
  rw [hy] at h2 hM
  rw [hmo] at hM
  obtain ⟨M1,hM1⟩:∃ M1,(spotsOf D).foldl (encM count) M=M1:=⟨_,rfl⟩
  have hg1:∀ d∈D,GoodB (M1 d.bb):=by rw [← hM1];exact encM_good count D _ M KI.out.2.2.1
  have hS:encS count style layer D M=if mo=true then (spotsOf D).foldl (stepE count style layer) ⟨M1,[true],[]⟩ else ⟨M1,[false],[]⟩:=by unfold encS;rw [hmo,hM1]
  rw [hM1] at h2
  have HS:=Lib.hid hS
  have b9:=(Mv.blkm hM (x:=⟨W.heap.size+4,4,#[.bool mo]⟩) (List.mem_append_left _ (by simp [encX]))).cell 0
  have KD:=Lib.hid (And.intro h2 (And.intro hM hg1))
  obtain ⟨XX,hXX⟩:∃ XX:List HB,XX=encX W.heap.size A D.length c style count layer mo:=⟨_,rfl⟩
  have NW:Hid (Calls Tryz.prog 25 #[] w fun e w'=>∃ wb H',e=.returned (.pointer (some ⟨wb,0,none⟩))∧Hid (WrB wb [] H'∧Mv W (HL++HB0) w' (H'++(XX++(HL++HB2)))∧w'.heap[K]?=some (.deferred (some [])))):=Lib.hid (by
   refine (new_writer w).mono ?_
   rintro e w' ⟨wb,H',rfl,h3,m3⟩
   have m4:Mv W (HL++HB0) w' (H'++(XX++(HL++HB2))):=by rw [hXX];exact Mv.call (H:=[]) hM m3
   exact ⟨wb,H',rfl,Lib.hid ⟨h3,m4,m3.others (Sat.nil _) K _ hd (fun c t f e=>by cases e)⟩⟩)
  have MC:Hid (∀ W' A',Mv W (HL++HB0) W' (A'++(XX++(HL++HB2)))→W'.cell? ⟨W.heap.size+4,0,none⟩=some (.bool mo)∧W'.cell? ⟨W.heap.size+3,0,none⟩=some (.slice none 0 0)∧W'.frozen? ⟨W.heap.size+3,0,none⟩=false):=Lib.hid (by
   intro W' A' m
   have s1:Sat W' XX:=m.sat.right.left
   rw [hXX] at s1
   exact ⟨(s1.at_ 1 rfl).cell 0,(s1.at_ 2 rfl).cell 0,(s1.at_ 2 rfl).frozen 0⟩)
  have HXX:=Lib.hid hXX
  clear h2 hd hM hg1 hS hmo hM1 hy hXX
  go_upto_region 7 with (go_at_call 25;refine NW.out.mono ?_;rintro e w2 ⟨wb,HW,rfl,K2⟩)
  obtain ⟨w3,hw3⟩:∃ w3,w3=w2.alloc (.cells #[.pointer (some ⟨wb,0,none⟩)] 70):=⟨_,rfl⟩
  obtain ⟨wx,hwx⟩:∃ wx,w2.heap.size=wx:=⟨_,rfl⟩
  have hK2:w2.heap[K]?=some (.deferred (some [])):=K2.out.2.2
  have M3:Mv W (HL++HB0) w3 (⟨wx,70,#[.pointer (some ⟨wb,0,none⟩)]⟩::(HW++(XX++(HL++HB2)))):=by rw [hw3,← hwx];exact K2.out.2.1.alloc _ _
  have hK3:w3.heap[K]?=some (.deferred (some [])):=by rw [hw3];exact (Below.heap_alloc _ _ _ (Array.getElem?_eq_some_iff.1 hK2).1).trans hK2
  obtain ⟨fl,hfl⟩:∃ fl:Int,(if mo=true then 1 else 0)=fl:=⟨_,rfl⟩
  have FL:Hid (∀ V,Calls Tryz.prog 27 #[.bool mo] V fun e w'=>e=.returned (.int .i64 fl)∧w'=V):=Lib.hid (fun V=>by rw [← hfl];exact flag_any mo V)
  have hb1:bitsG fl 1=[mo]:=by rw [← hfl];exact bits_one mo
  have BI:Hid (Calls Tryz.prog 26 #[.pointer (some ⟨wb,0,none⟩),.int .i64 fl,.int .i64 1] w3.drew fun e w4=>e=.returned (.tuple #[])∧∃ HW',Hid (WrB wb [mo] HW'∧Mv W (HL++HB0) w4 (⟨wx,70,#[.pointer (some ⟨wb,0,none⟩)]⟩::(HW'++(XX++(HL++HB2))))∧w4.heap[K]?=some (.deferred (some []))) ∧
    w4.cell? ⟨wx,0,none⟩=some (.pointer (some ⟨wb,0,none⟩))∧w4.cell? ⟨W.heap.size+4,0,none⟩=some (.bool mo)):=Lib.hid (by
   have m1:Mv W (HL++HB0) w3.drew (HW++(⟨wx,70,#[.pointer (some ⟨wb,0,none⟩)]⟩::(XX++(HL++HB2)))) :=
    (Mv.drew M3).sub (fun g=>by simp only [cnt_append,cnt_cons];omega) (fun c hc=>by simp only [List.mem_append,List.mem_cons] at hc ⊢;grind)
   refine (bits_any wb [] fl 1 w3.drew HW K2.out.1 m1.sat.left (by simp)).mono ?_
   rintro e w4 ⟨rfl,HW',h4,m4⟩
   rw [hb1,List.nil_append] at h4
   have m5:Mv W (HL++HB0) w4 (⟨wx,70,#[.pointer (some ⟨wb,0,none⟩)]⟩::(HW'++(XX++(HL++HB2)))) :=
    (Mv.call m1 m4).sub (fun g=>by simp only [cnt_append,cnt_cons];omega) (fun c hc=>by simp only [List.mem_append,List.mem_cons] at hc ⊢;grind)
   exact ⟨rfl,HW',Lib.hid ⟨h4,m5,m4.others m1.sat.left K _ hK3 (fun c t f e=>by cases e)⟩,(Mv.blkm m5 List.mem_cons_self).cell 0,(MC.out w4 (⟨wx,70,#[.pointer (some ⟨wb,0,none⟩)]⟩::HW') m5).1⟩)
  have c0:=(Mv.blkm M3 List.mem_cons_self).cell 0
  have c1:=(MC.out w3 (⟨wx,70,#[.pointer (some ⟨wb,0,none⟩)]⟩::HW) M3).1
  have hmx:Tryz.prog.follows .mixedOrders=true:=by kernel_rfl
  obtain ⟨C,hC⟩:∃ C:World→Prop,C=fun w'=>w'=w3.drew:=⟨_,rfl⟩
  have CF:∀ w',C w'→w'.cell? ⟨wx,0,none⟩=some (.pointer (some ⟨wb,0,none⟩))∧w'.cell? ⟨W.heap.size+4,0,none⟩=some (.bool mo):=by
   intro w' h
   rw [hC] at h
   subst h
   exact ⟨c0,c1⟩
  have CK:∀ w',C w'→Calls Tryz.prog 27 #[.bool mo] w' fun e w''=>e=.returned (.int .i64 fl)∧C w'':=by
   intro w' h
   refine (FL.out w').mono ?_
   rintro e w'' ⟨rfl,rfl⟩
   exact ⟨rfl,h⟩
  have CD:C w3.drew:=by rw [hC]
  replace CF:=Lib.hid CF
  replace CK:=Lib.hid CK
  have HC:=Lib.hid hC
  have HW3:=Lib.hid hw3
  rw [← hw3]
  simp only [hwx]
  clear hC hw3 hwx hfl hb1 hK2 hK3 M3 NW c0 c1
  refine plain_quiet_tail 3 C hmx CD (by kernel_rfl) ?_
  simp only [List.take_succ_cons,List.take_zero,List.drop_succ_cons,List.drop_zero]
  (first | (with_reducible refine qc_pass ?hw1 ?nx1;(case hw1=>(go_simp;done));(try simp only [Act.put,List.setIfInBounds_toArray,List.set_cons_zero,List.set_cons_succ])) | (with_reducible refine qc_one ?v1 ?hw1 (fun w' hw'=>?hr1) ?nx1;(case hw1=>(go_simp;done));(case hr1=>(first | (refine qc_val ?_;(obtain ⟨a0,a1⟩:=CF.out w' hw');clear hw';go_simp;done) | (refine qc_val ?_;(obtain ⟨a0,a1⟩:=CF.out w' hw');clear hw';go_simp;rfl) | (refine qc_call (f:=?f1) (args:=?args1) ?h11 ?h21;(case h11=>((obtain ⟨a0,a1⟩:=CF.out w' hw');go_simp;constructor <;> rfl));(case h21=>(exact CK.out w' hw'))) | (refine qc_skip ?_;(obtain ⟨a0,a1⟩:=CF.out w' hw');clear hw';go_simp;done)));(try simp only [Act.put,List.setIfInBounds_toArray,List.set_cons_zero,List.set_cons_succ])))
  (first | (with_reducible refine qc_pass ?hw2 ?nx2;(case hw2=>(go_simp;done));(try simp only [Act.put,List.setIfInBounds_toArray,List.set_cons_zero,List.set_cons_succ])) | (with_reducible refine qc_one ?v2 ?hw2 (fun w' hw'=>?hr2) ?nx2;(case hw2=>(go_simp;done));(case hr2=>(first | (refine qc_val ?_;(obtain ⟨a0,a1⟩:=CF.out w' hw');clear hw';go_simp;done) | (refine qc_val ?_;(obtain ⟨a0,a1⟩:=CF.out w' hw');clear hw';go_simp;rfl) | (refine qc_call (f:=?f2) (args:=?args2) ?h12 ?h22;(case h12=>((obtain ⟨a0,a1⟩:=CF.out w' hw');go_simp;constructor <;> rfl));(case h22=>(exact CK.out w' hw'))) | (refine qc_skip ?_;(obtain ⟨a0,a1⟩:=CF.out w' hw');clear hw';go_simp;done)));(try simp only [Act.put,List.setIfInBounds_toArray,List.set_cons_zero,List.set_cons_succ])))
  (first | (with_reducible refine qc_pass ?hw3 ?nx3;(case hw3=>(go_simp;done));(try simp only [Act.put,List.setIfInBounds_toArray,List.set_cons_zero,List.set_cons_succ])) | (with_reducible refine qc_one ?v3 ?hw3 (fun w' hw'=>?hr3) ?nx3;(case hw3=>(go_simp;done));(case hr3=>(first | (refine qc_val ?_;(obtain ⟨a0,a1⟩:=CF.out w' hw');clear hw';go_simp;done) | (refine qc_val ?_;(obtain ⟨a0,a1⟩:=CF.out w' hw');clear hw';go_simp;rfl) | (refine qc_call (f:=?f3) (args:=?args3) ?h13 ?h23;(case h13=>((obtain ⟨a0,a1⟩:=CF.out w' hw');go_simp;constructor <;> rfl));(case h23=>(exact CK.out w' hw'))) | (refine qc_skip ?_;(obtain ⟨a0,a1⟩:=CF.out w' hw');clear hw';go_simp;done)));(try simp only [Act.put,List.setIfInBounds_toArray,List.set_cons_zero,List.set_cons_succ])))
  refine wpQuiet_nil ?_
  intro w' hw'
  obtain rfl:w'=w3.drew:=by rw [HC.out] at hw';exact hw'
  obtain ⟨c0,c1⟩:=CF.out _ hw'
  clear hw' CD CK CF HC C
  cases mo with
  | false =>
   go_wp2_with (first
    | (go_at_call 26;(with_reducible refine BI.out.mono ?_);rintro e w4 ⟨rfl,HW',K4,d0,d1⟩;have K4':Hid (∀ V,V=w4→Calls Tryz.prog 28 #[.pointer (some ⟨wb,0,none⟩)] V fun e w5=>∃ g c5 H1,e=.returned (.slice g 1 c5)∧Hid (RowB (.slice g 1 c5) [0] H1∧Mv W (HL++HB0) w5 (H1++(XX++(HL++HB2)))∧w5.heap[K]?=some (.deferred (some [])))):=Lib.hid (by
      rintro V rfl
      obtain ⟨q1,q2,q3⟩:=K4.out
      have m1:Mv W (HL++HB0) V (HW'++(XX++(HL++HB2))):=q2.drop1
      refine (bytes_any wb [false] V HW' q1 m1.sat.left (by simp)).mono ?_
      rintro e w5 ⟨v',Hn,rfl,h5,m5⟩
      have h6:RowB v' [0] Hn:=h5
      obtain ⟨g,c5,rfl⟩:=h6.slice
      have m6:Mv W (HL++HB0) w5 (Hn++(XX++(HL++HB2))) :=
       (Mv.call m1 m5).sub (fun g=>by simp only [cnt_append];omega) (fun c hc=>by simp only [List.mem_append] at hc ⊢;grind)
      exact ⟨g,c5,Hn,rfl,Lib.hid ⟨h6,m6,m5.others m1.sat.left K _ q3 (fun c t f e=>by cases e)⟩⟩))
    | (go_at_call 28;(with_reducible refine (K4'.out _ rfl).mono ?_);rintro e w5 ⟨g5,c5,H1,rfl,K5⟩;obtain ⟨e1,e2,e3⟩:=MC.out w5 H1 K5.out.2.1))
   have hk:(w5.setCell ⟨W.heap.size+1+1+1,0,none⟩ (.slice none 0 0)).heap[K]?=some (.deferred (some [])):=(KeepsOthers.setCell w5 ⟨W.heap.size+3,0,none⟩ _).same K _ K5.out.2.2 rfl
   have m8:Mv W (HL++HB0) (w5.setCell ⟨W.heap.size+1+1+1,0,none⟩ (.slice none 0 0)) (H1++(XX++(HL++HB2))):=by
    have m9:=K5.out.2.1
    rw [HXX.out] at m9 ⊢
    have e9:H1++(encX W.heap.size A D.length c style count layer false++(HL++HB2))=(H1++[⟨W.heap.size+5,26,#[.slice A D.length c]⟩,⟨W.heap.size+4,4,#[.bool false]⟩])++⟨W.heap.size+3,30,#[.slice none 0 0]⟩::([⟨W.heap.size+2,3,#[.int .i64 layer]⟩,⟨W.heap.size+1,3,#[.int .i64 count]⟩,⟨W.heap.size,3,#[.int .i64 style]⟩]++(HL++HB2)):=by simp [encX]
    rw [e9] at m9 ⊢
    exact Mv.setAt m9 0 (.slice none 0 0)
   have m10:=m8.putObj (.deferred none) hK hk rfl
   have eS:encS count style layer D M=⟨M1,[false],[]⟩:=HS.out
   refine ⟨by simp,.inl ⟨_,_,rfl,run_takeDeferred hk,?_⟩⟩
   refine ⟨_,enc_results _ _ _ (W.heap.size+3) rfl rfl (Mv.blkm m10 (x:=⟨W.heap.size+3,30,#[.slice none 0 0]⟩) (List.mem_append_right _ (List.mem_append_left _ (by rw [HXX.out];simp [encX])))),_,_,H1,[],HB2,rfl,?_,?_,?_,?_⟩
   ·rw [eS];exact K5.out.1
   ·rw [eS];exact RowH.nil _ _
   ·rw [eS];exact KD.out.1
   ·exact m10.sub (fun g=>by simp only [cnt_append,cnt_nil];omega) (fun c hc=>by simp only [List.mem_append,List.not_mem_nil,false_or] at hc ⊢;grind)
  | true =>
   go_wp2_with (first
    | (go_at_call 26;(with_reducible refine BI.out.mono ?_);rintro e w4 ⟨rfl,HW',K4,d0,d1⟩)
    | (go_at_call 22;refine (spots_any _ _ _ _).mono ?_;rintro e w' ⟨rfl,rfl⟩))
   obtain ⟨w6,hw6⟩:∃ w6,w6=w4.alloc (.cells #[.slice A D.length c] 26):=⟨_,rfl⟩
   obtain ⟨bx,hbx⟩:∃ bx,w4.heap.size=bx:=⟨_,rfl⟩
   obtain ⟨H0,hH0⟩:∃ H0,H0=(HW'++(encY bx wx wb W.heap.size A D.length c style count layer (.slice none 0 0)++([]++HL)))++HB2:=⟨_,rfl⟩
   have M7:Mv W (HL++HB0) w6 H0:=by
    have m:=K4.out.2.1.alloc 26 #[.slice A D.length c]
    rw [← hw6,hbx,HXX.out] at m
    rw [hH0]
    refine m.sub (fun g=>?_) (fun y hy=>?_)
    ·simp only [encX,encY,cnt_append,cnt_cons,cnt_nil];omega
    ·simp only [encX,encY,List.mem_append,List.mem_cons,List.not_mem_nil,or_false,false_or] at hy ⊢;grind
   have hK6:w6.heap[K]?=some (.deferred (some [])):=by rw [hw6];exact (Below.heap_alloc _ _ _ (Array.getElem?_eq_some_iff.1 K4.out.2.2).1).trans K4.out.2.2
   have K6:=Lib.hid (And.intro M7 hK6)
   have P0:encP2 bx wx wb W.heap.size A c D style count layer HL ⟨M1,[true],[]⟩ [] H0:=⟨_,HW',[],.slice none 0 0,HB2,rfl,hH0,K4.out.1,RowH.nil _ _,KD.out.1,KD.out.2.2,by simp,by simp⟩
   rw [← hw6]
   simp only [hbx]
   clear hw6 hbx M7 hK6 hH0 d0 d1 c0 c1
   refine (wpIn_wide (n:=8)).1 ?_
   refine range_spots1 (n:=8) (by omega) 13 w6 H0 (Nat.le_refl _) (box:=bx) (c:=c) (A:=A) (D:=D) rfl (by omega) (fun e he=>by obtain ⟨b,-,k2,-⟩:=KI.out.2.1.band he;have:=k2.small;omega)
    (encP2 bx wx wb W.heap.size A c D style count layer HL ⟨M1,[true],[]⟩) (fun _ _=>False) ?sp2 ?no2 ⟨_,P0,Mv.refl K6.out.1.sat⟩ ?assign2 ?body2 ?done2 ?stop2
   case sp2 =>
    rintro pre H w ⟨S,HW2,Hb,vb,HB',-,rfl,-,-,h2,-⟩ hs
    exact ListH.sp KI.out.1 h2 hs (List.mem_append_left _ (List.mem_append_right _ (List.mem_append_left _ List.mem_cons_self))) (fun x hx=>List.mem_append_left _ (List.mem_append_right _ (List.mem_append_right _ (List.mem_append_right _ hx)))) (fun x hx=>List.mem_append_right _ hx)
   case no2 =>
    rintro pre H ⟨S,HW2,Hb,vb,HB',-,rfl,hw,hb,h2,-⟩
    obtain ⟨v,Hr,rfl,hr⟩:=hw
    exact ((NoSpot.cons (show 148≠66 by decide) (NoSpot.row hr (by decide))).append ((encY_no _ _ _ _ _ _ _ _ _ _ _).append ((NoSpot.row hb (by decide)).append (NoSpot.row KI.out.1 (by decide))))).append h2.noSpot
   case assign2 =>
    intro l x y z w K hK
    simp only [List.setIfInBounds_toArray,List.set_cons_succ,List.set_cons_zero] at hK ⊢
    gi_wp2
    exact hK
   case body2 =>
    intro l pre x hx B w H hr hP hs hlen
    simp only [List.setIfInBounds_toArray,List.set_cons_succ,List.set_cons_zero]
    exact enc_round l D A c bx wx wb W.heap.size B HL style count layer ⟨M1,[true],[]⟩ pre x hx w H _ _ _ _ _ _ _ _ _ _ _ _ _ _ _ _ _ _ _ _ _ _ _ _ _ _ _ _ _ _ _ _ _ _ _ _ _ _ _ _ _ _ _ _ _ _ _ _ _ _ _ _ _ _ _ _ _ _ _ _ _ _ _ _ _ _ _ _ _ _ _ _ _ _ _ _ _ _ hP hs (by omega) hst hly hct
   case stop2 =>
    intro K pre w H _ _ h
    exact h.elim
   case done2 =>
    intro K2 ys w7 H hK2 hy hP hM hd
    obtain ⟨S,HW2,Hb,vb,HB',hS,rfl,hw,hb,hB,-,hl1,hl2⟩:=hP
    rw [hy] at hS
    have hyl:ys.length=(spotsOf D).length:=by rw [← hy,List.length_map]
    have hl1':S.bits.length≤30000000:=by omega
    have hl2':S.body.length≤60000000:=by omega
    have eS:encS count style layer D M=S:=by rw [HS.out,if_pos trivial,hS]
    have hK7:w7.heap[K]?=some (.deferred (some [])):=hM.others K6.out.1.sat K _ K6.out.2 (fun c t f e=>by cases e)
    obtain ⟨ba,bc,rfl⟩:=hb.slice
    obtain ⟨HE,hHE⟩:∃ HE,(HW2++(encY bx wx wb W.heap.size A D.length c style count layer (.slice ba S.body.length bc)++(Hb++HL)))++HB'=HE:=⟨_,rfl⟩
    rw [hHE] at hM
    have CE:Hid (∀ V A',Mv w6 H0 V (A'++HE)→V.cell? ⟨wx,0,none⟩=some (.pointer (some ⟨wb,0,none⟩))∧V.cell? ⟨W.heap.size+3,0,none⟩=some (.slice ba S.body.length bc)∧V.frozen? ⟨W.heap.size+3,0,none⟩=false):=Lib.hid (by
     intro V A' m
     have s1:Sat V HE:=m.sat.right
     rw [← hHE] at s1
     have s2:=s1.left.right.left
     exact ⟨(s2.at_ 1 rfl).cell 0,(s2.at_ 2 rfl).cell 0,(s2.at_ 2 rfl).frozen 0⟩)
    have BY:Hid (Calls Tryz.prog 28 #[.pointer (some ⟨wb,0,none⟩)] w7.drew fun e w8=>∃ g8 n8 c8 H8,e=.returned (.slice g8 n8 c8)∧Hid (RowB (.slice g8 n8 c8) (wout (wbits S.bits)) H8∧Mv w6 H0 w8 (H8++HE)∧w8.heap[K]?=some (.deferred (some []))∧w8.heap[K2]?=some (.deferred (some [])))):=Lib.hid (by
     have m1:Mv w6 H0 w7.drew (HW2++((encY bx wx wb W.heap.size A D.length c style count layer (.slice ba S.body.length bc)++(Hb++HL))++HB')):=by
      have m:=hM.drew
      rw [← hHE,List.append_assoc] at m
      exact m
     refine (bytes_any wb S.bits w7.drew HW2 hw m1.sat.left (by omega)).mono ?_
     rintro e w8 ⟨v',Hn,rfl,h5,m5⟩
     obtain ⟨g,c5,rfl⟩:=h5.slice
     refine ⟨g,_,c5,Hn,rfl,Lib.hid ⟨h5,?_,m5.others m1.sat.left K _ hK7 (fun c t f e=>by cases e),m5.others m1.sat.left K2 _ hd (fun c t f e=>by cases e)⟩⟩
     have m6:=Mv.call m1 m5
     rw [← hHE]
     exact m6.sub (fun g=>by simp only [cnt_append];omega) (fun c hc=>by simp only [List.mem_append] at hc ⊢;grind))
    have CL:Hid (∀ w8 H8,Mv w6 H0 w8 (H8++HE)→w8.heap[K]?=some (.deferred (some []))→w8.heap[K2]?=some (.deferred (some []))→Calls Tryz.prog 31 #[.slice ba S.body.length bc] w8 fun e w9=>∃ g9 n9 c9 H9,e=.returned (.slice g9 n9 c9)∧Hid (RowB (.slice g9 n9 c9) S.body H9∧Mv w6 H0 w9 (H9++(H8++HE))∧w9.heap[K]?=some (.deferred (some []))∧w9.heap[K2]?=some (.deferred (some [])))):=Lib.hid (by
     intro w8 H8 m k1 k2
     have sb:Sat w8 Hb:=by
      have s1:=m.sat.right
      rw [← hHE] at s1
      exact s1.left.right.right.left
     refine (clone_any _ S.body w8 (hb.bv sb) (by omega)).mono ?_
     rintro e w9 ⟨v',Hn,rfl,h5,m5⟩
     obtain ⟨g,c5,rfl⟩:=h5.slice
     exact ⟨g,_,c5,Hn,rfl,Lib.hid ⟨h5,Mv.call (H:=[]) m m5,m5.others (Sat.nil _) K _ k1 (fun c t f e=>by cases e),m5.others (Sat.nil _) K2 _ k2 (fun c t f e=>by cases e)⟩⟩)
    obtain ⟨x1,x2,x3⟩:=CE.out w7.drew [] hM.drew
    have KE:=Lib.hid (And.intro eS (And.intro hB (And.intro hK hK2)))
    have HHE:=Lib.hid hHE
    clear hS hw hb hB hl1 hl2 hyl hl1' hl2' eS hK7 hHE hM hd hy P0
    obtain ⟨nb,hnb⟩:∃ nb,S.body.length=nb:=⟨_,rfl⟩
    rw [hnb] at x2 CE CL HHE
    clear hnb
    go_upto_region 17 with fail
    refine wp_piece ?_
    unfold noQ
    go_region_law (first
     | (go_simp;go_at_call 28;(with_reducible refine BY.out.mono ?_);rintro e w8 ⟨g8,n8,c8,H8,rfl,K8⟩;(have y1:w8.cell? ⟨wx,0,none⟩=some (.pointer (some ⟨wb,0,none⟩)):=(by first | exact (CE.out w8 H8 K8.out.2.1).1));(have y2:w8.cell? ⟨W.heap.size+3,0,none⟩=some (.slice ba nb bc):=(by first | exact (CE.out w8 H8 K8.out.2.1).2.1));(have y3:w8.frozen? ⟨W.heap.size+3,0,none⟩=false:=(by first | exact (CE.out w8 H8 K8.out.2.1).2.2)))
     | (go_simp;go_at_call 31;(with_reducible refine (CL.out w8 H8 K8.out.2.1 K8.out.2.2.1 K8.out.2.2.2).mono ?_);rintro e w9 ⟨g9,n9,c9,H9,rfl,K9⟩;(have z1:w9.cell? ⟨wx,0,none⟩=some (.pointer (some ⟨wb,0,none⟩)):=(by first | exact (CE.out w9 (H9++H8) (by rw [List.append_assoc];exact K9.out.2.1)).1));(have z2:w9.cell? ⟨W.heap.size+3,0,none⟩=some (.slice ba nb bc):=(by first | exact (CE.out w9 (H9++H8) (by rw [List.append_assoc];exact K9.out.2.1)).2.1));(have z3:w9.frozen? ⟨W.heap.size+3,0,none⟩=false:=(by first | exact (CE.out w9 (H9++H8) (by rw [List.append_assoc];exact K9.out.2.1)).2.2))))
    all_goals
     obtain ⟨w10,hw10⟩:∃ w10,w10=w9.setCell ⟨W.heap.size+3,0,none⟩ (.slice g9 n9 c9):=⟨_,rfl⟩
     have m10:Mv w6 H0 w10 (((H9++(H8++HW2))++[⟨bx,26,#[.slice A D.length c]⟩,⟨wx,70,#[.pointer (some ⟨wb,0,none⟩)]⟩])++⟨W.heap.size+3,30,#[.slice g9 n9 c9]⟩::([⟨W.heap.size+2,3,#[.int .i64 layer]⟩,⟨W.heap.size+1,3,#[.int .i64 count]⟩,⟨W.heap.size,3,#[.int .i64 style]⟩]++(Hb++(HL++HB')))):=by
      have m:=K9.out.2.1
      rw [← HHE.out] at m
      have m2:Mv w6 H0 w9 (((H9++(H8++HW2))++[⟨bx,26,#[.slice A D.length c]⟩,⟨wx,70,#[.pointer (some ⟨wb,0,none⟩)]⟩])++⟨W.heap.size+3,30,#[.slice ba nb bc]⟩::([⟨W.heap.size+2,3,#[.int .i64 layer]⟩,⟨W.heap.size+1,3,#[.int .i64 count]⟩,⟨W.heap.size,3,#[.int .i64 style]⟩]++(Hb++(HL++HB')))):=by
       simpa only [encY,List.append_assoc,List.cons_append,List.nil_append] using m
      have m3:=Mv.setAt m2 0 (.slice g9 n9 c9)
      rw [hw10]
      exact m3
     have k10:w10.heap[K]?=some (.deferred (some [])):=by rw [hw10];exact (KeepsOthers.setCell w9 ⟨W.heap.size+3,0,none⟩ _).same K _ K9.out.2.2.1 rfl
     have k20:w10.heap[K2]?=some (.deferred (some [])):=by rw [hw10];exact (KeepsOthers.setCell w9 ⟨W.heap.size+3,0,none⟩ _).same K2 _ K9.out.2.2.2 rfl
     have e12:w9.setCell ⟨W.heap.size+1+1+1,0,none⟩ (.slice g9 n9 c9)=w10:=hw10.symm
     rw [e12]
     have K10:=Lib.hid (And.intro m10 (And.intro k10 k20))
     clear m10 k10 k20 e12 hw10
     go_wp2_with fail
     have m11:=K10.out.1.putObj (.deferred none) hK2 K10.out.2.2 rfl
     have hKlt:K<w6.heap.size:=(Array.getElem?_eq_some_iff.1 K6.out.2).1
     have k11:(w10.putObj K2 (.deferred none)).heap[K]?=some (.deferred (some [])):=by
      refine ((grownBy_putObj' w10 K2 (.deferred none)).block K (Nat.lt_of_lt_of_le hKlt K10.out.1.only.size) (fun e=>?_)).trans K10.out.2.1
      simp only [Option.some.injEq] at e
      omega
     have m12:=(K6.out.1.trans m11).putObj (.deferred none) hK k11 rfl
     refine ⟨by simp,.inl ⟨_,_,rfl,run_takeDeferred K10.out.2.2,?_⟩⟩
     refine ⟨by simp,.inl ⟨_,_,rfl,run_takeDeferred k11,?_⟩⟩
     refine ⟨_,enc_results2 _ _ _ (W.heap.size+3) _ rfl rfl (Mv.blkm m12 (x:=⟨W.heap.size+3,30,#[.slice g9 n9 c9]⟩) (List.mem_append_right _ List.mem_cons_self)),_,_,H8,H9,HB',rfl,?_,?_,?_,?_⟩
     ·rw [KE.out.1];exact K8.out.1
     ·rw [KE.out.1];exact K9.out.1
     ·rw [KE.out.1];exact KE.out.2.1
     ·exact m12.sub (fun g=>by simp only [cnt_append,cnt_cons];omega) (fun c hc=>by simp only [List.mem_append,List.mem_cons] at hc ⊢;grind)
end
end Go.Proofs.YtjngfhgakokejaaGreat
