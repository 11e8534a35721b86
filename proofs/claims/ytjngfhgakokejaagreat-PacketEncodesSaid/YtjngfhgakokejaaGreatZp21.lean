/- waveletref15: say: its first half. waveletref15: say: whole. The document's planted trees are the program's: small shapes (by gen_Yr.py). Plain. -/
import Derived.Test.YtjngfhgakokejaaGreatZp20
import Derived.Test.YtjngfhgakokejaaGreatZp18
import Derived.Test.YtjngfhgakokejaaGreatZp05
import Derived.Test.YtjngfhgakokejaaGreatZp19
set_option maxRecDepth 100000
set_option maxHeartbeats 8000000
namespace Go.Proofs.YtjngfhgakokejaaGreat
section
open Go.RowKit
def zerosIf (T1:List LevM) (k z from_:Nat):List Bool:=if from_=0 then (zerosE T1 k (z+1)).2 else []
def zerosTo (T T1:List LevM) (k z from_:Nat):List LevM:=if from_=0 then (zerosE T1 k (z+1)).1 else T
def zerosFr (fr:Bool) (from_:Nat):Bool:=if from_=0 then true else fr
def sayY (bb:Nat) (m:BandM) (b:RBandG):List HB:=rbandB bb b.ti b.tu b.vl m::(b.Hl++(b.Hi++b.G.flatMap StG.heap))
def PartIn (bb lg lc n k:Nat) (V:World):Prop:=V.cell? ⟨bb,1,none⟩=some (.slice (some ⟨lg,0,none⟩) n lc)∧∀ j,j<5→V.frozen? ⟨lg,k * 5+j,none⟩=false∧∃ v,V.cell? ⟨lg,k * 5+j,none⟩=some v
def setc5 (w:World) (lg k:Nat) (pl:Int) (vp vb:Value) (said lb:Int):World:=((((w.setCell ⟨lg,k * 5,none⟩ (.int .i64 pl)).setCell ⟨lg,k * 5+1,none⟩ vp).setCell ⟨lg,k * 5+2,none⟩ vb).setCell ⟨lg,k * 5+3,none⟩ (.int .i64 said)).setCell ⟨lg,k * 5+4,none⟩ (.int .i64 lb)
theorem say_first (bb wb k n z from_ to_ style lg lc pn vc bn uc:Nat) (pl said lb P:Int) (va ua:Option Addr) (b:RBandG) (m:BandM) (ff fz:Bool) (hb:b.ok m ff fz) (HW:List HB) (bs:List Bool) (W:World) (T1:List LevM) (hw:RWrB wb bs HW) (hs:Sat W (b.heap bb m++HW))
  (hT1:(if fz=true then m.zeros else fillT m.zeros)=T1) (hg:from_=0→EncGood T1 n) (hk:k<n) (hn1:n≤1000) (hz:z≤60) (hP:P=pl+z) (hPm:m.planes=P) (_hpl : -1000≤pl∧pl≤1000) (hbs:bs.length≤40000000) (hft:from_<to_) (hto:to_≤pn) (hpn:pn≤100) (hsty:style≤63) (ps:List (Int × Bool)) (Hp R:List HB) (hp:RowQ (.slice va pn vc) ps Hp) (hpl2:ps.length=pn) (hends:∀ e∈ps.map (·.1),0≤e∧e≤100000000) (hYc:∀ g,cnt g (sayY bb m b)=cnt g Hp+cnt g R) (hYm:∀ c,c∈sayY bb m b↔c∈Hp∨c∈R) (L1 L2:List Int) (np:Nat) (hL1:lensM (piecesM style from_ to_)=L1) (hL2:sizesM (ps.map (·.1)) (was0 (ps.map (·.1)) from_) (piecesM style from_ to_)=L2) (hnp1:L1.length=np) (hnp2:L2.length=np) (hnp0:0<np) (hnpb:np≤100) (hq1:∀ i,i<np→0≤L1.getD i 0∧L1.getD i 0≤1000) (hq2:∀ i,i<np→0≤L2.getD i 0∧L2.getD i 0≤100000000) (hlb:0≤lb∧lb≤45) (hbz:(bs++zerosIf T1 k z from_).length≤40000000)
  (Q:World→Prop) (hcl:∀ V,Sat V (Hp++R)→PartIn bb lg lc n k V)
  (hfin:∀ w2 HW2 HU2,RTreeH b.tu (zerosTo m.zeros T1 k z from_) (zerosFr fz from_) HU2→RWrB wb (((bs++zerosIf T1 k z from_++tellM (to_ - from_))++List.replicate (needK L1 L2 lb np - lb).toNat true++[false])++bitsK L1 L2 (needK L1 L2 lb np) np) HW2→Mv W (b.heap bb m++HW) w2 (HW2++(HU2++(Hp++R)))→Q (setc5 w2 lg k pl (.slice va pn vc) (.slice ua bn uc) said (needK L1 L2 lb np)).drew)
  (z1:W.cell? ⟨bb,1,none⟩=some (.slice (some ⟨lg,0,none⟩) n lc)) (c0:W.cell? ⟨lg,k * 5,none⟩=some (.int .i64 pl)) (c1:W.cell? ⟨lg,k * 5+1,none⟩=some (.slice va pn vc)) (c2:W.cell? ⟨lg,k * 5+2,none⟩=some (.slice ua bn uc)) (c3:W.cell? ⟨lg,k * 5+3,none⟩=some (.int .i64 said)) (c4:W.cell? ⟨lg,k * 5+4,none⟩=some (.int .i64 lb)) :
  Calls Tryz.prog 38 #[.pointer (some ⟨bb,0,none⟩),.pointer (some ⟨wb,0,none⟩),.int .i64 (k:Int),.int .i64 (style:Int),.int .i64 (from_:Int),.int .i64 (to_:Int)] W fun e w'=>e=.returned (.tuple #[])∧Q w':=by
 have M0:=Mv.refl hs
 have M1:=M0.alloc 85 #[.int .i64 pl,.slice va pn vc,.slice ua bn uc,.int .i64 said,.int .i64 lb]
 obtain ⟨H0,hH0⟩:∃ H0,b.heap bb m++HW=H0:=⟨_,rfl⟩
 obtain ⟨xb,hxb⟩:∃ xb,W.heap.size=xb:=⟨_,rfl⟩
 obtain ⟨w1,hw1⟩:∃ w1,w1=W.alloc (.cells #[.int .i64 pl,.slice va pn vc,.slice ua bn uc,.int .i64 said,.int .i64 lb] 85):=⟨_,rfl⟩
 rw [← hw1,hxb] at M1
 have M2:Mv W (b.heap bb m++HW) w1 (b.Hu++(HW++(partX xb pl said lb (.slice va pn vc) (.slice ua bn uc)::sayY bb m b))):=M1.sub (fun g=>by simp only [RBandG.heap,sayY,partX,cnt_append,cnt_cons];omega) (fun c hc=>by simp only [RBandG.heap,sayY,partX,List.mem_append,List.mem_cons] at hc ⊢;grind)
 rw [hH0] at M2 hfin
 have FIN:=Lib.hid hfin
 have HCL:=Lib.hid hcl
 clear hfin hcl
 have YB:Hid (∀ V,Sat V (partX xb pl said lb (.slice va pn vc) (.slice ua bn uc)::sayY bb m b)→V.cell? ⟨bb,3,none⟩=some (.pointer (some ⟨b.tu,0,none⟩))∧V.cell? ⟨bb,0,none⟩=some (.int .i64 (pl+z))∧V.cell? ⟨xb,0,none⟩=some (.int .i64 pl)):=Lib.hid (fun V h=>⟨(h.at_ 1 rfl).cell 3,by rw [← hP,← hPm];exact (h.at_ 1 rfl).cell 0,(h.at_ 0 rfl).cell 0⟩)
 have K0:=Lib.hid (And.intro hb.tu (And.intro hw M2))
 have GD:=Lib.hid (And.intro hT1 hg)
 have hkI:(k:Int)<(n:Int):=by omega
 have hk5:k * 5<100000:=by omega
 obtain ⟨Y,hY⟩:∃ Y,sayY bb m b=Y:=⟨_,rfl⟩
 rw [hY] at K0 YB hYc hYm
 have YH:=Lib.hid (And.intro hYc hYm)
 have PH:=Lib.hid (And.intro hp (And.intro hpl2 hends))
 clear hYc hYm hp hpl2 hends
 clear hs hb hw M0 M1 M2 hT1 hg hH0 hPm hY
 go_enter Tryz.func38,Tryz.ntmps38
 go_upto_region 1 with fail
 rw [← hw1]
 try simp only [hxb]
 clear hw1 z1 c0 c1 c2 c3 c4
 have yy:=YB.out w1 K0.out.2.2.sat.right.right
 obtain ⟨y3,y0,x0⟩:=yy
 go_upto_if 27 with fail
 go_cut [13,14,27] from 28 (fun _ _ _ wx=>∃ HU' HW',RTreeH b.tu (zerosTo m.zeros T1 k z from_) (zerosFr fz from_) HU'∧RWrB wb (bs++zerosIf T1 k z from_) HW'∧Mv W H0 wx (HU'++(HW'++(partX xb pl said lb (.slice va pn vc) (.slice ua bn uc)::Y))))
 case first =>
  by_cases h0:from_=0
  ·have d:(from_ == 0)=true:=by simp;exact h0
   have e1:Hid (zerosTo m.zeros T1 k z from_=(zerosE T1 k (z+1)).1∧zerosFr fz from_=true∧zerosIf T1 k z from_=(zerosE T1 k (z+1)).2):=Lib.hid ⟨if_pos h0,if_pos h0,if_pos h0⟩
   have hg0:=Lib.hid (GD.out.2 h0)
   subst h0
   go_upto_region 2 with fail
   go_quiet (fail)
   have M4:=K0.out.2.2.drewN nq
   go_upto_block 0 with fail
   rw [show pl+(z:Int) - pl=(z:Int) by omega]
   refine wp_piece_end (say_zeros _ bb b.tu wb k n z m.zeros T1 fz bs b.Hu HW (partX xb pl said lb (.slice va pn vc) (.slice ua bn uc)::Y) H0 W _ _ _ _ _ _ _ _ _ _ _ _ _ _ _ _ _ _ _ _ _ _ _ _ _ _ _ _ _ _ _ _ _ _ _ _ _ _ _ _ _ _ _ _ _ _ _ _ _ _ _ _ _ _ _ _ _ _ _ _ _ _ _ _ _ _ _ _ _ _ _ _ _ _ _ _ _ _ _ _ _ _ _ _ _ _ _ _ _ _ _ _ _ _ _ _ _ _ _ _ _ _ _ _ _ _ _ _ _ _ _ _ _ _ _ _ _ GD.out.1 K0.out.1 K0.out.2.1 M4 (fun V h=>(YB.out V h).1) hg0.out hk hz hbs ?_)
   rintro _ _ _ _ _ _ _ _ _ _ _ _ _ _ w5 HU5 HW5 r1 r2 m5
   have K5:=Lib.hid (And.intro r1 (And.intro r2 m5))
   go_wp2_with fail
   go_meet
   exact ⟨HU5,HW5,by rw [e1.out.1,e1.out.2.1];exact K5.out.1,by rw [e1.out.2.2];exact K5.out.2.1,K5.out.2.2⟩
  ·have d:(from_ == 0)=false:=by simp;exact h0
   have dI:((from_:Int) == 0)=false:=by simp;exact h0
   have e1:Hid (zerosTo m.zeros T1 k z from_=m.zeros∧zerosFr fz from_=fz∧zerosIf T1 k z from_=[]):=Lib.hid ⟨if_neg h0,if_neg h0,if_neg h0⟩
   clear h0
   go_wp2_with fail
   go_meet
   exact ⟨b.Hu,HW,by rw [e1.out.1,e1.out.2.1];exact K0.out.1,by rw [e1.out.2.2,List.append_nil];exact K0.out.2.1,K0.out.2.2⟩
 case rest =>
  obtain ⟨HU1,HW1,r1,r2,m⟩:=hcut
  have M5:Mv W H0 wc (HW1++(HU1++(partX xb pl said lb (.slice va pn vc) (.slice ua bn uc)::Y))):=m.sub (fun g=>by simp only [cnt_append,cnt_cons];omega) (fun c hc=>by simp only [List.mem_append,List.mem_cons] at hc ⊢;grind)
  have RC:=Lib.hid (rcount_any wb (bs++zerosIf T1 k z from_) (to_ - from_) wc HW1 r2 M5.sat.left (by omega) (by omega) (by omega))
  have eft:((to_ - from_:Nat):Int)=(to_:Int) - (from_:Int):=by omega
  rw [eft] at RC
  have K5:=Lib.hid (And.intro r1 M5)
  clear r1 r2 m M5 eft K0 y0 y3 x0
  go_upto_region 8 with (go_at_call 82;(with_reducible refine RC.out.mono ?_);rintro e w6 ⟨rfl,HW6,r6,m6⟩;have K6:=Lib.hid (And.intro r6 (Mv.call K5.out.2 m6));clear r6 m6)
  have M6:Mv W H0 w6 (Hp++(HW6++(HU1++(partX xb pl said lb (.slice va pn vc) (.slice ua bn uc)::R)))):=K6.out.2.sub (fun g=>by have:=YH.out.1 g;simp only [cnt_append,cnt_cons];omega) (fun c hc=>by have:=YH.out.2 c;simp only [List.mem_append,List.mem_cons] at hc ⊢;grind)
  have xB:=(M6.sat.right.right.right.at_ 0 rfl)
  have x0:=xB.cell 0
  have x1:=xB.cell 1
  have x2:=xB.cell 2
  have EN:=Lib.hid (rends_any pl (.slice va pn vc) (.slice ua bn uc) ps Hp w6 PH.out.1 M6.sat.left (by rw [PH.out.2.1];omega) ⟨_,_,_,rfl⟩)
  have KM6:=Lib.hid M6
  have SG:Hid (∀ v Hn V,RowI v (ps.map (·.1)) Hn→Sat V Hn→Calls Tryz.prog 83 #[.int .i64 (style:Int),.int .i64 (from_:Int),.int .i64 (to_:Int),v] V fun e w'=>∃ v1 v2 H1 H2,e=.returned (.tuple #[v1,v2])∧RowI v1 (lensM (piecesM style from_ to_)) H1∧RowI v2 (sizesM (ps.map (·.1)) (was0 (ps.map (·.1)) from_) (piecesM style from_ to_)) H2∧Mv V Hn w' (H1++(H2++Hn))):=Lib.hid (fun v Hn V h1 h2=>rsegs_any style from_ to_ (ps.map (·.1)) v Hn V hsty (by omega) (by rw [List.length_map,PH.out.2.1];exact hto) (by rw [List.length_map,PH.out.2.1];omega) PH.out.2.2 h1 h2)
  rw [hL1,hL2] at SG
  have NP:=Lib.hid (And.intro hnp1 (And.intro hnp2 (And.intro hq1 hq2)))
  clear M6 xB hL1 hL2 hnp1 hnp2 hq1 hq2
  go_upto_region 9 with (first | (go_at_call 84;refine EN.out.mono ?_;rintro e w7 ⟨v7,H7,rfl,r7,m7⟩;have K7:=Lib.hid (And.intro r7 (Mv.call KM6.out m7));clear r7 m7) | (go_at_call 83;refine (SG.out _ H7 _ K7.out.1 K7.out.2.sat.left.left).mono ?_;rintro e w8 ⟨v8,v9,H8,H9,rfl,r8,r9,m8⟩;have K8:=Lib.hid (And.intro r8 (And.intro r9 m8));clear r8 r9 m8))
  obtain ⟨a8,k8,e8⟩:=K8.out.1.slice
  obtain ⟨a9,k9,e9⟩:=K8.out.2.1.slice
  rw [NP.out.1] at e8
  rw [NP.out.2.1] at e9
  subst e8
  subst e9
  obtain ⟨g1,rfl⟩:=K8.out.1.form hnp0
  obtain ⟨g2,rfl⟩:=K8.out.2.1.form hnp0
  have M7:Mv W H0 w7 (H7++(Hp++(HW6++(HU1++(partX xb pl said lb (.slice va pn vc) (.slice ua bn uc)::R))))):=by rw [← List.append_assoc];exact K7.out.2
  have M8:Mv W H0 w8 (HW6++(partX xb pl said lb (.slice va pn vc) (.slice ua bn uc)::(H8++(H9++(H7++(Hp++(HU1++R))))))):=(Mv.call M7 K8.out.2.2).sub (fun g=>by simp only [cnt_append,cnt_cons];omega) (fun c hc=>by simp only [List.mem_append,List.mem_cons] at hc ⊢;grind)
  have KM8:=Lib.hid M8
  clear M7 M8
  go_upto_block 2 with fail
  refine wp_piece (say_need _ wb xb g1 g2 np k8 k9 pl said lb (.slice va pn vc) (.slice ua bn uc) _ L1 L2 HW6 (H8++(H9++(H7++(Hp++(HU1++R))))) H0 W _ _ _ _ _ _ _ _ _ _ _ _ _ _ _ _ _ _ _ _ _ _ _ _ _ _ _ _ _ _ _ _ _ _ _ _ _ _ _ _ _ _ _ _ _ _ _ _ _ _ _ _ _ _ _ _ _ _ _ _ _ _ _ _ _ _ _ _ _ _ _ _ _ _ _ _ _ _ _ _ _ _ _ _ _ _ _ _ _ _ _ _ _ _ _ _ _ _ _ _ _ _ _ _ _ _ _ _ _ _ _ _ _ _ _ _ _ K6.out.1 KM8.out (fun i hi V h=>⟨K8.out.1.at_ h.left (by rw [List.getD_eq_getElem?_getD,List.getElem?_eq_getElem (by rw [NP.out.1];exact hi)];rfl),K8.out.2.1.at_ h.right.left (by rw [List.getD_eq_getElem?_getD,List.getElem?_eq_getElem (by rw [NP.out.2.1];exact hi)];rfl)⟩) NP.out.2.2.1 NP.out.2.2.2 hlb (by omega) (by have:=tellM_length (to_ - from_);rw [List.length_append];omega) ?_)
  rintro _ _ _ _ _ _ _ _ _ _ _ _ _ _ _ _ _ _ _ _ _ _ _ _ _ _ _ w9 HW9 r9 m9
  have hbd:=need_bd L1 L2 lb np NP.out.2.2.2 np (Nat.le_refl _)
  obtain ⟨nl,hnl⟩:∃ nl,needK L1 L2 lb np=nl:=⟨_,rfl⟩
  rw [hnl] at r9 m9 hbd
  have hlen:((bs++zerosIf T1 k z from_++tellM (to_ - from_))++List.replicate (nl - lb).toNat true).length≤50000000:=by
   have:=tellM_length (to_ - from_)
   rw [List.length_append,List.length_append,List.length_replicate]
   omega
  have BT:=Lib.hid (rbit_bs wb _ 0 w9 HW9 r9 m9.sat.left (by omega))
  have K9:=Lib.hid m9
  have hnl2:0≤nl∧nl≤45:=by omega
  have HN:=Lib.hid hnl
  have HLn:=Lib.hid hlen
  clear r9 m9 hbd hnl hlen
  go_upto_region 16 with (go_at_call 35;refine BT.out.mono ?_;rintro e w10 ⟨rfl,HW10,r10,m10⟩;have K10:=Lib.hid (And.intro r10 (Mv.call K9.out m10));clear r10 m10)
  go_upto_block 6 with fail
  refine wp_piece (say_bits _ wb xb g1 g2 np k8 k9 nl _ L1 L2 HW10 (partX xb pl said nl (.slice va pn vc) (.slice ua bn uc)::(H8++(H9++(H7++(Hp++(HU1++R)))))) H0 W _ _ _ _ _ _ _ _ _ _ _ _ _ _ _ _ _ _ _ _ _ _ _ _ _ _ _ _ _ _ _ _ _ _ _ _ _ _ _ _ _ _ _ _ _ _ _ _ _ _ _ _ _ _ _ _ _ _ _ _ _ _ _ _ _ _ _ _ _ _ _ _ _ _ _ _ _ _ _ _ _ _ _ _ _ _ _ _ _ _ _ _ _ _ _ _ _ _ _ _ _ _ _ _ _ _ _ _ _ _ _ _ _ _ _ _ _ K10.out.1 K10.out.2 (fun i hi V h=>⟨(h.at_ 0 rfl).cell 4,K8.out.1.at_ (Sat.right (A:=[_]) h).left (by rw [List.getD_eq_getElem?_getD,List.getElem?_eq_getElem (by rw [NP.out.1];exact hi)];rfl),K8.out.2.1.at_ (Sat.right (A:=[_]) h).right.left (by rw [List.getD_eq_getElem?_getD,List.getElem?_eq_getElem (by rw [NP.out.2.1];exact hi)];rfl)⟩) NP.out.2.2.1 (by omega) (by omega) (by have:=HLn.out;rw [List.length_append];simp only [List.length_cons,List.length_nil];omega) ?_)
  rintro _ _ _ _ _ _ _ _ _ _ _ _ _ _ _ _ _ _ _ _ w11 HW11 r11 m11
  have x1b:=m11.sat.right.at_ 0 rfl
  have x0:=x1b.cell 0
  have x1:=x1b.cell 1
  have x2:=x1b.cell 2
  have x3:=x1b.cell 3
  have x4:=x1b.cell 4
  have M12:Mv W H0 w11 (HW11++(HU1++(Hp++R))):=m11.sub (fun g=>by simp only [cnt_append,cnt_cons];omega) (fun c hc=>by simp only [List.mem_append,List.mem_cons] at hc ⊢;grind)
  obtain ⟨d1,dj⟩:=HCL.out w11 M12.sat.right.right
  have KF:=Lib.hid (And.intro K5.out.1 (And.intro r11 M12))
  clear r11 m11 M12 x1b
  go_upto_region 20 with fail
  refine wp_piece_end (say_r20 _ bb xb lg lc n k pl said nl va pn vc ua bn uc _ _ _ _ _ _ _ _ _ _ _ _ _ _ _ _ _ _ _ _ _ _ _ _ _ _ _ _ _ _ _ _ _ _ _ _ _ _ _ _ _ _ _ _ _ _ _ _ _ _ _ _ _ _ _ _ _ _ _ _ _ _ _ _ _ _ _ _ _ _ _ _ _ _ _ _ _ _ _ _ _ _ _ _ _ _ _ _ _ _ _ _ _ _ _ _ _ _ _ _ _ _ _ _ _ _ _ _ _ _ _ _ _ _ _ _ _ _ _ d1 x0 x1 x2 x3 x4 (dj 0 (by decide)).1 (dj 1 (by decide)).1 (dj 2 (by decide)).1 (dj 3 (by decide)).1 (dj 4 (by decide)).1 (dj 0 (by decide)).2 (dj 1 (by decide)).2 (dj 2 (by decide)).2 (dj 3 (by decide)).2 (dj 4 (by decide)).2 hk hn1 ?_)
  rintro _ _ _ _ _ _ _
  refine bodyPost_end (results_none rfl _ _ _) rfl ⟨rfl,?_⟩
  have F:=FIN.out w11 HW11 HU1 KF.out.1 (by rw [HN.out];exact KF.out.2.1) KF.out.2.2
  rw [HN.out] at F
  exact F
end
section
open Go.RowKit
theorem parts_back {G:List StG} {k:Nat} {s:StG} (h:G[k]?=some s) (lb:Int) :
  ((((((G.flatMap StG.v).set (k * 5) (.int .i64 s.m.pl)).set (k * 5+1) s.vp).set (k * 5+2) s.vb).set (k * 5+3) (.int .i64 s.m.said)).set (k * 5+4) (.int .i64 lb))=(G.set k (s.withS s.m.said lb)).flatMap StG.v:=by
 have hk:=(List.getElem?_eq_some_iff.1 h).1
 have e0:=flat_set StG.v 5 StG.v_length G k s s h 0 (by omega) (.int .i64 s.m.pl) rfl
 have eG:G.set k s=G:=by
  refine List.ext_getElem? fun i=>?_
  rw [List.getElem?_set]
  split
  ·rename_i e
   subst e
   exact h.symm
  ·rfl
 rw [eG,Nat.add_zero] at e0
 have e1:=flat_set StG.v 5 StG.v_length G k s s h 1 (by omega) s.vp rfl
 have e2:=flat_set StG.v 5 StG.v_length G k s s h 2 (by omega) s.vb rfl
 have e3:=flat_set StG.v 5 StG.v_length G k s s h 3 (by omega) (.int .i64 s.m.said) rfl
 rw [eG] at e1 e2 e3
 have e4:=flat_set StG.v 5 StG.v_length G k s (s.withS s.m.said lb) h 4 (by omega) (.int .i64 lb) rfl
 rw [e0,e1,e2,e3,e4]
theorem sizes_up (style to_:Nat) (ends:List Int) (hm:∀ i j,i≤j→j<to_→ends.getD i 0≤ends.getD j 0) (h8:∀ i,0≤ends.getD i 0∧ends.getD i 0≤100000000) :
  ∀ (f k b:Nat) (was:Int),f=to_ - k→0≤was→(k<to_→was≤ends.getD k 0)→∀ e∈sizesM ends was (pcs style to_ f k b),0≤e∧e≤100000000
 | 0,_,_,_,_,_,_,e,he=>by cases he
 | f+1,k,b,was,hf,hw,hwk,e,he=>by
  have h1:=hwk (by omega)
  have h2:=h8 k
  have hn:k+1<to_→ends.getD k 0≤ends.getD (k+1) 0:=fun h=>hm k (k+1) (by omega) h
  rw [pcs] at he
  split at he
  ·rw [sizesM,Nat.add_sub_cancel] at he
   rcases List.mem_cons.1 he with rfl | he
   ·omega
   ·exact sizes_up style to_ ends hm h8 f (k+1) (k+1) _ (by omega) h2.1 hn e he
  ·exact sizes_up style to_ ends hm h8 f (k+1) b was (by omega) hw (fun h=>Int.le_trans h1 (hn h)) e he
theorem segL2_up (s:StM) (style from_ to_:Nat) (hto:to_≤s.ps.length) (he:∀ p∈s.ps,0≤p.1∧p.1≤100000000) (hup:∀ i j,i≤j→j<s.ps.length→(s.ps.map (·.1)).getD i 0≤(s.ps.map (·.1)).getD j 0) (i:Nat) (hi:i<(piecesM style from_ to_).length) :
  0≤(segL2 s style from_ to_).getD i 0∧(segL2 s style from_ to_).getD i 0≤100000000:=by
 have h8:=getD_bd (s.ps.map (·.1)) (by intro e h;obtain ⟨p,hp,rfl⟩:=List.mem_map.1 h;exact he p hp)
 have hl:i<(segL2 s style from_ to_).length:=by unfold segL2;rw [sizesM_length];exact hi
 rw [List.getD_eq_getElem?_getD,List.getElem?_eq_getElem hl,Option.getD_some]
 refine sizes_up style to_ (s.ps.map fun p:Int × Bool=>p.1) (fun i j h1 h2=>hup i j h1 (by omega)) h8 (to_ - from_) from_ from_ (was0 (s.ps.map fun p:Int × Bool=>p.1) from_) rfl ?_ ?_ _ (List.getElem_mem (l:=segL2 s style from_ to_) hl)
 ·unfold was0
  split
  ·exact Int.le_refl _
  ·exact (h8 _).1
 ·intro h
  unfold was0
  split
  ·exact (h8 _).1
  ·exact hup _ _ (by omega) (by omega)
theorem say_any (bb wb k z from_ to_ style:Nat) (m:BandM) (s:StM) (ff fz:Bool) (H HW:List HB) (bs:List Bool) (W:World) (T1:List LevM) (hB:RBandR bb m ff fz H) (hw:RWrB wb bs HW) (hs:Sat W (H++HW)) (hk:m.ss[k]?=some s)
  (hT1:(if fz=true then m.zeros else fillT m.zeros)=T1) (hg:from_=0→EncGood T1 m.ss.length) (hn1:m.ss.length≤1000) (hz:z≤60) (hP:m.planes=s.pl+z) (hbs:bs.length≤39000000) (hft:from_<to_) (hto:to_≤s.ps.length) (hpn:s.ps.length≤100) (hsty:style≤63) (hlb:s.lb≤45)
  (hup:∀ i j,i≤j→j<s.ps.length→(s.ps.map (·.1)).getD i 0≤(s.ps.map (·.1)).getD j 0) :
  Calls Tryz.prog 38 #[.pointer (some ⟨bb,0,none⟩),.pointer (some ⟨wb,0,none⟩),.int .i64 (k:Int),.int .i64 (style:Int),.int .i64 (from_:Int),.int .i64 (to_:Int)] W fun e w'=>e=.returned (.tuple #[]) ∧
   ∃ H' HW',RBandR bb { m with zeros:=zerosTo m.zeros T1 k z from_,ss:=m.ss.set k (s.withS s.said (needM s style from_ to_)) } ff (zerosFr fz from_) H'∧RWrB wb (bs++(zerosIf T1 k z from_++(tellM (to_ - from_)++sizesB s style from_ to_))) HW'∧Mv W (H++HW) w' (H'++HW'):=by
 obtain ⟨b,hb,rfl⟩:=hB
 have hlen:b.G.length=m.ss.length:=by rw [← hb.ss,List.length_map]
 have hkm:=(List.getElem?_eq_some_iff.1 hk).1
 obtain ⟨g,hgk⟩:∃ g,b.G[k]?=some g:=⟨_,List.getElem?_eq_getElem (by omega)⟩
 have e:g.m=s:=by
  have:m.ss[k]?=some g.m:=by rw [← hb.ss,List.getElem?_map,hgk];rfl
  rw [hk] at this
  exact (Option.some.inj this).symm
 have hq:=hb.st g (List.mem_of_getElem? hgk)
 subst e
 obtain ⟨q1,q2,q3⟩:=id hq
 obtain ⟨pa,pc,hvp⟩:=q1.slice
 obtain ⟨ua,uc,hvb⟩:=RowB.slice q2
 obtain ⟨A,B,hAB⟩:=List.append_of_mem (List.mem_of_getElem? hgk)
 have hfl:b.G.flatMap StG.heap=A.flatMap StG.heap++((g.Hp++g.Hb)++B.flatMap StG.heap):=by rw [hAB,List.flatMap_append,List.flatMap_cons];rfl
 have hsat0:Sat W (b.heap bb m):=hs.left
 have hsat:Sat W (rbandB bb b.ti b.tu b.vl m::(b.Hl++(b.Hi++(b.Hu++b.G.flatMap StG.heap)))):=hsat0
 obtain ⟨lg,lc,hvl,c0,c1,c2,c3,c4,-⟩:=part_cells hb.row (Sat.left (B:=_) (Sat.right (A:=[_]) hsat)) hgk
 rw [hvp] at c1
 rw [hvb] at c2
 have z1:W.cell? ⟨bb,1,none⟩=some (.slice (some ⟨lg,0,none⟩) m.ss.length lc):=by
  rw [← hlen,← hvl]
  exact (hsat.at_ 0 rfl).cell 1
 have nb:=need_bd (segL1 style from_ to_) (segL2 g.m style from_ to_) g.m.lb (piecesM style from_ to_).length (segL2_up g.m style from_ to_ hto q3.ends hup) _ (Nat.le_refl _)
 have hlb0:=q3.lb
 have hpl0:=q3.pl
 obtain ⟨R,hR⟩:∃ R,R=rbandB bb b.ti b.tu b.vl m::(b.Hl++(b.Hi++(A.flatMap StG.heap++(g.Hb++B.flatMap StG.heap)))):=⟨_,rfl⟩
 refine say_first bb wb k m.ss.length z from_ to_ style lg lc g.m.ps.length pc g.m.bs.length uc g.m.pl g.m.said g.m.lb m.planes pa ua b m ff fz hb HW bs W T1 hw hs hT1 hg hkm hn1 hz hP rfl q3.pl (by omega) hft hto hpn hsty g.m.ps g.Hp R (by rw [← hvp];exact q1) rfl
  (fun e h=>by obtain ⟨p,hp,rfl⟩:=List.mem_map.1 h;exact q3.ends p hp) (fun c=>by rw [hR];simp only [sayY,hfl,cnt_append,cnt_cons];omega) (fun c=>by rw [hR];simp only [sayY,hfl,List.mem_append,List.mem_cons];grind)
  (segL1 style from_ to_) (segL2 g.m style from_ to_) (piecesM style from_ to_).length rfl rfl (List.length_map _) (sizesM_length _ _ _) (List.length_pos_iff.2 (pieces_ne style from_ to_ hft)) (by have:=pieces_length style from_ to_;omega) (fun i _=>lensM_bd style from_ to_ (by omega) i) (segL2_up g.m style from_ to_ hto q3.ends hup) ⟨q3.lb.1,hlb⟩ ?_ _ ?_ ?_ z1 c0 c1 c2 c3 c4
 ·rw [List.length_append]
  unfold zerosIf
  split
  ·rename_i h
   have:=(zerosE_length T1 k (hg h).1.2.2.2.2 (z+1) (by omega)).2
   omega
  ·simp only [List.length_nil];omega
 ·intro V hV
  have h1:Sat V R:=hV.right
  rw [hR] at h1
  obtain ⟨lg',lc',hvl',d0,d1,d2,d3,d4,fz0⟩:=part_cells hb.row (Sat.left (B:=_) (Sat.right (A:=[_]) h1)) hgk
  rw [hvl] at hvl'
  simp only [Value.slice.injEq,Option.some.injEq,Addr.mk.injEq,and_true,true_and] at hvl'
  obtain ⟨rfl,rfl⟩:=hvl'
  refine ⟨?_,?_⟩
  ·rw [← hlen,← hvl]
   exact (h1.at_ 0 rfl).cell 1
  ·intro j hj
   refine ⟨fz0 _ (by omega),?_⟩
   match j,hj with
   | 0,_=>exact ⟨_,d0⟩
   | 1,_=>exact ⟨_,d1⟩
   | 2,_=>exact ⟨_,d2⟩
   | 3,_=>exact ⟨_,d3⟩
   | 4,_=>exact ⟨_,d4⟩
 ·intro w2 HW2 HU2 hU hW m2
  have m3:Mv W (b.heap bb m++HW) w2 (b.Hl++(HW2++(HU2++(g.Hp++(rbandB bb b.ti b.tu b.vl m::(b.Hi++(A.flatMap StG.heap++(g.Hb++B.flatMap StG.heap)))))))):=m2.sub (fun c=>by rw [hR];simp only [cnt_append,cnt_cons];omega) (fun c hc=>by rw [hR];simp only [List.mem_append,List.mem_cons] at hc ⊢;grind)
  have hk5:k * 5+5≤b.G.length * 5:=by omega
  obtain ⟨H1,r1,p1⟩:=hb.row.set m3.sat.left hvl (k * 5) (.int .i64 g.m.pl) (by omega)
  obtain ⟨H2,r2,p2⟩:=r1.set p1.sat hvl (k * 5+1) (.slice pa g.m.ps.length pc) (by omega)
  obtain ⟨H3,r3,p3⟩:=r2.set p2.sat hvl (k * 5+2) (.slice ua g.m.bs.length uc) (by omega)
  obtain ⟨H4,r4,p4⟩:=r3.set p3.sat hvl (k * 5+3) (.int .i64 g.m.said) (by omega)
  obtain ⟨H5,r5,p5⟩:=r4.set p4.sat hvl (k * 5+4) (.int .i64 (needM g.m style from_ to_)) (by omega)
  have m4:=Mv.call m3 (Mv.call (R:=[]) (by simpa using Mv.call (R:=[]) (by simpa using Mv.call (R:=[]) (by simpa using Mv.call (R:=[]) (by simpa using p1) p2) p3) p4) p5)
  rw [← hvp,← hvb,parts_back hgk] at r5
  refine ⟨_,HW2,⟨{ b with Hl:=H5,Hu:=HU2,G:=b.G.set k (g.withS g.m.said (needM g.m style from_ to_)) },⟨?_,?_,?_,hb.ti,hU,hb.pl⟩,rfl⟩,?_,Mv.drew (m4.sub (fun c=>?_) (fun c hc=>?_))⟩
  ·show (b.G.set k _).map _=m.ss.set k _
   rw [List.map_set,hb.ss]
   rfl
  ·intro x hx
   rcases List.mem_or_eq_of_mem_set hx with h | rfl
   ·exact hb.st x h
   ·exact ⟨q1,q2,⟨q3.np,q3.nb,q3.pl,q3.said,by
     show 0≤needM g.m style from_ to_∧needM g.m style from_ to_≤1000
     unfold needM
     omega,q3.ends⟩⟩
  ·simp only [List.length_set]
   exact r5
  ·have e:bs++(zerosIf T1 k z from_++(tellM (to_ - from_)++sizesB g.m style from_ to_))=(((bs++zerosIf T1 k z from_++tellM (to_ - from_))++List.replicate (needK (segL1 style from_ to_) (segL2 g.m style from_ to_) g.m.lb (piecesM style from_ to_).length - g.m.lb).toNat true++[false])++bitsK (segL1 style from_ to_) (segL2 g.m style from_ to_) (needK (segL1 style from_ to_) (segL2 g.m style from_ to_) g.m.lb (piecesM style from_ to_).length) (piecesM style from_ to_).length):=by
    unfold sizesB needM
    simp only [List.append_assoc,List.cons_append,List.nil_append]
   rw [e]
   exact hW
  ·have e5:(b.G.set k (g.withS g.m.said (needM g.m style from_ to_))).flatMap StG.heap=b.G.flatMap StG.heap:=flatMap_set_same StG.heap (by rfl) b.G k hgk
   simp only [RBandG.heap,e5,hfl,rbandB,cnt_append,cnt_cons,cnt_nil]
   omega
  ·have e5:(b.G.set k (g.withS g.m.said (needM g.m style from_ to_))).flatMap StG.heap=b.G.flatMap StG.heap:=flatMap_set_same StG.heap (by rfl) b.G k hgk
   simp only [RBandG.heap,e5,hfl,rbandB,List.mem_append,List.mem_cons] at hc ⊢
   grind
end
section
open Go.RowKit
def plantA (w h:Nat) (v:Nat→Int):List LevM:=(List.range (w * h)).foldl (fun T k=>setLeaf T k (v k)) (treeOf w h)
def plantB (w h:Nat) (v:Nat→Int):List LevM:=(List.range (w * h)).foldl (fun T k=>setT T k (v k)) (treeOf w h)
theorem le_ext {a b:Int} (h:∀ x:Int,x≤a↔x≤b):a=b:=Int.le_antisymm ((h a).1 (Int.le_refl _)) ((h b).2 (Int.le_refl _))
theorem nodeOk0 (t:Int) (h:0≤t∧t≤1000):NodeOk ⟨t,0,false⟩:=⟨Int.le_refl _,h.1,Int.le_trans h.2 (by decide)⟩
def VOk (v:Nat→Int):Prop:=∀ k,0≤v k∧v k≤1000
def PlantOk (w h:Nat):Prop:=∀ v:Nat→Int,VOk v→fillT (plantA w h v)=plantB w h v∧Mono (plantB w h v)∧AllOk (plantB w h v)
theorem plant11:PlantOk 1 1:=by
 intro v hv
 have hb:∀ k,v k≤big:=fun k=>Int.le_trans (hv k).2 (by decide)
 have eB:plantB 1 1 v=[⟨1,1,[⟨(v 0),0,false⟩]⟩]:=by kernel_rfl
 have eA:fillT (plantA 1 1 v)=[⟨1,1,[⟨(v 0),0,false⟩]⟩]:=by kernel_rfl
 have eAB:fillT (plantA 1 1 v)=plantB 1 1 v:=by
  rw [eA,eB]
 refine ⟨eAB,?_,?_⟩
 all_goals
  clear eA eAB hb
  rw [eB]
  clear eB
 ·refine ⟨(fun M R e=>nomatch e),trivial⟩
 ·intro L hL
  simp only [List.mem_cons,List.not_mem_nil,or_false] at hL
  rcases hL with rfl
  ·intro i hi
   have hi2:i<1:=hi
   have hi3:i=0:=by omega
   rcases hi3 with rfl
   ·exact nodeOk0 _ (hv 0)
theorem plant12:PlantOk 1 2:=by
 intro v hv
 have hb:∀ k,v k≤big:=fun k=>Int.le_trans (hv k).2 (by decide)
 have eB:plantB 1 2 v=[⟨1,2,[⟨(v 0),0,false⟩,⟨(v 1),0,false⟩]⟩,⟨1,1,[⟨(min (min (v 0) (v 0)) (v 1)),0,false⟩]⟩]:=by kernel_rfl
 have eA:fillT (plantA 1 2 v)=[⟨1,2,[⟨(v 0),0,false⟩,⟨(v 1),0,false⟩]⟩,⟨1,1,[⟨(min (min (big) (v 0)) (v 1)),0,false⟩]⟩]:=by kernel_rfl
 have aE1_0:∀ x:Int,x≤(min (min (big) (v 0)) (v 1))↔x≤v 0∧x≤v 1:=by intro x;simp only [Int.le_min];have:=hb 0;constructor <;> intro h <;> omega
 have bE1_0:∀ x:Int,x≤(min (min (v 0) (v 0)) (v 1))↔x≤v 0∧x≤v 1:=by intro x;simp only [Int.le_min];constructor <;> intro h <;> omega
 have eAB:fillT (plantA 1 2 v)=plantB 1 2 v:=by
  rw [eA,eB]
  rw [le_ext fun x=>(aE1_0 x).trans (bE1_0 x).symm]
 refine ⟨eAB,?_,?_⟩
 all_goals
  clear eA eAB hb
  rw [eB]
  clear eB
  clear aE1_0
  generalize (min (min (v 0) (v 0)) (v 1))=E1_0 at *
  have kE1_0:=(bE1_0 E1_0).1 (Int.le_refl _)
  have zE1_0:0≤E1_0∧E1_0≤1000:=⟨(bE1_0 0).2 ⟨(hv 0).1,(hv 1).1⟩,Int.le_trans kE1_0.1 (hv 0).2⟩
 ·refine ⟨?_,(fun M R e=>nomatch e),trivial⟩
  ·intro M R e x y hx hy
   cases e
   have hx2:x<1:=hx
   have hy2:y<2:=hy
   have hx3:x=0:=by omega
   have hy3:y=0∨y=1:=by omega
   clear hx hy hx2 hy2
   rcases hx3 with rfl
   ·rcases hy3 with rfl | rfl
    ·exact kE1_0.1
    ·exact kE1_0.2
 ·intro L hL
  simp only [List.mem_cons,List.not_mem_nil,or_false] at hL
  rcases hL with rfl | rfl
  ·intro i hi
   have hi2:i<2:=hi
   have hi3:i=0∨i=1:=by omega
   rcases hi3 with rfl | rfl
   ·exact nodeOk0 _ (hv 0)
   ·exact nodeOk0 _ (hv 1)
  ·intro i hi
   have hi2:i<1:=hi
   have hi3:i=0:=by omega
   rcases hi3 with rfl
   ·exact nodeOk0 _ zE1_0
theorem plant13:PlantOk 1 3:=by
 intro v hv
 have hb:∀ k,v k≤big:=fun k=>Int.le_trans (hv k).2 (by decide)
 have eB:plantB 1 3 v=[⟨1,3,[⟨(v 0),0,false⟩,⟨(v 1),0,false⟩,⟨(v 2),0,false⟩]⟩,⟨1,2,[⟨(min (min (v 0) (v 0)) (v 1)),0,false⟩,⟨(min (v 2) (v 2)),0,false⟩]⟩,⟨1,1,[⟨(min (min (min (min (v 0) (v 0)) (v 1)) (min (min (v 0) (v 0)) (v 1))) (min (v 2) (v 2))),0,false⟩]⟩]:=by kernel_rfl
 have eA:fillT (plantA 1 3 v)=[⟨1,3,[⟨(v 0),0,false⟩,⟨(v 1),0,false⟩,⟨(v 2),0,false⟩]⟩,⟨1,2,[⟨(min (min (big) (v 0)) (v 1)),0,false⟩,⟨(min (big) (v 2)),0,false⟩]⟩,⟨1,1,[⟨(min (min (big) (min (min (big) (v 0)) (v 1))) (min (big) (v 2))),0,false⟩]⟩]:=by kernel_rfl
 have aE1_0:∀ x:Int,x≤(min (min (big) (v 0)) (v 1))↔x≤v 0∧x≤v 1:=by intro x;simp only [Int.le_min];have:=hb 0;constructor <;> intro h <;> omega
 have bE1_0:∀ x:Int,x≤(min (min (v 0) (v 0)) (v 1))↔x≤v 0∧x≤v 1:=by intro x;simp only [Int.le_min];constructor <;> intro h <;> omega
 have aE1_1:∀ x:Int,x≤(min (big) (v 2))↔x≤v 2:=by intro x;simp only [Int.le_min];have:=hb 2;constructor <;> intro h <;> omega
 have bE1_1:∀ x:Int,x≤(min (v 2) (v 2))↔x≤v 2:=by intro x;simp only [Int.le_min];constructor <;> intro h <;> omega
 have aE2_0:∀ x:Int,x≤(min (min (big) (min (min (big) (v 0)) (v 1))) (min (big) (v 2)))↔x≤v 0∧x≤v 1∧x≤v 2:=by intro x;simp only [Int.le_min];have:=hb 0;constructor <;> intro h <;> omega
 have bE2_0:∀ x:Int,x≤(min (min (min (min (v 0) (v 0)) (v 1)) (min (min (v 0) (v 0)) (v 1))) (min (v 2) (v 2)))↔x≤v 0∧x≤v 1∧x≤v 2:=by intro x;simp only [Int.le_min];constructor <;> intro h <;> omega
 have eAB:fillT (plantA 1 3 v)=plantB 1 3 v:=by
  rw [eA,eB]
  rw [le_ext fun x=>(aE2_0 x).trans (bE2_0 x).symm,le_ext fun x=>(aE1_1 x).trans (bE1_1 x).symm,le_ext fun x=>(aE1_0 x).trans (bE1_0 x).symm]
 refine ⟨eAB,?_,?_⟩
 all_goals
  clear eA eAB hb
  rw [eB]
  clear eB
  clear aE1_0
  clear aE1_1
  clear aE2_0
  generalize (min (min (min (min (v 0) (v 0)) (v 1)) (min (min (v 0) (v 0)) (v 1))) (min (v 2) (v 2)))=E2_0 at *
  generalize (min (v 2) (v 2))=E1_1 at *
  generalize (min (min (v 0) (v 0)) (v 1))=E1_0 at *
  have kE1_0:=(bE1_0 E1_0).1 (Int.le_refl _)
  have zE1_0:0≤E1_0∧E1_0≤1000:=⟨(bE1_0 0).2 ⟨(hv 0).1,(hv 1).1⟩,Int.le_trans kE1_0.1 (hv 0).2⟩
  have kE1_1:=(bE1_1 E1_1).1 (Int.le_refl _)
  have zE1_1:0≤E1_1∧E1_1≤1000:=⟨(bE1_1 0).2 (hv 2).1,Int.le_trans kE1_1 (hv 2).2⟩
  have kE2_0:=(bE2_0 E2_0).1 (Int.le_refl _)
  have zE2_0:0≤E2_0∧E2_0≤1000:=⟨(bE2_0 0).2 ⟨(hv 0).1,(hv 1).1,(hv 2).1⟩,Int.le_trans kE2_0.1 (hv 0).2⟩
 ·refine ⟨?_,?_,(fun M R e=>nomatch e),trivial⟩
  ·intro M R e x y hx hy
   cases e
   have hx2:x<1:=hx
   have hy2:y<3:=hy
   have hx3:x=0:=by omega
   have hy3:y=0∨y=1∨y=2:=by omega
   clear hx hy hx2 hy2
   rcases hx3 with rfl
   ·rcases hy3 with rfl | rfl | rfl
    ·exact kE1_0.1
    ·exact kE1_0.2
    ·exact kE1_1
  ·intro M R e x y hx hy
   cases e
   have hx2:x<1:=hx
   have hy2:y<2:=hy
   have hx3:x=0:=by omega
   have hy3:y=0∨y=1:=by omega
   clear hx hy hx2 hy2
   rcases hx3 with rfl
   ·rcases hy3 with rfl | rfl
    ·exact (bE1_0 E2_0).2 ⟨kE2_0.1,kE2_0.2.1⟩
    ·exact (bE1_1 E2_0).2 kE2_0.2.2
 ·intro L hL
  simp only [List.mem_cons,List.not_mem_nil,or_false] at hL
  rcases hL with rfl | rfl | rfl
  ·intro i hi
   have hi2:i<3:=hi
   have hi3:i=0∨i=1∨i=2:=by omega
   rcases hi3 with rfl | rfl | rfl
   ·exact nodeOk0 _ (hv 0)
   ·exact nodeOk0 _ (hv 1)
   ·exact nodeOk0 _ (hv 2)
  ·intro i hi
   have hi2:i<2:=hi
   have hi3:i=0∨i=1:=by omega
   rcases hi3 with rfl | rfl
   ·exact nodeOk0 _ zE1_0
   ·exact nodeOk0 _ zE1_1
  ·intro i hi
   have hi2:i<1:=hi
   have hi3:i=0:=by omega
   rcases hi3 with rfl
   ·exact nodeOk0 _ zE2_0
theorem plant21:PlantOk 2 1:=by
 intro v hv
 have hb:∀ k,v k≤big:=fun k=>Int.le_trans (hv k).2 (by decide)
 have eB:plantB 2 1 v=[⟨2,1,[⟨(v 0),0,false⟩,⟨(v 1),0,false⟩]⟩,⟨1,1,[⟨(min (min (v 0) (v 0)) (v 1)),0,false⟩]⟩]:=by kernel_rfl
 have eA:fillT (plantA 2 1 v)=[⟨2,1,[⟨(v 0),0,false⟩,⟨(v 1),0,false⟩]⟩,⟨1,1,[⟨(min (min (big) (v 0)) (v 1)),0,false⟩]⟩]:=by kernel_rfl
 have aE1_0:∀ x:Int,x≤(min (min (big) (v 0)) (v 1))↔x≤v 0∧x≤v 1:=by intro x;simp only [Int.le_min];have:=hb 0;constructor <;> intro h <;> omega
 have bE1_0:∀ x:Int,x≤(min (min (v 0) (v 0)) (v 1))↔x≤v 0∧x≤v 1:=by intro x;simp only [Int.le_min];constructor <;> intro h <;> omega
 have eAB:fillT (plantA 2 1 v)=plantB 2 1 v:=by
  rw [eA,eB]
  rw [le_ext fun x=>(aE1_0 x).trans (bE1_0 x).symm]
 refine ⟨eAB,?_,?_⟩
 all_goals
  clear eA eAB hb
  rw [eB]
  clear eB
  clear aE1_0
  generalize (min (min (v 0) (v 0)) (v 1))=E1_0 at *
  have kE1_0:=(bE1_0 E1_0).1 (Int.le_refl _)
  have zE1_0:0≤E1_0∧E1_0≤1000:=⟨(bE1_0 0).2 ⟨(hv 0).1,(hv 1).1⟩,Int.le_trans kE1_0.1 (hv 0).2⟩
 ·refine ⟨?_,(fun M R e=>nomatch e),trivial⟩
  ·intro M R e x y hx hy
   cases e
   have hx2:x<2:=hx
   have hy2:y<1:=hy
   have hx3:x=0∨x=1:=by omega
   have hy3:y=0:=by omega
   clear hx hy hx2 hy2
   rcases hx3 with rfl | rfl
   ·rcases hy3 with rfl
    ·exact kE1_0.1
   ·rcases hy3 with rfl
    ·exact kE1_0.2
 ·intro L hL
  simp only [List.mem_cons,List.not_mem_nil,or_false] at hL
  rcases hL with rfl | rfl
  ·intro i hi
   have hi2:i<2:=hi
   have hi3:i=0∨i=1:=by omega
   rcases hi3 with rfl | rfl
   ·exact nodeOk0 _ (hv 0)
   ·exact nodeOk0 _ (hv 1)
  ·intro i hi
   have hi2:i<1:=hi
   have hi3:i=0:=by omega
   rcases hi3 with rfl
   ·exact nodeOk0 _ zE1_0
theorem plant22:PlantOk 2 2:=by
 intro v hv
 have hb:∀ k,v k≤big:=fun k=>Int.le_trans (hv k).2 (by decide)
 have eB:plantB 2 2 v=[⟨2,2,[⟨(v 0),0,false⟩,⟨(v 1),0,false⟩,⟨(v 2),0,false⟩,⟨(v 3),0,false⟩]⟩,⟨1,1,[⟨(min (min (min (min (v 0) (v 0)) (v 1)) (v 2)) (v 3)),0,false⟩]⟩]:=by kernel_rfl
 have eA:fillT (plantA 2 2 v)=[⟨2,2,[⟨(v 0),0,false⟩,⟨(v 1),0,false⟩,⟨(v 2),0,false⟩,⟨(v 3),0,false⟩]⟩,⟨1,1,[⟨(min (min (min (min (big) (v 0)) (v 1)) (v 2)) (v 3)),0,false⟩]⟩]:=by kernel_rfl
 have aE1_0:∀ x:Int,x≤(min (min (min (min (big) (v 0)) (v 1)) (v 2)) (v 3))↔x≤v 0∧x≤v 1∧x≤v 2∧x≤v 3:=by intro x;simp only [Int.le_min];have:=hb 0;constructor <;> intro h <;> omega
 have bE1_0:∀ x:Int,x≤(min (min (min (min (v 0) (v 0)) (v 1)) (v 2)) (v 3))↔x≤v 0∧x≤v 1∧x≤v 2∧x≤v 3:=by intro x;simp only [Int.le_min];constructor <;> intro h <;> omega
 have eAB:fillT (plantA 2 2 v)=plantB 2 2 v:=by
  rw [eA,eB]
  rw [le_ext fun x=>(aE1_0 x).trans (bE1_0 x).symm]
 refine ⟨eAB,?_,?_⟩
 all_goals
  clear eA eAB hb
  rw [eB]
  clear eB
  clear aE1_0
  generalize (min (min (min (min (v 0) (v 0)) (v 1)) (v 2)) (v 3))=E1_0 at *
  have kE1_0:=(bE1_0 E1_0).1 (Int.le_refl _)
  have zE1_0:0≤E1_0∧E1_0≤1000:=⟨(bE1_0 0).2 ⟨(hv 0).1,(hv 1).1,(hv 2).1,(hv 3).1⟩,Int.le_trans kE1_0.1 (hv 0).2⟩
 ·refine ⟨?_,(fun M R e=>nomatch e),trivial⟩
  ·intro M R e x y hx hy
   cases e
   have hx2:x<2:=hx
   have hy2:y<2:=hy
   have hx3:x=0∨x=1:=by omega
   have hy3:y=0∨y=1:=by omega
   clear hx hy hx2 hy2
   rcases hx3 with rfl | rfl
   ·rcases hy3 with rfl | rfl
    ·exact kE1_0.1
    ·exact kE1_0.2.2.1
   ·rcases hy3 with rfl | rfl
    ·exact kE1_0.2.1
    ·exact kE1_0.2.2.2
 ·intro L hL
  simp only [List.mem_cons,List.not_mem_nil,or_false] at hL
  rcases hL with rfl | rfl
  ·intro i hi
   have hi2:i<4:=hi
   have hi3:i=0∨i=1∨i=2∨i=3:=by omega
   rcases hi3 with rfl | rfl | rfl | rfl
   ·exact nodeOk0 _ (hv 0)
   ·exact nodeOk0 _ (hv 1)
   ·exact nodeOk0 _ (hv 2)
   ·exact nodeOk0 _ (hv 3)
  ·intro i hi
   have hi2:i<1:=hi
   have hi3:i=0:=by omega
   rcases hi3 with rfl
   ·exact nodeOk0 _ zE1_0
theorem plant23:PlantOk 2 3:=by
 intro v hv
 have hb:∀ k,v k≤big:=fun k=>Int.le_trans (hv k).2 (by decide)
 have eB:plantB 2 3 v=[⟨2,3,[⟨(v 0),0,false⟩,⟨(v 1),0,false⟩,⟨(v 2),0,false⟩,⟨(v 3),0,false⟩,⟨(v 4),0,false⟩,⟨(v 5),0,false⟩]⟩,⟨1,2,[⟨(min (min (min (min (v 0) (v 0)) (v 1)) (v 2)) (v 3)),0,false⟩,⟨(min (min (v 4) (v 4)) (v 5)),0,false⟩]⟩,⟨1,1,[⟨(min (min (min (min (min (min (v 0) (v 0)) (v 1)) (v 2)) (v 3)) (min (min (min (min (v 0) (v 0)) (v 1)) (v 2)) (v 3))) (min (min (v 4) (v 4)) (v 5))),0,false⟩]⟩]:=by kernel_rfl
 have eA:fillT (plantA 2 3 v)=[⟨2,3,[⟨(v 0),0,false⟩,⟨(v 1),0,false⟩,⟨(v 2),0,false⟩,⟨(v 3),0,false⟩,⟨(v 4),0,false⟩,⟨(v 5),0,false⟩]⟩,⟨1,2,[⟨(min (min (min (min (big) (v 0)) (v 1)) (v 2)) (v 3)),0,false⟩,⟨(min (min (big) (v 4)) (v 5)),0,false⟩]⟩,⟨1,1,[⟨(min (min (big) (min (min (min (min (big) (v 0)) (v 1)) (v 2)) (v 3))) (min (min (big) (v 4)) (v 5))),0,false⟩]⟩]:=by kernel_rfl
 have aE1_0:∀ x:Int,x≤(min (min (min (min (big) (v 0)) (v 1)) (v 2)) (v 3))↔x≤v 0∧x≤v 1∧x≤v 2∧x≤v 3:=by intro x;simp only [Int.le_min];have:=hb 0;constructor <;> intro h <;> omega
 have bE1_0:∀ x:Int,x≤(min (min (min (min (v 0) (v 0)) (v 1)) (v 2)) (v 3))↔x≤v 0∧x≤v 1∧x≤v 2∧x≤v 3:=by intro x;simp only [Int.le_min];constructor <;> intro h <;> omega
 have aE1_1:∀ x:Int,x≤(min (min (big) (v 4)) (v 5))↔x≤v 4∧x≤v 5:=by intro x;simp only [Int.le_min];have:=hb 4;constructor <;> intro h <;> omega
 have bE1_1:∀ x:Int,x≤(min (min (v 4) (v 4)) (v 5))↔x≤v 4∧x≤v 5:=by intro x;simp only [Int.le_min];constructor <;> intro h <;> omega
 have aE2_0:∀ x:Int,x≤(min (min (big) (min (min (min (min (big) (v 0)) (v 1)) (v 2)) (v 3))) (min (min (big) (v 4)) (v 5)))↔x≤v 0∧x≤v 1∧x≤v 2∧x≤v 3∧x≤v 4∧x≤v 5:=by intro x;simp only [Int.le_min];have:=hb 0;constructor <;> intro h <;> omega
 have bE2_0:∀ x:Int,x≤(min (min (min (min (min (min (v 0) (v 0)) (v 1)) (v 2)) (v 3)) (min (min (min (min (v 0) (v 0)) (v 1)) (v 2)) (v 3))) (min (min (v 4) (v 4)) (v 5)))↔x≤v 0∧x≤v 1∧x≤v 2∧x≤v 3∧x≤v 4∧x≤v 5:=by intro x;simp only [Int.le_min];constructor <;> intro h <;> omega
 have eAB:fillT (plantA 2 3 v)=plantB 2 3 v:=by
  rw [eA,eB]
  rw [le_ext fun x=>(aE2_0 x).trans (bE2_0 x).symm,le_ext fun x=>(aE1_1 x).trans (bE1_1 x).symm,le_ext fun x=>(aE1_0 x).trans (bE1_0 x).symm]
 refine ⟨eAB,?_,?_⟩
 all_goals
  clear eA eAB hb
  rw [eB]
  clear eB
  clear aE1_0
  clear aE1_1
  clear aE2_0
  generalize (min (min (min (min (min (min (v 0) (v 0)) (v 1)) (v 2)) (v 3)) (min (min (min (min (v 0) (v 0)) (v 1)) (v 2)) (v 3))) (min (min (v 4) (v 4)) (v 5)))=E2_0 at *
  generalize (min (min (v 4) (v 4)) (v 5))=E1_1 at *
  generalize (min (min (min (min (v 0) (v 0)) (v 1)) (v 2)) (v 3))=E1_0 at *
  have kE1_0:=(bE1_0 E1_0).1 (Int.le_refl _)
  have zE1_0:0≤E1_0∧E1_0≤1000:=⟨(bE1_0 0).2 ⟨(hv 0).1,(hv 1).1,(hv 2).1,(hv 3).1⟩,Int.le_trans kE1_0.1 (hv 0).2⟩
  have kE1_1:=(bE1_1 E1_1).1 (Int.le_refl _)
  have zE1_1:0≤E1_1∧E1_1≤1000:=⟨(bE1_1 0).2 ⟨(hv 4).1,(hv 5).1⟩,Int.le_trans kE1_1.1 (hv 4).2⟩
  have kE2_0:=(bE2_0 E2_0).1 (Int.le_refl _)
  have zE2_0:0≤E2_0∧E2_0≤1000:=⟨(bE2_0 0).2 ⟨(hv 0).1,(hv 1).1,(hv 2).1,(hv 3).1,(hv 4).1,(hv 5).1⟩,Int.le_trans kE2_0.1 (hv 0).2⟩
 ·refine ⟨?_,?_,(fun M R e=>nomatch e),trivial⟩
  ·intro M R e x y hx hy
   cases e
   have hx2:x<2:=hx
   have hy2:y<3:=hy
   have hx3:x=0∨x=1:=by omega
   have hy3:y=0∨y=1∨y=2:=by omega
   clear hx hy hx2 hy2
   rcases hx3 with rfl | rfl
   ·rcases hy3 with rfl | rfl | rfl
    ·exact kE1_0.1
    ·exact kE1_0.2.2.1
    ·exact kE1_1.1
   ·rcases hy3 with rfl | rfl | rfl
    ·exact kE1_0.2.1
    ·exact kE1_0.2.2.2
    ·exact kE1_1.2
  ·intro M R e x y hx hy
   cases e
   have hx2:x<1:=hx
   have hy2:y<2:=hy
   have hx3:x=0:=by omega
   have hy3:y=0∨y=1:=by omega
   clear hx hy hx2 hy2
   rcases hx3 with rfl
   ·rcases hy3 with rfl | rfl
    ·exact (bE1_0 E2_0).2 ⟨kE2_0.1,kE2_0.2.1,kE2_0.2.2.1,kE2_0.2.2.2.1⟩
    ·exact (bE1_1 E2_0).2 ⟨kE2_0.2.2.2.2.1,kE2_0.2.2.2.2.2⟩
 ·intro L hL
  simp only [List.mem_cons,List.not_mem_nil,or_false] at hL
  rcases hL with rfl | rfl | rfl
  ·intro i hi
   have hi2:i<6:=hi
   have hi3:i=0∨i=1∨i=2∨i=3∨i=4∨i=5:=by omega
   rcases hi3 with rfl | rfl | rfl | rfl | rfl | rfl
   ·exact nodeOk0 _ (hv 0)
   ·exact nodeOk0 _ (hv 1)
   ·exact nodeOk0 _ (hv 2)
   ·exact nodeOk0 _ (hv 3)
   ·exact nodeOk0 _ (hv 4)
   ·exact nodeOk0 _ (hv 5)
  ·intro i hi
   have hi2:i<2:=hi
   have hi3:i=0∨i=1:=by omega
   rcases hi3 with rfl | rfl
   ·exact nodeOk0 _ zE1_0
   ·exact nodeOk0 _ zE1_1
  ·intro i hi
   have hi2:i<1:=hi
   have hi3:i=0:=by omega
   rcases hi3 with rfl
   ·exact nodeOk0 _ zE2_0
theorem plant31:PlantOk 3 1:=by
 intro v hv
 have hb:∀ k,v k≤big:=fun k=>Int.le_trans (hv k).2 (by decide)
 have eB:plantB 3 1 v=[⟨3,1,[⟨(v 0),0,false⟩,⟨(v 1),0,false⟩,⟨(v 2),0,false⟩]⟩,⟨2,1,[⟨(min (min (v 0) (v 0)) (v 1)),0,false⟩,⟨(min (v 2) (v 2)),0,false⟩]⟩,⟨1,1,[⟨(min (min (min (min (v 0) (v 0)) (v 1)) (min (min (v 0) (v 0)) (v 1))) (min (v 2) (v 2))),0,false⟩]⟩]:=by kernel_rfl
 have eA:fillT (plantA 3 1 v)=[⟨3,1,[⟨(v 0),0,false⟩,⟨(v 1),0,false⟩,⟨(v 2),0,false⟩]⟩,⟨2,1,[⟨(min (min (big) (v 0)) (v 1)),0,false⟩,⟨(min (big) (v 2)),0,false⟩]⟩,⟨1,1,[⟨(min (min (big) (min (min (big) (v 0)) (v 1))) (min (big) (v 2))),0,false⟩]⟩]:=by kernel_rfl
 have aE1_0:∀ x:Int,x≤(min (min (big) (v 0)) (v 1))↔x≤v 0∧x≤v 1:=by intro x;simp only [Int.le_min];have:=hb 0;constructor <;> intro h <;> omega
 have bE1_0:∀ x:Int,x≤(min (min (v 0) (v 0)) (v 1))↔x≤v 0∧x≤v 1:=by intro x;simp only [Int.le_min];constructor <;> intro h <;> omega
 have aE1_1:∀ x:Int,x≤(min (big) (v 2))↔x≤v 2:=by intro x;simp only [Int.le_min];have:=hb 2;constructor <;> intro h <;> omega
 have bE1_1:∀ x:Int,x≤(min (v 2) (v 2))↔x≤v 2:=by intro x;simp only [Int.le_min];constructor <;> intro h <;> omega
 have aE2_0:∀ x:Int,x≤(min (min (big) (min (min (big) (v 0)) (v 1))) (min (big) (v 2)))↔x≤v 0∧x≤v 1∧x≤v 2:=by intro x;simp only [Int.le_min];have:=hb 0;constructor <;> intro h <;> omega
 have bE2_0:∀ x:Int,x≤(min (min (min (min (v 0) (v 0)) (v 1)) (min (min (v 0) (v 0)) (v 1))) (min (v 2) (v 2)))↔x≤v 0∧x≤v 1∧x≤v 2:=by intro x;simp only [Int.le_min];constructor <;> intro h <;> omega
 have eAB:fillT (plantA 3 1 v)=plantB 3 1 v:=by
  rw [eA,eB]
  rw [le_ext fun x=>(aE2_0 x).trans (bE2_0 x).symm,le_ext fun x=>(aE1_1 x).trans (bE1_1 x).symm,le_ext fun x=>(aE1_0 x).trans (bE1_0 x).symm]
 refine ⟨eAB,?_,?_⟩
 all_goals
  clear eA eAB hb
  rw [eB]
  clear eB
  clear aE1_0
  clear aE1_1
  clear aE2_0
  generalize (min (min (min (min (v 0) (v 0)) (v 1)) (min (min (v 0) (v 0)) (v 1))) (min (v 2) (v 2)))=E2_0 at *
  generalize (min (v 2) (v 2))=E1_1 at *
  generalize (min (min (v 0) (v 0)) (v 1))=E1_0 at *
  have kE1_0:=(bE1_0 E1_0).1 (Int.le_refl _)
  have zE1_0:0≤E1_0∧E1_0≤1000:=⟨(bE1_0 0).2 ⟨(hv 0).1,(hv 1).1⟩,Int.le_trans kE1_0.1 (hv 0).2⟩
  have kE1_1:=(bE1_1 E1_1).1 (Int.le_refl _)
  have zE1_1:0≤E1_1∧E1_1≤1000:=⟨(bE1_1 0).2 (hv 2).1,Int.le_trans kE1_1 (hv 2).2⟩
  have kE2_0:=(bE2_0 E2_0).1 (Int.le_refl _)
  have zE2_0:0≤E2_0∧E2_0≤1000:=⟨(bE2_0 0).2 ⟨(hv 0).1,(hv 1).1,(hv 2).1⟩,Int.le_trans kE2_0.1 (hv 0).2⟩
 ·refine ⟨?_,?_,(fun M R e=>nomatch e),trivial⟩
  ·intro M R e x y hx hy
   cases e
   have hx2:x<3:=hx
   have hy2:y<1:=hy
   have hx3:x=0∨x=1∨x=2:=by omega
   have hy3:y=0:=by omega
   clear hx hy hx2 hy2
   rcases hx3 with rfl | rfl | rfl
   ·rcases hy3 with rfl
    ·exact kE1_0.1
   ·rcases hy3 with rfl
    ·exact kE1_0.2
   ·rcases hy3 with rfl
    ·exact kE1_1
  ·intro M R e x y hx hy
   cases e
   have hx2:x<2:=hx
   have hy2:y<1:=hy
   have hx3:x=0∨x=1:=by omega
   have hy3:y=0:=by omega
   clear hx hy hx2 hy2
   rcases hx3 with rfl | rfl
   ·rcases hy3 with rfl
    ·exact (bE1_0 E2_0).2 ⟨kE2_0.1,kE2_0.2.1⟩
   ·rcases hy3 with rfl
    ·exact (bE1_1 E2_0).2 kE2_0.2.2
 ·intro L hL
  simp only [List.mem_cons,List.not_mem_nil,or_false] at hL
  rcases hL with rfl | rfl | rfl
  ·intro i hi
   have hi2:i<3:=hi
   have hi3:i=0∨i=1∨i=2:=by omega
   rcases hi3 with rfl | rfl | rfl
   ·exact nodeOk0 _ (hv 0)
   ·exact nodeOk0 _ (hv 1)
   ·exact nodeOk0 _ (hv 2)
  ·intro i hi
   have hi2:i<2:=hi
   have hi3:i=0∨i=1:=by omega
   rcases hi3 with rfl | rfl
   ·exact nodeOk0 _ zE1_0
   ·exact nodeOk0 _ zE1_1
  ·intro i hi
   have hi2:i<1:=hi
   have hi3:i=0:=by omega
   rcases hi3 with rfl
   ·exact nodeOk0 _ zE2_0
theorem plant32:PlantOk 3 2:=by
 intro v hv
 have hb:∀ k,v k≤big:=fun k=>Int.le_trans (hv k).2 (by decide)
 have eB:plantB 3 2 v=[⟨3,2,[⟨(v 0),0,false⟩,⟨(v 1),0,false⟩,⟨(v 2),0,false⟩,⟨(v 3),0,false⟩,⟨(v 4),0,false⟩,⟨(v 5),0,false⟩]⟩,⟨2,1,[⟨(min (min (min (min (v 0) (v 0)) (v 1)) (v 3)) (v 4)),0,false⟩,⟨(min (min (v 2) (v 2)) (v 5)),0,false⟩]⟩,⟨1,1,[⟨(min (min (min (min (min (min (v 0) (v 0)) (v 1)) (v 3)) (v 4)) (min (min (min (min (v 0) (v 0)) (v 1)) (v 3)) (v 4))) (min (min (v 2) (v 2)) (v 5))),0,false⟩]⟩]:=by kernel_rfl
 have eA:fillT (plantA 3 2 v)=[⟨3,2,[⟨(v 0),0,false⟩,⟨(v 1),0,false⟩,⟨(v 2),0,false⟩,⟨(v 3),0,false⟩,⟨(v 4),0,false⟩,⟨(v 5),0,false⟩]⟩,⟨2,1,[⟨(min (min (min (min (big) (v 0)) (v 1)) (v 3)) (v 4)),0,false⟩,⟨(min (min (big) (v 2)) (v 5)),0,false⟩]⟩,⟨1,1,[⟨(min (min (big) (min (min (min (min (big) (v 0)) (v 1)) (v 3)) (v 4))) (min (min (big) (v 2)) (v 5))),0,false⟩]⟩]:=by kernel_rfl
 have aE1_0:∀ x:Int,x≤(min (min (min (min (big) (v 0)) (v 1)) (v 3)) (v 4))↔x≤v 0∧x≤v 1∧x≤v 3∧x≤v 4:=by intro x;simp only [Int.le_min];have:=hb 0;constructor <;> intro h <;> omega
 have bE1_0:∀ x:Int,x≤(min (min (min (min (v 0) (v 0)) (v 1)) (v 3)) (v 4))↔x≤v 0∧x≤v 1∧x≤v 3∧x≤v 4:=by intro x;simp only [Int.le_min];constructor <;> intro h <;> omega
 have aE1_1:∀ x:Int,x≤(min (min (big) (v 2)) (v 5))↔x≤v 2∧x≤v 5:=by intro x;simp only [Int.le_min];have:=hb 2;constructor <;> intro h <;> omega
 have bE1_1:∀ x:Int,x≤(min (min (v 2) (v 2)) (v 5))↔x≤v 2∧x≤v 5:=by intro x;simp only [Int.le_min];constructor <;> intro h <;> omega
 have aE2_0:∀ x:Int,x≤(min (min (big) (min (min (min (min (big) (v 0)) (v 1)) (v 3)) (v 4))) (min (min (big) (v 2)) (v 5)))↔x≤v 0∧x≤v 1∧x≤v 2∧x≤v 3∧x≤v 4∧x≤v 5:=by intro x;simp only [Int.le_min];have:=hb 0;constructor <;> intro h <;> omega
 have bE2_0:∀ x:Int,x≤(min (min (min (min (min (min (v 0) (v 0)) (v 1)) (v 3)) (v 4)) (min (min (min (min (v 0) (v 0)) (v 1)) (v 3)) (v 4))) (min (min (v 2) (v 2)) (v 5)))↔x≤v 0∧x≤v 1∧x≤v 2∧x≤v 3∧x≤v 4∧x≤v 5:=by intro x;simp only [Int.le_min];constructor <;> intro h <;> omega
 have eAB:fillT (plantA 3 2 v)=plantB 3 2 v:=by
  rw [eA,eB]
  rw [le_ext fun x=>(aE2_0 x).trans (bE2_0 x).symm,le_ext fun x=>(aE1_1 x).trans (bE1_1 x).symm,le_ext fun x=>(aE1_0 x).trans (bE1_0 x).symm]
 refine ⟨eAB,?_,?_⟩
 all_goals
  clear eA eAB hb
  rw [eB]
  clear eB
  clear aE1_0
  clear aE1_1
  clear aE2_0
  generalize (min (min (min (min (min (min (v 0) (v 0)) (v 1)) (v 3)) (v 4)) (min (min (min (min (v 0) (v 0)) (v 1)) (v 3)) (v 4))) (min (min (v 2) (v 2)) (v 5)))=E2_0 at *
  generalize (min (min (v 2) (v 2)) (v 5))=E1_1 at *
  generalize (min (min (min (min (v 0) (v 0)) (v 1)) (v 3)) (v 4))=E1_0 at *
  have kE1_0:=(bE1_0 E1_0).1 (Int.le_refl _)
  have zE1_0:0≤E1_0∧E1_0≤1000:=⟨(bE1_0 0).2 ⟨(hv 0).1,(hv 1).1,(hv 3).1,(hv 4).1⟩,Int.le_trans kE1_0.1 (hv 0).2⟩
  have kE1_1:=(bE1_1 E1_1).1 (Int.le_refl _)
  have zE1_1:0≤E1_1∧E1_1≤1000:=⟨(bE1_1 0).2 ⟨(hv 2).1,(hv 5).1⟩,Int.le_trans kE1_1.1 (hv 2).2⟩
  have kE2_0:=(bE2_0 E2_0).1 (Int.le_refl _)
  have zE2_0:0≤E2_0∧E2_0≤1000:=⟨(bE2_0 0).2 ⟨(hv 0).1,(hv 1).1,(hv 2).1,(hv 3).1,(hv 4).1,(hv 5).1⟩,Int.le_trans kE2_0.1 (hv 0).2⟩
 ·refine ⟨?_,?_,(fun M R e=>nomatch e),trivial⟩
  ·intro M R e x y hx hy
   cases e
   have hx2:x<3:=hx
   have hy2:y<2:=hy
   have hx3:x=0∨x=1∨x=2:=by omega
   have hy3:y=0∨y=1:=by omega
   clear hx hy hx2 hy2
   rcases hx3 with rfl | rfl | rfl
   ·rcases hy3 with rfl | rfl
    ·exact kE1_0.1
    ·exact kE1_0.2.2.1
   ·rcases hy3 with rfl | rfl
    ·exact kE1_0.2.1
    ·exact kE1_0.2.2.2
   ·rcases hy3 with rfl | rfl
    ·exact kE1_1.1
    ·exact kE1_1.2
  ·intro M R e x y hx hy
   cases e
   have hx2:x<2:=hx
   have hy2:y<1:=hy
   have hx3:x=0∨x=1:=by omega
   have hy3:y=0:=by omega
   clear hx hy hx2 hy2
   rcases hx3 with rfl | rfl
   ·rcases hy3 with rfl
    ·exact (bE1_0 E2_0).2 ⟨kE2_0.1,kE2_0.2.1,kE2_0.2.2.2.1,kE2_0.2.2.2.2.1⟩
   ·rcases hy3 with rfl
    ·exact (bE1_1 E2_0).2 ⟨kE2_0.2.2.1,kE2_0.2.2.2.2.2⟩
 ·intro L hL
  simp only [List.mem_cons,List.not_mem_nil,or_false] at hL
  rcases hL with rfl | rfl | rfl
  ·intro i hi
   have hi2:i<6:=hi
   have hi3:i=0∨i=1∨i=2∨i=3∨i=4∨i=5:=by omega
   rcases hi3 with rfl | rfl | rfl | rfl | rfl | rfl
   ·exact nodeOk0 _ (hv 0)
   ·exact nodeOk0 _ (hv 1)
   ·exact nodeOk0 _ (hv 2)
   ·exact nodeOk0 _ (hv 3)
   ·exact nodeOk0 _ (hv 4)
   ·exact nodeOk0 _ (hv 5)
  ·intro i hi
   have hi2:i<2:=hi
   have hi3:i=0∨i=1:=by omega
   rcases hi3 with rfl | rfl
   ·exact nodeOk0 _ zE1_0
   ·exact nodeOk0 _ zE1_1
  ·intro i hi
   have hi2:i<1:=hi
   have hi3:i=0:=by omega
   rcases hi3 with rfl
   ·exact nodeOk0 _ zE2_0
theorem plant33:PlantOk 3 3:=by
 intro v hv
 have hb:∀ k,v k≤big:=fun k=>Int.le_trans (hv k).2 (by decide)
 have eB:plantB 3 3 v=[⟨3,3,[⟨(v 0),0,false⟩,⟨(v 1),0,false⟩,⟨(v 2),0,false⟩,⟨(v 3),0,false⟩,⟨(v 4),0,false⟩,⟨(v 5),0,false⟩,⟨(v 6),0,false⟩,⟨(v 7),0,false⟩,⟨(v 8),0,false⟩]⟩,⟨2,2,[⟨(min (min (min (min (v 0) (v 0)) (v 1)) (v 3)) (v 4)),0,false⟩,⟨(min (min (v 2) (v 2)) (v 5)),0,false⟩,⟨(min (min (v 6) (v 6)) (v 7)),0,false⟩,⟨(min (v 8) (v 8)),0,false⟩]⟩,⟨1,1,[⟨(min (min (min (min (min (min (min (min (v 0) (v 0)) (v 1)) (v 3)) (v 4)) (min (min (min (min (v 0) (v 0)) (v 1)) (v 3)) (v 4))) (min (min (v 2) (v 2)) (v 5))) (min (min (v 6) (v 6)) (v 7))) (min (v 8) (v 8))),0,false⟩]⟩]:=by kernel_rfl
 have eA:fillT (plantA 3 3 v)=[⟨3,3,[⟨(v 0),0,false⟩,⟨(v 1),0,false⟩,⟨(v 2),0,false⟩,⟨(v 3),0,false⟩,⟨(v 4),0,false⟩,⟨(v 5),0,false⟩,⟨(v 6),0,false⟩,⟨(v 7),0,false⟩,⟨(v 8),0,false⟩]⟩,⟨2,2,[⟨(min (min (min (min (big) (v 0)) (v 1)) (v 3)) (v 4)),0,false⟩,⟨(min (min (big) (v 2)) (v 5)),0,false⟩,⟨(min (min (big) (v 6)) (v 7)),0,false⟩,⟨(min (big) (v 8)),0,false⟩]⟩,⟨1,1,[⟨(min (min (min (min (big) (min (min (min (min (big) (v 0)) (v 1)) (v 3)) (v 4))) (min (min (big) (v 2)) (v 5))) (min (min (big) (v 6)) (v 7))) (min (big) (v 8))),0,false⟩]⟩]:=by kernel_rfl
 have aE1_0:∀ x:Int,x≤(min (min (min (min (big) (v 0)) (v 1)) (v 3)) (v 4))↔x≤v 0∧x≤v 1∧x≤v 3∧x≤v 4:=by intro x;simp only [Int.le_min];have:=hb 0;constructor <;> intro h <;> omega
 have bE1_0:∀ x:Int,x≤(min (min (min (min (v 0) (v 0)) (v 1)) (v 3)) (v 4))↔x≤v 0∧x≤v 1∧x≤v 3∧x≤v 4:=by intro x;simp only [Int.le_min];constructor <;> intro h <;> omega
 have aE1_1:∀ x:Int,x≤(min (min (big) (v 2)) (v 5))↔x≤v 2∧x≤v 5:=by intro x;simp only [Int.le_min];have:=hb 2;constructor <;> intro h <;> omega
 have bE1_1:∀ x:Int,x≤(min (min (v 2) (v 2)) (v 5))↔x≤v 2∧x≤v 5:=by intro x;simp only [Int.le_min];constructor <;> intro h <;> omega
 have aE1_2:∀ x:Int,x≤(min (min (big) (v 6)) (v 7))↔x≤v 6∧x≤v 7:=by intro x;simp only [Int.le_min];have:=hb 6;constructor <;> intro h <;> omega
 have bE1_2:∀ x:Int,x≤(min (min (v 6) (v 6)) (v 7))↔x≤v 6∧x≤v 7:=by intro x;simp only [Int.le_min];constructor <;> intro h <;> omega
 have aE1_3:∀ x:Int,x≤(min (big) (v 8))↔x≤v 8:=by intro x;simp only [Int.le_min];have:=hb 8;constructor <;> intro h <;> omega
 have bE1_3:∀ x:Int,x≤(min (v 8) (v 8))↔x≤v 8:=by intro x;simp only [Int.le_min];constructor <;> intro h <;> omega
 have aE2_0:∀ x:Int,x≤(min (min (min (min (big) (min (min (min (min (big) (v 0)) (v 1)) (v 3)) (v 4))) (min (min (big) (v 2)) (v 5))) (min (min (big) (v 6)) (v 7))) (min (big) (v 8)))↔x≤v 0∧x≤v 1∧x≤v 2∧x≤v 3∧x≤v 4∧x≤v 5∧x≤v 6∧x≤v 7∧x≤v 8:=by intro x;simp only [Int.le_min];have:=hb 0;constructor <;> intro h <;> omega
 have bE2_0:∀ x:Int,x≤(min (min (min (min (min (min (min (min (v 0) (v 0)) (v 1)) (v 3)) (v 4)) (min (min (min (min (v 0) (v 0)) (v 1)) (v 3)) (v 4))) (min (min (v 2) (v 2)) (v 5))) (min (min (v 6) (v 6)) (v 7))) (min (v 8) (v 8)))↔x≤v 0∧x≤v 1∧x≤v 2∧x≤v 3∧x≤v 4∧x≤v 5∧x≤v 6∧x≤v 7∧x≤v 8:=by intro x;simp only [Int.le_min];constructor <;> intro h <;> omega
 have eAB:fillT (plantA 3 3 v)=plantB 3 3 v:=by
  rw [eA,eB]
  rw [le_ext fun x=>(aE2_0 x).trans (bE2_0 x).symm,le_ext fun x=>(aE1_3 x).trans (bE1_3 x).symm,le_ext fun x=>(aE1_2 x).trans (bE1_2 x).symm,le_ext fun x=>(aE1_1 x).trans (bE1_1 x).symm,le_ext fun x=>(aE1_0 x).trans (bE1_0 x).symm]
 refine ⟨eAB,?_,?_⟩
 all_goals
  clear eA eAB hb
  rw [eB]
  clear eB
  clear aE1_0
  clear aE1_1
  clear aE1_2
  clear aE1_3
  clear aE2_0
  generalize (min (min (min (min (min (min (min (min (v 0) (v 0)) (v 1)) (v 3)) (v 4)) (min (min (min (min (v 0) (v 0)) (v 1)) (v 3)) (v 4))) (min (min (v 2) (v 2)) (v 5))) (min (min (v 6) (v 6)) (v 7))) (min (v 8) (v 8)))=E2_0 at *
  generalize (min (v 8) (v 8))=E1_3 at *
  generalize (min (min (v 6) (v 6)) (v 7))=E1_2 at *
  generalize (min (min (v 2) (v 2)) (v 5))=E1_1 at *
  generalize (min (min (min (min (v 0) (v 0)) (v 1)) (v 3)) (v 4))=E1_0 at *
  have kE1_0:=(bE1_0 E1_0).1 (Int.le_refl _)
  have zE1_0:0≤E1_0∧E1_0≤1000:=⟨(bE1_0 0).2 ⟨(hv 0).1,(hv 1).1,(hv 3).1,(hv 4).1⟩,Int.le_trans kE1_0.1 (hv 0).2⟩
  have kE1_1:=(bE1_1 E1_1).1 (Int.le_refl _)
  have zE1_1:0≤E1_1∧E1_1≤1000:=⟨(bE1_1 0).2 ⟨(hv 2).1,(hv 5).1⟩,Int.le_trans kE1_1.1 (hv 2).2⟩
  have kE1_2:=(bE1_2 E1_2).1 (Int.le_refl _)
  have zE1_2:0≤E1_2∧E1_2≤1000:=⟨(bE1_2 0).2 ⟨(hv 6).1,(hv 7).1⟩,Int.le_trans kE1_2.1 (hv 6).2⟩
  have kE1_3:=(bE1_3 E1_3).1 (Int.le_refl _)
  have zE1_3:0≤E1_3∧E1_3≤1000:=⟨(bE1_3 0).2 (hv 8).1,Int.le_trans kE1_3 (hv 8).2⟩
  have kE2_0:=(bE2_0 E2_0).1 (Int.le_refl _)
  have zE2_0:0≤E2_0∧E2_0≤1000:=⟨(bE2_0 0).2 ⟨(hv 0).1,(hv 1).1,(hv 2).1,(hv 3).1,(hv 4).1,(hv 5).1,(hv 6).1,(hv 7).1,(hv 8).1⟩,Int.le_trans kE2_0.1 (hv 0).2⟩
 ·refine ⟨?_,?_,(fun M R e=>nomatch e),trivial⟩
  ·intro M R e x y hx hy
   cases e
   have hx2:x<3:=hx
   have hy2:y<3:=hy
   have hx3:x=0∨x=1∨x=2:=by omega
   have hy3:y=0∨y=1∨y=2:=by omega
   clear hx hy hx2 hy2
   rcases hx3 with rfl | rfl | rfl
   ·rcases hy3 with rfl | rfl | rfl
    ·exact kE1_0.1
    ·exact kE1_0.2.2.1
    ·exact kE1_2.1
   ·rcases hy3 with rfl | rfl | rfl
    ·exact kE1_0.2.1
    ·exact kE1_0.2.2.2
    ·exact kE1_2.2
   ·rcases hy3 with rfl | rfl | rfl
    ·exact kE1_1.1
    ·exact kE1_1.2
    ·exact kE1_3
  ·intro M R e x y hx hy
   cases e
   have hx2:x<2:=hx
   have hy2:y<2:=hy
   have hx3:x=0∨x=1:=by omega
   have hy3:y=0∨y=1:=by omega
   clear hx hy hx2 hy2
   rcases hx3 with rfl | rfl
   ·rcases hy3 with rfl | rfl
    ·exact (bE1_0 E2_0).2 ⟨kE2_0.1,kE2_0.2.1,kE2_0.2.2.2.1,kE2_0.2.2.2.2.1⟩
    ·exact (bE1_2 E2_0).2 ⟨kE2_0.2.2.2.2.2.2.1,kE2_0.2.2.2.2.2.2.2.1⟩
   ·rcases hy3 with rfl | rfl
    ·exact (bE1_1 E2_0).2 ⟨kE2_0.2.2.1,kE2_0.2.2.2.2.2.1⟩
    ·exact (bE1_3 E2_0).2 kE2_0.2.2.2.2.2.2.2.2
 ·intro L hL
  simp only [List.mem_cons,List.not_mem_nil,or_false] at hL
  rcases hL with rfl | rfl | rfl
  ·intro i hi
   have hi2:i<9:=hi
   have hi3:i=0∨i=1∨i=2∨i=3∨i=4∨i=5∨i=6∨i=7∨i=8:=by omega
   rcases hi3 with rfl | rfl | rfl | rfl | rfl | rfl | rfl | rfl | rfl
   ·exact nodeOk0 _ (hv 0)
   ·exact nodeOk0 _ (hv 1)
   ·exact nodeOk0 _ (hv 2)
   ·exact nodeOk0 _ (hv 3)
   ·exact nodeOk0 _ (hv 4)
   ·exact nodeOk0 _ (hv 5)
   ·exact nodeOk0 _ (hv 6)
   ·exact nodeOk0 _ (hv 7)
   ·exact nodeOk0 _ (hv 8)
  ·intro i hi
   have hi2:i<4:=hi
   have hi3:i=0∨i=1∨i=2∨i=3:=by omega
   rcases hi3 with rfl | rfl | rfl | rfl
   ·exact nodeOk0 _ zE1_0
   ·exact nodeOk0 _ zE1_1
   ·exact nodeOk0 _ zE1_2
   ·exact nodeOk0 _ zE1_3
  ·intro i hi
   have hi2:i<1:=hi
   have hi3:i=0:=by omega
   rcases hi3 with rfl
   ·exact nodeOk0 _ zE2_0
theorem plant_all {w h:Nat} (hw:1≤w∧w≤3) (hh:1≤h∧h≤3):PlantOk w h:=by
 obtain rfl | rfl | rfl:w=1∨w=2∨w=3:=by omega
 all_goals obtain rfl | rfl | rfl:h=1∨h=2∨h=3:=by omega
 ·exact plant11
 ·exact plant12
 ·exact plant13
 ·exact plant21
 ·exact plant22
 ·exact plant23
 ·exact plant31
 ·exact plant32
 ·exact plant33
end
end Go.Proofs.YtjngfhgakokejaaGreat
