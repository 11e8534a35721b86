/- packet.headed: whole. Parts of bytes. packet.Decode: its plain model; a piece is taken, among bands. packet.Decode: without a mark behind the head. The bands' numbers do not count: packets of bands that hold the same. Plain. Rows of bands, each with its model. What the law's Make makes. -/
import Derived.Test.YtjngfhgakokejaaGreatCp25
import Derived.Test.YtjngfhgakokejaaGreatCp12
import Derived.Test.YtjngfhgakokejaaGreatCp21
import Derived.Test.YtjngfhgakokejaaGreatCp23
set_option maxRecDepth 100000
set_option maxHeartbeats 8000000
set_option linter.all false
namespace Go.Proofs.YtjngfhgakokejaaGreat
section
open Go.RowKit Go.Shelf
attribute [local go_sem] Oper.semAt_some
def headD (l:List UInt8) (style layer:Nat) (D:List BandA) (M:Nat→BandM):Option DecS:=if (rdBit l rdNew).1=1 then foldD l style layer (some ⟨M,[],(rdBit l rdNew).2⟩) (spotsOf D) else some ⟨M,[],(rdBit l rdNew).2⟩
def HPost (l:List UInt8) (D:List BandA) (HL HB0:List HB) (W:World):Option DecS→Ending→World→Prop
 | none,e,w'=>e=.returned (.tuple #[.slice none 0 0,.int .i64 0,.int .i64 10])∧Mv W (HL++HB0) w' []
 | some S,e,w'=>∃ vo Ho HB',e=.returned (.tuple #[vo,.int .i64 ((endM l S.rd).1:Int),.int .i64 ((endM l S.rd).2:Int)])∧RowPc vo S.out Ho∧BandsR D S.M HB'∧Mv W (HL++HB0) w' (Ho++(HL++HB'))
section
variable {w0 V:World} {H0 A R:List HB} {n0:Nat} {vo:Value} {a e:Int}
theorem dk_cells {HR ZZ Ho HL HB':List HB} (m:Mv w0 H0 V ((HR++((decX n0 vo a e++ZZ)++(Ho++HL)))++HB')):V.cell? ⟨n0+2,0,none⟩=some vo∧V.frozen? ⟨n0+2,0,none⟩=false∧V.cell? ⟨n0+3,0,none⟩=some (.int .i64 a)∧V.frozen? ⟨n0+3,0,none⟩=false∧V.cell? ⟨n0+4,0,none⟩=some (.int .i64 e)∧V.frozen? ⟨n0+4,0,none⟩=false:=by
 have s:=m.sat.left.right.left.left
 have b0:=s.at_ 0 rfl
 have b1:=s.at_ 1 rfl
 have b2:=s.at_ 2 rfl
 exact⟨b0.cell 0,b0.frozen 0,b1.cell 0,b1.frozen 0,b2.cell 0,b2.frozen 0⟩
theorem dk_set {HR ZZ Ho HL HB':List HB} (m:Mv w0 H0 V ((HR++((decX n0 vo a e++ZZ)++(Ho++HL)))++HB')):Mv w0 H0 (V.setCell ⟨n0+2,0,none⟩ vo) ((HR++((decX n0 vo a e++ZZ)++(Ho++HL)))++HB') ∧
  (∀ a',Mv w0 H0 (V.setCell ⟨n0+3,0,none⟩ (.int .i64 a')) ((HR++((decX n0 vo a' e++ZZ)++(Ho++HL)))++HB'))∧(∀ e',Mv w0 H0 (V.setCell ⟨n0+4,0,none⟩ (.int .i64 e')) ((HR++((decX n0 vo a e'++ZZ)++(Ho++HL)))++HB')):=by
 refine⟨?_,fun a'=>?_,fun e'=>?_⟩
 ·have m1:Mv w0 H0 V (HR++⟨n0+2,91,#[vo]⟩::(⟨n0+3,3,#[.int .i64 a]⟩::(⟨n0+4,35,#[.int .i64 e]⟩::(ZZ++(Ho++(HL++HB')))))):=by simpa only[decX,List.append_assoc,List.cons_append,List.nil_append] using m
  have m2:=Mv.setAt m1 0 vo
  rw[show (#[vo]:Array Value).setIfInBounds 0 vo=#[vo] from rfl] at m2
  simpa only[decX,List.append_assoc,List.cons_append,List.nil_append] using m2
 ·have m1:Mv w0 H0 V ((HR++[⟨n0+2,91,#[vo]⟩])++⟨n0+3,3,#[.int .i64 a]⟩::(⟨n0+4,35,#[.int .i64 e]⟩::(ZZ++(Ho++(HL++HB'))))):=by simpa only[decX,List.append_assoc,List.cons_append,List.nil_append] using m
  have m2:=Mv.setAt m1 0 (.int .i64 a')
  rw[show (#[.int .i64 a]:Array Value).setIfInBounds 0 (.int .i64 a')=#[.int .i64 a'] from rfl] at m2
  simpa only[decX,List.append_assoc,List.cons_append,List.nil_append] using m2
 ·have m1:Mv w0 H0 V ((HR++[⟨n0+2,91,#[vo]⟩,⟨n0+3,3,#[.int .i64 a]⟩])++⟨n0+4,35,#[.int .i64 e]⟩::(ZZ++(Ho++(HL++HB')))):=by simpa only[decX,List.append_assoc,List.cons_append,List.nil_append] using m
  have m2:=Mv.setAt m1 0 (.int .i64 e')
  rw[show (#[.int .i64 e]:Array Value).setIfInBounds 0 (.int .i64 e')=#[.int .i64 e'] from rfl] at m2
  simpa only[decX,List.append_assoc,List.cons_append,List.nil_append] using m2
end
theorem dk_results (tmps:Array Value) (w:World) (n0:Nat) (vo:Value) (a e:Int) (h8:tmps.getD 8 undef=.pointer (some ⟨n0+2,0,none⟩)) (h9:tmps.getD 9 undef=.pointer (some ⟨n0+3,0,none⟩)) (h10:tmps.getD 10 undef=.pointer (some ⟨n0+4,0,none⟩)) (c8:w.cell? ⟨n0+2,0,none⟩=some vo) (c9:w.cell? ⟨n0+3,0,none⟩=some (.int .i64 a)) (c10:w.cell? ⟨n0+4,0,none⟩=some (.int .i64 e)) :
  (results Tryz.f39 tmps).run Tryz.prog w=.ok (.tuple #[vo,.int .i64 a,.int .i64 e]) w:=by
 rw[results_cell3 (p:=8) (q:=9) (r:=10) (tp:=91) (tq:=3) (tr:=35) rfl,h8,h9,h10]
 simp only[asAddr]
 go_simp
theorem headed_any (A:Option Addr) (c:Nat) (D:List BandA) (M:Nat→BandM) (style layer:Nat) (v:Value) (l:List UInt8) (HL HB0:List HB) (W:World) (hD:D.length≤1000) (hL:ListH (.slice A D.length c) D HL) (hB:BandsR D M HB0) (hs:Sat W (HL++HB0)) (hv:BV W v l) (hll:l.length≤9000000) (hly:layer≤100) (hst:style≤63)
  (hn:(spotsOf D).length≤200) (hg:∀ d∈D,GoodR (M d.bb)) :
  Calls Tryz.prog 39 #[.slice A D.length c,.int .i64 (style:Int),.int .i64 (layer:Int),v] W (HPost l D HL HB0 W (headD l style layer D M)):=by
 refine(callsIn_wide (n:=8)).1 ?_
 refine callsIn_of_wp_marks Tryz.func39 rfl trivial ?_ rfl
 simp only[Tryz.ntmps39,List.size_toArray,List.length_cons,List.length_nil,Nat.reduceAdd,Nat.reduceSub,Array.replicate_succ,Array.replicate_zero,List.push_toArray,List.append_toArray,List.nil_append,List.cons_append]
 have HV:=Lib.hid hv
 obtain⟨a,c9,rfl,hv'⟩:=hv
 obtain⟨n,hln⟩:∃ n,l.length=n:=⟨_,rfl⟩
 rw[hln] at HV ⊢
 have M1n:=(((((Mv.refl (Sat.nil W)).alloc 3 #[.int .i64 (style:Int)]).alloc 3 #[.int .i64 (layer:Int)]).alloc 91 #[.slice none 0 0]).alloc 3 #[.int .i64 0]).alloc 35 #[.int .i64 0]
 have M1:=(((((Mv.refl hs).alloc 3 #[.int .i64 (style:Int)]).alloc 3 #[.int .i64 (layer:Int)]).alloc 91 #[.slice none 0 0]).alloc 3 #[.int .i64 0]).alloc 35 #[.int .i64 0]
 have KI:=Lib.hid (And.intro hL (And.intro hB (And.intro hg hs)))
 clear hs hL hB hg hv'
 refine wpIn_wide.2 ?_
 go_upto_region 1 with fail
 obtain⟨w1,hw1⟩:∃ w1,w1=(((((W.alloc (.cells #[.int .i64 (style:Int)] 3)).alloc (.cells #[.int .i64 (layer:Int)] 3)).alloc (.cells #[.slice none 0 0] 91)).alloc (.cells #[.int .i64 0] 3)).alloc (.cells #[.int .i64 0] 35)):=⟨_,rfl⟩
 simp only[World.size_alloc,← hw1] at M1 M1n
 simp only[← hw1]
 obtain⟨n0,hn0⟩:∃ n0,W.heap.size=n0:=⟨_,rfl⟩
 rw[hn0] at M1 M1n
 simp only[hn0]
 have NR:=Lib.hid (new_reader _ l w1 (HV.out.keep M1n.below0) (by omega))
 have K1:=Lib.hid M1
 clear M1 M1n hw1
 have NW:Hid (Calls Tryz.prog 87 #[.slice a n c9] w1 fun e w'=>∃ rb HR,e=.returned (.pointer (some ⟨rb,0,none⟩))∧Hid (ReadH rb l rdNew HR∧Mv W (HL++HB0) w' (HR++(⟨n0+4,35,#[.int .i64 0]⟩::(⟨n0+3,3,#[.int .i64 0]⟩::(⟨n0+2,91,#[.slice none 0 0]⟩::(⟨n0+1,3,#[.int .i64 (layer:Int)]⟩::(⟨n0,3,#[.int .i64 (style:Int)]⟩::(HL++HB0))))))))):=Lib.hid (by
  refine NR.out.mono ?_
  rintro e w' ⟨rb,HR,rfl,h3,m3⟩
  exact⟨rb,HR,rfl,Lib.hid ⟨h3,Mv.call (H:=[]) K1.out m3⟩⟩)
 go_upto_region 2 with (go_at_call 87;refine NW.out.mono ?_;rintro e w2 ⟨rb,HR1,rfl,K2⟩)
 obtain⟨w3,hw3⟩:∃ w3,w3=w2.alloc (.cells #[.pointer (some ⟨rb,0,none⟩)] 165):=⟨_,rfl⟩
 obtain⟨rbx,hrbx⟩:∃ rbx,w2.heap.size=rbx:=⟨_,rfl⟩
 obtain⟨ZZ,hZe⟩:∃ ZZ:List HB,ZZ=[⟨rbx,165,#[.pointer (some ⟨rb,0,none⟩)]⟩,⟨n0+1,3,#[.int .i64 (layer:Int)]⟩,⟨n0,3,#[.int .i64 (style:Int)]⟩]:=⟨_,rfl⟩
 have hZZ:∀ V,Sat V ZZ→V.cell? ⟨rbx,0,none⟩=some (.pointer (some ⟨rb,0,none⟩)):=by
  intro V s
  rw[hZe] at s
  exact(s.at_ 0 rfl).cell 0
 have M3:Mv W (HL++HB0) w3 ((HR1++((decX n0 (.slice none 0 0) 0 0++ZZ)++([]++HL)))++HB0):=by
  have m:=K2.out.2.alloc 165 #[.pointer (some ⟨rb,0,none⟩)]
  rw[← hw3,hrbx] at m
  rw[hZe]
  exact m.sub (fun g=>by simp only[decX,cnt_append,cnt_cons,cnt_nil];omega) (fun c hc=>by simp only[decX,List.mem_append,List.mem_cons,List.not_mem_nil,or_false,false_or] at hc ⊢;grind)
 have x7:=hZZ w3 M3.sat.left.right.left.right
 have hb1:=rdBit_inv l rdNew (by simp[rdNew])
 have hbg1:(rdBit l rdNew).2.begun≤1:=by have:=hb1.2.2;simpa [rdNew] using this
 have BB:Hid (∀ q,(rdBit l rdNew).1=q→Calls Tryz.prog 88 #[.pointer (some ⟨rb,0,none⟩)] w3 fun e w4=>e=.returned (.int .i64 (q:Int))∧∃ HR,Hid (ReadH rb l (rdBit l rdNew).2 HR∧Mv W (HL++HB0) w4 ((HR++((decX n0 (.slice none 0 0) 0 0++ZZ)++([]++HL)))++HB0))):=Lib.hid (by
  rintro q hq
  have m1:Mv W (HL++HB0) w3 (HR1++((((decX n0 (.slice none 0 0) 0 0++ZZ)++([]++HL)))++HB0)):=by rw[← List.append_assoc];exact M3
  refine(bit_rd rb l rdNew w3 HR1 K2.out.1 m1.sat.left (by omega) (by simp[rdNew]) (by simp[rdNew])).mono ?_
  rintro e w4 ⟨rfl,HR,p1,p2⟩
  exact⟨by rw[hq],HR,Lib.hid ⟨p1,by rw[List.append_assoc];exact Mv.call m1 p2⟩⟩)
 rw[← hw3]
 simp only[hrbx]
 obtain⟨r1,hr1⟩:∃ r1,(rdBit l rdNew).2=r1:=⟨_,rfl⟩
 rw[hr1] at BB hb1 hbg1
 have hHD:headD l style layer D M=if (rdBit l rdNew).1=1 then foldD l style layer (some ⟨M,[],r1⟩) (spotsOf D) else some ⟨M,[],r1⟩:=by unfold headD;rw[hr1]
 have HHD:=Lib.hid hHD
 have HZE:=Lib.hid hZe
 clear hw3 hrbx M3 hr1 hHD NR NW hZe
 by_cases hq:(rdBit l rdNew).1=1
 ·have BQ:=Lib.hid (BB.out 1 hq)
  have hE0:headD l style layer D M=foldD l style layer (some ⟨M,[],r1⟩) (spotsOf D):=by rw[HHD.out,if_pos hq]
  have HE0:=Lib.hid hE0
  clear hE0 hq BB
  go_wp2_with (first
   | (go_at_call 88;(with_reducible refine BQ.out.mono ?_);rintro e w4 ⟨rfl,HR4,K4⟩;(have y7:=hZZ w4 K4.out.2.sat.left.right.left.right))
   | (go_at_call 22;refine(spots_any _ _ _ _).mono ?_;rintro e w' ⟨rfl,rfl⟩))
  obtain⟨w6,hw6⟩:∃ w6,w6=w4.alloc (.cells #[.slice A D.length c] 26):=⟨_,rfl⟩
  obtain⟨bx,hbx⟩:∃ bx,w4.heap.size=bx:=⟨_,rfl⟩
  have M6:Mv W (HL++HB0) w6 ((HR4++((decX n0 (.slice none 0 0) 0 0++decZ bx rbx rb n0 A D.length c style layer)++([]++HL)))++HB0):=by
   have m:=K4.out.2.alloc 26 #[.slice A D.length c]
   rw[← hw6,hbx,HZE.out] at m
   exact m.sub (fun g=>by simp only[decZ,cnt_append,cnt_cons,cnt_nil];omega) (fun c hc=>by simp only[decZ,List.mem_append,List.mem_cons,List.not_mem_nil,or_false,false_or] at hc ⊢;grind)
  have K6:=Lib.hid M6
  have P0:decP2 bx rbx rb n0 A c D l style layer HL ⟨M,[],r1⟩ [] ((HR4++((decX n0 (.slice none 0 0) 0 0++decZ bx rbx rb n0 A D.length c style layer)++([]++HL)))++HB0):=⟨_,HR4,[],.slice none 0 0,HB0,rfl,rfl,K4.out.1,RowH.nil _ _,KI.out.2.1,KI.out.2.2.1,hb1.2.1,by simp only;omega,by simp⟩
  rw[← hw6]
  simp only[hbx]
  have hsz:W.heap.size≤w6.heap.size:=M6.only.size
  clear hw6 hbx M6 x7 y7
  refine(wpIn_wide (n:=8)).1 ?_
  refine range_spots1 (n:=8) (by omega) 12 W (HL++HB0) hsz (box:=bx) (c:=c) (A:=A) (D:=D) rfl (by omega) (fun e he=>by obtain⟨b,-,k2,-⟩:=KI.out.2.1.band he;have:=k2.small;omega)
   (decP2 bx rbx rb n0 A c D l style layer HL ⟨M,[],r1⟩) (decPX n0 D l style layer ⟨M,[],r1⟩) ?sp ?no ⟨_,P0,K6.out⟩ ?assign ?body ?done ?stop
  case sp =>
   rintro pre H w ⟨S,HR,Ho,vo,HB',-,rfl,-,-,h2,-⟩ hs
   exact ListH.sp KI.out.1 h2 hs (List.mem_append_left _ (List.mem_append_right _ (List.mem_append_left _ (List.mem_append_right _ List.mem_cons_self)))) (fun x hx=>List.mem_append_left _ (List.mem_append_right _ (List.mem_append_right _ (List.mem_append_right _ hx)))) (fun x hx=>List.mem_append_right _ hx)
  case no =>
   rintro pre H ⟨S,HR,Ho,vo,HB',-,rfl,hr,ho,h2,-⟩
   obtain⟨v,Hr,rfl,hr⟩:=hr
   exact((NoSpot.cons (show 202≠66 by decide) (NoSpot.row hr (by decide))).append (((decX_no _ _ _ _).append (decZ_no _ _ _ _ _ _ _ _ _)).append ((NoSpot.row ho (by decide)).append (NoSpot.row KI.out.1 (by decide))))).append h2.noSpot
  case assign =>
   intro l x y z w K hK
   simp only[List.setIfInBounds_toArray,List.set_cons_succ,List.set_cons_zero] at hK ⊢
   gi_wp2
   exact hK
  case body =>
   intro l0 pre x hx B w H hr hP hs hlen
   simp only[List.setIfInBounds_toArray,List.set_cons_succ,List.set_cons_zero]
   exact dec_round l0 D A c bx rbx rb n0 B HL l style layer ⟨M,[],r1⟩ pre x hx w H _ _ _ _ _ _ _ _ _ _ _ _ _ _ _ _ _ _ _ _ _ _ _ _ _ _ _ _ _ _ _ _ _ _ _ _ _ _ _ _ _ hP hs (by omega) hst hly (by omega)
  case stop =>
   intro KK pre w H hKK hpre hPX hM hd
   obtain⟨hf,rfl⟩:=hPX
   have hN:headD l style layer D M=none:=by rw[HE0.out];exact foldD_prefix hpre hf
   have m12:=hM.putObj (.deferred none) hKK hd rfl
   have b0:=(m12.sat.at_ 0 rfl).cell 0
   have b1:=(m12.sat.at_ 1 rfl).cell 0
   have b2:=(m12.sat.at_ 2 rfl).cell 0
   have hpost:HPost l D HL HB0 W none (.returned (.tuple #[.slice none 0 0,.int .i64 0,.int .i64 10])) (w.putObj KK (.deferred none)):=⟨rfl,m12.sub (fun g=>by rw[cnt_nil];omega) (fun b hb=>by cases hb)⟩
   rw[← hN] at hpost
   have KX:=Lib.hid (And.intro hd (And.intro hpost (And.intro b0 (And.intro b1 b2))))
   clear hd hpost b0 b1 b2 m12 hM
   refine wpIn_wide.2 ?_
   go_wp2_with fail
   refine⟨by simp,.inl ⟨_,_,rfl,run_takeDeferred KX.out.1,?_⟩⟩
   exact⟨_,dk_results _ _ n0 _ _ _ rfl rfl rfl KX.out.2.2.1 KX.out.2.2.2.1 KX.out.2.2.2.2,KX.out.2.1⟩
  case done =>
   intro KK ys w5 H hKK hy hP hM hd
   obtain⟨S,HR,Ho,vo,HB',hf,rfl,hr,ho,hB,hg,h8,hbg,hol⟩:=hP
   have hyl:ys.length=(spotsOf D).length:=by rw[← hy,List.length_map]
   rw[hy] at hf
   have hE:Hid (headD l style layer D M=some S):=Lib.hid (by rw[HE0.out];exact hf)
   have hM2:Mv W (HL++HB0) w5 ((HR++((decX n0 vo 0 0++ZZ)++(Ho++HL)))++HB'):=hM.sub (fun g=>by rw[HZE.out];simp only[decZ,cnt_append,cnt_cons,cnt_nil];omega) (fun c hc=>by rw[HZE.out] at hc;simp only[decZ,List.mem_append,List.mem_cons,List.not_mem_nil,or_false] at hc ⊢;grind)
   have K5:=Lib.hid (And.intro hr (And.intro ho (And.intro hB hM2)))
   have KD:=Lib.hid hd
   have hbg2:S.rd.begun≤20000000:=by omega
   obtain⟨ao,co,rfl⟩:=ho.slice
   clear hf hr ho hB hg hM hM2 hd hy
   obtain⟨n9,hn9⟩:∃ n9:Nat,(endM l S.rd).1=n9:=⟨_,rfl⟩
   obtain⟨e9,he9⟩:∃ e9:Nat,(endM l S.rd).2=e9:=⟨_,rfl⟩
   have EN:Hid (Calls Tryz.prog 91 #[.pointer (some ⟨rb,0,none⟩)] w5 fun e w'=>e=.returned (.tuple #[.int .i64 (n9:Int),.int .i64 (e9:Int)])∧∃ k,w'=w5.drewN k):=Lib.hid (by
    have h:=end_rd rb l S.rd w5 HR K5.out.1 K5.out.2.2.2.sat.left.left (by omega) (by omega)
    rw[hn9,he9] at h
    exact h)
   have CE:Hid (∀ V a e,Mv W (HL++HB0) V ((HR++((decX n0 (.slice ao S.out.length co) a e++ZZ)++(Ho++HL)))++HB')→(V.cell? ⟨n0+2,0,none⟩=some (.slice ao S.out.length co)∧V.frozen? ⟨n0+2,0,none⟩=false∧V.cell? ⟨n0+3,0,none⟩=some (.int .i64 a)∧V.frozen? ⟨n0+3,0,none⟩=false∧V.cell? ⟨n0+4,0,none⟩=some (.int .i64 e)∧V.frozen? ⟨n0+4,0,none⟩=false)∧V.cell? ⟨rbx,0,none⟩=some (.pointer (some ⟨rb,0,none⟩))∧Mv W (HL++HB0) (V.setCell ⟨n0+2,0,none⟩ (.slice ao S.out.length co)) ((HR++((decX n0 (.slice ao S.out.length co) a e++ZZ)++(Ho++HL)))++HB') ∧
     (∀ a',Mv W (HL++HB0) (V.setCell ⟨n0+3,0,none⟩ (.int .i64 a')) ((HR++((decX n0 (.slice ao S.out.length co) a' e++ZZ)++(Ho++HL)))++HB'))∧(∀ e',Mv W (HL++HB0) (V.setCell ⟨n0+4,0,none⟩ (.int .i64 e')) ((HR++((decX n0 (.slice ao S.out.length co) a e'++ZZ)++(Ho++HL)))++HB'))):=Lib.hid (by
    intro V a e m
    exact⟨dk_cells m,hZZ V m.sat.left.right.left.right,(dk_set m).1,(dk_set m).2.1,(dk_set m).2.2⟩)
   obtain⟨⟨x1,x2,x3,x4,x5,x6⟩,x7,-⟩:=CE.out w5 0 0 K5.out.2.2.2
   go_upto_region 11 with (go_at_call 91;(with_reducible refine EN.out.mono ?_);rintro e w6 ⟨rfl,k6,rfl⟩)
   obtain⟨w7,hw7⟩:∃ w7,w7=((w5.drewN k6).setCell ⟨n0+3,0,none⟩ (.int .i64 (n9:Int))).setCell ⟨n0+4,0,none⟩ (.int .i64 (e9:Int)):=⟨_,rfl⟩
   have M7:Mv W (HL++HB0) w7 ((HR++((decX n0 (.slice ao S.out.length co) n9 e9++ZZ)++(Ho++HL)))++HB'):=by rw[hw7];exact(CE.out _ _ _ ((CE.out _ 0 0 (K5.out.2.2.2.drewN k6)).2.2.2.1 (n9:Int))).2.2.2.2 (e9:Int)
   have e10:((w5.drewN k6).setCell ⟨n0+1+1+1,0,none⟩ (.int .i64 (n9:Int))).setCell ⟨n0+1+1+1+1,0,none⟩ (.int .i64 (e9:Int))=w7:=hw7.symm
   first | rw[← hw7] | rw[e10]
   have kk7:w7.heap[KK]?=some (.deferred (some [])):=by rw[hw7];exact(KeepsOthers.setCell _ ⟨n0+4,0,none⟩ _).same KK _ ((KeepsOthers.setCell _ ⟨n0+3,0,none⟩ _).same KK _ KD.out rfl) rfl
   have K7:=Lib.hid kk7
   clear kk7
   have K8:=Lib.hid M7
   clear hw7 e10 x1 x2 x3 x4 x5 x6 x7
   obtain⟨⟨x1,x2,x3,x4,x5,x6⟩,x7,-⟩:=CE.out w7 _ _ M7
   clear M7
   go_region
   all_goals
    obtain⟨w8,hw8⟩:∃ w8,w8=(((w7.setCell ⟨n0+2,0,none⟩ (.slice ao S.out.length co)).setCell ⟨n0+3,0,none⟩ (.int .i64 (n9:Int))).setCell ⟨n0+4,0,none⟩ (.int .i64 (e9:Int))).drew:=⟨_,rfl⟩
    have M8:Mv W (HL++HB0) w8 ((HR++((decX n0 (.slice ao S.out.length co) n9 e9++ZZ)++(Ho++HL)))++HB'):=by rw[hw8];exact((CE.out _ _ _ ((CE.out _ _ _ (CE.out _ _ _ K8.out).2.2.1).2.2.2.1 (n9:Int))).2.2.2.2 (e9:Int)).drew
    have kk8:w8.heap[KK]?=some (.deferred (some [])):=by rw[hw8];exact(KeepsOthers.setCell _ ⟨n0+4,0,none⟩ _).same KK _ ((KeepsOthers.setCell _ ⟨n0+3,0,none⟩ _).same KK _ ((KeepsOthers.setCell _ ⟨n0+2,0,none⟩ _).same KK _ K7.out rfl) rfl) rfl
    have K12:=Lib.hid kk8
    clear kk8
    have e11:(((w7.setCell ⟨n0+1+1,0,none⟩ (.slice ao S.out.length co)).setCell ⟨n0+1+1+1,0,none⟩ (.int .i64 (n9:Int))).setCell ⟨n0+1+1+1+1,0,none⟩ (.int .i64 (e9:Int))).drew=w8:=hw8.symm
    first | rw[← hw8] | rw[e11]
    have K11:=Lib.hid M8
    clear hw8 e11 M8
    go_wp2_with fail
    have hpost:HPost l D HL HB0 W (some S) (.returned (.tuple #[(.slice ao S.out.length co),.int .i64 (n9:Int),.int .i64 (e9:Int)])) (w8.putObj KK (.deferred none)):=⟨(.slice ao S.out.length co),Ho,HB',by rw[hn9,he9],K5.out.2.1,K5.out.2.2.1,(K11.out.putObj (.deferred none) hKK K12.out rfl).sub (fun g=>by simp only[cnt_append];omega) (fun c hc=>by simp only[List.mem_append] at hc ⊢;grind)⟩
    rw[← hE.out] at hpost
    have M12:=K11.out.putObj (.deferred none) hKK K12.out rfl
    obtain⟨⟨v1,-,v3,-,v5,-⟩,-⟩:=CE.out _ _ _ M12
    refine⟨by simp,.inl ⟨_,_,rfl,run_takeDeferred K12.out,?_⟩⟩
    exact⟨_,dk_results _ _ n0 (.slice ao S.out.length co) _ _ rfl rfl rfl v1 v3 v5,hpost⟩
 ·have hq0:(rdBit l rdNew).1=0:=by omega
  have BQ:=Lib.hid (BB.out 0 hq0)
  have hE:Hid (headD l style layer D M=some ⟨M,[],r1⟩):=Lib.hid (by rw[HHD.out,if_neg hq])
  clear hq hq0 BB
  go_upto_region 10 with (go_at_call 88;(with_reducible refine BQ.out.mono ?_);rintro e w5 ⟨rfl,HR,K4⟩)
  have K5:=Lib.hid (And.intro K4.out.1 (And.intro (show RowPc (.slice none 0 0) [] [] from RowH.nil _ _) (And.intro KI.out.2.1 K4.out.2)))
  obtain⟨S,hSe⟩:∃ S:DecS,(⟨M,[],r1⟩:DecS)=S:=⟨_,rfl⟩
  obtain⟨Ho,hHo⟩:∃ Ho:List HB,([]:List HB)=Ho:=⟨_,rfl⟩
  obtain⟨vo,hvo⟩:∃ vo:Value,Value.slice none 0 0=vo:=⟨_,rfl⟩
  obtain⟨HB',hHB'⟩:∃ HB',HB0=HB':=⟨_,rfl⟩
  have K5:Hid (ReadH rb l S.rd HR∧RowPc vo S.out Ho∧BandsR D S.M HB'∧Mv W (HL++HB0) w5 ((HR++((decX n0 vo 0 0++ZZ)++(Ho++HL)))++HB')):=Lib.hid (by subst hSe hHo hvo;rw[← hHB'];exact K5.out)
  rw[hSe] at hE
  have hbg2:S.rd.begun≤20000000:=by rw[← hSe];simp only;omega
  clear K4 hSe hHo hHB' x7
  subst hvo
  obtain⟨n9,hn9⟩:∃ n9:Nat,(endM l S.rd).1=n9:=⟨_,rfl⟩
  obtain⟨e9,he9⟩:∃ e9:Nat,(endM l S.rd).2=e9:=⟨_,rfl⟩
  have EN:Hid (Calls Tryz.prog 91 #[.pointer (some ⟨rb,0,none⟩)] w5 fun e w'=>e=.returned (.tuple #[.int .i64 (n9:Int),.int .i64 (e9:Int)])∧∃ k,w'=w5.drewN k):=Lib.hid (by
   have h:=end_rd rb l S.rd w5 HR K5.out.1 K5.out.2.2.2.sat.left.left (by omega) (by omega)
   rw[hn9,he9] at h
   exact h)
  have CE:Hid (∀ V a e,Mv W (HL++HB0) V ((HR++((decX n0 (.slice none 0 0) a e++ZZ)++(Ho++HL)))++HB')→(V.cell? ⟨n0+2,0,none⟩=some (.slice none 0 0)∧V.frozen? ⟨n0+2,0,none⟩=false∧V.cell? ⟨n0+3,0,none⟩=some (.int .i64 a)∧V.frozen? ⟨n0+3,0,none⟩=false∧V.cell? ⟨n0+4,0,none⟩=some (.int .i64 e)∧V.frozen? ⟨n0+4,0,none⟩=false)∧V.cell? ⟨rbx,0,none⟩=some (.pointer (some ⟨rb,0,none⟩))∧Mv W (HL++HB0) (V.setCell ⟨n0+2,0,none⟩ (.slice none 0 0)) ((HR++((decX n0 (.slice none 0 0) a e++ZZ)++(Ho++HL)))++HB') ∧
    (∀ a',Mv W (HL++HB0) (V.setCell ⟨n0+3,0,none⟩ (.int .i64 a')) ((HR++((decX n0 (.slice none 0 0) a' e++ZZ)++(Ho++HL)))++HB'))∧(∀ e',Mv W (HL++HB0) (V.setCell ⟨n0+4,0,none⟩ (.int .i64 e')) ((HR++((decX n0 (.slice none 0 0) a e'++ZZ)++(Ho++HL)))++HB'))):=Lib.hid (by
   intro V a e m
   exact⟨dk_cells m,hZZ V m.sat.left.right.left.right,(dk_set m).1,(dk_set m).2.1,(dk_set m).2.2⟩)
  obtain⟨⟨x1,x2,x3,x4,x5,x6⟩,x7,-⟩:=CE.out w5 0 0 K5.out.2.2.2
  go_upto_region 11 with (go_at_call 91;(with_reducible refine EN.out.mono ?_);rintro e w6 ⟨rfl,k6,rfl⟩)
  obtain⟨w7,hw7⟩:∃ w7,w7=((w5.drewN k6).setCell ⟨n0+3,0,none⟩ (.int .i64 (n9:Int))).setCell ⟨n0+4,0,none⟩ (.int .i64 (e9:Int)):=⟨_,rfl⟩
  have M7:Mv W (HL++HB0) w7 ((HR++((decX n0 (.slice none 0 0) n9 e9++ZZ)++(Ho++HL)))++HB'):=by rw[hw7];exact(CE.out _ _ _ ((CE.out _ 0 0 (K5.out.2.2.2.drewN k6)).2.2.2.1 (n9:Int))).2.2.2.2 (e9:Int)
  have e10:((w5.drewN k6).setCell ⟨n0+1+1+1,0,none⟩ (.int .i64 (n9:Int))).setCell ⟨n0+1+1+1+1,0,none⟩ (.int .i64 (e9:Int))=w7:=hw7.symm
  first | rw[← hw7] | rw[e10]
  have K8:=Lib.hid M7
  clear hw7 e10 x1 x2 x3 x4 x5 x6 x7
  obtain⟨⟨x1,x2,x3,x4,x5,x6⟩,x7,-⟩:=CE.out w7 _ _ M7
  clear M7
  go_region
  all_goals
   obtain⟨w8,hw8⟩:∃ w8,w8=(((w7.setCell ⟨n0+2,0,none⟩ (.slice none 0 0)).setCell ⟨n0+3,0,none⟩ (.int .i64 (n9:Int))).setCell ⟨n0+4,0,none⟩ (.int .i64 (e9:Int))).drew:=⟨_,rfl⟩
   have M8:Mv W (HL++HB0) w8 ((HR++((decX n0 (.slice none 0 0) n9 e9++ZZ)++(Ho++HL)))++HB'):=by rw[hw8];exact((CE.out _ _ _ ((CE.out _ _ _ (CE.out _ _ _ K8.out).2.2.1).2.2.2.1 (n9:Int))).2.2.2.2 (e9:Int)).drew
   have e11:(((w7.setCell ⟨n0+1+1,0,none⟩ (.slice none 0 0)).setCell ⟨n0+1+1+1,0,none⟩ (.int .i64 (n9:Int))).setCell ⟨n0+1+1+1+1,0,none⟩ (.int .i64 (e9:Int))).drew=w8:=hw8.symm
   first | rw[← hw8] | rw[e11]
   have K11:=Lib.hid M8
   clear hw8 e11 M8
   go_wp2_with fail
   have hpost:HPost l D HL HB0 W (some S) (.returned (.tuple #[(.slice none 0 0),.int .i64 (n9:Int),.int .i64 (e9:Int)])) w8:=⟨(.slice none 0 0),Ho,HB',by rw[hn9,he9],K5.out.2.1,K5.out.2.2.1,K11.out.sub (fun g=>by simp only[cnt_append];omega) (fun c hc=>by simp only[List.mem_append] at hc ⊢;grind)⟩
   rw[← hE.out] at hpost
   obtain⟨⟨v1,-,v3,-,v5,-⟩,-⟩:=CE.out _ _ _ K11.out
   exact⟨_,dk_results _ _ n0 (.slice none 0 0) _ _ rfl rfl rfl v1 v3 v5,hpost⟩
end
section
open Go.RowKit
def takeB (m:BandM) (k style p:Nat) (data:List UInt8):BandM:=match m.ss[k]? with
 | none=>m
 | some s=>{ m with ss:=m.ss.set k (takeM style s p data) }
def decGo (l:List UInt8) (style:Nat):List PcM→(Nat→BandM)→Nat→(Nat→BandM) × Option Nat
 | [],M,n=>(M,some n)
 | q::qs,M,n=>if l.length - n<q.n then (M,none) else decGo l style qs (updM M q.x.d.bb (takeB (M q.x.d.bb) q.x.k style q.p ((l.drop n).take q.n))) (n+q.n)
def okGo (D:List BandA) (l:List UInt8) (style:Nat):List PcM→(Nat→BandM)→Nat→Prop
 | [],_,_=>True
 | q::qs,M,n=>(q.x.d∈D∧q.x.k<q.x.d.n∧q.p≤1000∧q.n<4294967296∧∀ s,(M q.x.d.bb).ss[q.x.k]?=some s→s.ps.length+q.p≤1000∧s.bs.length+min q.n l.length≤10000000)∧okGo D l style qs (updM M q.x.d.bb (takeB (M q.x.d.bb) q.x.k style q.p ((l.drop n).take q.n))) (n+q.n)
section
variable {D:List BandA} {M:Nat→BandM} {HB1 H0 Y:List HB} {w0 w:World} {d:BandA} {k:Nat} {s:StM}
theorem step_take (hB:BandsR D M HB1) (hd:d∈D) (hk:k<d.n) (hs:(M d.bb).ss[k]?=some s) (m:Mv w0 H0 w (Y++HB1)) (style p n:Nat) (data:List UInt8) (v:Value) (hv:BV w v data) (hs63:style≤63) (hp:s.ps.length+p≤1000) (hb:s.bs.length+data.length≤10000000) :
  Calls Tryz.prog 41 #[.agg #[.pointer (some ⟨d.lb,k * 5,none⟩),.pointer (some ⟨d.bb,0,none⟩),.int .i64 (k:Int),.int .i64 (p:Int),.int .i64 (n:Int)],.int .i64 (style:Int),v] w fun e w'=>e=.returned (.tuple #[]) ∧
   ∃ HB',BandsR D (updM M d.bb (takeB (M d.bb) k style p data)) HB'∧Mv w0 H0 w' (Y++HB'):=by
 obtain⟨b,R,ok,em,fwd,back⟩:=bands_at hB m hd
 obtain⟨st,hst,rfl⟩:=model_get em hs
 have m1:Mv w0 H0 w (b.heap d++(Y++R)):=(fwd w m).sub (fun g=>by simp only[cnt_append];omega) (fun c hc=>by simp only[List.mem_append] at hc ⊢;grind)
 refine(take_any d b k style p n st data v w ok hk hst m1.sat.left hv hs63 hp hb).mono ?_
 rintro e w' ⟨rfl,b',q1,q2,q3⟩
 obtain⟨HB',h6,h7⟩:=back b' Y q1
 refine⟨rfl,HB',?_,h7 w' ?_⟩
 ·have e:takeB (M d.bb) k style p data=b'.model:=by
   unfold takeB
   rw[hs,q2,← em]
  rw[e]
  exact h6
 ·exact(Mv.call m1 q3).sub (fun g=>by simp only[cnt_append];omega) (fun c hc=>by simp only[List.mem_append] at hc ⊢;grind)
end
end
section
open Go.RowKit
theorem decGo_cons (l:List UInt8) (style:Nat) (q:PcM) (qs:List PcM) (M:Nat→BandM) (n:Nat):decGo l style (q::qs) M n=if l.length - n<q.n then (M,none) else decGo l style qs (updM M q.x.d.bb (takeB (M q.x.d.bb) q.x.k style q.p ((l.drop n).take q.n))) (n+q.n):=rfl
theorem endM_le (l:List UInt8) (s:RdM):(endM l s).1≤l.length∧(endM l s).2≤10:=by
 have key:∀ (n:Nat) (bad:Bool),(if l.length<n then ((0,8):Nat × Nat) else if bad=true then (0,10) else (n,0)).1≤l.length∧(if l.length<n then ((0,8):Nat × Nat) else if bad=true then (0,10) else (n,0)).2≤10:=by
  intro n bad
  by_cases h:l.length<n
  ·rw[if_pos h]
   exact⟨Nat.zero_le _,by simp⟩
  ·rw[if_neg h]
   cases bad
   ·exact⟨by simp;omega,by simp⟩
   ·exact⟨by simp,by simp⟩
 exact key _ _
def decodeF (l:List UInt8) (style layer:Nat) (D:List BandA) (M:Nat→BandM):Nat × Nat × (Nat→BandM):=match headD l style layer D M with
 | none=>(0,10,M)
 | some S=>if (endM l S.rd).2=0 then (match decGo l style S.out S.M (endM l S.rd).1 with
  | (M',none)=>(0,8,M')
  | (M',some n)=>(n,0,M')) else (0,(endM l S.rd).2,S.M)
def decodeOk (l:List UInt8) (style layer:Nat) (D:List BandA) (M:Nat→BandM):Prop:=match headD l style layer D M with
 | none=>True
 | some S=>(endM l S.rd).2=0→okGo D l style S.out S.M (endM l S.rd).1
def DPost (l:List UInt8) (D:List BandA) (HV HL HB0:List HB) (W:World) (q:Nat × Nat × (Nat→BandM)) (e:Ending) (w':World):Prop :=
 e=.returned (.tuple #[.int .i64 (q.1:Int),.int .i64 (q.2.1:Int)])∧(if q.2.1=0 then ∃ HB',BandsR D q.2.2 HB'∧Mv W ((HL++HB0)++HV) w' (HV++(HL++HB')) else Mv W ((HL++HB0)++HV) w' HV)
theorem Sat.tail1 {w:World} {b:HB} {H:List HB} (h:Sat w (b::H)):Sat w H:=Sat.right (A:=[b]) h
theorem bv_part {w:World} {vg n c m mp:Nat} {l:List UInt8} (h:BV w (.slice (some ⟨vg,0,none⟩) n c) l) (hn:l.length=n) (h1:m≤mp) (h2:mp≤n) (h3:n≤c):BV w (.slice (if c=m then some ⟨vg,0,none⟩ else some ⟨vg,m,none⟩) (mp - m) (c - m)) ((l.drop m).take (mp - m)):=by
 split
 ·rename_i he
  have e1:mp - m=0:=by omega
  have e2:c - m=0:=by omega
  rw[e1,e2,List.take_zero]
  exact⟨_,0,rfl,Nat.le_refl _,by decide,rfl,fun h=>absurd h (by decide)⟩
 ·have b2:=BV.mid h m mp h1 h2
  rw[Nat.zero_add] at b2
  exact b2
theorem piece_cells {g n c:Nat} {out:List PcM} {Ho:List HB} {w:World} (h:RowPc (.slice (some ⟨g,0,none⟩) n c) out Ho) (hs:Sat w Ho) {i:Nat} {q:PcM} (hq:out[i]?=some q) :
  w.cell? ⟨g,i * 5,none⟩=some (.pointer (some ⟨q.x.d.lb,q.x.k * 5,none⟩))∧w.cell? ⟨g,i * 5+1,none⟩=some (.pointer (some ⟨q.x.d.bb,0,none⟩))∧w.cell? ⟨g,i * 5+2,none⟩=some (.int .i64 (q.x.k:Int))∧w.cell? ⟨g,i * 5+3,none⟩=some (.int .i64 (q.p:Int))∧w.cell? ⟨g,i * 5+4,none⟩=some (.int .i64 (q.n:Int)):=by
 have hi:=(List.getElem?_eq_some_iff.1 hq).1
 have key:∀ j,j<5→w.cell? ⟨g,i * 5+j,none⟩=(pieceV q)[j]?:=by
  intro j hj
  rw[(RowH.cell h hs (by obtain⟨a',c',e⟩:=RowH.slice h;cases e;rfl) (i * 5+j) (by omega)).1]
  exact flat_get pieceV 5 (fun _=>rfl) out i q hq j hj
 exact⟨key 0 (by omega),key 1 (by omega),key 2 (by omega),key 3 (by omega),key 4 (by omega)⟩
theorem decode_f (A:Option Addr) (c vg n vc:Nat) (D:List BandA) (M:Nat→BandM) (style layer:Nat) (l:List UInt8) (HV HL HB0:List HB) (W:World) (hD:D.length≤1000) (hL:ListH (.slice A D.length c) D HL) (hB:BandsR D M HB0) (hs:Sat W (HV++(HL++HB0))) (hv:RowB (.slice (some ⟨vg,0,none⟩) n vc) l HV) (hll:l.length≤9000000) (hly:layer≤100) (hst:style≤63)
  (hn:(spotsOf D).length≤200) (hg:∀ d∈D,GoodR (M d.bb)) (hok:decodeOk l style layer D M) :
  Calls Tryz.prog 12 #[.slice A D.length c,.int .i64 (style:Int),.int .i64 (layer:Int),.slice (some ⟨vg,0,none⟩) n vc,.bool false] W (DPost l D HV HL HB0 W (decodeF l style layer D M)):=by
 have hnl:l.length=n:=(hv.len).symm
 have bv:∀ V,Sat V HV→BV V (.slice (some ⟨vg,0,none⟩) n vc) l:=fun V s=>hv.bv s
 have hnc:n≤vc∧vc≤9223372036854775807:=by
  obtain⟨A',c',e,h1,h2,-⟩:=bv W hs.left
  cases e
  unfold maxLen at h2
  omega
 have HD:=Lib.hid (headed_any A c D M style layer _ l HL HB0 W hD hL hB hs.right (bv W hs.left) hll hly hst hn hg)
 have HB0':=Lib.hid bv
 obtain⟨q,hq⟩:∃ q,decodeF l style layer D M=q:=⟨_,rfl⟩
 rw[hq]
 obtain⟨hd,hhd⟩:∃ hd,headD l style layer D M=hd:=⟨_,rfl⟩
 unfold decodeF at hq
 unfold decodeOk at hok
 rw[hhd] at HD hq hok
 have MR:Mv W (HL++HB0++HV) W (HL++HB0++HV):=Mv.refl (hs.sub (fun g=>by simp only[cnt_append];omega) (fun y hy=>by simp only[List.mem_append] at hy ⊢;grind))
 have hs0:=hs
 have K0:=Lib.hid (And.intro MR hs)
 have MN:=Lib.hid (marked_none)
 clear hL hB hs bv hg MR hs0 hhd
 cases hd with
 | none =>
  have hq2:q=(0,10,M):=hq.symm
  subst hq2
  go_enter Tryz.func12,Tryz.ntmps12
  go_wp2_with (go_at_call 39;(with_reducible refine HD.out.mono ?_);rintro e w2 ⟨rfl,m2⟩;have K2:=Lib.hid (Mv.call K0.out.1 m2);clear m2)
  go_ret2
  refine⟨rfl,?_⟩
  rw[if_neg (by simp)]
  exact K2.out.sub (fun g=>by simp only[cnt_append,cnt_cons];omega) (fun b hb=>by simp only[List.mem_append,List.mem_cons];first | exact .inr hb | exact .inr (.inl hb) | exact .inr (.inr (.inl hb)))
 | some S =>
  obtain⟨n1,hn1⟩:∃ n1,(endM l S.rd).1=n1:=⟨_,rfl⟩
  obtain⟨e1,he1⟩:∃ e1,(endM l S.rd).2=e1:=⟨_,rfl⟩
  have hEL:=endM_le l S.rd
  rw[hn1,he1] at hEL
  simp only[hn1,he1] at hq hok
  have HS:Hid (Calls Tryz.prog 39 #[.slice A D.length c,.int .i64 (style:Int),.int .i64 (layer:Int),.slice (some ⟨vg,0,none⟩) n vc] W fun e w2=>∃ ao co Ho HB',e=.returned (.tuple #[.slice ao S.out.length co,.int .i64 (n1:Int),.int .i64 (e1:Int)])∧RowPc (.slice ao S.out.length co) S.out Ho∧BandsR D S.M HB'∧Mv W ((HL++HB0)++HV) w2 (Ho++(HV++(HL++HB')))):=Lib.hid (by
   refine HD.out.mono ?_
   rintro e w2 ⟨vo,Ho,HB',rfl,p1,p2,p3⟩
   obtain⟨ao,co,rfl⟩:=p1.slice
   refine⟨ao,co,Ho,HB',by rw[hn1,he1],p1,p2,?_⟩
   exact(Mv.call K0.out.1 p3).sub (fun g=>by simp only[cnt_append];omega) (fun y hy=>by simp only[List.mem_append] at hy ⊢;grind))
  clear HD
  by_cases h0:e1=0
  ·subst h0
   rw[if_pos rfl] at hq
   replace hok:=Lib.hid (hok rfl)
   have hq:=Lib.hid hq
   obtain⟨no,hno⟩:∃ no,S.out.length=no:=⟨_,rfl⟩
   rw[hno] at HS
   have HNO:=Lib.hid hno
   have hn1n:n1≤n:=by omega
   clear hno
   have hvn:n1=vc∨¬ vc=n1:=by
    by_cases h:vc=n1
    ·exact .inl h.symm
    ·exact .inr h
   rcases hvn with rfl | hvn
   ·go_enter Tryz.func12,Tryz.ntmps12
    go_upto_region 4 with (go_at_call 39;(with_reducible refine HS.out.mono ?_);rintro e w2 ⟨ao,co,Ho,HB1,rfl,p1,p2,p3⟩;have K2:=Lib.hid (And.intro p1 (And.intro p2 p3));clear p1 p2 p3)
    go_cut [11,13,28,29,30,31,32,33,34,35] from 36 (fun s11 s13 _ _ _ _ _ _ _ _ wx=>s11=.int .i64 0∧s13=.int .i64 0∧wx=w2)
    case first =>
     go_wp2_with (go_at_call 40;refine(MN.out _ _ _ _).mono ?_;rintro e w3 ⟨rfl,rfl⟩)
     all_goals
      first
       | (exfalso;omega)
       | (go_meet;exact⟨rfl,rfl,rfl⟩)
    case rest =>
     obtain⟨rfl,rfl,hwc⟩:=hcut
     rw[← hwc] at K2
     clear hwc
     go_upto_region 9 with fail
     have hb32:n1≤9000000:=by omega
     go_loopg [10,15,44] no (fun gg s10 _ s44 wx=>∃ (i m:Nat) (M':Nat→BandM) (HBi:List HB),i≤no∧gg=no - i∧s44=.int .i64 (i:Int)∧s10=.int .i64 (m:Int)∧m≤n∧decGo l style S.out S.M n1=decGo l style (S.out.drop i) M' m∧okGo D l style (S.out.drop i) M' m∧BandsR D M' HBi∧Mv W ((HL++HB0)++HV) wx (Ho++(HV++(HL++HBi))))
     case atStart=>exact⟨0,n1,S.M,HB1,Nat.zero_le _,rfl,rfl,by go_num,hn1n,rfl,hok.out,K2.out.2.1,K2.out.2.2⟩
     case round =>
      obtain⟨wb,rfl⟩:∃ wb:World,wb=wr:=⟨_,rfl⟩
      obtain⟨i,m,M',HBi,hi,rfl,rfl,rfl,hmn,hE,hO,hBi,Mi⟩:=hrel
      by_cases hlt:i<no
      ·have hlt2:(i:Int)<(no:Int):=by omega
       obtain⟨pq,hpq⟩:∃ pq,S.out[i]?=some pq:=⟨_,List.getElem?_eq_getElem (by rw[HNO.out];exact hlt)⟩
       have hdr:S.out.drop i=pq::S.out.drop (i+1):=by
        obtain⟨h1,h2⟩:=List.getElem?_eq_some_iff.1 hpq
        rw[List.drop_eq_getElem_cons h1,h2]
       obtain⟨⟨pg,hpg⟩,hnob⟩:(∃ pg,ao=some ⟨pg,0,none⟩)∧no≤9223372036854775807:=by
        obtain⟨g,cap,cur,e,u1,u2,-⟩:=RowH.form K2.out.1 (by rw[HNO.out];omega)
        cases e
        rw[HNO.out] at u1
        unfold maxLen at u2
        exact⟨⟨_,rfl⟩,by omega⟩
       subst hpg
       have PC:=Lib.hid (fun V (m:Mv W ((HL++HB0)++HV) V (Ho++(HV++(HL++HBi))))=>piece_cells K2.out.1 m.sat.left hpq)
       obtain⟨c0,c1,c2,c3,c4⟩:=PC.out wb Mi
       rw[hdr] at hE hO
       obtain⟨⟨o1,o2,o3,o4,o5⟩,o6⟩:=hO
       obtain⟨⟨d,k⟩,pp,pn⟩:=pq
       simp only at c0 c1 c2 c3 c4 o1 o2 o3 o4 o5 o6
       by_cases hlk:l.length - m<pn
       ·have hlk2:(n:Int) - (m:Int)<(pn:Int):=by omega
        have hE2:q=(0,8,M'):=by
         rw[← hq.out,hE]
         rw[decGo_cons,if_pos hlk]
        have KF:=Lib.hid (And.intro hE2 Mi)
        clear hE hE2 Mi hBi o5 o6 hdr hlk
        go_wp2_with fail
        go_ret2
        obtain⟨rfl,q3⟩:=KF.out
        refine⟨rfl,?_⟩
        rw[if_neg (by simp)]
        exact(q3.alloc _ _).sub (fun g=>by simp only[cnt_append,cnt_cons];omega) (fun b hb=>by simp only[List.mem_append,List.mem_cons];first | exact .inr hb | exact .inr (.inl hb) | exact .inr (.inr (.inl hb)))
       ·have hlk2:¬ (n:Int) - (m:Int)<(pn:Int):=by omega
        go_upto_region 13 with fail
        obtain⟨w4,hw4⟩:∃ w4,w4=wb.alloc (.cells #[.pointer (some ⟨d.lb,k * 5,none⟩),.pointer (some ⟨d.bb,0,none⟩),.int .i64 (k:Int),.int .i64 (pp:Int),.int .i64 (pn:Int)] 96):=⟨_,rfl⟩
        obtain⟨bx,hbx⟩:∃ bx,wb.heap.size=bx:=⟨_,rfl⟩
        have M4:=Mi.alloc 96 #[.pointer (some ⟨d.lb,k * 5,none⟩),.pointer (some ⟨d.bb,0,none⟩),.int .i64 (k:Int),.int .i64 (pp:Int),.int .i64 (pn:Int)]
        rw[← hw4,hbx] at M4
        rw[← hw4]
        simp only[hbx]
        clear hw4 hbx c0 c1 c2 c3 c4
        have y0:w4.drew.cell? ⟨bx,0,none⟩=some (.pointer (some ⟨d.lb,k * 5,none⟩)):=M4.cell 0 rfl 0
        have y1:w4.drew.cell? ⟨bx,1,none⟩=some (.pointer (some ⟨d.bb,0,none⟩)):=M4.cell 0 rfl 1
        have y2:w4.drew.cell? ⟨bx,2,none⟩=some (.int .i64 (k:Int)):=M4.cell 0 rfl 2
        have y3:w4.drew.cell? ⟨bx,3,none⟩=some (.int .i64 (pp:Int)):=M4.cell 0 rfl 3
        have y4:w4.drew.cell? ⟨bx,4,none⟩=some (.int .i64 (pn:Int)):=M4.cell 0 rfl 4
        have hsum:m+pn≤n:=by omega
        obtain⟨mp,hmp⟩:∃ mp,m+pn=mp:=⟨_,rfl⟩
        have hwr:IntKind.i64.wrap ((m:Int)+(pn:Int))=(mp:Int):=by rw[← hmp,← Int.natCast_add];exact IntWalk.i64_in _ ⟨by omega,by omega⟩
        have hmp2:m≤mp∧mp≤n∧mp≤n1:=by omega
        have hmx:Tryz.prog.follows .mixedOrders=true:=by kernel_rfl
        obtain⟨C,hC⟩:∃ C:World→Prop,C=fun w'=>w'=w4.drew:=⟨_,rfl⟩
        have CF:Hid (∀ w',C w'→w'.cell? ⟨bx,0,none⟩=some (.pointer (some ⟨d.lb,k * 5,none⟩))∧w'.cell? ⟨bx,1,none⟩=some (.pointer (some ⟨d.bb,0,none⟩))∧w'.cell? ⟨bx,2,none⟩=some (.int .i64 (k:Int))∧w'.cell? ⟨bx,3,none⟩=some (.int .i64 (pp:Int))∧w'.cell? ⟨bx,4,none⟩=some (.int .i64 (pn:Int))):=Lib.hid (by
         intro w' h
         rw[hC] at h
         subst h
         exact⟨y0,y1,y2,y3,y4⟩)
        have CD:C w4.drew:=by rw[hC]
        have HC:=Lib.hid hC
        clear hC y0 y1 y2 y3 y4
        refine plain_quiet_tail 9 C hmx CD (by kernel_rfl) ?_
        simp only[List.take_succ_cons,List.take_zero,List.drop_succ_cons,List.drop_zero]
        iterate 9 (first | ((with_reducible refine qc_pass ?_ ?_);(next=>(go_simp;done));(try simp only[Act.put,List.setIfInBounds_toArray,List.set_cons_zero,List.set_cons_succ])) | ((with_reducible refine qc_one ?_ ?_ (fun w' hw'=>?_) ?_);rotate_left;(next=>(go_simp;done));(next=>(first | (refine qc_val ?_;(obtain⟨a0,a1,a2,a3,a4⟩:=CF.out w' hw');clear hw';go_simp;done) | (refine qc_val ?_;(obtain⟨a0,a1,a2,a3,a4⟩:=CF.out w' hw');clear hw';go_simp;rfl) | (refine qc_call (f:=?_) (args:=?_) ?_ ?_;rotate_left 2;(next=>((obtain⟨a0,a1,a2,a3,a4⟩:=CF.out w' hw');go_simp;constructor <;> rfl));(next=>(fail))) | (refine qc_skip ?_;(obtain⟨a0,a1,a2,a3,a4⟩:=CF.out w' hw');clear hw';go_simp;done)));(try simp only[Act.put,List.setIfInBounds_toArray,List.set_cons_zero,List.set_cons_succ])))
        refine wpQuiet_nil ?_
        intro w' hw'
        obtain rfl:w'=w4.drew:=by rw[HC.out] at hw';exact hw'
        clear hw' CF CD HC C hwr
        obtain⟨sM,hsM⟩:∃ s,(M' d.bb).ss[k]?=some s:=by
         obtain⟨bd,e1,e2,-⟩:=hBi.band o1
         have hsl:(M' d.bb).ss.length=d.n:=by rw[← e1];show (bd.G.map _).length=_;rw[List.length_map];exact e2.len
         exact⟨_,List.getElem?_eq_getElem (by rw[hsl];exact o2)⟩
        obtain⟨o51,o52⟩:=o5 sM hsM
        have M4':Mv W ((HL++HB0)++HV) w4.drew ((⟨bx,96,#[.pointer (some ⟨d.lb,k * 5,none⟩),.pointer (some ⟨d.bb,0,none⟩),.int .i64 (k:Int),.int .i64 (pp:Int),.int .i64 (pn:Int)]⟩::(Ho++(HV++HL)))++HBi):=M4.drew.sub (fun g=>by simp only[cnt_append,cnt_cons];omega) (fun y hy=>by simp only[List.mem_append,List.mem_cons] at hy ⊢;grind)
        have hpn:mp - m=pn:=by omega
        have bvp:=bv_part (HB0'.out w4.drew M4'.sat.left.tail1.right.left) hnl hmp2.1 hmp2.2.1 hnc.1
        rw[hpn] at bvp ⊢
        have TK:=Lib.hid (step_take hBi o1 o2 hsM M4' style pp pn _ _ bvp hst o51 (by
         have:((l.drop m).take pn).length≤min pn l.length:=by rw[List.length_take,List.length_drop];omega
         omega))
        have KQ:=Lib.hid (And.intro hE (And.intro o6 hlk))
        have HMP:=Lib.hid hmp
        clear hE o6 hlk M4 M4' hBi hsM o5 o51 o52 bvp hdr hmp
        generalize (Value.slice (if n1=m then some (⟨vg,0,none⟩:Addr) else some ⟨vg,m,none⟩) pn (n1 - m))=vv at *
        go_wp2_with (go_at_call 41;(with_reducible refine TK.out.mono ?_);rintro e w5 ⟨rfl,HB5,p1,p2⟩;(have z4:w5.cell? ⟨bx,4,none⟩=some (.int .i64 (pn:Int)):=((p2.sat.left).at_ 0 rfl).cell 4);have K5:=Lib.hid (And.intro p1 p2);clear p1 p2)
        go_roundg (no - (i+1))
        case measure=>omega
        case rel =>
         refine⟨i+1,mp,_,HB5,by omega,rfl,by push_cast;rfl,by rw[← HMP.out];push_cast;rfl,hmp2.2.1,?_,?_,K5.out.1,?_⟩
         ·rw[KQ.out.1]
          rw[decGo_cons,if_neg KQ.out.2.2,HMP.out]
         ·have h:=KQ.out.2.1
          rw[HMP.out] at h
          exact h
         ·exact K5.out.2.sub (fun g=>by simp only[cnt_append,cnt_cons];omega) (fun y hy=>by simp only[List.mem_append,List.mem_cons] at hy ⊢;grind)
      ·obtain rfl:i=no:=by omega
       have hlt2:¬ (i:Int)<(i:Int):=by omega
       have hE2:q=(m,0,M'):=by
        rw[← hq.out,hE,List.drop_of_length_le (by rw[HNO.out];exact Nat.le_refl _)]
        rfl
       have KF:=Lib.hid (And.intro hE2 (And.intro hBi Mi))
       clear hE hO hBi Mi hE2
       go_wp2_with fail
       go_ret2
       obtain⟨rfl,q2,q3⟩:=KF.out
       refine⟨rfl,?_⟩
       rw[if_pos rfl]
       exact⟨HBi,q2,q3.drop⟩
   ·go_enter Tryz.func12,Tryz.ntmps12
    go_upto_region 4 with (go_at_call 39;(with_reducible refine HS.out.mono ?_);rintro e w2 ⟨ao,co,Ho,HB1,rfl,p1,p2,p3⟩;have K2:=Lib.hid (And.intro p1 (And.intro p2 p3));clear p1 p2 p3)
    go_cut [11,13,28,29,30,31,32,33,34,35] from 36 (fun s11 s13 _ _ _ _ _ _ _ _ wx=>s11=.int .i64 0∧s13=.int .i64 0∧wx=w2)
    case first =>
     go_wp2_with (go_at_call 40;refine(MN.out _ _ _ _).mono ?_;rintro e w3 ⟨rfl,rfl⟩)
     all_goals
      first
       | (exfalso;omega)
       | (go_meet;exact⟨rfl,rfl,rfl⟩)
    case rest =>
     obtain⟨rfl,rfl,hwc⟩:=hcut
     rw[← hwc] at K2
     clear hwc
     go_upto_region 9 with fail
     have hb32:n1≤9000000:=by omega
     go_loopg [10,15,44] no (fun gg s10 _ s44 wx=>∃ (i m:Nat) (M':Nat→BandM) (HBi:List HB),i≤no∧gg=no - i∧s44=.int .i64 (i:Int)∧s10=.int .i64 (m:Int)∧m≤n∧decGo l style S.out S.M n1=decGo l style (S.out.drop i) M' m∧okGo D l style (S.out.drop i) M' m∧BandsR D M' HBi∧Mv W ((HL++HB0)++HV) wx (Ho++(HV++(HL++HBi))))
     case atStart=>exact⟨0,n1,S.M,HB1,Nat.zero_le _,rfl,rfl,by go_num,hn1n,rfl,hok.out,K2.out.2.1,K2.out.2.2⟩
     case round =>
      obtain⟨wb,rfl⟩:∃ wb:World,wb=wr:=⟨_,rfl⟩
      obtain⟨i,m,M',HBi,hi,rfl,rfl,rfl,hmn,hE,hO,hBi,Mi⟩:=hrel
      by_cases hlt:i<no
      ·have hlt2:(i:Int)<(no:Int):=by omega
       obtain⟨pq,hpq⟩:∃ pq,S.out[i]?=some pq:=⟨_,List.getElem?_eq_getElem (by rw[HNO.out];exact hlt)⟩
       have hdr:S.out.drop i=pq::S.out.drop (i+1):=by
        obtain⟨h1,h2⟩:=List.getElem?_eq_some_iff.1 hpq
        rw[List.drop_eq_getElem_cons h1,h2]
       obtain⟨⟨pg,hpg⟩,hnob⟩:(∃ pg,ao=some ⟨pg,0,none⟩)∧no≤9223372036854775807:=by
        obtain⟨g,cap,cur,e,u1,u2,-⟩:=RowH.form K2.out.1 (by rw[HNO.out];omega)
        cases e
        rw[HNO.out] at u1
        unfold maxLen at u2
        exact⟨⟨_,rfl⟩,by omega⟩
       subst hpg
       have PC:=Lib.hid (fun V (m:Mv W ((HL++HB0)++HV) V (Ho++(HV++(HL++HBi))))=>piece_cells K2.out.1 m.sat.left hpq)
       obtain⟨c0,c1,c2,c3,c4⟩:=PC.out wb Mi
       rw[hdr] at hE hO
       obtain⟨⟨o1,o2,o3,o4,o5⟩,o6⟩:=hO
       obtain⟨⟨d,k⟩,pp,pn⟩:=pq
       simp only at c0 c1 c2 c3 c4 o1 o2 o3 o4 o5 o6
       by_cases hlk:l.length - m<pn
       ·have hlk2:(n:Int) - (m:Int)<(pn:Int):=by omega
        have hE2:q=(0,8,M'):=by
         rw[← hq.out,hE]
         rw[decGo_cons,if_pos hlk]
        have KF:=Lib.hid (And.intro hE2 Mi)
        clear hE hE2 Mi hBi o5 o6 hdr hlk
        go_wp2_with fail
        go_ret2
        obtain⟨rfl,q3⟩:=KF.out
        refine⟨rfl,?_⟩
        rw[if_neg (by simp)]
        exact(q3.alloc _ _).sub (fun g=>by simp only[cnt_append,cnt_cons];omega) (fun b hb=>by simp only[List.mem_append,List.mem_cons];first | exact .inr hb | exact .inr (.inl hb) | exact .inr (.inr (.inl hb)))
       ·have hlk2:¬ (n:Int) - (m:Int)<(pn:Int):=by omega
        go_upto_region 13 with fail
        obtain⟨w4,hw4⟩:∃ w4,w4=wb.alloc (.cells #[.pointer (some ⟨d.lb,k * 5,none⟩),.pointer (some ⟨d.bb,0,none⟩),.int .i64 (k:Int),.int .i64 (pp:Int),.int .i64 (pn:Int)] 96):=⟨_,rfl⟩
        obtain⟨bx,hbx⟩:∃ bx,wb.heap.size=bx:=⟨_,rfl⟩
        have M4:=Mi.alloc 96 #[.pointer (some ⟨d.lb,k * 5,none⟩),.pointer (some ⟨d.bb,0,none⟩),.int .i64 (k:Int),.int .i64 (pp:Int),.int .i64 (pn:Int)]
        rw[← hw4,hbx] at M4
        rw[← hw4]
        simp only[hbx]
        clear hw4 hbx c0 c1 c2 c3 c4
        have y0:w4.drew.cell? ⟨bx,0,none⟩=some (.pointer (some ⟨d.lb,k * 5,none⟩)):=M4.cell 0 rfl 0
        have y1:w4.drew.cell? ⟨bx,1,none⟩=some (.pointer (some ⟨d.bb,0,none⟩)):=M4.cell 0 rfl 1
        have y2:w4.drew.cell? ⟨bx,2,none⟩=some (.int .i64 (k:Int)):=M4.cell 0 rfl 2
        have y3:w4.drew.cell? ⟨bx,3,none⟩=some (.int .i64 (pp:Int)):=M4.cell 0 rfl 3
        have y4:w4.drew.cell? ⟨bx,4,none⟩=some (.int .i64 (pn:Int)):=M4.cell 0 rfl 4
        have hsum:m+pn≤n:=by omega
        obtain⟨mp,hmp⟩:∃ mp,m+pn=mp:=⟨_,rfl⟩
        have hwr:IntKind.i64.wrap ((m:Int)+(pn:Int))=(mp:Int):=by rw[← hmp,← Int.natCast_add];exact IntWalk.i64_in _ ⟨by omega,by omega⟩
        have hmp2:m≤mp∧mp≤n∧mp≤vc:=by omega
        have hmx:Tryz.prog.follows .mixedOrders=true:=by kernel_rfl
        obtain⟨C,hC⟩:∃ C:World→Prop,C=fun w'=>w'=w4.drew:=⟨_,rfl⟩
        have CF:Hid (∀ w',C w'→w'.cell? ⟨bx,0,none⟩=some (.pointer (some ⟨d.lb,k * 5,none⟩))∧w'.cell? ⟨bx,1,none⟩=some (.pointer (some ⟨d.bb,0,none⟩))∧w'.cell? ⟨bx,2,none⟩=some (.int .i64 (k:Int))∧w'.cell? ⟨bx,3,none⟩=some (.int .i64 (pp:Int))∧w'.cell? ⟨bx,4,none⟩=some (.int .i64 (pn:Int))):=Lib.hid (by
         intro w' h
         rw[hC] at h
         subst h
         exact⟨y0,y1,y2,y3,y4⟩)
        have CD:C w4.drew:=by rw[hC]
        have HC:=Lib.hid hC
        clear hC y0 y1 y2 y3 y4
        refine plain_quiet_tail 9 C hmx CD (by kernel_rfl) ?_
        simp only[List.take_succ_cons,List.take_zero,List.drop_succ_cons,List.drop_zero]
        iterate 9 (first | ((with_reducible refine qc_pass ?_ ?_);(next=>(go_simp;done));(try simp only[Act.put,List.setIfInBounds_toArray,List.set_cons_zero,List.set_cons_succ])) | ((with_reducible refine qc_one ?_ ?_ (fun w' hw'=>?_) ?_);rotate_left;(next=>(go_simp;done));(next=>(first | (refine qc_val ?_;(obtain⟨a0,a1,a2,a3,a4⟩:=CF.out w' hw');clear hw';go_simp;done) | (refine qc_val ?_;(obtain⟨a0,a1,a2,a3,a4⟩:=CF.out w' hw');clear hw';go_simp;rfl) | (refine qc_call (f:=?_) (args:=?_) ?_ ?_;rotate_left 2;(next=>((obtain⟨a0,a1,a2,a3,a4⟩:=CF.out w' hw');go_simp;constructor <;> rfl));(next=>(fail))) | (refine qc_skip ?_;(obtain⟨a0,a1,a2,a3,a4⟩:=CF.out w' hw');clear hw';go_simp;done)));(try simp only[Act.put,List.setIfInBounds_toArray,List.set_cons_zero,List.set_cons_succ])))
        refine wpQuiet_nil ?_
        intro w' hw'
        obtain rfl:w'=w4.drew:=by rw[HC.out] at hw';exact hw'
        clear hw' CF CD HC C hwr
        obtain⟨sM,hsM⟩:∃ s,(M' d.bb).ss[k]?=some s:=by
         obtain⟨bd,e1,e2,-⟩:=hBi.band o1
         have hsl:(M' d.bb).ss.length=d.n:=by rw[← e1];show (bd.G.map _).length=_;rw[List.length_map];exact e2.len
         exact⟨_,List.getElem?_eq_getElem (by rw[hsl];exact o2)⟩
        obtain⟨o51,o52⟩:=o5 sM hsM
        have M4':Mv W ((HL++HB0)++HV) w4.drew ((⟨bx,96,#[.pointer (some ⟨d.lb,k * 5,none⟩),.pointer (some ⟨d.bb,0,none⟩),.int .i64 (k:Int),.int .i64 (pp:Int),.int .i64 (pn:Int)]⟩::(Ho++(HV++HL)))++HBi):=M4.drew.sub (fun g=>by simp only[cnt_append,cnt_cons];omega) (fun y hy=>by simp only[List.mem_append,List.mem_cons] at hy ⊢;grind)
        have hpn:mp - m=pn:=by omega
        have bvp:=bv_part (HB0'.out w4.drew M4'.sat.left.tail1.right.left) hnl hmp2.1 hmp2.2.1 hnc.1
        rw[hpn] at bvp ⊢
        have TK:=Lib.hid (step_take hBi o1 o2 hsM M4' style pp pn _ _ bvp hst o51 (by
         have:((l.drop m).take pn).length≤min pn l.length:=by rw[List.length_take,List.length_drop];omega
         omega))
        have KQ:=Lib.hid (And.intro hE (And.intro o6 hlk))
        have HMP:=Lib.hid hmp
        clear hE o6 hlk M4 M4' hBi hsM o5 o51 o52 bvp hdr hmp
        generalize (Value.slice (if vc=m then some (⟨vg,0,none⟩:Addr) else some ⟨vg,m,none⟩) pn (vc - m))=vv at *
        go_wp2_with (go_at_call 41;(with_reducible refine TK.out.mono ?_);rintro e w5 ⟨rfl,HB5,p1,p2⟩;(have z4:w5.cell? ⟨bx,4,none⟩=some (.int .i64 (pn:Int)):=((p2.sat.left).at_ 0 rfl).cell 4);have K5:=Lib.hid (And.intro p1 p2);clear p1 p2)
        go_roundg (no - (i+1))
        case measure=>omega
        case rel =>
         refine⟨i+1,mp,_,HB5,by omega,rfl,by push_cast;rfl,by rw[← HMP.out];push_cast;rfl,hmp2.2.1,?_,?_,K5.out.1,?_⟩
         ·rw[KQ.out.1]
          rw[decGo_cons,if_neg KQ.out.2.2,HMP.out]
         ·have h:=KQ.out.2.1
          rw[HMP.out] at h
          exact h
         ·exact K5.out.2.sub (fun g=>by simp only[cnt_append,cnt_cons];omega) (fun y hy=>by simp only[List.mem_append,List.mem_cons] at hy ⊢;grind)
      ·obtain rfl:i=no:=by omega
       have hlt2:¬ (i:Int)<(i:Int):=by omega
       have hE2:q=(m,0,M'):=by
        rw[← hq.out,hE,List.drop_of_length_le (by rw[HNO.out];exact Nat.le_refl _)]
        rfl
       have KF:=Lib.hid (And.intro hE2 (And.intro hBi Mi))
       clear hE hO hBi Mi hE2
       go_wp2_with fail
       go_ret2
       obtain⟨rfl,q2,q3⟩:=KF.out
       refine⟨rfl,?_⟩
       rw[if_pos rfl]
       exact⟨HBi,q2,q3.drop⟩
  ·have h0':¬ (e1:Int)=0:=by omega
   rw[if_neg h0] at hq
   subst hq
   go_enter Tryz.func12,Tryz.ntmps12
   go_wp2_with (go_at_call 39;(with_reducible refine HS.out.mono ?_);rintro e w2 ⟨ao,co,Ho,HB1,rfl,p1,p2,p3⟩;have K2:=Lib.hid p3;clear p1 p2 p3)
   go_ret2
   refine⟨rfl,?_⟩
   rw[if_neg h0]
   exact K2.out.sub (fun g=>by simp only[cnt_append,cnt_cons];omega) (fun b hb=>by simp only[List.mem_append,List.mem_cons];first | exact .inr hb | exact .inr (.inl hb) | exact .inr (.inr (.inl hb)))
end
section
structure Ren (D:List BandA) (r:BandA→BandA):Prop where
 n:∀ d∈D,(r d).n=d.n
 inj:∀ d∈D,∀ e∈D,((r e).bb=(r d).bb↔e.bb=d.bb)
def SpotX.ren (r:BandA→BandA) (x:SpotX):SpotX:=⟨r x.d,x.k⟩
def Lock (D:List BandA) (r:BandA→BandA) (M M':Nat→BandM):Prop:=∀ d∈D,M' (r d).bb=M d.bb
theorem Lock.upd {D:List BandA} {r:BandA→BandA} (hr:Ren D r) {M M':Nat→BandM} (h:Lock D r M M') {d:BandA} (hd:d∈D) (m:BandM):Lock D r (updM M d.bb m) (updM M' (r d).bb m):=by
 intro e he
 unfold updM
 by_cases h1:e.bb=d.bb
 ·rw[if_pos h1,if_pos ((hr.inj d hd e he).2 h1)]
 ·rw[if_neg h1,if_neg (fun h2=>h1 ((hr.inj d hd e he).1 h2))]
  exact h e he
theorem spotsOf_ren (r:BandA→BandA):∀ (D:List BandA),(∀ d∈D,(r d).n=d.n)→spotsOf (D.map r)=(spotsOf D).map (SpotX.ren r)
 | [],_=>rfl
 | d::D,h=>by
  have ih:=spotsOf_ren r D fun e he=>h e (List.mem_cons_of_mem _ he)
  unfold spotsOf at ih ⊢
  rw[List.map_cons,List.flatMap_cons,List.flatMap_cons,List.map_append,ih,h d List.mem_cons_self]
  congr 1
  unfold spotsB
  rw[List.map_map]
  rfl
section
variable {D:List BandA} {r:BandA→BandA} (hr:Ren D r)
include hr
theorem encM_ren (c:Nat):∀ (l:List SpotX) (M M':Nat→BandM),(∀ x∈l,x.d∈D)→Lock D r M M'→Lock D r (l.foldl (encM c) M) ((l.map (SpotX.ren r)).foldl (encM c) M')
 | [],_,_,_,h=>h
 | x::l,M,M',hx,h=>by
  rw[List.map_cons,List.foldl_cons,List.foldl_cons]
  refine encM_ren c l _ _ (fun y hy=>hx y (List.mem_cons_of_mem _ hy)) ?_
  have h1:M' (x.ren r).d.bb=M x.d.bb:=h x.d (hx x List.mem_cons_self)
  unfold encM
  rw[h1]
  exact h.upd hr (hx x List.mem_cons_self) _
omit hr in
theorem moreM_ren (c ly:Nat) (M M':Nat→BandM) (h:Lock D r M M'):∀ (l:List SpotX),(∀ x∈l,x.d∈D)→moreM c ly M' (l.map (SpotX.ren r))=moreM c ly M l
 | [],_=>rfl
 | x::l,hx=>by
  have ih:=moreM_ren c ly M M' h l fun y hy=>hx y (List.mem_cons_of_mem _ hy)
  unfold moreM at ih ⊢
  rw[List.map_cons,List.any_cons,List.any_cons,ih]
  congr 1
  have h1:M' (x.ren r).d.bb=M x.d.bb:=h x.d (hx x List.mem_cons_self)
  unfold newB
  rw[h1]
  rfl
structure LockE (D:List BandA) (r:BandA→BandA) (S S':PackS):Prop where
 M:Lock D r S.M S'.M
 bits:S'.bits=S.bits
 body:S'.body=S.body
theorem stepE_ren (c st ly:Nat) {S S':PackS} (h:LockE D r S S') {x:SpotX} (hx:x.d∈D):LockE D r (stepE c st ly S x) (stepE c st ly S' (x.ren r)):=by
 have h1:S'.M (x.ren r).d.bb=S.M x.d.bb:=h.M x.d hx
 have h2:(x.ren r).k=x.k:=rfl
 unfold stepE
 rw[h1,h2]
 cases (S.M x.d.bb).ss[x.k]? with
 | none=>exact h
 | some s =>
  refine⟨h.M.upd hr hx _,?_,?_⟩
  ·show S'.bits++_=S.bits++_
   rw[h.bits]
  ·show (if _ then S'.body++_ else S'.body)=(if _ then S.body++_ else S.body)
   rw[h.body]
theorem foldE_ren (c st ly:Nat):∀ (l:List SpotX) (S S':PackS),(∀ x∈l,x.d∈D)→LockE D r S S'→LockE D r (l.foldl (stepE c st ly) S) ((l.map (SpotX.ren r)).foldl (stepE c st ly) S')
 | [],_,_,_,h=>h
 | x::l,S,S',hx,h=>by
  rw[List.map_cons,List.foldl_cons,List.foldl_cons]
  exact foldE_ren c st ly l _ _ (fun y hy=>hx y (List.mem_cons_of_mem _ hy)) (stepE_ren hr c st ly h (hx x List.mem_cons_self))
theorem encS_ren (c st ly:Nat) {M M':Nat→BandM} (h:Lock D r M M'):LockE D r (encS c st ly D M) (encS c st ly (D.map r) M'):=by
 have hx:∀ x∈spotsOf D,x.d∈D:=fun x h=>(mem_spots h).1
 have h1:=encM_ren hr c _ M M' hx h
 unfold encS
 rw[spotsOf_ren r D hr.n,moreM_ren c ly M M' h _ hx]
 split
 ·exact foldE_ren hr c st ly _ _ _ hx ⟨h1,rfl,rfl⟩
 ·exact⟨h1,rfl,rfl⟩
end
end
section
open Go.RowKit
def BandsL:List (BandA × BandM)→List HB→Prop
 | [],H=>H=[]
 | p::L,H=>∃ H1 H2,H=H1++H2∧BandR p.1 p.2 H1∧BandsL L H2
theorem BandsL.snoc {L:List (BandA × BandM)} {H H1:List HB} {d:BandA} {m:BandM} (h:BandsL L H) (hb:BandR d m H1):BandsL (L++[(d,m)]) (H++H1):=by
 induction L generalizing H with
 | nil=>cases h;exact⟨H1,[],by simp,hb,rfl⟩
 | cons p L ih =>
  obtain⟨A,B,rfl,h1,h2⟩:=h
  exact⟨A,B++H1,by rw[List.append_assoc],h1,ih h2⟩
theorem BandsL.key {L:List (BandA × BandM)} {H:List HB} (h:BandsL L H) {p:BandA × BandM} (hp:p∈L):p.1.bb∈keys H:=by
 induction L generalizing H with
 | nil=>cases hp
 | cons q L ih =>
  obtain⟨A,B,rfl,h1,h2⟩:=h
  rw[keys_append,List.mem_append]
  rcases List.mem_cons.1 hp with rfl | hp
  ·exact .inl h1.key
  ·exact .inr (ih h2 hp)
theorem BandsL.nodup {L:List (BandA × BandM)} {H:List HB} (h:BandsL L H) (hk:(keys H).Nodup):(L.map (·.1.bb)).Nodup:=by
 induction L generalizing H with
 | nil=>exact List.nodup_nil
 | cons q L ih =>
  obtain⟨A,B,rfl,h1,h2⟩:=h
  rw[keys_append] at hk
  obtain⟨k1,k2,k3⟩:=List.nodup_append.1 hk
  rw[List.map_cons,List.nodup_cons]
  refine⟨fun hm=>?_,ih h2 k2⟩
  obtain⟨p,hp,e⟩:=List.mem_map.1 hm
  exact k3 _ h1.key _ (h2.key hp) e.symm
def modelL:List (BandA × BandM)→Nat→BandM
 | [],_=>newBandM 0 0 0
 | p::L,b=>if b=p.1.bb then p.2 else modelL L b
theorem modelL_mem {L:List (BandA × BandM)} (hn:(L.map (·.1.bb)).Nodup) {p:BandA × BandM} (hp:p∈L):modelL L p.1.bb=p.2:=by
 induction L with
 | nil=>cases hp
 | cons q L ih =>
  rw[List.map_cons,List.nodup_cons] at hn
  unfold modelL
  rcases List.mem_cons.1 hp with rfl | hp
  ·rw[if_pos rfl]
  ·rw[if_neg fun e=>hn.1 (by rw[← e];exact List.mem_map.2 ⟨p,hp,rfl⟩)]
   exact ih hn.2 hp
theorem BandsL.bandsR {L:List (BandA × BandM)} {H:List HB} (h:BandsL L H) {M:Nat→BandM} (hM:∀ p∈L,M p.1.bb=p.2):BandsR (L.map (·.1)) M H:=by
 induction L generalizing H with
 | nil=>exact h
 | cons q L ih =>
  obtain⟨A,B,rfl,h1,h2⟩:=h
  exact⟨A,B,rfl,by rw[hM q List.mem_cons_self];exact h1,ih h2 fun p hp=>hM p (List.mem_cons_of_mem _ hp)⟩
def RBandsL:List (Nat × BandM)→List HB→Prop
 | [],H=>H=[]
 | p::L,H=>∃ H1 H2,H=H1++H2∧RBandR p.1 p.2 false false H1∧RBandsL L H2
theorem RBandsL.snoc {L:List (Nat × BandM)} {H H1:List HB} {b:Nat} {m:BandM} (h:RBandsL L H) (hb:RBandR b m false false H1):RBandsL (L++[(b,m)]) (H++H1):=by
 induction L generalizing H with
 | nil=>cases h;exact⟨H1,[],by simp,hb,rfl⟩
 | cons p L ih =>
  obtain⟨A,B,rfl,h1,h2⟩:=h
  exact⟨A,B++H1,by rw[List.append_assoc],h1,ih h2⟩
def RListH (v:Value) (D:List Nat) (H:List HB):Prop:=RowH 47 1 v D.length (D.map fun b=>.pointer (some ⟨b,0,none⟩)) H
theorem infoPb:(Tryz.prog.info? 43).map (fun i=>(i.zero,i.size,i.bytes))=some (some (.pointer none),1,8):=by kernel_rfl
theorem infoRb:(Tryz.prog.info? 47).map (fun i=>(i.zero,i.size,i.bytes))=some (some (.pointer none),1,8):=by kernel_rfl
def fullB (l:List ShapeM) (style:Nat):List BandM:=l.mapIdx fun i s=>s.band i style (s.W * s.H)
def voidB (l:List ShapeM):List BandM:=l.map ShapeM.new
theorem fullB_length (l:List ShapeM) (style:Nat):(fullB l style).length=l.length:=by simp[fullB]
theorem voidB_length (l:List ShapeM):(voidB l).length=l.length:=by simp[voidB]
theorem fullB_take (l:List ShapeM) (style:Nat) {i:Nat} {s:ShapeM} (h:l[i]?=some s):(fullB l style).take (i+1)=(fullB l style).take i++[s.band i style (s.W * s.H)]:=by
 rw[List.take_add_one]
 congr 1
 simp[fullB,h]
theorem voidB_take (l:List ShapeM) {i:Nat} {s:ShapeM} (h:l[i]?=some s):(voidB l).take (i+1)=(voidB l).take i++[s.new]:=by
 rw[List.take_add_one]
 congr 1
 simp[voidB,h]
structure MkG where
 La:List (BandA × BandM)
 Lb:List (BandA × BandM)
 Lc:List (Nat × BandM)
 Ld:List (Nat × BandM)
 H1:List HB
 H2:List HB
 H3:List HB
 H4:List HB
 B1:List HB
 B2:List HB
 B3:List HB
 B4:List HB
structure MkG.ok (G:MkG) (l:List ShapeM) (style i:Nat) (va vb vc vd:Value):Prop where
 ra:ListH va (G.La.map (·.1)) G.H1
 rb:ListH vb (G.Lb.map (·.1)) G.H2
 rc:RListH vc (G.Lc.map (·.1)) G.H3
 rd:RListH vd (G.Ld.map (·.1)) G.H4
 ba:BandsL G.La G.B1
 bb:BandsL G.Lb G.B2
 bc:RBandsL G.Lc G.B3
 bd:RBandsL G.Ld G.B4
 ma:G.La.map (·.2)=(fullB l style).take i
 mb:G.Lb.map (·.2)=(voidB l).take i
 mc:G.Lc.map (·.2)=(fullB l style).take i
 md:G.Ld.map (·.2)=(voidB l).take i
def MkG.heap (G:MkG):List HB:=G.H1++(G.H2++(G.H3++(G.H4++(G.B1++(G.B2++(G.B3++G.B4))))))
theorem MkG.ok.lens {G:MkG} {l:List ShapeM} {style i:Nat} {va vb vc vd:Value} (h:G.ok l style i va vb vc vd) (hi:i≤l.length):G.La.length=i∧G.Lb.length=i∧G.Lc.length=i∧G.Ld.length=i:=by
 have h1:=congrArg List.length h.ma
 have h2:=congrArg List.length h.mb
 have h3:=congrArg List.length h.mc
 have h4:=congrArg List.length h.md
 simp only[List.length_map,List.length_take,fullB_length,voidB_length] at h1 h2 h3 h4
 omega
end
end Go.Proofs.YtjngfhgakokejaaGreat
