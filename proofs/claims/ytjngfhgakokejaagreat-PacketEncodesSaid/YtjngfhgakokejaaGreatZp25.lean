/- A law's numbers and shapes, as they read; waveletlaw8: within, Values. packet.take: whole. The bands' numbers do not count: packets of bands that hold the same. Plain. Rows of bands, each with its model. What the law's Make makes. PacketTwins, plain: packets keep bands good; two rows of bands that hold the same. How many passes were said, packet by packet. Plain. waveletref15's Encode: the first loop: the trees are set; is there anything new? waveletref15's Encode: the second loop: the blocks are said. -/
import Derived.Test.YtjngfhgakokejaaGreatZp19
import Derived.Test.YtjngfhgakokejaaGreatZp18
import Derived.Test.YtjngfhgakokejaaGreatZp15
import Derived.Test.YtjngfhgakokejaaGreatZp22
import Derived.Test.YtjngfhgakokejaaGreatZp17
import Derived.Test.YtjngfhgakokejaaGreatZp23
import Derived.Test.YtjngfhgakokejaaGreatZp12
import Derived.Test.YtjngfhgakokejaaGreatZp02
import Derived.Test.YtjngfhgakokejaaGreatZp24
set_option maxRecDepth 100000
set_option maxHeartbeats 8000000
namespace Go.Proofs.YtjngfhgakokejaaGreat
section
open Go.RowKit
def RdI (w:World) (v:Value) (xs:List Int):Prop :=
 ∃ (a:Option Addr) (cap:Nat),v=.slice a xs.length cap∧xs.length≤cap∧cap≤maxLen ∧
  ∀ k x,xs[k]?=some x→∃ b o,a=some ⟨b,o,none⟩∧w.cell? ⟨b,o+k,none⟩=some (.int .i64 x)
theorem RdI.keep {w w':World} {v:Value} {xs:List Int} (h:RdI w v xs) (hb:Below w.heap.size w w'):RdI w' v xs:=by
 obtain ⟨a,cap,rfl,h1,h2,h3⟩:=h
 refine ⟨a,cap,rfl,h1,h2,fun k x hx=>?_⟩
 obtain ⟨b,o,rfl,hc⟩:=h3 k x hx
 exact ⟨b,o,rfl,(hb.cell (World.block_lt_of_cell? w _ hc)).trans hc⟩
def RdS (w:World) (v:Value) (l:List ShapeM):Prop :=
 ∃ (a:Option Addr) (cap:Nat),v=.slice a l.length cap∧l.length≤cap∧cap≤maxLen ∧
  ∀ k s,l[k]?=some s→∃ b o vp vn,a=some ⟨b,o,none⟩∧w.cell? ⟨b,o+k * 5,none⟩=some (.int .i64 s.w)∧w.cell? ⟨b,o+k * 5+1,none⟩=some (.int .i64 s.h)∧w.cell? ⟨b,o+k * 5+2,none⟩=some (.int .i64 s.spare) ∧
   w.cell? ⟨b,o+k * 5+3,none⟩=some vp∧w.cell? ⟨b,o+k * 5+4,none⟩=some vn∧RdI w vp s.planes∧RdI w vn s.ns
theorem RdS.keep {w w':World} {v:Value} {l:List ShapeM} (h:RdS w v l) (hb:Below w.heap.size w w'):RdS w' v l:=by
 obtain ⟨a,cap,rfl,h1,h2,h3⟩:=h
 refine ⟨a,cap,rfl,h1,h2,fun k x hx=>?_⟩
 obtain ⟨b,o,vp,vn,rfl,c0,c1,c2,c3,c4,r1,r2⟩:=h3 k x hx
 have g:∀ (j:Nat) (u:Value),w.cell? ⟨b,j,none⟩=some u→w'.cell? ⟨b,j,none⟩=some u:=fun j u hc=>(hb.cell (World.block_lt_of_cell? w _ hc)).trans hc
 exact ⟨b,o,vp,vn,rfl,g _ _ c0,g _ _ c1,g _ _ c2,g _ _ c3,g _ _ c4,r1.keep hb,r2.keep hb⟩
theorem within8 (x n:Int) (w:World) (h3:1≤n) (h4:n≤1000000) :
  Calls Tryz.prog 65 #[.int .i64 x,.int .i64 n] w fun e w'=>e=.returned (.int .i64 (x % n))∧w'=w:=by
 obtain ⟨h5,h6⟩:=tmod_bd x n h3
 have E:=Lib.hid (tmod_adj x n h3)
 go_enter Tryz.func65,Tryz.ntmps65
 go_wp2
 all_goals go_ret
 ·exact ⟨by rw [← E.out,if_pos (by assumption)];rfl,rfl⟩
 ·exact ⟨by rw [← E.out,if_neg (by omega)];rfl,rfl⟩
theorem within8W (x:Int) (n:Nat) (w:World) (h3:1≤n) (h4:n≤1000000) :
  Calls Tryz.prog 65 #[.int .i64 x,.int .i64 (n:Int)] w fun e w'=>e=.returned (.int .i64 (wIn x n:Nat))∧w'=w:=by
 rw [wIn_cast x h3]
 exact within8 x n w (by omega) (by omega)
theorem within15W (x:Int) (n:Nat) (w:World) (h3:1≤n) (h4:n≤1000000) :
  Calls Tryz.prog 8 #[.int .i64 x,.int .i64 (n:Int)] w fun e w'=>e=.returned (.int .i64 (wIn x n:Nat))∧w'=w:=by
 rw [wIn_cast x h3]
 exact within15 x n w (by omega) (by omega)
theorem flat_int15:(List.replicate 15 (Value.int .i64 0).cells.toList).flatten=(List.replicate 15 (0:Int)).map (Value.int .i64):=by rw [flat_int];rfl
theorem valsM_length (n:Nat) (ns:List Int):(valsM n ns).length=15:=by simp [valsM]
theorem valsM_get (n:Nat) (ns:List Int) {i:Nat} (hi:i<15):(valsM n ns)[i]?=some (valM n ns i):=by simp [valsM,hi]
theorem midI_get0 (l:List Int) (i:Nat) (hi:i<l.length):(midI l i)[i]?=some 0:=by
 unfold midI
 rw [List.getElem?_append_right (by rw [List.length_take];omega),List.length_take,show i - min i l.length=0 by omega,List.getElem?_replicate,if_pos (by omega)]
theorem set_same {α:Type} {l:List α} {i:Nat} {x:α} (h:l[i]?=some x):l.set i x=l:=by
 apply List.ext_getElem?
 intro j
 rw [List.getElem?_set]
 split
 ·rename_i e
  subst e
  rw [if_pos (List.getElem?_eq_some_iff.1 h).1,h]
 ·rfl
theorem midI_skip (l:List Int) (i:Nat) (h:l[i]?=some 0):midI l (i+1)=midI l i:=by
 rw [← midI_set l i h]
 have hi:=(List.getElem?_eq_some_iff.1 h).1
 have h0:=midI_get0 l i hi
 exact set_same h0
theorem pow_w64 (p:Nat) (hp:p≤12):wrap64 ((2:Int) ^ p)=((2 ^ p:Nat):Int):=by
 have key:∀ q<13,wrap64 ((2:Int) ^ q)=((2 ^ q:Nat):Int):=by decide +kernel
 exact key p (by omega)
theorem valM_eq (n:Nat) (ns:List Int) (j L q r:Nat) (x:Int) (hL:ns.length=L) (h0:0<L) (hq:j % L=q) (hr:j / L=r) (hx:ns[q]?=some x) (p:Nat) (hp:wIn (wrap64 (Int.tdiv x 7)) (n+1)=p) (m:Nat) (hm:wIn (wrap64 (wrap64 (Int.tdiv x 64)+(j:Int))) (2 ^ p)=m) (c:Nat) (hc:wIn (wrap64 (x+(r:Int))) 5=c) :
  valM n ns j=if c<2 then (m:Int) else if c<4 then -(m:Int) else 0:=by
 have e:ns.getD q 0=x:=by rw [List.getD_eq_getElem?_getD,hx];rfl
 unfold valM
 rw [hL,if_neg (by omega),hq,e,hr]
 simp only [hp,hm,hc]
theorem vals_zero (n:Nat) (ns:List Int) (h:ns.length=0):valsM n ns=midI (valsM n ns) 0:=by
 rw [midI_zero,valsM_length]
 apply List.ext_getElem?
 intro i
 by_cases hi:i<15
 ·rw [valsM_get n ns hi,List.getElem?_replicate,if_pos hi]
  unfold valM
  rw [if_pos h]
 ·rw [List.getElem?_eq_none (by rw [valsM_length];omega),List.getElem?_eq_none (by simp;omega)]
theorem values_any (n:Nat) (hn:n≤12) (ns:List Int) (v:Value) (W:World) (hv:RdI W v ns) :
  Calls Tryz.prog 18 #[.int .i64 3,.int .i64 5,.int .i64 (n:Int),v] W fun e W'=>∃ g,e=.returned (.slice (some ⟨g,0,none⟩) 15 15)∧Mv W [] W' [rowI g (valsM n ns)]:=by
 obtain ⟨i0,hi,hz0,hz1,hz2⟩:=info_parts infoI
 have hm:(Instr.makeSlice 38 (.int .i64 15) (.int .i64 15)).run Tryz.prog W=.ok (.slice (some ⟨W.heap.size,0,none⟩) 15 15) _:=run_made (P:=Tryz.prog) 38 3 i0 _ 1 8 15 Tryz.underlying38 hi hz0 hz1 hz2 rfl (by decide) (by decide) (by decide) W
 rw [flat_int15] at hm
 have M0:Mv W [] (W.alloc (.cells ((List.replicate 15 (0:Int)).map (Value.int .i64)).toArray 3)) [rowI W.heap.size (midI (valsM n ns) 0)]:=by
  rw [midI_zero,valsM_length]
  exact mv_alloc W 3 ((List.replicate 15 (0:Int)).map (Value.int .i64)).toArray
 obtain ⟨g,hg⟩:∃ g,W.heap.size=g:=⟨_,rfl⟩
 obtain ⟨w1,hw1⟩:∃ w1,W.alloc (.cells ((List.replicate 15 (0:Int)).map (Value.int .i64)).toArray 3)=w1:=⟨_,rfl⟩
 have M1:Mv W [] w1 [rowI W.heap.size (midI (valsM n ns) 0)]:=by rw [← hw1];exact M0
 rw [hw1] at hm
 rw [hg] at hm M1
 have K1:=Lib.hid M1
 obtain ⟨A,c,rfl,hv1,hv2,hv3⟩:=hv
 obtain ⟨L,hL⟩:∃ L,ns.length=L:=⟨_,rfl⟩
 have HV:=Lib.hid (And.intro hL hv3)
 have HL:=Lib.hid hL
 rw [hL] at hv1 ⊢
 have hL2:L≤9223372036854775807:=by unfold maxLen at hv2;omega
 clear M0 M1 hw1 hi hz0 hz1 hz2 hv3 hL hg hv1 hv2
 go_enter Tryz.func18,Tryz.ntmps18
 go_wp2_with fail
 go_loopg [10] 15 (fun mm s10 wx=>∃ j:Nat,j≤15∧mm=15 - j∧s10=.int .i64 (j:Int)∧(L=0→j=0)∧Mv W [] wx [rowI g (midI (valsM n ns) j)])
 case atStart=>exact ⟨0,by decide,rfl,rfl,fun _=>rfl,K1.out⟩
 case round =>
  clear K1
  obtain ⟨j,hj,rfl,rfl,hL0,m⟩:=hrel
  by_cases hlt:j<15∧0<L
  ·obtain ⟨h1,h2⟩:=hlt
   have d1:decide ((j:Int)<15)=true:=by simp;omega
   have d2:decide (0<(L:Int))=true:=by simp;omega
   have hq:=Nat.mod_lt j h2
   obtain ⟨q,hq2⟩:∃ q,j % L=q:=⟨_,rfl⟩
   rw [hq2] at hq
   obtain ⟨x,hx⟩:∃ x,ns[q]?=some x:=⟨_,List.getElem?_eq_getElem (by rw [HV.out.1];exact hq)⟩
   obtain ⟨b,o,rfl,hc0⟩:=HV.out.2 q x hx
   have hc:=m.old hc0 (World.block_lt_of_cell? W _ hc0)
   have E1:(j:Int) % (L:Int)=(q:Int):=by rw [← hq2];push_cast;rfl
   have KM:=Lib.hid m
   clear m hm HV hc0
   have W1:=Lib.hid fun V=>within8W (wrap64 (Int.tdiv x 7)) (n+1) V (by omega) (by omega)
   obtain ⟨p,hp⟩:∃ p,wIn (wrap64 (Int.tdiv x 7)) (n+1)=p:=⟨_,rfl⟩
   have hp12:p≤12:=by
    have:=wIn_lt (wrap64 (Int.tdiv x 7)) (n:=n+1) (by omega)
    omega
   rw [hp] at W1
   simp only [Int.natCast_add,Int.cast_ofNat_Int] at W1
   go_upto_region 7 with (go_at_call 65;(with_reducible refine (W1.out _).mono ?_);rintro e w' ⟨rfl,rfl⟩)
   have hp2:1≤2 ^ p∧2 ^ p≤1000000:=by
    have h3:2 ^ p≤2 ^ 12:=Nat.pow_le_pow_right (by decide) hp12
    exact ⟨Nat.pow_pos (by decide),Nat.le_trans h3 (by decide)⟩
   have W2:=Lib.hid fun V=>within8W (wrap64 (wrap64 (Int.tdiv x 64)+(j:Int))) (2 ^ p) V hp2.1 hp2.2
   rw [← pow_w64 p hp12] at W2
   obtain ⟨mv,hmv⟩:∃ mv,wIn (wrap64 (wrap64 (Int.tdiv x 64)+(j:Int))) (2 ^ p)=mv:=⟨_,rfl⟩
   have hmv2:mv<4096:=by
    have h3:=wIn_lt (wrap64 (wrap64 (Int.tdiv x 64)+(j:Int))) hp2.1
    have h4:2 ^ p≤2 ^ 12:=Nat.pow_le_pow_right (by decide) hp12
    have h5:(2:Nat) ^ 12=4096:=rfl
    omega
   rw [hmv] at W2
   obtain ⟨r,hr⟩:∃ r,j / L=r:=⟨_,rfl⟩
   have hr2:r≤15:=by
    have:=Nat.div_le_self j L
    omega
   have E2:(j:Int) / (L:Int)=(r:Int):=by rw [← hr];push_cast;rfl
   have W3:=Lib.hid fun V=>within8W (wrap64 (x+(r:Int))) 5 V (by decide) (by decide)
   obtain ⟨cs,hcs⟩:∃ cs,wIn (wrap64 (x+(r:Int))) 5=cs:=⟨_,rfl⟩
   have hcs2:cs<5:=by
    have h3:=wIn_lt (wrap64 (x+(r:Int))) (n:=5) (by decide)
    omega
   rw [hcs] at W3
   simp only [Int.cast_ofNat_Int] at W3
   have HVAL:=Lib.hid (valM_eq n ns j L q r x HL.out h2 hq2 hr hx p hp mv hmv cs hcs)
   clear hp hmv hr hcs hp2 hx hq2
   go_upto_region 8 with (go_at_call 65;(with_reducible refine (W2.out _).mono ?_);rintro e w' ⟨rfl,rfl⟩)
   have MS:=Lib.hid (KM.out.set (R:=[]) j)
   have zc:w'.cell? ⟨g,j,none⟩=some (.int .i64 0):=by
    refine (KM.out.cell 0 rfl j).trans ?_
    simp only [List.getElem?_toArray,List.getElem?_map]
    rw [midI_get0 _ _ (by rw [valsM_length];exact h1)]
    rfl
   have zf:w'.frozen? ⟨g,j,none⟩=false:=KM.out.frozen 0 rfl j
   have NX:Hid (∀ v:Int,valM n ns j=v→Mv W [] (w'.setCell ⟨g,j,none⟩ (.int .i64 v)) [rowI g (midI (valsM n ns) (j+1))]):=Lib.hid (by
    intro v hv
    have h3:=KM.out.set (R:=[]) j (.int .i64 v)
    rw [show (rowI g (midI (valsM n ns) (j+1)))=⟨g,3,(rowI g (midI (valsM n ns) j)).cs.setIfInBounds j (.int .i64 v)⟩ by rw [rowI_set,midI_set _ _ (by rw [valsM_get n ns h1,hv])];rfl]
    exact h3)
   have KN:Hid (valM n ns j=0→Mv W [] w' [rowI g (midI (valsM n ns) (j+1))]):=Lib.hid (by
    intro hv
    rw [midI_skip _ _ (by rw [valsM_get n ns h1,hv])]
    exact KM.out)
   clear KM MS W1 W2 hc
   obtain h5 | h5 | h5 | h5 | h5:cs=0∨cs=1∨cs=2∨cs=3∨cs=4:=by omega
   all_goals
    subst h5
    clear hcs2
    go_wp2_with (go_at_call 65;(with_reducible refine (W3.out _).mono ?_);rintro e w2 ⟨rfl,rfl⟩)
    go_roundg (15 - (j+1))
    case measure=>omega
    case rel=>exact ⟨j+1,h1,rfl,by push_cast;rfl,by omega,by first | exact NX.out _ (by rw [HVAL.out];rfl) | exact KN.out (by rw [HVAL.out];rfl)⟩
  ·have hex:midI (valsM n ns) j=valsM n ns:=by
    by_cases h2:L=0
    ·rw [hL0 h2]
     exact (vals_zero n ns (by rw [HL.out,h2])).symm
    ·have hj15:j=15:=by omega
     rw [hj15]
     have:=midI_all (valsM n ns)
     rw [valsM_length] at this
     exact this
   rw [hex] at m
   have KM:=Lib.hid m
   clear m hex HV hm
   have hlt2:j<15→L=0:=fun h=>by omega
   by_cases h1:j<15
   ·have d1:decide ((j:Int)<15)=true:=by simp;omega
    obtain rfl:L=0:=hlt2 h1
    go_wp2_with fail
    go_ret
    exact ⟨g,rfl,KM.out⟩
   ·have d1:decide ((j:Int)<15)=false:=by simp;omega
    go_wp2_with fail
    go_ret
    exact ⟨g,rfl,KM.out⟩
end
section
open Go.RowKit
theorem take_set {b:BandG} {d:BandA} {k:Nat} {s1 s2:StG} {w0 V:World} {H0 A R:List HB} (hk:k<b.G.length) (m:Mv w0 H0 V (A++⟨d.lb,69,((b.G.set k s1).flatMap StG.v).toArray⟩::R)) (i:Nat) (x:Value) (hi:i<5) (hv:s2.v=s1.v.set i x) :
  Mv w0 H0 (V.setCell ⟨d.lb,k * 5+i,none⟩ x) (A++⟨d.lb,69,((b.G.set k s2).flatMap StG.v).toArray⟩::R):=by
 have m2:=Mv.setAt m (k * 5+i) x
 have e:((b.G.set k s1).flatMap StG.v).toArray.setIfInBounds (k * 5+i) x=((b.G.set k s2).flatMap StG.v).toArray:=by
  rw [List.setIfInBounds_toArray,flat_set StG.v 5 StG.v_length (b.G.set k s1) k s1 _ (List.getElem?_set_self hk) i hi x hv,List.set_set]
 rw [e] at m2
 exact m2
end
section
structure Ren (D:List BandA) (r:BandA→BandA):Prop where
 n:∀ d∈D,(r d).n=d.n
 inj:∀ d∈D,∀ e∈D,((r e).bb=(r d).bb↔e.bb=d.bb)
section
variable {D:List BandA} {r:BandA→BandA} (hr:Ren D r)
include hr
end
end
section
open Go.RowKit
def BandsL:List (BandA × BandM)→List HB→Prop
 | [],H=>H=[]
 | p::L,H=>∃ H1 H2,H=H1++H2∧BandR p.1 p.2 H1∧BandsL L H2
theorem BandsL.snoc {L:List (BandA × BandM)} {H H1:List HB} {d:BandA} {m:BandM} (h:BandsL L H) (hb:BandR d m H1):BandsL (L++[(d,m)]) (H++H1):=by
 induction L generalizing H with
 | nil=>cases h;exact ⟨H1,[],by simp,hb,rfl⟩
 | cons p L ih =>
  obtain ⟨A,B,rfl,h1,h2⟩:=h
  exact ⟨A,B++H1,by rw [List.append_assoc],h1,ih h2⟩
theorem BandsL.key {L:List (BandA × BandM)} {H:List HB} (h:BandsL L H) {p:BandA × BandM} (hp:p∈L):p.1.bb∈keys H:=by
 induction L generalizing H with
 | nil=>cases hp
 | cons q L ih =>
  obtain ⟨A,B,rfl,h1,h2⟩:=h
  rw [keys_append,List.mem_append]
  rcases List.mem_cons.1 hp with rfl | hp
  ·exact .inl h1.key
  ·exact .inr (ih h2 hp)
theorem BandsL.nodup {L:List (BandA × BandM)} {H:List HB} (h:BandsL L H) (hk:(keys H).Nodup):(L.map (·.1.bb)).Nodup:=by
 induction L generalizing H with
 | nil=>exact List.nodup_nil
 | cons q L ih =>
  obtain ⟨A,B,rfl,h1,h2⟩:=h
  rw [keys_append] at hk
  obtain ⟨k1,k2,k3⟩:=List.nodup_append.1 hk
  rw [List.map_cons,List.nodup_cons]
  refine ⟨fun hm=>?_,ih h2 k2⟩
  obtain ⟨p,hp,e⟩:=List.mem_map.1 hm
  exact k3 _ h1.key _ (h2.key hp) e.symm
def modelL:List (BandA × BandM)→Nat→BandM
 | [],_=>newBandM 0 0 0
 | p::L,b=>if b=p.1.bb then p.2 else modelL L b
theorem modelL_mem {L:List (BandA × BandM)} (hn:(L.map (·.1.bb)).Nodup) {p:BandA × BandM} (hp:p∈L):modelL L p.1.bb=p.2:=by
 induction L with
 | nil=>cases hp
 | cons q L ih =>
  rw [List.map_cons,List.nodup_cons] at hn
  unfold modelL
  rcases List.mem_cons.1 hp with rfl | hp
  ·rw [if_pos rfl]
  ·rw [if_neg fun e=>hn.1 (by rw [← e];exact List.mem_map.2 ⟨p,hp,rfl⟩)]
   exact ih hn.2 hp
theorem BandsL.bandsR {L:List (BandA × BandM)} {H:List HB} (h:BandsL L H) {M:Nat→BandM} (hM:∀ p∈L,M p.1.bb=p.2):BandsR (L.map (·.1)) M H:=by
 induction L generalizing H with
 | nil=>exact h
 | cons q L ih =>
  obtain ⟨A,B,rfl,h1,h2⟩:=h
  exact ⟨A,B,rfl,by rw [hM q List.mem_cons_self];exact h1,ih h2 fun p hp=>hM p (List.mem_cons_of_mem _ hp)⟩
def RBandsL:List (Nat × BandM)→List HB→Prop
 | [],H=>H=[]
 | p::L,H=>∃ H1 H2,H=H1++H2∧RBandR p.1 p.2 false false H1∧RBandsL L H2
theorem RBandsL.snoc {L:List (Nat × BandM)} {H H1:List HB} {b:Nat} {m:BandM} (h:RBandsL L H) (hb:RBandR b m false false H1):RBandsL (L++[(b,m)]) (H++H1):=by
 induction L generalizing H with
 | nil=>cases h;exact ⟨H1,[],by simp,hb,rfl⟩
 | cons p L ih =>
  obtain ⟨A,B,rfl,h1,h2⟩:=h
  exact ⟨A,B++H1,by rw [List.append_assoc],h1,ih h2⟩
def RListH (v:Value) (D:List Nat) (H:List HB):Prop:=RowH 47 1 v D.length (D.map fun b=>.pointer (some ⟨b,0,none⟩)) H
theorem infoPb:(Tryz.prog.info? 43).map (fun i=>(i.zero,i.size,i.bytes))=some (some (.pointer none),1,8):=by kernel_rfl
theorem infoRb:(Tryz.prog.info? 47).map (fun i=>(i.zero,i.size,i.bytes))=some (some (.pointer none),1,8):=by kernel_rfl
def fullB (l:List ShapeM) (style:Nat):List BandM:=l.mapIdx fun i s=>s.band i style (s.W * s.H)
def voidB (l:List ShapeM):List BandM:=l.map ShapeM.new
theorem fullB_length (l:List ShapeM) (style:Nat):(fullB l style).length=l.length:=by simp [fullB]
theorem voidB_length (l:List ShapeM):(voidB l).length=l.length:=by simp [voidB]
theorem fullB_take (l:List ShapeM) (style:Nat) {i:Nat} {s:ShapeM} (h:l[i]?=some s):(fullB l style).take (i+1)=(fullB l style).take i++[s.band i style (s.W * s.H)]:=by
 rw [List.take_add_one]
 congr 1
 simp [fullB,h]
theorem voidB_take (l:List ShapeM) {i:Nat} {s:ShapeM} (h:l[i]?=some s):(voidB l).take (i+1)=(voidB l).take i++[s.new]:=by
 rw [List.take_add_one]
 congr 1
 simp [voidB,h]
structure MkG where
 La:List (BandA × BandM)
 Lb:List (BandA × BandM)
 Lc:List (Nat × BandM)
 Ld:List (Nat × BandM)
 H1:List HB
 H2:List HB
 H3:List HB
 H4:List HB
 B1:List HB
 B2:List HB
 B3:List HB
 B4:List HB
structure MkG.ok (G:MkG) (l:List ShapeM) (style i:Nat) (va vb vc vd:Value):Prop where
 ra:ListH va (G.La.map (·.1)) G.H1
 rb:ListH vb (G.Lb.map (·.1)) G.H2
 rc:RListH vc (G.Lc.map (·.1)) G.H3
 rd:RListH vd (G.Ld.map (·.1)) G.H4
 ba:BandsL G.La G.B1
 bb:BandsL G.Lb G.B2
 bc:RBandsL G.Lc G.B3
 bd:RBandsL G.Ld G.B4
 ma:G.La.map (·.2)=(fullB l style).take i
 mb:G.Lb.map (·.2)=(voidB l).take i
 mc:G.Lc.map (·.2)=(fullB l style).take i
 md:G.Ld.map (·.2)=(voidB l).take i
def MkG.heap (G:MkG):List HB:=G.H1++(G.H2++(G.H3++(G.H4++(G.B1++(G.B2++(G.B3++G.B4))))))
theorem MkG.ok.lens {G:MkG} {l:List ShapeM} {style i:Nat} {va vb vc vd:Value} (h:G.ok l style i va vb vc vd) (hi:i≤l.length):G.La.length=i∧G.Lb.length=i∧G.Lc.length=i∧G.Ld.length=i:=by
 have h1:=congrArg List.length h.ma
 have h2:=congrArg List.length h.mb
 have h3:=congrArg List.length h.mc
 have h4:=congrArg List.length h.md
 simp only [List.length_map,List.length_take,fullB_length,voidB_length] at h1 h2 h3 h4
 omega
end
section
open Go.RowKit
def EndsB (m:BandM):Prop:=∀ s∈m.ss,∀ p∈s.ps,0≤p.1∧p.1≤100000000
theorem EndsB.setS {m:BandM} (h:EndsB m) {k:Nat} {s:StM} (hs:m.ss[k]?=some s) (f z:List LevM) (said lb:Int):EndsB { m with first:=f,zeros:=z,ss:=m.ss.set k (s.withS said lb) }:=by
 intro x hx
 rcases List.mem_or_eq_of_mem_set hx with hx | rfl
 ·exact h x hx
 ·exact h s (List.mem_of_getElem? hs)
structure BothB (m:BandM):Prop where
 g:GoodB m
 e:EndsB m
theorem BothB.plant {m:BandM} (h:BothB m) (c:Nat):BothB (plantM c m):=by
 obtain ⟨e1,e2⟩:=plantM_ss c m
 exact ⟨h.g.plant c,by unfold EndsB;rw [e1];exact h.e⟩
theorem BothB.head {m:BandM} (h:BothB m) {k:Nat} {s:StM} (hs:m.ss[k]?=some s) (style layer said to_:Nat):BothB (headM m k style layer said to_ s).1:=by
 refine ⟨h.g.head hs style layer said to_ (h.e s (List.mem_of_getElem? hs)),?_⟩
 unfold headM
 split
 ·exact h.e
 ·exact h.e.setS hs _ _ _ _
theorem BothB.said {m:BandM} (h:BothB m) (k to_:Nat):BothB (setSaidM m k to_):=by
 refine ⟨h.g.said k to_,?_⟩
 unfold setSaidM
 split
 ·exact h.e
 ·rename_i s hs
  exact h.e.setS hs m.first m.zeros _ _
theorem both_upd {D:List BandA} {M:Nat→BandM} (h:∀ d∈D,BothB (M d.bb)) (b:Nat) {m:BandM} (hm:BothB m):∀ d∈D,BothB (updM M b m d.bb):=by
 intro d hd
 unfold updM
 split
 ·exact hm
 ·exact h d hd
theorem encM_both (c:Nat) (D:List BandA):∀ (l:List SpotX) (M:Nat→BandM),(∀ x∈l,x.d∈D)→(∀ d∈D,BothB (M d.bb))→∀ d∈D,BothB ((l.foldl (encM c) M) d.bb)
 | [],M,_,h=>h
 | x::l,M,hl,h=>by
  rw [List.foldl_cons]
  exact encM_both c D l _ (fun y hy=>hl y (List.mem_cons_of_mem _ hy)) (both_upd h _ ((h _ (hl x List.mem_cons_self)).plant c))
theorem stepE_both (c st ly:Nat) (D:List BandA) (S:PackS) (x:SpotX) (hx:x.d∈D) (h:∀ d∈D,BothB (S.M d.bb)):∀ d∈D,BothB ((stepE c st ly S x).M d.bb):=by
 unfold stepE
 split
 ·exact h
 ·rename_i s hs
  exact both_upd h _ (((h _ hx).head hs _ _ _ _).said _ _)
theorem foldE_both (c st ly:Nat) (D:List BandA):∀ (l:List SpotX) (S:PackS),(∀ x∈l,x.d∈D)→(∀ d∈D,BothB (S.M d.bb))→∀ d∈D,BothB ((l.foldl (stepE c st ly) S).M d.bb)
 | [],S,_,h=>h
 | x::l,S,hl,h=>by
  rw [List.foldl_cons]
  exact foldE_both c st ly D l _ (fun y hy=>hl y (List.mem_cons_of_mem _ hy)) (stepE_both c st ly D S x (hl x List.mem_cons_self) h)
theorem encS_both (c st ly:Nat) (D:List BandA) (M:Nat→BandM) (h:∀ d∈D,BothB (M d.bb)):∀ d∈D,BothB ((encS c st ly D M).M d.bb):=by
 have hx:∀ x∈spotsOf D,x.d∈D:=fun x h=>(mem_spots h).1
 have h1:=encM_both c D _ M hx h
 unfold encS
 split
 ·exact foldE_both c st ly D _ _ hx h1
 ·exact h1
theorem BandR.n {d:BandA} {m:BandM} {H:List HB} (h:BandR d m H):d.n=m.w * m.h:=by
 obtain ⟨b,rfl,hk,-⟩:=h
 exact hk.n
theorem BandsL.n {L:List (BandA × BandM)} {H:List HB} (h:BandsL L H):∀ p∈L,p.1.n=p.2.w * p.2.h:=by
 induction L generalizing H with
 | nil=>intro p hp;cases hp
 | cons q L ih =>
  obtain ⟨A,B,rfl,h1,h2⟩:=h
  intro p hp
  rcases List.mem_cons.1 hp with rfl | hp
  ·exact h1.n
  ·exact ih h2 p hp
theorem ShapeM.both (s:ShapeM) (i style:Nat):BothB (s.band i style (s.W * s.H))∧(s.band i style (s.W * s.H)).w=s.W∧(s.band i style (s.W * s.H)).h=s.H:=by
 obtain ⟨h1,h2,h3,h4,h5,h6,h7,h8,h9⟩:=s.band_ss i style (s.W * s.H) (Nat.le_refl _)
 have hl:=s.lt
 refine ⟨⟨⟨by rw [h3];omega,fun x hx=>?_⟩,fun x hx=>?_⟩,h4,h5⟩
 ·rcases h9 x hx with rfl | ⟨j,hj,rfl⟩
  ·exact ⟨by simp [stNew],by simp [stNew],by simp [stNew]⟩
  ·obtain ⟨b1,b2,b3,b4⟩:=geoV_bounds (i % 4) style (s.n j) s.ns (s.n_le j)
   exact ⟨⟨by show 0≤((s.blk i style j).planes:Int);omega,by show ((s.blk i style j).planes:Int)≤60;unfold ShapeM.blk;omega⟩,by show (3:Int)≤100;decide,by show (s.blk i style j).bytes.length≤300000;unfold ShapeM.blk;omega⟩
 ·rcases h9 x hx with rfl | ⟨j,hj,rfl⟩
  ·intro p hp;simp [stNew] at hp
  ·obtain ⟨b1,b2,b3,b4⟩:=geoV_bounds (i % 4) style (s.n j) s.ns (s.n_le j)
   intro p hp
   have:=b4 p hp
   omega
theorem fullB_both (l:List ShapeM) (style:Nat):∀ m∈fullB l style,BothB m∧m.w * m.h≤9:=by
 intro m hm
 obtain ⟨i,hi⟩:=List.getElem?_of_mem hm
 simp only [fullB,List.getElem?_mapIdx] at hi
 obtain ⟨s,-,rfl⟩:=Option.map_eq_some_iff.1 hi
 obtain ⟨h1,h2,h3⟩:=s.both i style
 refine ⟨h1,?_⟩
 rw [h2,h3]
 have hl:=s.lt
 exact Nat.mul_le_mul (show s.W≤3 by omega) (show s.H≤3 by omega)
theorem spots_few:∀ (D:List BandA),(∀ d∈D,d.n≤9)→(spotsOf D).length≤D.length * 9
 | [],_=>by simp [spotsOf]
 | d::D,h=>by
  have h1:=spots_few D fun e he=>h e (List.mem_cons_of_mem _ he)
  have h2:=h d List.mem_cons_self
  unfold spotsOf at h1 ⊢
  rw [List.flatMap_cons,List.length_append,List.length_cons]
  have h3:(spotsB d d.n).length=d.n:=by simp [spotsB]
  omega
end
section
open Go.RowKit
theorem passN_mono (t c l:Nat):passN (t:Int) (c:Int) (l:Int)≤passN (t:Int) (c:Int) ((l:Int)+1):=by
 have h0:=(passN_le (t:Int) (c:Int) ((l:Int)+1)).1
 unfold passN at h0 ⊢
 by_cases h1:(l:Int)<1
 ·rw [if_pos h1];exact h0
 ·rw [if_neg h1,if_neg (show ¬ (l:Int)+1<1 by omega)]
  by_cases h2:(c:Int)<1
  ·rw [if_pos h2,if_pos h2];exact Int.le_refl _
  ·rw [if_neg h2,if_neg h2]
   have hT:0≤min (max (t:Int) 0) 100:=by omega
   have hm:1≤min (c:Int) 100:=by omega
   by_cases h3:(c:Int)<(l:Int)
   ·rw [if_pos h3,if_pos (show (c:Int)<(l:Int)+1 by omega)];exact Int.le_refl _
   ·rw [if_neg h3]
    generalize min (max (t:Int) 0) 100=T at *
    by_cases h4:(c:Int)<(l:Int)+1
    ·rw [if_pos h4]
     have h5:min (l:Int) 100≤min (c:Int) 100:=by omega
     have h6:T * min (l:Int) 100≤T * min (c:Int) 100:=Int.mul_le_mul_of_nonneg_left h5 hT
     exact Int.ediv_le_of_le_mul (by omega) h6
    ·rw [if_neg h4]
     have h5:min (l:Int) 100≤min ((l:Int)+1) 100:=by omega
     exact Int.ediv_le_ediv (by omega) (Int.mul_le_mul_of_nonneg_left h5 hT)
def donePre (pre:List SpotX) (d:BandA) (k:Nat):Bool:=pre.any fun x=>x.d.bb == d.bb && x.k == k
theorem donePre_snoc (pre:List SpotX) (x:SpotX) (d:BandA) (k:Nat):donePre (pre++[x]) d k=(donePre pre d k || (x.d.bb == d.bb && x.k == k)):=by
 unfold donePre
 rw [List.any_append]
 simp
def SaidInv (count layer:Nat) (D:List BandA) (pre:List SpotX) (M:Nat→BandM):Prop:=∀ d∈D,∀ (k:Nat) (s:StM),(M d.bb).ss[k]?=some s→s.said=passN (s.ps.length:Int) (count:Int) (if donePre pre d k=true then (layer:Int)+1 else (layer:Int))
theorem said_ss (m:BandM) (k style layer from_ to_:Nat) {s:StM} (h:m.ss[k]?=some s):∃ y,(setSaidM (headM m k style layer from_ to_ s).1 k to_).ss=m.ss.set k y∧y.said=(to_:Int)∧y.ps=s.ps:=by
 have hk:=(List.getElem?_eq_some_iff.1 h).1
 unfold headM
 by_cases e:to_=from_
 ·rw [if_pos e]
  unfold setSaidM
  simp only [h]
  exact ⟨_,rfl,rfl,rfl⟩
 ·rw [if_neg e]
  unfold setSaidM
  simp only [List.getElem?_set_self hk]
  refine ⟨s.withS (to_:Int) (needM s style from_ to_),?_,rfl,rfl⟩
  rw [List.set_set]
  rfl
theorem SaidInv.step {count layer:Nat} {D:List BandA} {pre:List SpotX} {S:PackS} (h:SaidInv count layer D pre S.M) (style:Nat) {x:SpotX} (_hx:x.d∈D):SaidInv count layer D (pre++[x]) (stepE count style layer S x).M:=by
 intro d hd k s' hs'
 rw [donePre_snoc]
 unfold stepE at hs'
 cases hs:(S.M x.d.bb).ss[x.k]? with
 | none =>
  simp only [hs] at hs'
  have hne:(x.d.bb == d.bb && x.k == k)=false:=by
   cases hb:(x.d.bb == d.bb && x.k == k) with
   | false=>rfl
   | true =>
    simp only [Bool.and_eq_true,beq_iff_eq] at hb
    rw [hb.1,hb.2,hs'] at hs
    cases hs
  rw [hne,Bool.or_false]
  exact h d hd k s' hs'
 | some s =>
  simp only [hs] at hs'
  obtain ⟨y,e1,e2,e3⟩:=said_ss (S.M x.d.bb) x.k style layer s.said.toNat (toM count layer s) hs
  by_cases hb:d.bb=x.d.bb
  ·rw [hb,updM_same,e1] at hs'
   by_cases hk:x.k=k
   ·subst hk
    rw [List.getElem?_set_self (List.getElem?_eq_some_iff.1 hs).1] at hs'
    cases Option.some.inj hs'
    have ed:(x.d.bb == d.bb && x.k == x.k)=true:=by simp [hb]
    rw [ed,Bool.or_true,if_pos rfl,e2,e3]
    have hsd:=h d hd x.k s (by rw [hb];exact hs)
    have hm:=passN_mono s.ps.length count layer
    have h1:=(passN_le (s.ps.length:Int) (count:Int) (layer:Int)).1
    have h2:s.said≤passN (s.ps.length:Int) (count:Int) ((layer:Int)+1)∧0≤s.said:=by
     rw [hsd]
     split
     ·exact ⟨Int.le_refl _,(passN_le _ _ _).1⟩
     ·exact ⟨hm,h1⟩
    unfold toM
    omega
   ·rw [List.getElem?_set_ne hk] at hs'
    have ed:(x.d.bb == d.bb && x.k == k)=false:=by simp [hk]
    rw [ed,Bool.or_false]
    exact h d hd k s' (by rw [hb];exact hs')
  ·rw [updM_other _ _ hb] at hs'
   have ed:(x.d.bb == d.bb && x.k == k)=false:=by
    have:(x.d.bb == d.bb)=false:=by simp;exact fun e=>hb e.symm
    rw [this];rfl
   rw [ed,Bool.or_false]
   exact h d hd k s' hs'
theorem SaidInv.fold {count layer:Nat} {D:List BandA} (style:Nat):∀ (l pre:List SpotX) (S:PackS),SaidInv count layer D pre S.M→(∀ x∈l,x.d∈D)→SaidInv count layer D (pre++l) (l.foldl (stepE count style layer) S).M
 | [],pre,S,h,_=>by rw [List.append_nil];exact h
 | x::l,pre,S,h,hl=>by
  have:=SaidInv.fold style l (pre++[x]) _ (h.step style (hl x List.mem_cons_self)) fun y hy=>hl y (List.mem_cons_of_mem _ hy)
  rw [List.append_assoc] at this
  exact this
theorem stepE_len (count style layer:Nat) (S:PackS) (x:SpotX) (b:Nat):((stepE count style layer S x).M b).ss.length=(S.M b).ss.length:=by
 unfold stepE
 cases hs:(S.M x.d.bb).ss[x.k]? with
 | none=>rfl
 | some s =>
  simp only
  obtain ⟨y,e1,-⟩:=said_ss (S.M x.d.bb) x.k style layer s.said.toNat (toM count layer s) hs
  by_cases hb:b=x.d.bb
  ·rw [hb,updM_same,e1,List.length_set]
  ·rw [updM_other _ _ hb]
theorem foldE_len (count style layer:Nat) (b:Nat):∀ (l:List SpotX) (S:PackS),((l.foldl (stepE count style layer) S).M b).ss.length=(S.M b).ss.length
 | [],_=>rfl
 | x::l,S=>by rw [List.foldl_cons,foldE_len count style layer b l,stepE_len]
theorem moreM_some {count layer:Nat} {M:Nat→BandM} {l:List SpotX} (h:moreM count layer M l=false) {x:SpotX} (hx:x∈l):newB count layer M x=false:=by
 unfold moreM at h
 rw [List.any_eq_false] at h
 simpa using h x hx
theorem mem_spotsOf {D:List BandA} {d:BandA} (hd:d∈D) {k:Nat} (hk:k<d.n):(⟨d,k⟩:SpotX)∈spotsOf D:=by
 unfold spotsOf
 rw [List.mem_flatMap]
 exact ⟨d,hd,List.mem_map.2 ⟨k,List.mem_range.2 hk,rfl⟩⟩
theorem encS_said (count style layer:Nat) (D:List BandA) (M:Nat→BandM) (h:SaidInv count layer D [] M) (hn:∀ d∈D,(M d.bb).ss.length=d.n):SaidInv count (layer+1) D [] (encS count style layer D M).M:=by
 have h1:SaidInv count layer D [] ((spotsOf D).foldl (encM count) M):=by
  intro d hd k s hs
  rw [encM_ss] at hs
  exact h d hd k s hs
 intro d hd k s hs
 have e0:(if donePre [] d k=true then ((layer+1:Nat):Int)+1 else ((layer+1:Nat):Int))=(layer:Int)+1:=by
  rw [if_neg (by simp [donePre])];push_cast;rfl
 rw [e0]
 unfold encS at hs
 by_cases hm:moreM count layer M (spotsOf D)=true
 ·rw [if_pos hm] at hs
  have h2:=SaidInv.fold style (spotsOf D) [] ⟨(spotsOf D).foldl (encM count) M,[true],[]⟩ h1 (fun x hx=>(mem_spots hx).1)
  have h3:=h2 d hd k s hs
  have hk:=(List.getElem?_eq_some_iff.1 hs).1
  rw [foldE_len,encM_ss,hn d hd] at hk
  rw [List.nil_append,if_pos ?_] at h3
  ·exact h3
  ·unfold donePre
   rw [List.any_eq_true]
   exact ⟨⟨d,k⟩,mem_spotsOf hd hk,by simp⟩
 ·rw [if_neg hm] at hs
  have h3:=h1 d hd k s hs
  rw [if_neg (by simp [donePre])] at h3
  have hk:=(List.getElem?_eq_some_iff.1 hs).1
  simp only [encM_ss] at hs hk
  rw [hn d hd] at hk
  have h4:=moreM_some (Bool.eq_false_iff.2 hm) (mem_spotsOf hd hk)
  unfold newB at h4
  simp only [hs,decide_eq_false_iff_not] at h4
  have:=passN_mono s.ps.length count layer
  omega
theorem SaidInv.round {count layer:Nat} {D:List BandA} {pre:List SpotX} {M:Nat→BandM} (h:SaidInv count layer D pre M) {d:BandA} (hd:d∈D) {k:Nat} (hk:donePre pre d k=false) {s:StM} (hs:(M d.bb).ss[k]?=some s) :
  passN (s.ps.length:Int) (count:Int) (layer:Int)=((s.said.toNat:Nat):Int)∧passN (s.ps.length:Int) (count:Int) ((layer:Int)+1)=((toM count layer s:Nat):Int)∧s.said.toNat≤toM count layer s∧toM count layer s≤s.ps.length:=by
 have h1:=h d hd k s hs
 rw [if_neg (by simp [hk])] at h1
 have h2:=(passN_le (s.ps.length:Int) (count:Int) (layer:Int)).1
 have h3:=passN_mono s.ps.length count layer
 have h4:=passN_le_total s.ps.length (count:Int) ((layer:Int)+1)
 unfold toM
 omega
theorem donePre_fresh {D:List BandA} (hn:(D.map (·.bb)).Nodup) {i:Nat} {d:BandA} (hd:D[i]?=some d) (k:Nat):donePre (spotsOf (D.take i)++(List.range k).map (fun j=>(⟨d,j⟩:SpotX))) d k=false:=by
 unfold donePre
 rw [List.any_eq_false]
 intro x hx
 rcases List.mem_append.1 hx with hx | hx
 ·have h1:=(mem_spots hx).1
  have:x.d.bb≠d.bb:=by
   intro e
   obtain ⟨j,hj,hje⟩:=List.getElem_of_mem h1
   rw [List.length_take] at hj
   have hdl:=List.getElem?_eq_some_iff.1 hd
   rw [List.getElem_take] at hje
   have h2:(D.map (·.bb))[j]'(by rw [List.length_map];omega)=(D.map (·.bb))[i]'(by rw [List.length_map];exact hdl.1):=by
    rw [List.getElem_map,List.getElem_map,hje,hdl.2]
    exact e
   exact (List.pairwise_iff_getElem.1 hn) j i _ _ (by omega) h2
  simp [this]
 ·obtain ⟨j,hj,rfl⟩:=List.mem_map.1 hx
  have:=List.mem_range.1 hj
  simp
  omega
theorem spotsOf_take {D:List BandA} {i:Nat} {d:BandA} (hd:D[i]?=some d):spotsOf (D.take (i+1))=spotsOf (D.take i)++(List.range d.n).map (fun j=>(⟨d,j⟩:SpotX)):=by
 rw [List.take_add_one,hd]
 unfold spotsOf
 rw [List.flatMap_append]
 simp [spotsB]
theorem RBandsQ.mono {P Q:Nat→BandM→List HB→Prop} (hpq:∀ b m H,P b m H→Q b m H):∀ {Bs:List Nat} {D:List BandA} {M:Nat→BandM} {H:List HB},RBandsQ P Bs D M H→RBandsQ Q Bs D M H
 | [],[],_,_,h=>h
 | _b::_bs,_d::_ds,_M,_H,⟨H1,H2,e,h1,h2⟩=>⟨H1,H2,e,hpq _ _ _ h1,RBandsQ.mono hpq h2⟩
 | [],_::_,_,_,h=>h.elim
 | _::_,[],_,_,h=>h.elim
end
section
open Go.RowKit
theorem rlist_at {A:Option Addr} {n c:Nat} {Bs:List Nat} {HL:List HB} (h:RListH (.slice A n c) Bs HL) {i b:Nat} (hb:Bs[i]?=some b):∃ g,A=some ⟨g,0,none⟩∧∀ V,Sat V HL→V.cell? ⟨g,i,none⟩=some (.pointer (some ⟨b,0,none⟩)):=by
 have hi:=(List.getElem?_eq_some_iff.1 hb).1
 obtain ⟨g,cap,cur,hv,-⟩:=RowH.form h (by omega)
 injection hv with h1 h2 h3
 refine ⟨g,h1,fun V hV=>?_⟩
 have e:(Value.slice A n c)=.slice (some ⟨g,0,none⟩) Bs.length c:=by rw [h1,h2]
 have:=(RowH.cell h hV e i (by omega)).1
 rw [this,List.getElem?_map,hb]
 rfl
theorem newB_rel {count layer:Nat} {D:List BandA} {pre:List SpotX} {M:Nat→BandM} (h:SaidInv count layer D pre M) {d:BandA} (hd:d∈D) {k:Nat} (hk:donePre pre d k=false) {s:StM} (hs:(M d.bb).ss[k]?=some s) {f t:Nat} (hf:passN (s.ps.length:Int) (count:Int) (layer:Int)=(f:Int)) (ht:passN (s.ps.length:Int) (count:Int) ((layer:Int)+1)=(t:Int)):newB count layer M ⟨d,k⟩=decide (f<t):=by
 have h1:=h d hd k s hs
 rw [if_neg (by simp [hk])] at h1
 unfold newB
 simp only [hs]
 rw [ht,h1,hf]
 by_cases e:f<t
 ·rw [decide_eq_true e,decide_eq_true (by omega)]
 ·rw [decide_eq_false e,decide_eq_false (by omega)]
theorem renc_b0 (K:Act→World→Prop) (A:Option Addr) (c n count layer:Nat) (Bs:List Nat) (D:List BandA) (M M1:Nat→BandM) (HL HB0 R H0:List HB) (w0 w:World) (s1 s4 s5 s6 s7 s8 s9 s10 s13 s14 s15 s16 s17 s18 s19 s20 s21 s22 s23 s24 s25 s26 s27 s28 s29 s30 s31 s32 s33 s34 s35 s36 s37 s38 s39 s40 s41 s42 s43 s44 s45 s46 s47 s48 s49 s50 s51 s52 s53 s54 s55 s56 s57 s58 s59 s60 s61 s62 s63 s64 s65 s66 s67 s68 s69 s70 s71 s72 s73 s74 s75 s76 s77 s78 s79 s80 s81 s82 s83 s84 s85 s86 s87 s88 s89 s90 s91 s92 s93 s94 s95 s96 s97 s98 s99 s100 s101 s102 s103 s104 s105 s106 s107 s108 s109 s110 s111 s112 s113 s114 s115 s116 s117 s118 s119 s120 s121 s122 s123 s124 s125 s126 s127 s128 s129 s130 s131 s132 s133 s134 s135 s136 s137 s138 s139 s140 s141 s142 s143 s144 s145 s146 s147 s148 s149 s150 s151 s152 s153 s154 s155 s156 s157 s158 s159 s160 s161 s162 s163 s164 s165 s166 s167 s168 s169 s170 s171:Value)
  (hL:RListH (.slice A n c) Bs HL) (hB:RBandsQ RBandA Bs D M HB0) (hM:Mv w0 H0 w (HL++(HB0++R))) (hn:D.length=n) (hn3:n≤1000) (hM1:∀ d∈D,M1 d.bb=plantE count (M d.bb)) (hdn:∀ d∈D,(M d.bb).ss.length=d.n) (hc:1≤count∧count≤100) (hl:layer≤99) (hsd:SaidInv count layer D [] M)
  (hK:∀ (t12 t13 t14 t15 t25 t26 t27 t28 t29 t30 t31 t32 t33 t34 t35 t36 t37 t38 t39 t40 t41 t42 t43 t44 t45 t46 t47 t48 t49 t50 t51 t52 t53 t54 t55 t56 t57 t58 t59 t60 t61 t62 t63 t64 t65 t66 t67 t68 t69 t70:Value) (HB':List HB) (wx:World),RBandsQ RBandP Bs D M1 HB'→Mv w0 H0 wx (HL++(HB'++R))→K ⟨List.toArray ((.slice A n c)::s1::(.int .i64 (count:Int))::(.int .i64 (layer:Int))::s4::s5::s6::s7::s8::s9::s10::(.bool (moreM count layer M (spotsOf D)))::t12::t13::t14::t15::s16::s17::s18::s19::s20::s21::s22::s23::s24::t25::t26::t27::t28::t29::t30::t31::t32::t33::t34::t35::t36::t37::t38::t39::t40::t41::t42::t43::t44::t45::t46::t47::t48::t49::t50::t51::t52::t53::t54::t55::t56::t57::t58::t59::t60::t61::t62::t63::t64::t65::t66::t67::t68::t69::t70::s71::s72::s73::s74::s75::s76::s77::s78::s79::s80::s81::s82::s83::s84::s85::s86::s87::s88::s89::s90::s91::s92::s93::s94::s95::s96::s97::s98::s99::s100::s101::s102::s103::s104::s105::s106::s107::s108::s109::s110::s111::s112::s113::s114::s115::s116::s117::s118::s119::s120::s121::s122::s123::s124::s125::s126::s127::s128::s129::s130::s131::s132::s133::s134::s135::s136::s137::s138::s139::s140::s141::s142::s143::s144::s145::s146::s147::s148::s149::s150::s151::s152::s153::s154::s155::s156::s157::s158::s159::s160::s161::s162::s163::s164::s165::s166::s167::s168::s169::s170::s171::[]),[]⟩ wx) :
  (blockOf 0 Tryz.f11).wp Tryz.prog (Exit.then K noQ) ⟨List.toArray ((.slice A n c)::s1::(.int .i64 (count:Int))::(.int .i64 (layer:Int))::s4::s5::s6::s7::s8::s9::s10::(.bool false)::(.int .i64 0)::s13::s14::s15::s16::s17::s18::s19::s20::s21::s22::s23::s24::s25::s26::s27::s28::s29::s30::s31::s32::s33::s34::s35::s36::s37::s38::s39::s40::s41::s42::s43::s44::s45::s46::s47::s48::s49::s50::s51::s52::s53::s54::s55::s56::s57::s58::s59::s60::s61::s62::s63::s64::s65::s66::s67::s68::s69::s70::s71::s72::s73::s74::s75::s76::s77::s78::s79::s80::s81::s82::s83::s84::s85::s86::s87::s88::s89::s90::s91::s92::s93::s94::s95::s96::s97::s98::s99::s100::s101::s102::s103::s104::s105::s106::s107::s108::s109::s110::s111::s112::s113::s114::s115::s116::s117::s118::s119::s120::s121::s122::s123::s124::s125::s126::s127::s128::s129::s130::s131::s132::s133::s134::s135::s136::s137::s138::s139::s140::s141::s142::s143::s144::s145::s146::s147::s148::s149::s150::s151::s152::s153::s154::s155::s156::s157::s158::s159::s160::s161::s162::s163::s164::s165::s166::s167::s168::s169::s170::s171::[]),[]⟩ w:=by
 conv in (blockOf _ _)=>whnf
 unfold noQ
 have HK:=Lib.hid hK
 have hbl:Bs.length=n:=hB.len.trans hn
 have KI:=Lib.hid (And.intro hL (And.intro hn (And.intro hM1 (And.intro hdn (And.intro hsd hbl)))))
 have K0:Hid (RBandsI Bs D M1 M 0 HB0∧Mv w0 H0 w (HL++(HB0++R))):=Lib.hid ⟨⟨[],HB0,rfl,by simp only [List.take_zero];rfl,by simpa using hB⟩,hM⟩
 clear hK hL hB hM hn hM1 hdn hsd hbl
 go_wp2_with fail
 go_loopg [11,12] n (fun mm s11 s12 wx=>∃ (i:Nat) (HBx:List YtjngfhgakokejaaGreat.HB),i≤n∧mm=n - i∧s11=.bool (moreM count layer M (spotsOf (D.take i)))∧s12=.int .i64 (i:Int)∧RBandsI Bs D M1 M i HBx∧Mv w0 H0 wx (HL++(HBx++R)))
 case atStart=>exact ⟨0,HB0,Nat.zero_le _,rfl,by simp only [List.take_zero];rfl,rfl,K0.out.1,K0.out.2⟩
 case round =>
  clear K0
  obtain ⟨i,HBx,hi,rfl,rfl,rfl,hI,m⟩:=hrel
  by_cases hlt:i<n
  ·have d1:decide ((i:Int)<(n:Int))=true:=by simp;omega
   obtain ⟨b,hb⟩:∃ b,Bs[i]?=some b:=⟨_,List.getElem?_eq_getElem (by rw [KI.out.2.2.2.2.2];exact hlt)⟩
   obtain ⟨d,hd⟩:∃ d,D[i]?=some d:=⟨_,List.getElem?_eq_getElem (by rw [KI.out.2.1];exact hlt)⟩
   have hdm:=List.mem_of_getElem? hd
   obtain ⟨lg,rfl,hLc⟩:=rlist_at KI.out.1 hb
   obtain ⟨A1,H1,A2,rfl,hA,hstep⟩:=hI.step hb hd
   have M2:Mv w0 H0 wr (H1++(HL++(A1++(A2++R)))):=m.sub (fun g=>by simp only [cnt_append];omega) (fun x hx=>by simp only [List.mem_append] at hx ⊢;grind)
   have y0:=hLc wr m.sat.left
   have ST:=Lib.hid (rset_rel b (M d.bb) H1 wr hA M2.sat.left count hc)
   have KM2:=Lib.hid M2
   have KS:=Lib.hid (And.intro hstep (And.intro hLc (And.intro hd hdm)))
   have hiI:(i:Int)<(n:Int):=by omega
   have hi3:i≤1000:=by omega
   obtain ⟨mo0,hmo0⟩:∃ mo0,moreM count layer M (spotsOf (D.take i))=mo0:=⟨_,rfl⟩
   have HMO:=Lib.hid hmo0
   rw [hmo0]
   clear hI m M2 hA hstep hLc hd hdm hb hmo0
   go_upto_region 7 with (go_at_call 33;refine ST.out.mono ?_;rintro e w1 ⟨rfl,H1',q1,q2⟩;have K1:=Lib.hid (And.intro q1 (Mv.call KM2.out q2));clear q1 q2)
   have hP:RBandP b (M1 d.bb) H1':=by rw [KI.out.2.2.1 d KS.out.2.2.2];exact K1.out.1
   obtain ⟨nk,hnk⟩:∃ nk,d.n=nk:=⟨_,rfl⟩
   have hss:(M1 d.bb).ss=(M d.bb).ss:=by
    rw [KI.out.2.2.1 d KS.out.2.2.2]
    unfold plantE
    split
    ·rfl
    ·exact (plantM_ss _ _).1
   have hsl:(M1 d.bb).ss.length=nk:=by rw [hss,KI.out.2.2.2.1 d KS.out.2.2.2,hnk]
   have KP:=Lib.hid (And.intro hP (And.intro hss (And.intro hsl hnk)))
   obtain ⟨mr,ff,fz,⟨g,hg,rfl⟩,hr⟩:=hP
   have hrl:mr.ss.length=nk:=hr.len.trans hsl
   have hfew:=hr.few
   rw [hsl] at hfew
   obtain ⟨va,vc,hvl⟩:=RowH.slice hg.row
   have hgl:g.G.length=nk:=by rw [← hrl,← hg.ss,List.length_map]
   rw [hgl] at hvl
   have RC:Hid (∀ V HX,Mv w0 H0 V (g.heap b mr++HX)→V.cell? ⟨b,1,none⟩=some (.slice va nk vc)):=Lib.hid (by
    intro V HX m1
    have h:Sat V (rbandB b g.ti g.tu g.vl mr::(g.Hl++(g.Hi++(g.Hu++g.G.flatMap StG.heap)))):=m1.sat.left
    rw [← hvl]
    exact (h.at_ 0 rfl).cell 1)
   have RG:=Lib.hid (And.intro hg hr)
   have LC:Hid (∀ V HX,Mv w0 H0 V (HX++(HL++(A1++(A2++R))))→V.cell? ⟨lg,i,none⟩=some (.pointer (some ⟨b,0,none⟩))):=Lib.hid (fun V HX m1=>KS.out.2.1 V m1.sat.right.left)
   clear hnk hss hsl hg hr hrl hvl hgl y0
   go_wp2_with fail
   go_loopg [11,13] nk (fun mm s11 s13 wx=>∃ k:Nat,k≤nk∧mm=nk - k∧s13=.int .i64 (k:Int)∧s11=.bool (moreM count layer M (spotsOf (D.take i)++(List.range k).map (fun j=>(⟨d,j⟩:SpotX))))∧Mv w0 H0 wx (g.heap b mr++(HL++(A1++(A2++R)))))
   case atStart=>exact ⟨0,Nat.zero_le _,rfl,rfl,by simp only [List.range_zero,List.map_nil,List.append_nil];rw [HMO.out],K1.out.2⟩
   case round =>
    obtain ⟨k,hk,rfl,rfl,rfl,m⟩:=hrel
    have y0:=LC.out _ _ m
    have y1:=RC.out _ _ m
    by_cases hlk:k<nk
    ·have d2:decide ((k:Int)<(nk:Int))=true:=by simp;omega
     obtain ⟨s,hs⟩:∃ s,(M1 d.bb).ss[k]?=some s:=⟨_,List.getElem?_eq_getElem (by rw [KP.out.2.2.1];exact hlk)⟩
     have hs0:(M d.bb).ss[k]?=some s:=by rw [← KP.out.2.1];exact hs
     have sg:=RG.out.2.good s (List.mem_of_getElem? hs)
     obtain ⟨r,hrk,er⟩:=RG.out.2.get hs
     obtain ⟨e1,e2,e3,e4⟩:=noSaid_eq er
     obtain ⟨lg2,lc,pc,uc,pa,ua,Hp0,Hb0,-,-,-,hcs⟩:=rpart b mr g ff fz RG.out.1 hrk
     obtain ⟨y2,-,c0,c1,c2,c3,c4,-,-⟩:=hcs wr m.sat.left
     rw [e1] at c0
     rw [e2] at c1
     rw [e3] at c2
     rw [e4] at c4
     have e5:mr.ss.length=nk:=RG.out.2.len.trans KP.out.2.2.1
     rw [e5] at y2
     have e6:=y1.symm.trans y2
     simp only [Option.some.injEq,Value.slice.injEq,true_and] at e6
     obtain ⟨rfl,rfl⟩:=e6
     have NW:=Lib.hid (rnews_any s.pl r.said s.lb pa s.ps.length pc (.slice ua s.bs.length uc) count layer wr sg.np hc (by omega) ⟨_,_,_,rfl⟩)
     obtain ⟨hf,ht,-,-⟩:=SaidInv.round KI.out.2.2.2.2.1 KS.out.2.2.2 (k:=k) (by simp [donePre]) hs0
     obtain ⟨f,hf2⟩:∃ f,s.said.toNat=f:=⟨_,rfl⟩
     obtain ⟨t,ht2⟩:∃ t,toM count layer s=t:=⟨_,rfl⟩
     rw [hf2] at hf
     rw [ht2] at ht
     have EN:=Lib.hid (newB_rel KI.out.2.2.2.2.1 KS.out.2.2.2 (k:=k) (by simp [donePre]) hs0 hf ht)
     rw [hf,ht] at NW
     have hkI:(k:Int)<(nk:Int):=by omega
     have hk5:k * 5<100000:=by omega
     obtain ⟨np,hnp⟩:∃ np,s.ps.length=np:=⟨_,rfl⟩
     obtain ⟨nb,hnb⟩:∃ nb,s.bs.length=nb:=⟨_,rfl⟩
     rw [hnp] at c1 NW
     rw [hnb] at c2 NW
     have KM:=Lib.hid m
     have EM:Hid (moreM count layer M (spotsOf (D.take i)++(List.range (k+1)).map (fun j=>(⟨d,j⟩:SpotX)))=(moreM count layer M (spotsOf (D.take i)++(List.range k).map (fun j=>(⟨d,j⟩:SpotX))) || decide (f<t))):=Lib.hid (by
      rw [List.range_succ,List.map_append,← List.append_assoc]
      show moreM count layer M (_++[_])=_
      rw [moreM_snoc,EN.out])
     obtain ⟨mo,hmo⟩:∃ mo,moreM count layer M (spotsOf (D.take i)++(List.range k).map (fun j=>(⟨d,j⟩:SpotX)))=mo:=⟨_,rfl⟩
     rw [hmo] at EM ⊢
     clear hs hs0 sg hrk er e1 e2 e3 e4 e5 hcs hf ht hf2 ht2 hnp hnb m hmo
     cases mo with
     | true =>
      go_wp2_with (go_at_call 34;refine NW.out.mono ?_;rintro e w2 ⟨rfl,q1⟩;have K2:=Lib.hid (Mv.call (H:=[]) (H':=[]) KM.out q1);clear q1)
      go_roundg (nk - (k+1))
      case measure=>omega
      case rel=>exact ⟨k+1,hlk,rfl,by push_cast;rfl,by rw [EM.out];rfl,K2.out⟩
     | false =>
      by_cases hft:f<t
      ·have d3:decide ((f:Int)<(t:Int))=true:=decide_eq_true (by omega)
       have EM2:=EM.out
       rw [decide_eq_true hft] at EM2
       have EM3:=Lib.hid EM2
       clear EM2
       go_wp2_with (go_at_call 34;refine NW.out.mono ?_;rintro e w2 ⟨rfl,q1⟩;have K2:=Lib.hid (Mv.call (H:=[]) (H':=[]) KM.out q1);clear q1)
       go_roundg (nk - (k+1))
       case measure=>omega
       case rel=>exact ⟨k+1,hlk,rfl,by push_cast;rfl,by rw [EM3.out];rfl,K2.out⟩
      ·have d3:decide ((f:Int)<(t:Int))=false:=decide_eq_false (by omega)
       have EM2:=EM.out
       rw [decide_eq_false hft] at EM2
       have EM3:=Lib.hid EM2
       clear EM2
       go_wp2_with (go_at_call 34;refine NW.out.mono ?_;rintro e w2 ⟨rfl,q1⟩;have K2:=Lib.hid (Mv.call (H:=[]) (H':=[]) KM.out q1);clear q1)
       go_roundg (nk - (k+1))
       case measure=>omega
       case rel=>exact ⟨k+1,hlk,rfl,by push_cast;rfl,by rw [EM3.out];rfl,K2.out⟩
    ·obtain rfl:k=nk:=by omega
     have d2:decide ((k:Int)<(k:Int))=false:=by simp
     have KM:=Lib.hid m
     have EM:Hid (moreM count layer M (spotsOf (D.take i)++(List.range k).map (fun j=>(⟨d,j⟩:SpotX)))=moreM count layer M (spotsOf (D.take (i+1)))):=Lib.hid (by rw [spotsOf_take KS.out.2.2.1,KP.out.2.2.2])
     obtain ⟨mo1,hmo1⟩:∃ mo1,moreM count layer M (spotsOf (D.take (i+1)))=mo1:=⟨_,rfl⟩
     have HM1:=Lib.hid hmo1
     rw [EM.out,hmo1]
     clear m hmo1
     go_wp2_with fail
     go_roundg (n - (i+1))
     case measure=>omega
     case rel =>
      refine ⟨i+1,(A1++g.heap b mr)++A2,hlt,rfl,?_,by push_cast;rfl,KS.out.1 _ KP.out.1,KM.out.sub (fun x=>?_) (fun x hx=>?_)⟩
      ·rw [HM1.out]
      ·simp only [cnt_append];omega
      ·simp only [List.mem_append] at hx ⊢;grind
  ·obtain rfl:i=n:=by omega
   have d1:decide ((i:Int)<(i:Int))=false:=by simp
   have KM:=Lib.hid (And.intro hI m)
   have EM:Hid (moreM count layer M (spotsOf (D.take i))=moreM count layer M (spotsOf D)):=Lib.hid (by rw [List.take_of_length_le (by rw [KI.out.2.1];exact Nat.le_refl _)])
   rw [EM.out]
   have HK2:=HK
   clear hI m
   go_wp2_with fail
   obtain ⟨HA,HC,e,h1,h2⟩:=KM.out.1
   have e1:Bs.take i=Bs:=List.take_of_length_le (by rw [KI.out.2.2.2.2.2];exact Nat.le_refl _)
   have e2:D.take i=D:=List.take_of_length_le (by rw [KI.out.2.1];exact Nat.le_refl _)
   have e3:Bs.drop i=[]:=List.drop_eq_nil_of_le (by rw [KI.out.2.2.2.2.2];exact Nat.le_refl _)
   have e4:D.drop i=[]:=List.drop_eq_nil_of_le (by rw [KI.out.2.1];exact Nat.le_refl _)
   rw [e1,e2] at h1
   rw [e3,e4] at h2
   have e5:HC=[]:=h2
   subst e5
   rw [List.append_nil] at e
   subst e
   exact HK.out _ _ _ _ _ _ _ _ _ _ _ _ _ _ _ _ _ _ _ _ _ _ _ _ _ _ _ _ _ _ _ _ _ _ _ _ _ _ _ _ _ _ _ _ _ _ _ _ _ _ _ _ h1 KM.out.2
end
section
open Go.RowKit
structure EncI (count layer style:Nat) (D:List BandA) (S0:PackS) (pre:List SpotX) (S:PackS):Prop where
 eq:S=pre.foldl (stepE count style layer) S0
 said:SaidInv count layer D pre S.M
 len:∀ d∈D,(S.M d.bb).ss.length=d.n
 both:∀ d∈D,BothB (S.M d.bb)
 bits:S.bits.length≤130000 * pre.length+1
 body:S.body.length≤300000 * pre.length
theorem EncI.step {count layer style:Nat} {D:List BandA} {S0 S:PackS} {pre:List SpotX} (h:EncI count layer style D S0 pre S) (hl:layer≤99) {d:BandA} (hd:d∈D) {k:Nat} {s:StM} (hs:(S.M d.bb).ss[k]?=some s) (hlb:0≤s.lb) (hnp:s.ps.length≤100) (hbs:s.bs.length≤300000) (hf:(S.M d.bb).first.length≤20) (hz:(S.M d.bb).zeros.length≤20) (hto:toM count layer s≤s.ps.length) :
  stepE count style layer S ⟨d,k⟩=⟨updM S.M d.bb (setSaidM (headM (S.M d.bb) k style layer s.said.toNat (toM count layer s) s).1 k (toM count layer s)),S.bits++(headM (S.M d.bb) k style layer s.said.toNat (toM count layer s) s).2,if s.said.toNat<toM count layer s then S.body++bodyM s.ps s.bs s.said.toNat (toM count layer s) else S.body⟩ ∧
  EncI count layer style D S0 (pre++[⟨d,k⟩]) (stepE count style layer S ⟨d,k⟩):=by
 have e:stepE count style layer S ⟨d,k⟩=⟨updM S.M d.bb (setSaidM (headM (S.M d.bb) k style layer s.said.toNat (toM count layer s) s).1 k (toM count layer s)),S.bits++(headM (S.M d.bb) k style layer s.said.toNat (toM count layer s) s).2,if s.said.toNat<toM count layer s then S.body++bodyM s.ps s.bs s.said.toNat (toM count layer s) else S.body⟩:=by
  unfold stepE
  simp only [hs]
 refine ⟨e,⟨?_,h.said.step style hd,fun x hx=>by rw [stepE_len];exact h.len x hx,stepE_both count style layer D S ⟨d,k⟩ hd h.both,?_,?_⟩⟩
 ·rw [List.foldl_append,← h.eq];rfl
 ·have b:=h.both d hd
  have hh:=headM_length (S.M d.bb) k style layer s.said.toNat (toM count layer s) s hf hz b.g (b.g.ss s (List.mem_of_getElem? hs)) (by omega) (b.e s (List.mem_of_getElem? hs)) hlb (by omega)
  have h2:=h.bits
  rw [e]
  simp only [List.length_append,List.length_cons,List.length_nil]
  omega
 ·have hh:=bodyM_length s.ps s.bs s.said.toNat (toM count layer s)
  have h2:=h.body
  rw [e]
  simp only
  split
  ·simp only [List.length_append,List.length_cons,List.length_nil];omega
  ·simp only [List.length_append,List.length_cons,List.length_nil];omega
theorem en_b4a {w0 w:World} {H0 HW HY HL A1 H1 A2 R:List HB} (m:Mv w0 H0 w (HW++(HY++(HL++((A1++(H1++A2))++R))))):Mv w0 H0 w (HW++(HY++(H1++(HL++(A1++(A2++R)))))) :=
 m.sub (fun g=>by simp only [cnt_append];omega) (fun x hx=>by simp only [List.mem_append] at hx ⊢;grind)
theorem en_b4b {w0 w:World} {H0 HW HY HL A1 H1 A2 R:List HB} (m:Mv w0 H0 w (HW++(HY++(H1++(HL++(A1++(A2++R))))))):Mv w0 H0 w (HW++(HY++(HL++((A1++(H1++A2))++R)))) :=
 m.sub (fun g=>by simp only [cnt_append];omega) (fun x hx=>by simp only [List.mem_append] at hx ⊢;grind)
theorem renc_b4 (K:Act→World→Prop) (A:Option Addr) (c n wb style count layer:Nat) (Bs:List Nat) (D:List BandA) (S0:PackS) (vb:Value) (HL HW HY HB0 R H0:List HB) (w0 w:World) (s4 s5 s6 s7 s8 s9 s11 s12 s13 s14 s15 s18 s19 s20 s21 s22 s23 s24 s25 s26 s27 s28 s29 s30 s31 s32 s33 s34 s35 s36 s37 s38 s39 s40 s41 s42 s43 s44 s45 s46 s47 s48 s49 s50 s51 s52 s53 s54 s55 s56 s57 s58 s59 s60 s61 s62 s63 s64 s65 s66 s67 s68 s69 s70 s71 s72 s73 s74 s75 s76 s77 s78 s79 s80 s81 s82 s83 s84 s85 s86 s87 s88 s89 s90 s91 s92 s93 s94 s95 s96 s97 s98 s99 s100 s101 s102 s103 s104 s105 s106 s107 s108 s109 s110 s111 s112 s113 s114 s115 s116 s117 s118 s119 s120 s121 s122 s123 s124 s125 s126 s127 s128 s129 s130 s131 s132 s133 s134 s135 s136 s137 s138 s139 s140 s141 s142 s143 s144 s145 s146 s147 s148 s149 s150 s151 s152 s153 s154 s155 s156 s157 s158 s159 s160 s161 s162 s163 s164 s165 s166 s167 s168 s169 s170 s171:Value)
  (hL:RListH (.slice A n c) Bs HL) (hB:RBandsQ RBandP Bs D S0.M HB0) (hw:RWrB wb S0.bits HW) (hb:RowB vb S0.body HY) (hM:Mv w0 H0 w (HW++(HY++(HL++(HB0++R))))) (hn:D.length=n) (hn3:n≤1000) (hnd:(D.map (·.bb)).Nodup) (hI:EncI count layer style D S0 [] S0) (hc:1≤count∧count≤100) (hl:layer≤99) (hsty:style≤63) (hsp:(spotsOf D).length≤90)
  (hK:∀ (t16 t17 t18 t19 t20 t21 t22 t23 t79 t80 t81 t82 t83 t84 t85 t86 t87 t88 t89 t90 t91 t92 t93 t94 t95 t96 t97 t98 t99 t100 t101 t102 t103 t104 t105 t106 t107 t108 t109 t110 t111 t112 t113 t114 t115 t116 t117 t118 t119 t120 t121 t122 t123 t124 t125 t126 t127 t128 t129 t130 t131 t132 t133 t134 t135 t136 t137 t138 t139 t140 t141 t142 t143 t144 t145 t146 t147 t148 t149 t150 t151 t152 t153 t154 t155 t156 t157 t158 t159 t160 t161 t162 t163 t164 t165 t166 t167 t168 t169 t170 t171:Value) (HW' HY' HB':List HB) (wx:World),EncI count layer style D S0 (spotsOf D) ((spotsOf D).foldl (stepE count style layer) S0)→RWrB wb ((spotsOf D).foldl (stepE count style layer) S0).bits HW'→RowB t16 ((spotsOf D).foldl (stepE count style layer) S0).body HY'→RBandsQ RBandP Bs D ((spotsOf D).foldl (stepE count style layer) S0).M HB'→Mv w0 H0 wx (HW'++(HY'++(HL++(HB'++R)))) →
   K ⟨List.toArray ((.slice A n c)::(.int .i64 (style:Int))::(.int .i64 (count:Int))::(.int .i64 (layer:Int))::s4::s5::s6::s7::s8::s9::(.pointer (some ⟨wb,0,none⟩))::s11::s12::s13::s14::s15::t16::t17::t18::t19::t20::t21::t22::t23::s24::s25::s26::s27::s28::s29::s30::s31::s32::s33::s34::s35::s36::s37::s38::s39::s40::s41::s42::s43::s44::s45::s46::s47::s48::s49::s50::s51::s52::s53::s54::s55::s56::s57::s58::s59::s60::s61::s62::s63::s64::s65::s66::s67::s68::s69::s70::s71::s72::s73::s74::s75::s76::s77::s78::t79::t80::t81::t82::t83::t84::t85::t86::t87::t88::t89::t90::t91::t92::t93::t94::t95::t96::t97::t98::t99::t100::t101::t102::t103::t104::t105::t106::t107::t108::t109::t110::t111::t112::t113::t114::t115::t116::t117::t118::t119::t120::t121::t122::t123::t124::t125::t126::t127::t128::t129::t130::t131::t132::t133::t134::t135::t136::t137::t138::t139::t140::t141::t142::t143::t144::t145::t146::t147::t148::t149::t150::t151::t152::t153::t154::t155::t156::t157::t158::t159::t160::t161::t162::t163::t164::t165::t166::t167::t168::t169::t170::t171::[]),[]⟩ wx) :
  (blockOf 4 Tryz.f11).wp Tryz.prog (Exit.then K noQ) ⟨List.toArray ((.slice A n c)::(.int .i64 (style:Int))::(.int .i64 (count:Int))::(.int .i64 (layer:Int))::s4::s5::s6::s7::s8::s9::(.pointer (some ⟨wb,0,none⟩))::s11::s12::s13::s14::s15::vb::(.int .i64 0)::s18::s19::s20::s21::s22::s23::s24::s25::s26::s27::s28::s29::s30::s31::s32::s33::s34::s35::s36::s37::s38::s39::s40::s41::s42::s43::s44::s45::s46::s47::s48::s49::s50::s51::s52::s53::s54::s55::s56::s57::s58::s59::s60::s61::s62::s63::s64::s65::s66::s67::s68::s69::s70::s71::s72::s73::s74::s75::s76::s77::s78::s79::s80::s81::s82::s83::s84::s85::s86::s87::s88::s89::s90::s91::s92::s93::s94::s95::s96::s97::s98::s99::s100::s101::s102::s103::s104::s105::s106::s107::s108::s109::s110::s111::s112::s113::s114::s115::s116::s117::s118::s119::s120::s121::s122::s123::s124::s125::s126::s127::s128::s129::s130::s131::s132::s133::s134::s135::s136::s137::s138::s139::s140::s141::s142::s143::s144::s145::s146::s147::s148::s149::s150::s151::s152::s153::s154::s155::s156::s157::s158::s159::s160::s161::s162::s163::s164::s165::s166::s167::s168::s169::s170::s171::[]),[]⟩ w:=by
 conv in (blockOf _ _)=>whnf
 unfold noQ
 have HK:=Lib.hid hK
 have hbl:Bs.length=n:=hB.len.trans hn
 have KI:=Lib.hid (And.intro hL (And.intro hn (And.intro hnd hbl)))
 have K0:=Lib.hid (And.intro hB (And.intro hw (And.intro hb (And.intro hM hI))))
 clear hK hL hB hw hb hM hn hnd hbl hI
 go_wp2_with fail
 go_loopg [16,17] n (fun mm s16 s17 wx=>∃ (i:Nat) (S:PackS) (HW' HY' HBx:List YtjngfhgakokejaaGreat.HB),i≤n∧mm=n - i∧s17=.int .i64 (i:Int)∧EncI count layer style D S0 (spotsOf (D.take i)) S∧RBandsQ RBandP Bs D S.M HBx∧RWrB wb S.bits HW'∧RowB s16 S.body HY'∧Mv w0 H0 wx (HW'++(HY'++(HL++(HBx++R)))))
 case atStart=>exact ⟨0,S0,HW,HY,HB0,Nat.zero_le _,rfl,rfl,by simp only [List.take_zero];exact K0.out.2.2.2.2,K0.out.1,K0.out.2.1,K0.out.2.2.1,K0.out.2.2.2.1⟩
 case round =>
  clear K0
  obtain ⟨i,S,HW1,HY1,HBx,hi,rfl,rfl,hE,hB,hw,hb,m⟩:=hrel
  by_cases hlt:i<n
  ·have d1:decide ((i:Int)<(n:Int))=true:=by simp;omega
   obtain ⟨b,hbb⟩:∃ b,Bs[i]?=some b:=⟨_,List.getElem?_eq_getElem (by rw [KI.out.2.2.2];exact hlt)⟩
   obtain ⟨d,hd⟩:∃ d,D[i]?=some d:=⟨_,List.getElem?_eq_getElem (by rw [KI.out.2.1];exact hlt)⟩
   have hdm:=List.mem_of_getElem? hd
   obtain ⟨lg,rfl,hLc⟩:=rlist_at KI.out.1 hbb
   have y0:=hLc wr m.sat.right.right.left
   have KS:=Lib.hid (And.intro hd (And.intro hdm (And.intro hbb hLc)))
   have KE:=Lib.hid (And.intro hE (And.intro hB (And.intro hw (And.intro hb m))))
   have hiI:(i:Int)<(n:Int):=by omega
   have hi3:i≤1000:=by omega
   obtain ⟨nk,hnk⟩:∃ nk,d.n=nk:=⟨_,rfl⟩
   have HNK:=Lib.hid hnk
   have hnk9:nk≤90:=by
    have h1:nk≤(spotsOf D).length:=by
     have h2:(spotsOf (D.take (i+1))).length≤(spotsOf D).length:=by
      have h3:spotsOf D=spotsOf (D.take (i+1))++spotsOf (D.drop (i+1)):=by
       unfold spotsOf
       rw [← List.flatMap_append,List.take_append_drop]
      rw [h3,List.length_append]
      omega
     rw [spotsOf_take hd,List.length_append,List.length_map,List.length_range] at h2
     omega
    omega
   clear hE hB hw hb m hd hdm hbb hLc hnk
   go_upto_region 21 with fail
   go_wp2_with fail
   clear y0
   go_loopg [16,19] nk (fun mm s16 s19 wx=>∃ (k:Nat) (S:PackS) (HW' HY' HBx:List YtjngfhgakokejaaGreat.HB),k≤nk∧mm=nk - k∧s19=.int .i64 (k:Int)∧EncI count layer style D S0 (spotsOf (D.take i)++(List.range k).map (fun j=>(⟨d,j⟩:SpotX))) S∧RBandsQ RBandP Bs D S.M HBx∧RWrB wb S.bits HW'∧RowB s16 S.body HY'∧Mv w0 H0 wx (HW'++(HY'++(HL++(HBx++R)))))
   case atStart=>exact ⟨0,S,HW1,HY1,HBx,Nat.zero_le _,rfl,rfl,by simp only [List.range_zero,List.map_nil,List.append_nil];exact KE.out.1,KE.out.2.1,KE.out.2.2.1,KE.out.2.2.2.1,KE.out.2.2.2.2⟩
   case round =>
    clear KE
    obtain ⟨k,S,HW1,HY1,HBx,hk,rfl,rfl,hE,hB,hw,hb,m⟩:=hrel
    obtain ⟨A1,H1,A2,rfl,hP,hstep⟩:=hB.split KI.out.2.2.1 KS.out.2.2.1 KS.out.1
    have M1:=en_b4a m
    have hsl:=hE.len d KS.out.2.1
    rw [HNK.out] at hsl
    have y1:∃ va vc,wr.cell? ⟨b,1,none⟩=some (.slice va nk vc):=by
     obtain ⟨mr,ff,fz,⟨g,hg,rfl⟩,hr⟩:=id hP
     obtain ⟨va,vc,hvl⟩:=RowH.slice hg.row
     have hgl:g.G.length=nk:=by rw [← hsl,← hr.len,← hg.ss,List.length_map]
     rw [hgl] at hvl
     have h:Sat wr (rbandB b g.ti g.tu g.vl mr::(g.Hl++(g.Hi++(g.Hu++g.G.flatMap StG.heap)))):=M1.sat.right.right.left
     exact ⟨va,vc,by rw [← hvl];exact (h.at_ 0 rfl).cell 1⟩
    obtain ⟨va,vc,y1⟩:=y1
    by_cases hlk:k<nk
    ·have d2:decide ((k:Int)<(nk:Int))=true:=by simp;omega
     obtain ⟨s,hs⟩:∃ s,(S.M d.bb).ss[k]?=some s:=⟨_,List.getElem?_eq_getElem (by rw [hsl];exact hlk)⟩
     have hfresh:=donePre_fresh KI.out.2.2.1 KS.out.1 k
     obtain ⟨hf,ht,hle,hto⟩:=hE.said.round KS.out.2.1 hfresh hs
     have hrel:∃ mr ff fz,RelS (S.M d.bb) mr ff fz:=by
      obtain ⟨mr,ff,fz,-,hr⟩:=id hP
      exact ⟨mr,ff,fz,hr⟩
     obtain ⟨mr,ff,fz,hr⟩:=hrel
     have sg:=hr.good s (List.mem_of_getElem? hs)
     have hlb:0≤s.lb:=by
      obtain ⟨mr,ff,fz,⟨g,hg,-⟩,hr⟩:=id hP
      obtain ⟨r,hrk,er⟩:=hr.get hs
      obtain ⟨-,-,-,-,-,-,-,-,-,-,q3,-⟩:=rpart b mr g ff fz hg hrk
      rw [← (noSaid_eq er).2.2.2]
      exact q3.lb.1
     have hpl:(spotsOf (D.take i)++(List.range k).map (fun j=>(⟨d,j⟩:SpotX))).length≤90:=by
      have h2:(spotsOf (D.take (i+1))).length≤(spotsOf D).length:=by
       have h3:spotsOf D=spotsOf (D.take (i+1))++spotsOf (D.drop (i+1)):=by
        unfold spotsOf
        rw [← List.flatMap_append,List.take_append_drop]
       rw [h3,List.length_append]
       omega
      rw [spotsOf_take KS.out.1,List.length_append,List.length_map,List.length_range,HNK.out] at h2
      rw [List.length_append,List.length_map,List.length_range]
      omega
     have hb1:=hE.bits
     have hb2:=hE.body
     obtain ⟨eS,hE2⟩:=hE.step hl KS.out.2.1 hs hlb sg.np sg.bs (hr.first (by omega)).2.1.2.2.2.2 (hr.zeros (by omega)).2.1.2.2.2.2 hto
     obtain ⟨f,hf2⟩:∃ f,s.said.toNat=f:=⟨_,rfl⟩
     obtain ⟨t,ht2⟩:∃ t,toM count layer s=t:=⟨_,rfl⟩
     rw [hf2] at hf hle eS
     rw [ht2] at ht hle hto eS
     have KQ:=Lib.hid (And.intro hP (And.intro hw (And.intro hb (And.intro M1 (And.intro hs (And.intro hsl (And.intro hf (And.intro ht (And.intro hstep (And.intro eS hE2))))))))))
     have hbl1:S.bits.length≤30000000:=by omega
     have hbl2:S.body.length≤30000000:=by omega
     clear hP hw hb M1 hs hsl hf ht hstep eS hE2 hE hfresh hr sg hlb hpl hb1 hb2 m hf2 ht2 mr ff fz
     go_upto_block 7 with fail
     refine wp_piece (renc_b7 _ b wb k nk style count layer f t (S.M d.bb) s S.bits S.body _ H1 HW1 HY1 (HL++(A1++(A2++R))) H0 w0 wr _ _ _ _ _ _ _ _ _ _ _ _ _ _ _ _ _ _ _ _ _ _ _ _ _ _ _ _ _ _ _ _ _ _ _ _ _ _ _ _ _ _ _ _ _ _ _ _ _ _ _ _ _ _ _ _ _ _ _ _ _ _ _ _ _ _ _ _ _ _ _ _ _ _ _ _ _ _ _ _ _ _ _ _ _ _ _ _ _ _ _ _ _ _ _ _ _ _ _ _ _ _ _ _ _ _ _ _ _ _ _ _ _ _ _ _ _ _ _ _ _ _ _ _ _ _ _ _ _ _ _ _ _ _ _ _ _ _ _ _ _ _ _ _ _ _ _ _ _ _ _ _ _ _ _ _ _ _ _ _ _ _ _ _ _ KQ.out.1 KQ.out.2.1 KQ.out.2.2.1 KQ.out.2.2.2.1 KQ.out.2.2.2.2.1 KQ.out.2.2.2.2.2.1 hlk KQ.out.2.2.2.2.2.2.1 KQ.out.2.2.2.2.2.2.2.1 hle hto hc hl hsty hbl1 hbl2 ?_)
     rintro _ _ _ _ _ _ _ _ _ _ _ _ _ _ _ _ _ _ _ _ _ _ _ _ _ _ _ _ _ _ _ _ _ _ _ _ _ _ _ _ _ _ _ _ _ _ _ _ _ _ _ _ _ _ _ _ _ _ _ _ _ _ _ _ _ _ _ _ _ _ _ _ _ _ _ v2 HW2 HY2 H2 w2 r1 r2 r3 r4
     have KR:=Lib.hid (And.intro r1 (And.intro r2 (And.intro r3 r4)))
     clear r1 r2 r3 r4
     go_wp2_with fail
     go_roundg (nk - (k+1))
     case measure=>omega
     case rel =>
      obtain ⟨r1,r2,r3,r4⟩:=KR.out
      obtain ⟨hstep,eS,hE2⟩:=KQ.out.2.2.2.2.2.2.2.2
      refine ⟨k+1,stepE count style layer S ⟨d,k⟩,HW2,HY2,A1++(H2++A2),hlk,rfl,by push_cast;rfl,?_,?_,?_,?_,en_b4b r4⟩
      ·rw [List.range_succ,List.map_append,← List.append_assoc]
       exact hE2
      ·rw [eS]
       exact hstep _ _ r1
      ·rw [eS]
       exact r2
      ·rw [eS]
       exact r3
    ·obtain rfl:k=nk:=by omega
     have d2:decide ((k:Int)<(k:Int))=false:=by simp
     have KQ:=Lib.hid (And.intro hE (And.intro (hstep _ _ hP) (And.intro hw (And.intro hb m))))
     clear hE hP hw hb m hstep M1 hsl
     go_wp2_with fail
     go_roundg (n - (i+1))
     case measure=>omega
     case rel =>
      obtain ⟨h1,h2,h3,h4,h5⟩:=KQ.out
      refine ⟨i+1,S,HW1,HY1,A1++(H1++A2),hlt,rfl,by push_cast;rfl,?_,?_,h3,h4,h5⟩
      ·rw [spotsOf_take KS.out.1,HNK.out]
       exact h1
      ·rw [updM_self] at h2
       exact h2
  ·obtain rfl:i=n:=by omega
   have d1:decide ((i:Int)<(i:Int))=false:=by simp
   have e2:D.take i=D:=List.take_of_length_le (by rw [KI.out.2.1];exact Nat.le_refl _)
   rw [e2] at hE
   have eS:=hE.eq
   subst eS
   have KQ:=Lib.hid (And.intro hE (And.intro hB (And.intro hw (And.intro hb m))))
   clear hE hB hw hb m e2
   go_wp2_with fail
   exact HK.out _ _ _ _ _ _ _ _ _ _ _ _ _ _ _ _ _ _ _ _ _ _ _ _ _ _ _ _ _ _ _ _ _ _ _ _ _ _ _ _ _ _ _ _ _ _ _ _ _ _ _ _ _ _ _ _ _ _ _ _ _ _ _ _ _ _ _ _ _ _ _ _ _ _ _ _ _ _ _ _ _ _ _ _ _ _ _ _ _ _ _ _ _ _ _ _ _ _ _ _ _ HW1 HY1 HBx _ KQ.out.1 KQ.out.2.2.1 KQ.out.2.2.2.1 KQ.out.2.1 KQ.out.2.2.2.2
end
end Go.Proofs.YtjngfhgakokejaaGreat
