/- packet: what a head says of a block. Rows grow: any elements. Pieces that a head tells. What a head says of a block, read: the plain model. The document's trees and bands in memory (waveletref13, waveletref15), by the same models. Plain. waveletref13: New. -/
import Derived.Test.YtnpoakabheeoeaaTw17
import Derived.Test.YtnpoakabheeoeaaTw05
import Derived.Test.YtnpoakabheeoeaaTw03
import Derived.Test.YtnpoakabheeoeaaTw06
import Derived.Test.YtnpoakabheeoeaaTw10
import Derived.Test.YtnpoakabheeoeaaTw15
set_option maxRecDepth 100000
namespace Go.Proofs.Ytnpoakabheeoeaa
section
open Go.RowKit
def segL1 (style said to_ : Nat) : List Int := lensM (piecesM style said to_)
def segL2 (s : StM) (style said to_ : Nat) : List Int := sizesM (s.ps.map (·.1)) (was0 (s.ps.map (·.1)) said) (piecesM style said to_)
def needM (s : StM) (style said to_ : Nat) : Int := needK (segL1 style said to_) (segL2 s style said to_) s.lb (piecesM style said to_).length
def sizesB (s : StM) (style said to_ : Nat) : List Bool := List.replicate (needM s style said to_ - s.lb).toNat true ++ (false :: bitsK (segL1 style said to_) (segL2 s style said to_) (needM s style said to_) (piecesM style said to_).length)
def headF (m : BandM) (k layer said to_ : Nat) : List LevM × List Bool := if said = 0 then encAt m.first k ((layer : Int) + 1) else (m.first,bitsG (if said < to_ then 1 else 0) 1)
def headZ (m : BandM) (k said : Nat) (s : StM) : List LevM × List Bool := if said = 0 then zerosE m.zeros k (max (m.planes - s.pl) 0 + 1).toNat else (m.zeros,[])
def headM (m : BandM) (k style layer said to_ : Nat) (s : StM) : BandM × List Bool :=
 if to_ = said then ({ m with first := (headF m k layer said to_).1 },(headF m k layer said to_).2)
 else ({ m with first := (headF m k layer said to_).1,zeros := (headZ m k said s).1,ss := m.ss.set k (s.withS s.said (needM s style said to_)) },(headF m k layer said to_).2 ++ ((headZ m k said s).2 ++ (tellM (to_ - said) ++ sizesB s style said to_)))
theorem headF_length (m : BandM) (k layer said to_ : Nat) (hT : m.first.length ≤ 20) (hl : layer ≤ 100) : (headF m k layer said to_).2.length ≤ 3000 := by
 unfold headF
 split
 ·have h := (encAt_length m.first k ((layer : Int) + 1)).2
  have h2 : m.first.length * ((layer : Int) + 1).toNat ≤ 20 * 101 := Nat.mul_le_mul hT (by omega)
  omega
 ·have := bitsG_length (if said < to_ then 1 else 0) 1
  simp only
  omega
theorem headZ_length (m : BandM) (k said : Nat) (s : StM) (hT : m.zeros.length ≤ 20) (hz : max (m.planes - s.pl) 0 + 1 ≤ 64) : (headZ m k said s).2.length ≤ 90000 := by
 unfold headZ
 split
 ·have := (zerosE_length m.zeros k hT (max (m.planes - s.pl) 0 + 1).toNat (by omega)).2
  omega
 ·simp only [List.length_nil]
  omega
theorem pieces_length (style from_ to_ : Nat) : (piecesM style from_ to_).length ≤ to_ - from_ := pcs_length style to_ (to_ - from_) from_ from_
theorem wp_piece_end {P : Program} {c : Code} {Q : Exit → Act → World → Prop} {a : Act} {w : World} (h : c.wp P (Exit.then (fun a w => Q .normal a w) noQ) a w) : c.wp P Q a w := by
 refine wp_mono h ?_
 intro e a' w' hq
 cases e with
 | normal => exact hq
 | _ => exact hq.elim
def HeadR (d : BandA) (b : BandG) (k wb style layer said to_ : Nat) (st : StG) (bs : List Bool) (HW : List HB) (w w' : World) : Prop :=
 ∃ (b' : BandG) (HW' : List HB),b'.ok d ∧ b'.model = (headM b.model k style layer said to_ st.m).1 ∧ WrB wb (bs ++ (headM b.model k style layer said to_ st.m).2) HW' ∧ Mv w (HW ++ b.heap d) w' (HW' ++ b'.heap d)
set_option maxHeartbeats 8000000 in
theorem head_any (d : BandA) (b : BandG) (k wb style layer said to_ : Nat) (st : StG) (bs : List Bool) (HW : List HB) (w : World)
  (ok : b.ok d) (hkn : k < d.n) (hst : b.G[k]? = some st) (hw : WrB wb bs HW) (hs : Sat w (HW ++ b.heap d)) (hpl : 0 ≤ b.planes ∧ b.planes ≤ 60) (hsp : 0 ≤ st.m.pl ∧ st.m.pl ≤ 60) (hlb : st.m.lb ≤ 100) (hsd : st.m.said = (said : Int)) (hst2 : said ≤ to_) (hto : to_ ≤ st.m.ps.length) (hs63 : style ≤ 63) (hly : layer ≤ 100) (hbs : bs.length ≤ 40000000) :
  Calls Try.prog 29 #[SpotX.v ⟨d,k⟩,.pointer (some ⟨wb,0,none⟩),.int .i64 (style : Int),.int .i64 (layer : Int),.int .i64 (to_ : Int)] w fun e w' => e = .returned (.tuple #[]) ∧
   HeadR d b k wb style layer said to_ st bs HW w w' := by
 have hkk : k < 4096 := Nat.lt_of_lt_of_le hkn ok.small
 have hso := ok.st st (List.mem_of_getElem? hst)
 obtain ⟨g,hg⟩ : ∃ g,w.heap.size = g := ⟨_,rfl⟩
 obtain ⟨X,hX⟩ : ∃ X : List HB,[⟨g,67,SpotX.cells ⟨d,k⟩⟩] = X := ⟨_,rfl⟩
 obtain ⟨w1,hw1⟩ : ∃ w1,w1 = w.alloc (.cells (SpotX.cells ⟨d,k⟩) 67) := ⟨_,rfl⟩
 have M1 : Mv w (HW ++ b.heap d) w1 (HW ++ (X ++ b.heap d)) := by
  have m := (Mv.refl hs).alloc 67 (SpotX.cells ⟨d,k⟩)
  rw [hg,← hw1] at m
  rw [← hX]
  exact m.sub (fun g => by simp only [cnt_append,cnt_cons,cnt_nil]; omega) (fun c hc => by simp only [List.mem_append,List.mem_cons,List.not_mem_nil,or_false] at hc ⊢; grind)
 have hx : ⟨g,67,SpotX.cells ⟨d,k⟩⟩ ∈ X := by rw [← hX]; exact List.mem_cons_self
 -- the first stage: is it there?
 obtain ⟨F,hF⟩ : ∃ F,headF b.model k layer said to_ = F := ⟨_,rfl⟩
 have hFl : F.2.length ≤ 3000 := by rw [← hF]; exact headF_length _ _ _ _ _ (by have := ok.kf.1; simpa [BandG.model] using this) hly
 have KF := Lib.hid (And.intro ok (And.intro hst (And.intro hx (And.intro hF (And.intro hX hso)))))
 have CE := Lib.hid (hd_cells M1 hx hst)
 have DRP : Hid (∀ W A H1,Mv w (HW ++ b.heap d) W (A ++ (X ++ H1)) → Mv w (HW ++ b.heap d) W (A ++ H1)) := Lib.hid (fun W A H1 m => m.sub (fun g => by simp only [cnt_append]; omega) (fun c hc => by simp only [List.mem_append] at hc ⊢; grind))
 have EF : Hid (said = 0 → Calls Try.prog 60 #[.pointer (some ⟨b.ft,0,none⟩),.pointer (some ⟨wb,0,none⟩),.int .i64 (k : Int),.int .i64 ((layer : Int) + 1)] w1.drew fun e w2 => e = .returned (.tuple #[]) ∧
   ∃ (b' : BandG) (HW' : List HB),b'.ok d ∧ b'.model = { b.model with first := F.1 } ∧ b'.G = b.G ∧ WrB wb (bs ++ F.2) HW' ∧ Mv w (HW ++ b.heap d) w2 (HW' ++ (X ++ b'.heap d))) := Lib.hid (by
  intro h0
  have e : F = encAt b.model.first k ((layer : Int) + 1) := by rw [← hF]; unfold headF; rw [if_pos h0]
  rw [e]
  exact band_encF ok hw M1.drew k hkn ((layer : Int) + 1) (by omega) (by omega))
 have EB : Hid (said ≠ 0 → Calls Try.prog 26 #[.pointer (some ⟨wb,0,none⟩),.int .i64 (if said < to_ then 1 else 0),.int .i64 1] w1 fun e w2 => e = .returned (.tuple #[]) ∧
   ∃ (b' : BandG) (HW' : List HB),b'.ok d ∧ b'.model = { b.model with first := F.1 } ∧ b'.G = b.G ∧ WrB wb (bs ++ F.2) HW' ∧ Mv w (HW ++ b.heap d) w2 (HW' ++ (X ++ b'.heap d))) := Lib.hid (by
  intro h0
  have e : F = (b.model.first,bitsG (if said < to_ then 1 else 0) 1) := by rw [← hF]; unfold headF; rw [if_neg h0]
  rw [e]
  refine (bits_any wb bs _ 1 w1 HW hw M1.sat.left (by omega)).mono ?_
  rintro e w2 ⟨rfl,HW',h1,m1⟩
  exact ⟨rfl,b,HW',ok,rfl,rfl,h1,Mv.call M1 m1⟩)
 obtain ⟨⟨x0,x1,x2⟩,⟨y1,y2,y3⟩,z0,-,-,z3,z4,-⟩ := CE.out
 rw [hsd] at z3
 have HW1 := Lib.hid (show w1 = w.alloc (.cells #[.pointer (some ⟨d.lb,k * 5,none⟩),.pointer (some ⟨d.bb,0,none⟩),.int .i64 (k : Int)] 67) from hw1)
 unfold SpotX.v
 clear hw1 ok hst hx hF M1 CE hs hw hX hso
 go_enter Try.func29,Try.ntmps29
 go_upto_region 1 with fail
 rw [← HW1.out]
 go_upto_if 23 with fail
 go_cut [23] from 24 (fun _ wx => ∃ (b1 : BandG) (HW1 : List HB),b1.ok d ∧ b1.model = { b.model with first := F.1 } ∧ b1.G = b.G ∧ WrB wb (bs ++ F.2) HW1 ∧ Mv w (HW ++ b.heap d) wx (HW1 ++ (X ++ b1.heap d)))
 case first =>
  by_cases h0 : said = 0
  ·have E0 := Lib.hid (EF.out h0)
   subst h0
   go_upto_region 2 with fail
   go_still_tail 10,(by kernel_rfl)
   change wpList _ _ _ _ _ w1.drew
   go_wp2_with (go_at_call 60; (with_reducible refine E0.out.mono ?_); rintro e w2 ⟨rfl,b1,HW2,q⟩; have K2 := Lib.hid q; clear q)
   go_meet
   exact ⟨b1,HW2,K2.out⟩
  ·have E0 := Lib.hid (EB.out h0)
   have h1 : ¬ ((said : Int) = 0) := by omega
   have FL := Lib.hid (fun W => flag_any (decide (said < to_)) W)
   have e1 : (if decide (said < to_) = true then (1 : Int) else 0) = (if said < to_ then 1 else 0) := by
    by_cases h : said < to_
    ·rw [if_pos h,decide_eq_true h,if_pos rfl]
    ·rw [if_neg h,decide_eq_false h,if_neg (by simp)]
   rw [e1] at FL
   generalize (if said < to_ then (1 : Int) else 0) = fl at *
   clear e1
   go_wp2_with (first
    | (go_at_call 27; (with_reducible refine (FL.out _).mono ?_); rintro e w2 ⟨rfl,rfl⟩)
    | (go_at_call 26; (with_reducible refine E0.out.mono ?_); rintro e w3 ⟨rfl,b1,HW2,q⟩; have K2 := Lib.hid q; clear q))
   go_meet
   exact ⟨b1,HW2,K2.out⟩
 case rest =>
  obtain ⟨b1,HW1',ok1,hm1,hG1,hw1,M1⟩ := hcut
  obtain ⟨⟨x0,x1,x2⟩,⟨y1,y2,y3⟩,z0,-,-,z3,z4,-⟩ := hd_cells M1 KF.out.2.2.1 (by rw [hG1]; exact KF.out.2.1)
  rw [hsd] at z3
  clear EF EB HW1
  have K1 := Lib.hid (And.intro ok1 (And.intro hm1 (And.intro hG1 (And.intro hw1 M1))))
  clear ok1 hm1 hG1 hw1 M1
  by_cases hne : to_ = said
  ·subst hne
   go_wp2_with fail
   refine bodyPost_ret (results_none rfl _ _ _) rfl ⟨rfl,b1,HW1',K1.out.1,?_,?_,DRP.out _ _ _ K1.out.2.2.2.2⟩
   ·rw [K1.out.2.1]; unfold headM; rw [if_pos rfl,KF.out.2.2.2.1]
   ·unfold headM; rw [if_pos rfl,KF.out.2.2.2.1]; exact K1.out.2.2.2.1
  ·have hne2 : ¬ ((to_ : Int) = (said : Int)) := by omega
   obtain ⟨Z,hZ⟩ : ∃ Z,headZ b.model k said st.m = Z := ⟨_,rfl⟩
   have hZl : Z.2.length ≤ 90000 := by rw [← hZ]; exact headZ_length _ _ _ _ (by have := KF.out.1.kz.1; simpa [BandG.model] using this) (by show max (b.planes - st.m.pl) 0 + 1 ≤ 64; omega)
   have HZ := Lib.hid hZ
   clear hZ
   go_upto_if 57 with fail
   go_cut [10,51,57] from 58 (fun _ _ _ wx => ∃ (b2 : BandG) (HW2 : List HB),b2.ok d ∧ b2.model = { b.model with first := F.1,zeros := Z.1 } ∧ b2.G = b.G ∧ WrB wb ((bs ++ F.2) ++ Z.2) HW2 ∧ Mv w (HW ++ b.heap d) wx (HW2 ++ (X ++ b2.heap d)))
   case first =>
    by_cases h0 : said = 0
    ·have hp1 : b1.planes = b.planes := congrArg BandM.planes K1.out.2.1
     have hz1 : b1.model.zeros = b.model.zeros := by rw [K1.out.2.1]
     obtain ⟨nz,hnz⟩ : ∃ nz : Nat,(nz : Int) = max (b.planes - st.m.pl) 0 + 1 := ⟨(max (b.planes - st.m.pl) 0 + 1).toNat,by omega⟩
     have eZ : Hid (Z = zerosE b1.model.zeros k nz) := Lib.hid (by rw [← HZ.out,hz1]; unfold headZ; rw [if_pos h0]; show zerosE _ _ (max (b.planes - st.m.pl) 0 + 1).toNat = _; rw [← hnz]; rfl)
     have hbl : (bs ++ F.2).length ≤ 50000000 := by rw [List.length_append]; omega
     have hz64 : nz ≤ 64 := by omega
     subst h0
     go_upto_block 0 with fail
     refine wp_piece (hd_p0 _ d b1 k g wb nz st (bs ++ F.2) HW1' X (HW ++ b.heap d) w wc _ _ _ _ _ _ _ _ _ _ _ _ _ _ _ _ _ _ _ _ _ _ _ _ _ _ _ _ _ _ _ _ _ _ _ _ _ _ _ _ _ _ _ _ _ _ _ _ _ _ _ _ _ _ _ _ _ _ _ _ _ _ _ _ _ _ _ _ _ _ _ _ _ _ _ _ _ _ _ _ _ _ _ _ _ _ _ _ _ _ _ _ _ _ _ _ _ _ _ _ _ _ _ _ _ _ _ _ _ _ _ _ _ _ _ _ _ _ _ _ _ _ _ _ _ _ _ _ _ _ _ _ _ _ _ _ _ _ _ _ _ _ _ _ _ _ _ _ _ _ _ _ _ _ _ _ _ _ _ _ _ _ _ _ _ _ _ _ _ _ _ _ K1.out.1 hkn (by rw [K1.out.2.2.1]; exact KF.out.2.1) KF.out.2.2.1 K1.out.2.2.2.1 K1.out.2.2.2.2 (by rw [hp1]; exact hnz) hz64 (by rw [hp1]; omega) (by omega) hbl ?_)
     rintro _ _ _ _ _ _ _ _ _ _ _ _ _ _ _ _ _ _ _ _ _ _ _ _ _ _ _ _ _ wx b2 HW2 q1 q2 q3 q4 q5
     unfold ptr0
     go_wp2_with fail
     go_meet
     refine ⟨b2,HW2,q1,?_,q3.trans K1.out.2.2.1,?_,q5⟩
     ·rw [q2,eZ.out,K1.out.2.1]
     ·rw [eZ.out]; exact q4
    ·have eZ : Z = (b.model.zeros,[]) := by rw [← HZ.out]; unfold headZ; rw [if_neg h0]
     have h0' : ¬ ((said : Int) = 0) := by omega
     go_wp2_with fail
     go_meet
     refine ⟨b1,HW1',K1.out.1,?_,K1.out.2.2.1,?_,K1.out.2.2.2.2⟩
     ·rw [K1.out.2.1,eZ]
     ·rw [eZ,List.append_nil]; exact K1.out.2.2.2.1
   case rest =>
    obtain ⟨b2,HW2,ok2,hm2,hG2,hw2,M2⟩ := hcut
    clear x0 x1 x2 y1 y2 y3 z0 z3 z4
    have hst' : b2.G[k]? = some st := by rw [hG2]; exact KF.out.2.1
    obtain ⟨⟨x0,-,-⟩,-,-,-,-,z3,-,-⟩ := hd_cells M2 KF.out.2.2.1 hst'
    rw [hsd] at z3
    have hlt : said < to_ := by omega
    have eTS : (to_ : Int) - (said : Int) = ((to_ - said : Nat) : Int) := by omega
    have hnp := KF.out.2.2.2.2.2.2.2.np
    have hends := KF.out.2.2.2.2.2.2.2.ends
    have hlb0 := KF.out.2.2.2.2.2.2.2.lb
    have hbl2 : ((bs ++ F.2) ++ Z.2).length ≤ 45000000 := by rw [List.length_append,List.length_append]; omega
    obtain ⟨B2,hB2⟩ : ∃ B2,(bs ++ F.2) ++ Z.2 = B2 := ⟨_,rfl⟩
    rw [hB2] at hw2 hbl2
    have TL := Lib.hid (tell_any wb B2 (to_ - said) wc HW2 hw2 M2.sat.left (by omega) (by omega))
    have HL2 := Lib.hid (And.intro ok2 (And.intro hm2 (And.intro hst' (And.intro M2 hB2))))
    clear ok2 hm2 hG2 hw2 M2 hst' hB2 K1
    obtain ⟨n,hn⟩ : ∃ n,(piecesM style said to_).length = n := ⟨_,rfl⟩
    have hn1000 : n ≤ 1000 := by rw [← hn]; have := pieces_length style said to_; omega
    have HN := Lib.hid hn
    clear hn
    obtain ⟨L1,hL1⟩ : ∃ L,segL1 style said to_ = L := ⟨_,rfl⟩
    obtain ⟨L2,hL2⟩ : ∃ L,segL2 st.m style said to_ = L := ⟨_,rfl⟩
    have B1 : ∀ i,0 ≤ L1.getD i 0 ∧ L1.getD i 0 ≤ 1000 := by rw [← hL1]; exact lensM_bd style said to_ (by omega)
    have B2d : ∀ i,-1000000000 ≤ L2.getD i 0 ∧ L2.getD i 0 ≤ 1000000000 := by rw [← hL2]; exact sizesM_getD _ (by intro e h; obtain ⟨p,hp,rfl⟩ := List.mem_map.1 h; exact hends p hp) said _
    have ND := needK_bd L1 L2 st.m.lb (fun i => (B2d i).2) n
    have lL1 : L1.length = n := by rw [← hL1,← HN.out]; exact List.length_map _
    have lL2 : L2.length = n := by rw [← hL2,← HN.out]; exact sizesM_length _ _ _
    have HBD := Lib.hid (And.intro B1 B2d)
    have HLS := Lib.hid (And.intro hL1 (And.intro hL2 (And.intro lL1 lL2)))
    clear B1 B2d hL1 hL2 hends lL1 lL2
    obtain ⟨r,hr⟩ : ∃ r : Nat,needK L1 L2 st.m.lb n = st.m.lb + (r : Int) := ⟨(needK L1 L2 st.m.lb n - st.m.lb).toNat,by omega⟩
    have hr4 : r ≤ 41 := by omega
    have HR := Lib.hid hr
    clear hr ND
    go_upto_region 11 with (go_at_call 61; (with_reducible refine TL.out.mono ?_); rintro e w3 ⟨rfl,HW3,q1,q2⟩; have K3 := Lib.hid (And.intro q1 (Mv.call HL2.out.2.2.2.1 q2)); clear q1 q2)
    refine wp_piece (hd_r11 _ d b2 k g style said to_ n st HW3 X (HW ++ b.heap d) w w3 _ _ _ _ _ _ _ _ _ _ _ _ _ _ _ _ _ _ _ _ _ _ _ _ _ _ _ _ _ _ _ _ _ _ _ _ _ _ _ _ _ _ _ _ _ _ _ _ _ _ _ _ _ _ _ _ _ _ _ _ _ _ _ _ _ _ _ _ _ _ _ _ _ _ _ _ _ _ _ _ _ _ _ _ _ _ _ _ _ _ _ _ _ _ _ _ _ _ _ _ _ _ _ _ _ _ _ _ _ _ _ _ _ _ _ _ _ _ _ _ _ _ _ _ _ _ _ _ _ _ _ _ _ _ _ _ _ _ _ _ _ _ _ _ _ _ _ _ _ _ _ _ _ _ _ _ _ _ _ _ _ _ _ _ _ _ _ _ _ _ _ _ HL2.out.1 hkn HL2.out.2.2.1 KF.out.2.2.1 K3.out.2 hsd hlt hto hs63 HN.out ?_)
    rintro _ _ _ _ _ _ _ _ _ _ _ _ _ g1 c1 g2 c2 H1 H2 w4 r1 r2 M4
    unfold ptr0
    have hx' : ⟨g,67,SpotX.cells ⟨d,k⟩⟩ ∈ H1 ++ (H2 ++ X) := List.mem_append_right _ (List.mem_append_right _ KF.out.2.2.1)
    have RX : Hid (∀ W,Sat W (H1 ++ (H2 ++ X)) → ∀ i,i < n → W.cell? ⟨g1,i,none⟩ = some (.int .i64 (L1.getD i 0)) ∧ W.cell? ⟨g2,i,none⟩ = some (.int .i64 (L2.getD i 0))) := Lib.hid (by
     intro W hW i hi
     have e1 : L1[i]? = some (L1.getD i 0) := by rw [List.getD_eq_getElem?_getD,List.getElem?_eq_getElem (by rw [HLS.out.2.2.1]; exact hi)]; rfl
     have e2 : L2[i]? = some (L2.getD i 0) := by rw [List.getD_eq_getElem?_getD,List.getElem?_eq_getElem (by rw [HLS.out.2.2.2]; exact hi)]; rfl
     rw [← HLS.out.1] at e1 ⊢
     rw [← HLS.out.2.1] at e2 ⊢
     exact ⟨r1.at_ hW.left e1,r2.at_ hW.right.left e2⟩)
    obtain ⟨⟨x0',-,-⟩,-,-,-,-,-,z4',-⟩ := hd_cells M4 hx' HL2.out.2.2.1
    have K4 := Lib.hid (And.intro M4 hx')
    clear r1 r2 M4 hx' x0 z3 TL eTS
    go_upto_block 2 with fail
    refine wp_piece (hd_p2 _ n c1 c2 g1 g2 st.m.lb L1 L2 (HW3 ++ ((H1 ++ (H2 ++ X)) ++ b2.heap d)) (HW ++ b.heap d) w w4 _ _ _ _ _ _ _ _ _ _ _ _ _ _ _ _ _ _ _ _ _ _ _ _ _ _ _ _ _ _ _ _ _ _ _ _ _ _ _ _ _ _ _ _ _ _ _ _ _ _ _ _ _ _ _ _ _ _ _ _ _ _ _ _ _ _ _ _ _ _ _ _ _ _ _ _ _ _ _ _ _ _ _ _ _ _ _ _ _ _ _ _ _ _ _ _ _ _ _ _ _ _ _ _ _ _ _ _ _ _ _ _ _ _ _ _ _ _ _ _ _ _ _ _ _ _ _ _ _ _ _ _ _ _ _ _ _ _ _ _ _ _ _ _ _ _ _ _ _ _ _ _ _ _ _ _ _ _ _ _ _ _ _ _ _ _ _ _ _ hn1000 (by omega) HBD.out.1 HBD.out.2 (fun W h => RX.out W h.right.left) K4.out.1 ?_)
    rintro _ _ _ _ _ _ _ _ _ _ _ _ _ _ _ _ _ _ _ _ _ w5 M5
    rw [HR.out]
    have hlB : (B2 ++ tellM (to_ - said)).length ≤ 50000000 := by rw [List.length_append]; have := tellM_length (to_ - said); omega
    go_upto_block 4 with fail
    refine wp_piece (hd_p4 _ d b2 k g wb r st.m.lb st (B2 ++ tellM (to_ - said)) HW3 (H1 ++ (H2 ++ X)) (HW ++ b.heap d) w w5 _ _ _ _ _ _ _ _ _ _ _ _ _ _ _ _ _ _ _ _ _ _ _ _ _ _ _ _ _ _ _ _ _ _ _ _ _ _ _ _ _ _ _ _ _ _ _ _ _ _ _ _ _ _ _ _ _ _ _ _ _ _ _ _ _ _ _ _ _ _ _ _ _ _ _ _ _ _ _ _ _ _ _ _ _ _ _ _ _ _ _ _ _ _ _ _ _ _ _ _ _ _ _ _ _ _ _ _ _ _ _ _ _ _ _ _ _ _ _ _ _ _ _ _ _ _ _ _ _ _ _ _ _ _ _ _ _ _ _ _ _ _ _ _ _ _ _ _ _ _ _ _ _ _ _ _ _ _ _ _ _ _ _ _ _ _ _ _ _ _ _ _ HL2.out.1 hkn HL2.out.2.2.1 K4.out.2 K3.out.1 M5 rfl (by omega) (by omega) (by omega) ?_)
    rintro _ _ _ _ _ _ _ _ _ _ _ _ _ _ _ _ _ w6 HW6 ok6 hw6 M6
    unfold ptr0
    have hlB6 : ((B2 ++ tellM (to_ - said)) ++ List.replicate r true).length ≤ 50000100 := by rw [List.length_append,List.length_replicate]; omega
    obtain ⟨B6,hB6⟩ : ∃ B6,(B2 ++ tellM (to_ - said)) ++ List.replicate r true = B6 := ⟨_,rfl⟩
    rw [hB6] at hw6 hlB6
    have BI := Lib.hid (bit_any wb B6 0 w6 HW6 hw6 M6.sat.left (by omega))
    have K6 := Lib.hid (And.intro ok6 (And.intro M6 hB6))
    clear ok6 hw6 M6 hB6 M5 x0' z4' hlB
    go_upto_block 6 with (go_at_call 58; (with_reducible refine BI.out.mono ?_); rintro e w7 ⟨rfl,HW7,q1,q2⟩; have K7 := Lib.hid (And.intro q1 (Mv.call K6.out.2.1 q2)); clear q1 q2)
    have hlB7 : (B6 ++ [decide ((0 : Int) % 2 = 1)]).length ≤ 60000000 := by rw [List.length_append]; simp only [List.length_cons,List.length_nil]; omega
    refine wp_piece_end (hd_p6 _ d (b2.setS k st st.m.said (st.m.lb + (r : Int))) k g wb n g1 g2 c1 c2 (st.m.lb + (r : Int)) L1 L2 (st.withS st.m.said (st.m.lb + (r : Int))) (B6 ++ [decide ((0 : Int) % 2 = 1)]) HW7 (H1 ++ (H2 ++ X)) (HW ++ b.heap d) w w7 _ _ _ _ _ _ _ _ _ _ _ _ _ _ _ _ _ _ _ _ _ _ _ _ _ _ _ _ _ _ _ _ _ _ _ _ _ _ _ _ _ _ _ _ _ _ _ _ _ _ _ _ _ _ _ _ _ _ _ _ _ _ _ _ _ _ _ _ _ _ _ _ _ _ _ _ _ _ _ _ _ _ _ _ _ _ _ _ _ _ _ _ _ _ _ _ _ _ _ _ _ _ _ _ _ _ _ _ _ _ _ _ _ _ _ _ _ _ _ _ _ _ _ _ _ _ _ _ _ _ _ _ _ _ _ _ _ _ _ _ _ _ _ _ _ _ _ _ _ _ _ _ _ _ _ _ _ _ _ _ _ _ _ _ _ _ _ _ _ hkk (BandG.setS_get HL2.out.2.2.1 _ _) K4.out.2 K7.out.1 K7.out.2 rfl (by omega) hlB7 hn1000 HBD.out.1 RX.out ?_)
    rintro _ _ _ _ _ _ _ _ _ _ _ _ _ _ _ _ _ _ _ _ _ _ w8 HW8 hw8 M8
    unfold ptr0
    have K8 := Lib.hid (And.intro hw8 M8)
    clear hw8 M8
    refine bodyPost_end (results_none rfl _ _ _) rfl ⟨rfl,b2.setS k st st.m.said (st.m.lb + (r : Int)),HW8,K6.out.1,?_,?_,?_⟩
    ·have e : needM st.m style said to_ = st.m.lb + (r : Int) := by unfold needM; rw [HLS.out.1,HLS.out.2.1,HN.out,HR.out]
     rw [BandG.setS_model,HL2.out.2.1]
     unfold headM
     rw [if_neg hne,KF.out.2.2.2.1,HZ.out,e]
    ·have e : needM st.m style said to_ = st.m.lb + (r : Int) := by unfold needM; rw [HLS.out.1,HLS.out.2.1,HN.out,HR.out]
     have e2 : (st.m.lb + (r : Int) - st.m.lb).toNat = r := by omega
     unfold headM
     rw [if_neg hne,KF.out.2.2.2.1,HZ.out]
     unfold sizesB
     rw [e,HLS.out.1,HLS.out.2.1,HN.out,e2]
     have h := K8.out.1
     rw [← K6.out.2.2,← HL2.out.2.2.2.2] at h
     simpa [List.append_assoc] using h
    ·exact K8.out.2.sub (fun g => by simp only [cnt_append]; omega) (fun c hc => by simp only [List.mem_append] at hc ⊢; grind)
end
section
open Go.RowKit
section
variable {t e : TypeId} {size bytes : Nat} {z : Value}
theorem run_appR (hu : Try.prog.underlying t = some (.slice e)) (hi : (Try.prog.info? e).map (fun i => (i.zero,i.size,i.bytes)) = some (some z,size,bytes)) (hzs : z.cells.size = size) (h0 : 0 < size) (hb : bytes ≤ 1000) {w : World} {v : Value} {n : Nat} {xs : List Value} {H : List HB} (h : RowH e size v n xs H) (hs : Sat w H)
  {A : Option Addr} {m c : Nat} {news : List Value} (hr : Reads w w.heap.size size A m news) (h1 : ∀ u ∈ news,u.oneCell' = true) (hl : n + m ≤ 1000000) (ty : TypeId) :
  ∃ v' w' H',(Builtin.append_ #[t,t] ty #[v,.slice A m c]).run Try.prog w = .ok v' w' ∧ RowH e size v' (n + m) (xs ++ news) H' ∧ Mv w H w' H' := by
 obtain ⟨i0,hti,hz0,hz1,hz2⟩ := info_parts hi
 have hq : (n + m) * bytes ≤ 1000000 * 1000 := Nat.mul_le_mul hl hb
 obtain ⟨v',w',hrun,k1,k2,k3⟩ := run_append_any (P := Try.prog) w 0 t ty e i0 z size bytes hu hti hz0 hz1 hz2 hzs h0 v n xs (RowH.owns h hs (fun _ _ => Nat.zero_le _)) w.heap.size A m c news hr h1 (by unfold maxLen; omega) (by omega) (Nat.zero_le _)
 obtain ⟨H',k4,k5⟩ := mv_owns_grown h k1 k2 k3
 exact ⟨v',w',H',hrun,k4,k5⟩
variable {ops : Array Oper} {rest : List Oper} {o : Oper} {a : Act} {w : World} {K : Act → World → Prop} {Q : Exit → Act → World → Prop} {E : Prop}
theorem wp_appR (hu : Try.prog.underlying t = some (.slice e)) (hi : (Try.prog.info? e).map (fun i => (i.zero,i.size,i.bytes)) = some (some z,size,bytes)) (hzs : z.cells.size = size) (h0 : 0 < size) (hb : bytes ≤ 1000)
  (s x : Operand) (ho : o.op = .call { callee := .builtin .append,args := #[s,x],argTypes := #[t,t] }) (v : Value) {n : Nat} {xs : List Value} {H : List HB} {A : Option Addr} {m c : Nat} {news : List Value}
  (hsv : a.eval s = v) (hxu : a.eval x = .slice A m c) (h : RowH e size v n xs H) (hs : Sat w H) (hr : Reads w w.heap.size size A m news) (h1 : ∀ u ∈ news,u.oneCell' = true) (hl : n + m ≤ 1000000)
  (hK : ∀ v' w' H',RowH e size v' (n + m) (xs ++ news) H' → Mv w H w' H' → K (a.put o.dst v') w') : o.wp Try.prog a w K Q := by
 obtain ⟨v',w',H',hrun,h2,h3⟩ := run_appR hu hi hzs h0 hb h hs hr h1 hl (c := c) o.type
 unfold Oper.wp execOp
 simp only [ho,resolve,invoke,builtin,Sem.run_bind,Sem.run_pure,Result.andThen_ok,List.map_toArray,List.map_cons,List.map_nil,hsv,hxu,hrun]
 exact hK v' w' H' h2 h3
theorem wpList_appR (hu : Try.prog.underlying t = some (.slice e)) (hi : (Try.prog.info? e).map (fun i => (i.zero,i.size,i.bytes)) = some (some z,size,bytes)) (hzs : z.cells.size = size) (h0 : 0 < size) (hb : bytes ≤ 1000) (hgd : o.guard = none)
  (s x : Operand) (ho : o.op = .call { callee := .builtin .append,args := #[s,x],argTypes := #[t,t] }) (v : Value) {n : Nat} {xs : List Value} {H : List HB} {A : Option Addr} {m c : Nat} {news : List Value}
  (hsv : a.eval s = v) (hxu : a.eval x = .slice A m c) (h : RowH e size v n xs H) (hs : Sat w H) (hr : Reads w w.heap.size size A m news) (h1 : ∀ u ∈ news,u.oneCell' = true) (hl : n + m ≤ 1000000)
  (hK : ∀ v' w' H',RowH e size v' (n + m) (xs ++ news) H' → Mv w H w' H' → wpList Try.prog ops Q rest (a.put o.dst v') w') : wpList Try.prog ops Q (o :: rest) a w :=
 wpList_plain hgd fun _ hk => wp_appR hu hi hzs h0 hb s x ho v hsv hxu h hs hr h1 hl fun v' w' H' h2 h3 => hk _ _ (hK v' w' H' h2 h3)
theorem reads_new {wb : World} {cs : Array Value} (hw : w = wb.alloc (.cells cs e)) (hc : cs.size = size) : Reads w w.heap.size size (some ⟨wb.heap.size,0,none⟩) 1 cs.toList := by
 refine ⟨by simp [hc],fun _ => ⟨_,rfl,by rw [hw]; simp,fun j u hu => ?_⟩⟩
 rw [hw]
 exact news_block wb cs _ j u (by simpa using hu)
end
end
section
open Go.RowKit
def rUp (a w h k : Nat) : Int := if 1 < w * h then ((a + w * h + k / w / 2 * ((w + 1) / 2) + k % w / 2 : Nat) : Int) else -1
def rlev (a : Nat) (L : LevM) : List (Int × NodeM) := L.l.mapIdx fun k x => (rUp a L.w L.h k,x)
def rnodes : Nat → List LevM → List (Int × NodeM)
 | _,[] => []
 | a,L :: T => rlev a L ++ rnodes (a + L.l.length) T
def rnodeV (p : Int × NodeM) : List Value := [.int .i64 p.2.n,.int .i64 p.2.low,.bool p.2.said,.int .i64 p.1]
def rnodesV (l : List (Int × NodeM)) : List Value := l.flatMap rnodeV
theorem rnodesV_append (a b : List (Int × NodeM)) : rnodesV (a ++ b) = rnodesV a ++ rnodesV b := by simp [rnodesV]
theorem rnodesV_one (l : List (Int × NodeM)) : ∀ u ∈ rnodesV l,u.oneCell' = true := by
 intro u hu
 simp only [rnodesV,rnodeV,List.mem_flatMap,List.mem_cons,List.not_mem_nil,or_false] at hu
 obtain ⟨q,-,rfl | rfl | rfl | rfl⟩ := hu <;> rfl
theorem rlev_get {a : Nat} {L : LevM} {k : Nat} {x : NodeM} (h : L.l[k]? = some x) : (rlev a L)[k]? = some (rUp a L.w L.h k,x) := by simp [rlev,h]
def leavesM : List LevM → Nat
 | [] => 0
 | L :: _ => L.l.length
def RTreeH (tb : Nat) (T : List LevM) (fresh : Bool) (H : List HB) : Prop :=
 ∃ v Hl,H = ⟨tb,161,#[v,.int .i64 (leavesM T : Int),.bool fresh]⟩ :: Hl ∧ RowH 163 4 v (rnodes 0 T).length (rnodesV (rnodes 0 T)) Hl
theorem infoRn : (Try.prog.info? 163).map (fun i => (i.zero,i.size,i.bytes)) = some (some (.agg #[.int .i64 0,.int .i64 0,.bool false,.int .i64 0]),4,32) := by kernel_rfl
def QSt (s : StG) : Prop := RowQ s.vp s.m.ps s.Hp ∧ RowB s.vb s.m.bs s.Hb ∧ s.m.Fits
def rbandB (bb ti tu : Nat) (vl : Value) (m : BandM) : HB := ⟨bb,122,#[.int .i64 m.planes,vl,.pointer (some ⟨ti,0,none⟩),.pointer (some ⟨tu,0,none⟩),.bool m.set]⟩
structure RBandG where
 ti : Nat
 tu : Nat
 vl : Value
 Hl : List HB
 Hi : List HB
 Hu : List HB
 G : List StG
structure RBandG.ok (b : RBandG) (m : BandM) (ff fz : Bool) : Prop where
 ss : b.G.map (·.m) = m.ss
 st : ∀ s ∈ b.G,QSt s
 row : RowH 124 5 b.vl b.G.length (b.G.flatMap StG.v) b.Hl
 ti : RTreeH b.ti m.first ff b.Hi
 tu : RTreeH b.tu m.zeros fz b.Hu
 pl : -1000 ≤ m.planes ∧ m.planes ≤ 1000
def RBandG.heap (b : RBandG) (bb : Nat) (m : BandM) : List HB := rbandB bb b.ti b.tu b.vl m :: (b.Hl ++ (b.Hi ++ (b.Hu ++ b.G.flatMap StG.heap)))
def RBandR (bb : Nat) (m : BandM) (ff fz : Bool) (H : List HB) : Prop := ∃ b : RBandG,b.ok m ff fz ∧ H = b.heap bb m
theorem infoPart : (Try.prog.info? 124).map (fun i => (i.zero,i.size,i.bytes)) = some (some (.agg #[.int .i64 0,.slice none 0 0,.slice none 0 0,.int .i64 0,.int .i64 0]),5,72) := by kernel_rfl
def wIn (x : Int) (n : Nat) : Nat := (x % (n : Int)).toNat
theorem wIn_lt (x : Int) {n : Nat} (h : 1 ≤ n) : wIn x n < n := by
 have h1 := Int.emod_nonneg x (show (n : Int) ≠ 0 by omega)
 have h2 := Int.emod_lt_of_pos x (show 0 < (n : Int) by omega)
 unfold wIn
 omega
theorem wIn_cast (x : Int) {n : Nat} (h : 1 ≤ n) : ((wIn x n : Nat) : Int) = x % (n : Int) := by
 have h1 := Int.emod_nonneg x (show (n : Int) ≠ 0 by omega)
 unfold wIn
 omega
def valM (planes : Nat) (ns : List Int) (i : Nat) : Int :=
 if ns.length = 0 then 0 else
 let n := ns.getD (i % ns.length) 0
 let m := wIn (wrap64 (wrap64 (Int.tdiv n 64) + i)) (2 ^ wIn (wrap64 (Int.tdiv n 7)) (planes + 1))
 let c := wIn (wrap64 (n + (i / ns.length : Nat))) 5
 if c < 2 then (m : Int) else if c < 4 then -(m : Int) else 0
def valsM (planes : Nat) (ns : List Int) : List Int := (List.range 15).map (valM planes ns)
theorem valM_lt (planes : Nat) (ns : List Int) (i : Nat) : (valM planes ns i).natAbs < 2 ^ planes := by
 have h0 : 0 < 2 ^ planes := Nat.pow_pos (by decide)
 unfold valM
 split
 ·exact h0
 ·rename_i hn
  simp only
  generalize ns.getD (i % ns.length) 0 = n
  have h1 := wIn_lt (wrap64 (Int.tdiv n 7)) (n := planes + 1) (by omega)
  have h2 := wIn_lt (wrap64 (wrap64 (Int.tdiv n 64) + i)) (n := 2 ^ wIn (wrap64 (Int.tdiv n 7)) (planes + 1)) (Nat.pow_pos (by decide))
  have h3 : 2 ^ wIn (wrap64 (Int.tdiv n 7)) (planes + 1) ≤ 2 ^ planes := Nat.pow_le_pow_right (by decide) (by omega)
  split
  ·omega
  ·split
   ·omega
   ·exact h0
def geoV (band style : Nat) (v : List Int) : GeoM := ⟨3,5,band,style,v.map Int.natAbs,v.map fun n => oneN (decide (n < 0))⟩
theorem geoV_ok (band style planes : Nat) (ns : List Int) (h1 : band ≤ 3) (h2 : style ≤ 63) (h3 : planes ≤ 12) : (geoV band style (valsM planes ns)).Ok :=
 ⟨by show 1 ≤ 3; decide,by show 3 ≤ 64; decide,by show 1 ≤ 5; decide,by show 5 ≤ 64; decide,h1,h2,by simp [geoV,valsM],by simp [geoV,valsM],by
  intro m hm
  simp only [geoV,valsM,List.map_map,List.mem_map] at hm
  obtain ⟨i,-,rfl⟩ := hm
  have h := valM_lt planes ns i
  have h4 : 2 ^ planes ≤ 2 ^ 12 := Nat.pow_le_pow_right (by decide) h3
  have h5 : (2 : Nat) ^ 12 = 4096 := rfl
  show (valM planes ns i).natAbs < 1073741824
  omega,by
  intro m hm
  simp only [geoV,List.mem_map] at hm
  obtain ⟨i,-,rfl⟩ := hm
  exact oneN_le _⟩
theorem geoV_bounds (band style planes : Nat) (ns : List Int) (h3 : planes ≤ 12) : (encodeM (geoV band style (valsM planes ns))).planes ≤ 12 ∧ (encodeM (geoV band style (valsM planes ns))).passes.length ≤ 34 ∧ (encodeM (geoV band style (valsM planes ns))).bytes.length ≤ 200000 ∧
  (∀ p ∈ (encodeM (geoV band style (valsM planes ns))).passes,0 ≤ p.1 ∧ p.1 ≤ 200000) := by
 obtain ⟨G,hG⟩ : ∃ G,geoV band style (valsM planes ns) = G := ⟨_,rfl⟩
 have hp : planesOf G.mag ≤ 12 := planesOf_le G.mag 12 (by
  intro m hm
  rw [← hG] at hm
  simp only [geoV,valsM,List.map_map,List.mem_map] at hm
  obtain ⟨i,-,rfl⟩ := hm
  have h := valM_lt planes ns i
  have h4 : 2 ^ planes ≤ 2 ^ 12 := Nat.pow_le_pow_right (by decide) h3
  exact Nat.lt_of_lt_of_le h h4)
 have hw : G.w * G.h = 15 := by rw [← hG]; rfl
 have hh : 1 ≤ G.h := by rw [← hG]; show 1 ≤ 5; decide
 rw [hG]
 obtain ⟨ok,hb⟩ := encodeM_ok G hh
 have he : (encodeM G).planes = planesOf G.mag := rfl
 rw [← he] at hp
 have h2 : countM (encodeM G).planes ≤ 34 := by unfold countM; omega
 have hn : (encodeM G).passes.length ≤ 34 := by rw [ok.len]; exact h2
 have h3 : (encodeM G).bytes.length ≤ 34 * 2948 := by
  refine Nat.le_trans hb ?_
  rw [hw]
  exact Nat.mul_le_mul_right _ h2
 exact ⟨hp,hn,by omega,fun p hpm => by have := ok.pos p hpm; omega⟩
structure ShapeM where
 w : Int
 h : Int
 spare : Int
 planes : List Int
 ns : List Int
def ShapeM.W (s : ShapeM) : Nat := wIn s.w 4
def ShapeM.H (s : ShapeM) : Nat := wIn s.h 4
def ShapeM.most (s : ShapeM) : Nat := 12 + wIn s.spare 4
def ShapeM.n (s : ShapeM) (k : Nat) : Nat := if s.planes.length = 0 then 0 else wIn (s.planes.getD (k % s.planes.length) 0) 13
theorem ShapeM.n_le (s : ShapeM) (k : Nat) : s.n k ≤ 12 := by
 unfold ShapeM.n
 split
 ·omega
 ·have := wIn_lt (s.planes.getD (k % s.planes.length) 0) (n := 13) (by omega)
  omega
def ShapeM.blk (s : ShapeM) (i style k : Nat) : BlkM := encodeM (geoV (i % 4) style (valsM (s.n k) s.ns))
def ShapeM.new (s : ShapeM) : BandM := newBandM s.W s.H (s.most : Int)
def ShapeM.band (s : ShapeM) (i style : Nat) : Nat → BandM
 | 0 => s.new
 | k + 1 => addM (s.band i style k) (k : Int) ((s.blk i style k).planes : Int) (s.blk i style k).passes (s.blk i style k).bytes
theorem ShapeM.lt (s : ShapeM) : s.W < 4 ∧ s.H < 4 ∧ 12 ≤ s.most ∧ s.most < 16 := by
 have h1 := wIn_lt s.w (n := 4) (by omega)
 have h2 := wIn_lt s.h (n := 4) (by omega)
 have h3 := wIn_lt s.spare (n := 4) (by omega)
 unfold ShapeM.W ShapeM.H ShapeM.most
 omega
theorem ShapeM.band_ss (s : ShapeM) (i style : Nat) : ∀ k ≤ s.W * s.H,(s.band i style k).ss.length = s.W * s.H ∧ (∀ j,k ≤ j → j < s.W * s.H → (s.band i style k).ss[j]? = some stNew.m) ∧
  (s.band i style k).planes = (s.most : Int) ∧ (s.band i style k).w = s.W ∧ (s.band i style k).h = s.H ∧ (s.band i style k).set = false ∧ (s.band i style k).first = treeOf s.W s.H ∧ (s.band i style k).zeros = treeOf s.W s.H ∧
  ∀ x ∈ (s.band i style k).ss,x = stNew.m ∨ ∃ j < k,x = ⟨((s.blk i style j).planes : Int),(s.blk i style j).passes,(s.blk i style j).bytes,0,3⟩
 | 0,_ => ⟨by simp [ShapeM.band,ShapeM.new,newBandM],fun j _ hj => newBandM_ss _ _ _ hj,rfl,rfl,rfl,rfl,rfl,rfl,fun x hx => .inl (List.eq_of_mem_replicate hx)⟩
 | k + 1,hk => by
  obtain ⟨h1,h2,h3,h4,h5,h6,h7,h8,h9⟩ := ShapeM.band_ss s i style k (by omega)
  have h0 := h2 k (Nat.le_refl _) (by omega)
  have e := addM_ss h0 ((s.blk i style k).planes : Int) (s.blk i style k).passes (s.blk i style k).bytes
  have e2 : (s.band i style (k + 1)).ss = (s.band i style k).ss.set k ⟨((s.blk i style k).planes : Int),(s.blk i style k).passes,(s.blk i style k).bytes,0,3⟩ := e
  have e3 : ∀ {α : Type} (f : BandM → α),(∀ (m : BandM) (ss : List StM),f { m with ss := ss } = f m) → f (s.band i style (k + 1)) = f (s.band i style k) := by
   intro α f hf
   show f (addM _ _ _ _ _) = _
   unfold addM
   split
   ·rfl
   ·exact hf _ _
  refine ⟨by rw [e2,List.length_set]; exact h1,fun j hj1 hj2 => ?_,(e3 BandM.planes fun _ _ => rfl).trans h3,(e3 BandM.w fun _ _ => rfl).trans h4,(e3 BandM.h fun _ _ => rfl).trans h5,(e3 BandM.set fun _ _ => rfl).trans h6,(e3 BandM.first fun _ _ => rfl).trans h7,(e3 BandM.zeros fun _ _ => rfl).trans h8,fun x hx => ?_⟩
  ·rw [e2,List.getElem?_set_ne (by omega)]
   exact h2 j (by omega) hj2
  ·rw [e2] at hx
   rcases List.mem_or_eq_of_mem_set hx with h | h
   ·rcases h9 x h with h | ⟨j,hj,h⟩
    ·exact .inl h
    ·exact .inr ⟨j,by omega,h⟩
   ·exact .inr ⟨k,by omega,h⟩
end
section
open Go.RowKit
theorem rlev_new (a w h : Nat) {j : Nat} (hj : j < w * h) : (rlev a (levNew w h))[j]? = some (rUp a w h j,⟨0,0,false⟩) := by
 refine rlev_get ?_
 simp only [levNew,List.getElem?_replicate]
 rw [if_pos hj]
theorem rlev_new_length (a w h : Nat) : (rlev a (levNew w h)).length = w * h := by simp [rlev,levNew]
theorem rup_eq (n a b j : Nat) (h1 : 1 < a * b) (ha : 1 ≤ a) (ha2 : a ≤ 64) (hab : a * b ≤ 4096) (hj : j < a * b) (hn : n ≤ 24576) :
  wrap64 (wrap64 ((n : Int) + (a : Int) * (b : Int) + wrap64 (wrap64 (Int.tdiv (wrap64 ((j : Int) / (a : Int))) 2) * (((a : Int) + 1) / 2))) + wrap64 (Int.tdiv ((j : Int) % (a : Int)) 2)) = rUp n a b j := by
 unfold rUp
 rw [if_pos h1]
 have e1 : (j : Int) / (a : Int) = ((j / a : Nat) : Int) := by push_cast; rfl
 have e2 : (j : Int) % (a : Int) = ((j % a : Nat) : Int) := by push_cast; rfl
 have e3 : (a : Int) * (b : Int) = ((a * b : Nat) : Int) := by push_cast; rfl
 rw [e1,e2,e3]
 clear e1 e2 e3
 have h2 : j / a ≤ j := Nat.div_le_self j a
 have h3 : j % a < a := Nat.mod_lt _ (by omega)
 generalize j / a = p at *
 generalize j % a = q at *
 generalize a * b = r at *
 have h6 : p / 2 ≤ 4096 := by omega
 have h7 : (a + 1) / 2 ≤ 64 := by omega
 have h8 : p / 2 * ((a + 1) / 2) ≤ 262144 := by
  have h9 : p / 2 * ((a + 1) / 2) ≤ 4096 * ((a + 1) / 2) := Nat.mul_le_mul_right _ h6
  omega
 have hu : q / 2 ≤ 64 := by omega
 have e7 : ((p / 2 : Nat) : Int) * (((a + 1) / 2 : Nat) : Int) = ((p / 2 * ((a + 1) / 2) : Nat) : Int) := (Int.natCast_mul _ _).symm
 have W : Hid (∀ x : Int,0 ≤ x → x ≤ 1000000 → wrap64 x = x) := Lib.hid fun x h1 h2 => IntWalk.wrap64_in x ⟨by omega,by omega⟩
 have D : Hid (∀ x : Nat,Int.tdiv (x : Int) 2 = ((x / 2 : Nat) : Int)) := Lib.hid fun x => by rw [Int.tdiv_eq_ediv_of_nonneg (by omega)]; omega
 have b1 : (0 : Int) ≤ (p : Int) ∧ (p : Int) ≤ 1000000 := by omega
 have b2 : (0 : Int) ≤ ((p / 2 : Nat) : Int) ∧ ((p / 2 : Nat) : Int) ≤ 1000000 := by omega
 have b3 : (0 : Int) ≤ ((q / 2 : Nat) : Int) ∧ ((q / 2 : Nat) : Int) ≤ 1000000 := by omega
 rw [show ((a : Int) + 1) / 2 = (((a + 1) / 2 : Nat) : Int) by omega,W.out _ b1.1 b1.2,D.out,D.out,W.out _ b2.1 b2.2,W.out _ b3.1 b3.2,e7]
 clear e7 b1 b2 b3
 generalize p / 2 * ((a + 1) / 2) = t at *
 generalize q / 2 = u at *
 have b1 : (0 : Int) ≤ (t : Int) ∧ (t : Int) ≤ 1000000 := by omega
 have b2 : (0 : Int) ≤ (n : Int) + (r : Int) + (t : Int) ∧ (n : Int) + (r : Int) + (t : Int) ≤ 1000000 := by omega
 have b3 : (0 : Int) ≤ (n : Int) + (r : Int) + (t : Int) + (u : Int) ∧ (n : Int) + (r : Int) + (t : Int) + (u : Int) ≤ 1000000 := by omega
 push_cast
 rw [W.out _ b1.1 b1.2,W.out _ b2.1 b2.2,W.out _ b3.1 b3.2]
set_option maxHeartbeats 4000000 in
theorem rtree_new (x y : Nat) (W : World) (hx : x ≤ 64) (hy : y ≤ 64) :
  Calls Try.prog 53 #[.int .i64 (x : Int),.int .i64 (y : Int)] W fun e W' => ∃ tb H,e = .returned (.pointer (some ⟨tb,0,none⟩)) ∧ RTreeH tb (treeOf x y) false H ∧ Mv W [] W' H := by
 by_cases h0 : x = 0 ∨ y = 0
 ·have e0 : treeOf x y = [] := by unfold treeOf; rw [if_pos (by omega)]
  rw [e0]
  have M := mv_alloc W 161 #[.slice none 0 0,.int .i64 0,.bool false]
  have T0 : RTreeH W.heap.size [] false [⟨W.heap.size,161,#[.slice none 0 0,.int .i64 0,.bool false]⟩] := ⟨_,[],rfl,RowH.nil _ _⟩
  have K := Lib.hid (And.intro M T0)
  have mx : (if (0 : Int) < (x : Int) then (x : Int) else 0) = (x : Int) := by split <;> omega
  have my : (if (0 : Int) < (y : Int) then (y : Int) else 0) = (y : Int) := by split <;> omega
  clear M T0 e0
  rcases h0 with rfl | rfl
  ·go_enter Try.func53,Try.ntmps53
   go_wp2_with fail
   go_ret
   exact ⟨_,_,rfl,K.out.2,K.out.1⟩
  ·go_enter Try.func53,Try.ntmps53
   go_wp2_with fail
   go_ret
   exact ⟨_,_,rfl,K.out.2,K.out.1⟩
 ·have hx1 : 1 ≤ x := by omega
  have hy1 : 1 ≤ y := by omega
  have e0 : treeOf x y = treeNew 7 x y := by unfold treeOf; rw [if_neg (by omega),Int.toNat_natCast,Int.toNat_natCast]
  rw [e0]
  have mx : (if (0 : Int) < (x : Int) then (x : Int) else 0) = (x : Int) := by split <;> omega
  have my : (if (0 : Int) < (y : Int) then (y : Int) else 0) = (y : Int) := by split <;> omega
  have hxy : x * y ≤ 64 * 64 := Nat.mul_le_mul hx hy
  have hxy1 : 1 * 1 ≤ x * y := Nat.mul_le_mul hx1 hy1
  have b1 : (x : Int) * (y : Int) ≤ 4096 := by exact_mod_cast hxy
  have b2 : 1 ≤ (x : Int) * (y : Int) := by exact_mod_cast hxy1
  have b3 : ((x : Int) * (y : Int) == 0) = false := by simp only [beq_eq_false_iff_ne,ne_eq]; omega
  have M := mv_alloc W 161 #[.slice none 0 0,.int .i64 ((x : Int) * (y : Int)),.bool false]
  have hp6 : (64 : Nat) = 2 ^ 6 := rfl
  have K := Lib.hid (And.intro M (And.intro (show x ≤ 2 ^ 6 by omega) (show y ≤ 2 ^ 6 by omega)))
  have HL : Hid (leavesM (treeNew 7 x y) = x * y) := Lib.hid (by
   unfold treeNew
   split <;> simp [leavesM,levNew])
  have y0 := M.cell 0 rfl 1
  obtain ⟨tb,htb⟩ : ∃ g,W.heap.size = g := ⟨_,rfl⟩
  rw [htb] at K
  have HTB := Lib.hid htb
  clear M h0 e0 hp6 hxy hxy1
  go_enter Try.func53,Try.ntmps53
  go_upto_region 4 with fail
  (try simp only [htb])
  clear htb y0
  go_wp2_with fail
  go_loopg [6,7,8] 7 (fun m s6 s7 s8 wx => ∃ (f a b n : Nat) (l : List (Int × NodeM)) (v : Value) (Hl : List HB),m = f + 1 ∧ f ≤ 6 ∧ s6 = .int .i64 (a : Int) ∧ s7 = .int .i64 (b : Int) ∧ s8 = .int .i64 (n : Int) ∧ l.length = n ∧ 1 ≤ a ∧ a ≤ 2 ^ f ∧ 1 ≤ b ∧ b ≤ 2 ^ f ∧
   n + f * 4096 ≤ 6 * 4096 ∧ l ++ rnodes n (treeNew (f + 1) a b) = rnodes 0 (treeNew 7 x y) ∧ RowH 163 4 v n (rnodesV l) Hl ∧ Mv W [] wx (⟨tb,161,#[v,.int .i64 ((x : Int) * (y : Int)),.bool false]⟩ :: Hl))
  case atStart => exact ⟨6,x,y,0,[],_,[],rfl,Nat.le_refl _,rfl,rfl,rfl,rfl,hx1,K.out.2.1,hy1,K.out.2.2,Nat.le_refl _,rfl,RowH.nil _ _,K.out.1⟩
  case round =>
   obtain ⟨f,a,b,n,l,v,Hl,rfl,hf,rfl,rfl,rfl,hln,ha1,ha2,hb1,hb2,hn,hT,hr,m⟩ := hrel
   have h64 : 2 ^ f ≤ 64 := Nat.pow_le_pow_right (n := 2) (by decide) hf
   have ha64 : a ≤ 64 := by omega
   have hb64 : b ≤ 64 := by omega
   have hab : a * b ≤ 64 * 64 := Nat.mul_le_mul ha64 hb64
   have hab1 : 1 * 1 ≤ a * b := Nat.mul_le_mul ha1 hb1
   have c1 : (a : Int) * (b : Int) ≤ 4096 := by exact_mod_cast hab
   have c2 : 1 ≤ (a : Int) * (b : Int) := by exact_mod_cast hab1
   have hn2 : n ≤ 24576 := by omega
   have KR := Lib.hid (And.intro hln (And.intro ha2 (And.intro hb2 (And.intro hn hT))))
   have KM := Lib.hid (And.intro hr m)
   obtain ⟨q,hq⟩ : ∃ q,a * b = q := ⟨_,rfl⟩
   have HQ := Lib.hid hq
   have hq1 : 1 ≤ q ∧ q ≤ 4096 := by omega
   obtain ⟨hq1,hq2⟩ := hq1
   clear hln ha2 hb2 hn hT hr m h64 hab hab1 K hq
   go_wp2_with fail
   go_loopg [10] q (fun mm s10 wx => ∃ (j : Nat) (v : Value) (Hl : List HB),j ≤ q ∧ mm = q - j ∧ s10 = .int .i64 (j : Int) ∧ RowH 163 4 v (n + j) (rnodesV (l ++ (rlev n (levNew a b)).take j)) Hl ∧ Mv W [] wx (⟨tb,161,#[v,.int .i64 ((x : Int) * (y : Int)),.bool false]⟩ :: Hl))
   case atStart => exact ⟨0,v,Hl,Nat.zero_le _,rfl,rfl,by simpa using KM.out.1,KM.out.2⟩
   case round =>
    clear KM
    obtain ⟨j,v,Hl,hj,rfl,rfl,hr,m⟩ := hrel
    have z0 : wr.cell? ⟨tb,0,none⟩ = some v := m.cell 0 rfl 0
    have z1 := m.frozen 0 rfl 0
    obtain ⟨va,vc,rfl⟩ := hr.slice
    by_cases hlt : j < q
    ·have d1 : decide ((j : Int) < (a : Int) * (b : Int)) = true := decide_eq_true (by have := HQ.out; exact_mod_cast (by omega : j < a * b))
     have KA := Lib.hid (And.intro hr m)
     have KH := Lib.hid hr
     clear hr m
     by_cases h1 : 1 < a * b
     ·have d2 : decide (1 < (a : Int) * (b : Int)) = true := decide_eq_true (by exact_mod_cast h1)
      have hrp := Lib.hid (rup_eq n a b j h1 ha1 ha64 (by rw [HQ.out]; exact hq2) (by rw [HQ.out]; exact hlt) hn2)
      go_upto_region 11 with fail
      go_quiet (fail)
      simp only [hrp.out]
      clear hrp z0 z1 d2
      obtain ⟨up,hup⟩ : ∃ up,rUp n a b j = up := ⟨_,rfl⟩
      simp only [hup]
      replace hup := Lib.hid hup
      obtain ⟨wq,hwq⟩ : ∃ wq,wr.drewN nq = wq := ⟨_,rfl⟩
      have mq : Mv W [] wq (⟨tb,161,#[.slice va (n + j) vc,.int .i64 ((x : Int) * (y : Int)),.bool false]⟩ :: Hl) := by rw [← hwq]; exact KA.out.2.drewN nq
      rw [hwq]
      clear hwq KA
      have z0 : wq.cell? ⟨tb,0,none⟩ = some (.slice va (n + j) vc) := mq.cell 0 rfl 0
      have M4 := mq.alloc 163 #[.int .i64 0,.int .i64 0,.bool false,.int .i64 up]
      have M5 : Mv W [] _ (Hl ++ (⟨wq.heap.size,163,#[.int .i64 0,.int .i64 0,.bool false,.int .i64 up]⟩ :: ⟨tb,161,#[.slice va (n + j) vc,.int .i64 ((x : Int) * (y : Int)),.bool false]⟩ :: [])) := M4.sub (fun g => by simp only [cnt_append,cnt_cons,cnt_nil]; omega) (fun c hc => by simp only [List.mem_append,List.mem_cons,List.not_mem_nil,or_false] at hc ⊢; grind)
      have K5 := Lib.hid (And.intro KH.out M5)
      clear M4 M5 mq KH
      go_upto_region 8 with (at_builtin; refine wpList_appR Try.underlying159 infoRn rfl (by decide) (by decide) rfl (.tmp 62) (.tmp 65) rfl (.slice va (n + j) vc) rfl rfl K5.out.1 K5.out.2.sat.left (reads_new rfl rfl) ?one ?len ?nxt; (case one => (intro u hu; exact rnodesV_one [(up,⟨0,0,false⟩)] u hu)); (case len => omega); intro v6 w6 H6 h6 m6; obtain ⟨a6,c6,rfl⟩ := h6.slice; have M6 := Mv.call K5.out.2 m6; have M7 : Mv W [] w6 (⟨tb,161,#[.slice va (n + j) vc,.int .i64 ((x : Int) * (y : Int)),.bool false]⟩ :: H6) := M6.sub (fun g => by simp only [cnt_append,cnt_cons,cnt_nil]; omega) (fun c hc => by simp only [List.mem_append,List.mem_cons,List.not_mem_nil,or_false] at hc ⊢; grind); have z2 : w6.cell? ⟨tb,0,none⟩ = some (.slice va (n + j) vc) := (by first | exact M7.cell 0 rfl 0); have z3 : w6.frozen? ⟨tb,0,none⟩ = false := (by first | exact M7.frozen 0 rfl 0); have K6 := Lib.hid (And.intro h6 (M7.set 0 (.slice a6 (n + j + 1) c6))); clear h6 m6 M6 M7)
      go_wp2_with fail
      go_roundg (q - (j + 1))
      case measure => omega
      case rel => exact ⟨j + 1,_,H6,hlt,rfl,by push_cast; rfl,by rw [List.take_add_one,rlev_new n a b (by rw [HQ.out]; exact hlt),Option.toList_some,← List.append_assoc,rnodesV_append,hup.out]; exact K6.out.1,K6.out.2⟩
     ·have d2 : decide (1 < (a : Int) * (b : Int)) = false := decide_eq_false (by intro h; exact h1 (by exact_mod_cast h))
      clear z0 z1
      have hup : Hid (rUp n a b j = -1) := Lib.hid (by unfold rUp; rw [if_neg h1])
      obtain ⟨wq,rfl⟩ : ∃ wq : World,wq = wr := ⟨_,rfl⟩
      have mq : Mv W [] wq (⟨tb,161,#[.slice va (n + j) vc,.int .i64 ((x : Int) * (y : Int)),.bool false]⟩ :: Hl) := KA.out.2
      clear KA
      have z0 : wq.cell? ⟨tb,0,none⟩ = some (.slice va (n + j) vc) := mq.cell 0 rfl 0
      have M4 := mq.alloc 163 #[.int .i64 0,.int .i64 0,.bool false,.int .i64 (-1)]
      have M5 : Mv W [] _ (Hl ++ (⟨wq.heap.size,163,#[.int .i64 0,.int .i64 0,.bool false,.int .i64 (-1)]⟩ :: ⟨tb,161,#[.slice va (n + j) vc,.int .i64 ((x : Int) * (y : Int)),.bool false]⟩ :: [])) := M4.sub (fun g => by simp only [cnt_append,cnt_cons,cnt_nil]; omega) (fun c hc => by simp only [List.mem_append,List.mem_cons,List.not_mem_nil,or_false] at hc ⊢; grind)
      have K5 := Lib.hid (And.intro KH.out M5)
      clear M4 M5 mq KH
      go_upto_region 8 with (at_builtin; refine wpList_appR Try.underlying159 infoRn rfl (by decide) (by decide) rfl (.tmp 62) (.tmp 65) rfl (.slice va (n + j) vc) rfl rfl K5.out.1 K5.out.2.sat.left (reads_new rfl rfl) ?one2 ?len2 ?nxt2; (case one2 => (intro u hu; exact rnodesV_one [(-1,⟨0,0,false⟩)] u hu)); (case len2 => omega); intro v6 w6 H6 h6 m6; obtain ⟨a6,c6,rfl⟩ := h6.slice; have M6 := Mv.call K5.out.2 m6; have M7 : Mv W [] w6 (⟨tb,161,#[.slice va (n + j) vc,.int .i64 ((x : Int) * (y : Int)),.bool false]⟩ :: H6) := M6.sub (fun g => by simp only [cnt_append,cnt_cons,cnt_nil]; omega) (fun c hc => by simp only [List.mem_append,List.mem_cons,List.not_mem_nil,or_false] at hc ⊢; grind); have z2 : w6.cell? ⟨tb,0,none⟩ = some (.slice va (n + j) vc) := (by first | exact M7.cell 0 rfl 0); have z3 : w6.frozen? ⟨tb,0,none⟩ = false := (by first | exact M7.frozen 0 rfl 0); have K6 := Lib.hid (And.intro h6 (M7.set 0 (.slice a6 (n + j + 1) c6))); clear h6 m6 M6 M7)
      go_wp2_with fail
      go_roundg (q - (j + 1))
      case measure => omega
      case rel => exact ⟨j + 1,_,H6,hlt,rfl,by push_cast; rfl,by rw [List.take_add_one,rlev_new n a b (by rw [HQ.out]; exact hlt),Option.toList_some,← List.append_assoc,rnodesV_append,hup.out]; exact K6.out.1,K6.out.2⟩
    ·have d1 : decide ((j : Int) < (a : Int) * (b : Int)) = false := decide_eq_false (by intro h; have h2 := HQ.out; have h3 : j < a * b := (by exact_mod_cast h); omega)
     obtain rfl : j = q := by omega
     have hj2 : (rlev n (levNew a b)).take j = rlev n (levNew a b) := List.take_of_length_le (by rw [rlev_new_length,HQ.out]; exact Nat.le_refl _)
     rw [hj2] at hr
     have KA := Lib.hid (And.intro hr m)
     clear hr m z0 z1 hj2
     by_cases h1 : j = 1
     ·subst h1
      have h2 := HQ.out
      obtain ⟨rfl,rfl⟩ : a = 1 ∧ b = 1 := ⟨Nat.eq_one_of_mul_eq_one_right h2,Nat.eq_one_of_mul_eq_one_left h2⟩
      clear h2
      go_wp2_with fail
      go_ret
      obtain ⟨k1,k2,k3,k4,k5⟩ := KR.out
      have e : l ++ rlev n (levNew 1 1) = rnodes 0 (treeNew 7 x y) := by
       rw [← k5]
       simp [treeNew,rnodes]
      have hlen : (rnodes 0 (treeNew 7 x y)).length = n + 1 := by rw [← e,List.length_append,rlev_new_length,k1]
      (first | refine ⟨tb,_,rfl,⟨.slice va (n + 1) vc,Hl,?_,?_⟩,KA.out.2⟩ | refine ⟨tb,rfl,_,⟨.slice va (n + 1) vc,Hl,?_,?_⟩,KA.out.2⟩)
      ·rw [HL.out]
       push_cast
       rfl
      ·rw [hlen,← e]
       exact KA.out.1
     ·have d3 : ((a : Int) * (b : Int) == 1) = false := by
       simp only [beq_eq_false_iff_ne,ne_eq]
       intro h
       have h2 := HQ.out
       have h3 : a * b = 1 := by exact_mod_cast h
       omega
      go_wp2_with fail
      obtain ⟨k1,k2,k3,k4,k5⟩ := KR.out
      cases f with
      | zero =>
       have h2 := HQ.out
       obtain rfl : a = 1 := by simp at k2; omega
       obtain rfl : b = 1 := by simp at k3; omega
       omega
      | succ f =>
       rw [Nat.pow_succ] at k2 k3
       go_roundg (f + 1)
       case measure => omega
       case rel =>
        have hne : ¬ (a = 1 ∧ b = 1) := fun h => by have h2 := HQ.out; rw [h.1,h.2] at h2; omega
        have e : treeNew (f + 1 + 1) a b = levNew a b :: treeNew (f + 1) ((a + 1) / 2) ((b + 1) / 2) := by
         conv => lhs; unfold treeNew
         rw [if_neg hne]
        refine ⟨f,(a + 1) / 2,(b + 1) / 2,n + j,l ++ rlev n (levNew a b),_,Hl,rfl,by omega,by go_num,by go_num,?_,by rw [List.length_append,rlev_new_length,k1,HQ.out],by omega,by omega,by omega,by omega,by omega,?_,KA.out.1,KA.out.2⟩
        ·have h2 := HQ.out
         rw [← h2]
         push_cast
         rfl
        ·rw [← k5,e]
         simp only [rnodes,List.append_assoc,levNew,List.length_replicate,HQ.out]
end
end Go.Proofs.Ytnpoakabheeoeaa
