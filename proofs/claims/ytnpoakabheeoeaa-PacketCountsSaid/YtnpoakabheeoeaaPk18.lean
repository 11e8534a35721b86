/- packet: what a head says of a block. packet: a block's bytes up to a pass. packet: a packet's blocks, one by one: what a step is; a band among others. -/
import Derived.Test.YtnpoakabheeoeaaPk17
import Derived.Test.YtnpoakabheeoeaaPk16
import Derived.Test.YtnpoakabheeoeaaPk06
import Derived.Test.YtnpoakabheeoeaaPk13
import Derived.Test.YtnpoakabheeoeaaPk11
set_option maxRecDepth 100000
namespace Go.Proofs.Ytnpoakabheeoeaa
section
open Go.RowKit
def segL1 (style said to_ : Nat) : List Int := lensM (piecesM style said to_)
def segL2 (s : StM) (style said to_ : Nat) : List Int := sizesM (s.ps.map (·.1)) (was0 (s.ps.map (·.1)) said) (piecesM style said to_)
def needM (s : StM) (style said to_ : Nat) : Int := needK (segL1 style said to_) (segL2 s style said to_) s.lb (piecesM style said to_).length
def sizesB (s : StM) (style said to_ : Nat) : List Bool := List.replicate (needM s style said to_ - s.lb).toNat true ++ (false :: bitsK (segL1 style said to_) (segL2 s style said to_) (needM s style said to_) (piecesM style said to_).length)
def headF (m : BandM) (k layer said to_ : Nat) : List LevM × List Bool := if said = 0 then encAt m.first k ((layer : Int) + 1) else (m.first,bitsG (if said < to_ then 1 else 0) 1)
def headZ (m : BandM) (k said : Nat) (s : StM) : List LevM × List Bool := if said = 0 then zerosE m.zeros k (max (m.planes - s.pl) 0 + 1).toNat else (m.zeros,[])
def headM (m : BandM) (k style layer said to_ : Nat) (s : StM) : BandM × List Bool :=
 if to_ = said then ({ m with first := (headF m k layer said to_).1 },(headF m k layer said to_).2)
 else ({ m with first := (headF m k layer said to_).1,zeros := (headZ m k said s).1,ss := m.ss.set k (s.withS s.said (needM s style said to_)) },(headF m k layer said to_).2 ++ ((headZ m k said s).2 ++ (tellM (to_ - said) ++ sizesB s style said to_)))
theorem headF_length (m : BandM) (k layer said to_ : Nat) (hT : m.first.length ≤ 20) (hl : layer ≤ 100) : (headF m k layer said to_).2.length ≤ 3000 := by
 unfold headF
 split
 ·have h := (encAt_length m.first k ((layer : Int) + 1)).2
  have h2 : m.first.length * ((layer : Int) + 1).toNat ≤ 20 * 101 := Nat.mul_le_mul hT (by omega)
  omega
 ·have := bitsG_length (if said < to_ then 1 else 0) 1
  simp only
  omega
theorem headZ_length (m : BandM) (k said : Nat) (s : StM) (hT : m.zeros.length ≤ 20) (hz : max (m.planes - s.pl) 0 + 1 ≤ 64) : (headZ m k said s).2.length ≤ 90000 := by
 unfold headZ
 split
 ·have := (zerosE_length m.zeros k hT (max (m.planes - s.pl) 0 + 1).toNat (by omega)).2
  omega
 ·simp only [List.length_nil]
  omega
theorem pieces_length (style from_ to_ : Nat) : (piecesM style from_ to_).length ≤ to_ - from_ := pcs_length style to_ (to_ - from_) from_ from_
theorem wp_piece_end {P : Program} {c : Code} {Q : Exit → Act → World → Prop} {a : Act} {w : World} (h : c.wp P (Exit.then (fun a w => Q .normal a w) noQ) a w) : c.wp P Q a w := by
 refine wp_mono h ?_
 intro e a' w' hq
 cases e with
 | normal => exact hq
 | _ => exact hq.elim
def HeadR (d : BandA) (b : BandG) (k wb style layer said to_ : Nat) (st : StG) (bs : List Bool) (HW : List HB) (w w' : World) : Prop :=
 ∃ (b' : BandG) (HW' : List HB),b'.ok d ∧ b'.model = (headM b.model k style layer said to_ st.m).1 ∧ WrB wb (bs ++ (headM b.model k style layer said to_ st.m).2) HW' ∧ Mv w (HW ++ b.heap d) w' (HW' ++ b'.heap d)
set_option maxHeartbeats 8000000 in
theorem head_any (d : BandA) (b : BandG) (k wb style layer said to_ : Nat) (st : StG) (bs : List Bool) (HW : List HB) (w : World)
  (ok : b.ok d) (hkn : k < d.n) (hst : b.G[k]? = some st) (hw : WrB wb bs HW) (hs : Sat w (HW ++ b.heap d)) (hpl : 0 ≤ b.planes ∧ b.planes ≤ 60) (hsp : 0 ≤ st.m.pl ∧ st.m.pl ≤ 60) (hlb : st.m.lb ≤ 100) (hsd : st.m.said = (said : Int)) (hst2 : said ≤ to_) (hto : to_ ≤ st.m.ps.length) (hs63 : style ≤ 63) (hly : layer ≤ 100) (hbs : bs.length ≤ 40000000) :
  Calls Try.prog 29 #[SpotX.v ⟨d,k⟩,.pointer (some ⟨wb,0,none⟩),.int .i64 (style : Int),.int .i64 (layer : Int),.int .i64 (to_ : Int)] w fun e w' => e = .returned (.tuple #[]) ∧
   HeadR d b k wb style layer said to_ st bs HW w w' := by
 have hkk : k < 4096 := Nat.lt_of_lt_of_le hkn ok.small
 have hso := ok.st st (List.mem_of_getElem? hst)
 obtain ⟨g,hg⟩ : ∃ g,w.heap.size = g := ⟨_,rfl⟩
 obtain ⟨X,hX⟩ : ∃ X : List HB,[⟨g,67,SpotX.cells ⟨d,k⟩⟩] = X := ⟨_,rfl⟩
 obtain ⟨w1,hw1⟩ : ∃ w1,w1 = w.alloc (.cells (SpotX.cells ⟨d,k⟩) 67) := ⟨_,rfl⟩
 have M1 : Mv w (HW ++ b.heap d) w1 (HW ++ (X ++ b.heap d)) := by
  have m := (Mv.refl hs).alloc 67 (SpotX.cells ⟨d,k⟩)
  rw [hg,← hw1] at m
  rw [← hX]
  exact m.sub (fun g => by simp only [cnt_append,cnt_cons,cnt_nil]; omega) (fun c hc => by simp only [List.mem_append,List.mem_cons,List.not_mem_nil,or_false] at hc ⊢; grind)
 have hx : ⟨g,67,SpotX.cells ⟨d,k⟩⟩ ∈ X := by rw [← hX]; exact List.mem_cons_self
 -- the first stage: is it there?
 obtain ⟨F,hF⟩ : ∃ F,headF b.model k layer said to_ = F := ⟨_,rfl⟩
 have hFl : F.2.length ≤ 3000 := by rw [← hF]; exact headF_length _ _ _ _ _ (by have := ok.kf.1; simpa [BandG.model] using this) hly
 have KF := Lib.hid (And.intro ok (And.intro hst (And.intro hx (And.intro hF (And.intro hX hso)))))
 have CE := Lib.hid (hd_cells M1 hx hst)
 have DRP : Hid (∀ W A H1,Mv w (HW ++ b.heap d) W (A ++ (X ++ H1)) → Mv w (HW ++ b.heap d) W (A ++ H1)) := Lib.hid (fun W A H1 m => m.sub (fun g => by simp only [cnt_append]; omega) (fun c hc => by simp only [List.mem_append] at hc ⊢; grind))
 have EF : Hid (said = 0 → Calls Try.prog 60 #[.pointer (some ⟨b.ft,0,none⟩),.pointer (some ⟨wb,0,none⟩),.int .i64 (k : Int),.int .i64 ((layer : Int) + 1)] w1.drew fun e w2 => e = .returned (.tuple #[]) ∧
   ∃ (b' : BandG) (HW' : List HB),b'.ok d ∧ b'.model = { b.model with first := F.1 } ∧ b'.G = b.G ∧ WrB wb (bs ++ F.2) HW' ∧ Mv w (HW ++ b.heap d) w2 (HW' ++ (X ++ b'.heap d))) := Lib.hid (by
  intro h0
  have e : F = encAt b.model.first k ((layer : Int) + 1) := by rw [← hF]; unfold headF; rw [if_pos h0]
  rw [e]
  exact band_encF ok hw M1.drew k hkn ((layer : Int) + 1) (by omega) (by omega))
 have EB : Hid (said ≠ 0 → Calls Try.prog 26 #[.pointer (some ⟨wb,0,none⟩),.int .i64 (if said < to_ then 1 else 0),.int .i64 1] w1 fun e w2 => e = .returned (.tuple #[]) ∧
   ∃ (b' : BandG) (HW' : List HB),b'.ok d ∧ b'.model = { b.model with first := F.1 } ∧ b'.G = b.G ∧ WrB wb (bs ++ F.2) HW' ∧ Mv w (HW ++ b.heap d) w2 (HW' ++ (X ++ b'.heap d))) := Lib.hid (by
  intro h0
  have e : F = (b.model.first,bitsG (if said < to_ then 1 else 0) 1) := by rw [← hF]; unfold headF; rw [if_neg h0]
  rw [e]
  refine (bits_any wb bs _ 1 w1 HW hw M1.sat.left (by omega)).mono ?_
  rintro e w2 ⟨rfl,HW',h1,m1⟩
  exact ⟨rfl,b,HW',ok,rfl,rfl,h1,Mv.call M1 m1⟩)
 obtain ⟨⟨x0,x1,x2⟩,⟨y1,y2,y3⟩,z0,-,-,z3,z4,-⟩ := CE.out
 rw [hsd] at z3
 have HW1 := Lib.hid (show w1 = w.alloc (.cells #[.pointer (some ⟨d.lb,k * 5,none⟩),.pointer (some ⟨d.bb,0,none⟩),.int .i64 (k : Int)] 67) from hw1)
 unfold SpotX.v
 clear hw1 ok hst hx hF M1 CE hs hw hX hso
 go_enter Try.func29,Try.ntmps29
 go_upto_region 1 with fail
 rw [← HW1.out]
 go_upto_if 23 with fail
 go_cut [23] from 24 (fun _ wx => ∃ (b1 : BandG) (HW1 : List HB),b1.ok d ∧ b1.model = { b.model with first := F.1 } ∧ b1.G = b.G ∧ WrB wb (bs ++ F.2) HW1 ∧ Mv w (HW ++ b.heap d) wx (HW1 ++ (X ++ b1.heap d)))
 case first =>
  by_cases h0 : said = 0
  ·have E0 := Lib.hid (EF.out h0)
   subst h0
   go_upto_region 2 with fail
   go_still_tail 10,(by kernel_rfl)
   change wpList _ _ _ _ _ w1.drew
   go_wp2_with (go_at_call 60; (with_reducible refine E0.out.mono ?_); rintro e w2 ⟨rfl,b1,HW2,q⟩; have K2 := Lib.hid q; clear q)
   go_meet
   exact ⟨b1,HW2,K2.out⟩
  ·have E0 := Lib.hid (EB.out h0)
   have h1 : ¬ ((said : Int) = 0) := by omega
   have FL := Lib.hid (fun W => flag_any (decide (said < to_)) W)
   have e1 : (if decide (said < to_) = true then (1 : Int) else 0) = (if said < to_ then 1 else 0) := by
    by_cases h : said < to_
    ·rw [if_pos h,decide_eq_true h,if_pos rfl]
    ·rw [if_neg h,decide_eq_false h,if_neg (by simp)]
   rw [e1] at FL
   generalize (if said < to_ then (1 : Int) else 0) = fl at *
   clear e1
   go_wp2_with (first
    | (go_at_call 27; (with_reducible refine (FL.out _).mono ?_); rintro e w2 ⟨rfl,rfl⟩)
    | (go_at_call 26; (with_reducible refine E0.out.mono ?_); rintro e w3 ⟨rfl,b1,HW2,q⟩; have K2 := Lib.hid q; clear q))
   go_meet
   exact ⟨b1,HW2,K2.out⟩
 case rest =>
  obtain ⟨b1,HW1',ok1,hm1,hG1,hw1,M1⟩ := hcut
  obtain ⟨⟨x0,x1,x2⟩,⟨y1,y2,y3⟩,z0,-,-,z3,z4,-⟩ := hd_cells M1 KF.out.2.2.1 (by rw [hG1]; exact KF.out.2.1)
  rw [hsd] at z3
  clear EF EB HW1
  have K1 := Lib.hid (And.intro ok1 (And.intro hm1 (And.intro hG1 (And.intro hw1 M1))))
  clear ok1 hm1 hG1 hw1 M1
  by_cases hne : to_ = said
  ·subst hne
   go_wp2_with fail
   refine bodyPost_ret (results_none rfl _ _ _) rfl ⟨rfl,b1,HW1',K1.out.1,?_,?_,DRP.out _ _ _ K1.out.2.2.2.2⟩
   ·rw [K1.out.2.1]; unfold headM; rw [if_pos rfl,KF.out.2.2.2.1]
   ·unfold headM; rw [if_pos rfl,KF.out.2.2.2.1]; exact K1.out.2.2.2.1
  ·have hne2 : ¬ ((to_ : Int) = (said : Int)) := by omega
   obtain ⟨Z,hZ⟩ : ∃ Z,headZ b.model k said st.m = Z := ⟨_,rfl⟩
   have hZl : Z.2.length ≤ 90000 := by rw [← hZ]; exact headZ_length _ _ _ _ (by have := KF.out.1.kz.1; simpa [BandG.model] using this) (by show max (b.planes - st.m.pl) 0 + 1 ≤ 64; omega)
   have HZ := Lib.hid hZ
   clear hZ
   go_upto_if 57 with fail
   go_cut [10,51,57] from 58 (fun _ _ _ wx => ∃ (b2 : BandG) (HW2 : List HB),b2.ok d ∧ b2.model = { b.model with first := F.1,zeros := Z.1 } ∧ b2.G = b.G ∧ WrB wb ((bs ++ F.2) ++ Z.2) HW2 ∧ Mv w (HW ++ b.heap d) wx (HW2 ++ (X ++ b2.heap d)))
   case first =>
    by_cases h0 : said = 0
    ·have hp1 : b1.planes = b.planes := congrArg BandM.planes K1.out.2.1
     have hz1 : b1.model.zeros = b.model.zeros := by rw [K1.out.2.1]
     obtain ⟨nz,hnz⟩ : ∃ nz : Nat,(nz : Int) = max (b.planes - st.m.pl) 0 + 1 := ⟨(max (b.planes - st.m.pl) 0 + 1).toNat,by omega⟩
     have eZ : Hid (Z = zerosE b1.model.zeros k nz) := Lib.hid (by rw [← HZ.out,hz1]; unfold headZ; rw [if_pos h0]; show zerosE _ _ (max (b.planes - st.m.pl) 0 + 1).toNat = _; rw [← hnz]; rfl)
     have hbl : (bs ++ F.2).length ≤ 50000000 := by rw [List.length_append]; omega
     have hz64 : nz ≤ 64 := by omega
     subst h0
     go_upto_block 0 with fail
     refine wp_piece (hd_p0 _ d b1 k g wb nz st (bs ++ F.2) HW1' X (HW ++ b.heap d) w wc _ _ _ _ _ _ _ _ _ _ _ _ _ _ _ _ _ _ _ _ _ _ _ _ _ _ _ _ _ _ _ _ _ _ _ _ _ _ _ _ _ _ _ _ _ _ _ _ _ _ _ _ _ _ _ _ _ _ _ _ _ _ _ _ _ _ _ _ _ _ _ _ _ _ _ _ _ _ _ _ _ _ _ _ _ _ _ _ _ _ _ _ _ _ _ _ _ _ _ _ _ _ _ _ _ _ _ _ _ _ _ _ _ _ _ _ _ _ _ _ _ _ _ _ _ _ _ _ _ _ _ _ _ _ _ _ _ _ _ _ _ _ _ _ _ _ _ _ _ _ _ _ _ _ _ _ _ _ _ _ _ _ _ _ _ _ _ _ _ _ _ _ K1.out.1 hkn (by rw [K1.out.2.2.1]; exact KF.out.2.1) KF.out.2.2.1 K1.out.2.2.2.1 K1.out.2.2.2.2 (by rw [hp1]; exact hnz) hz64 (by rw [hp1]; omega) (by omega) hbl ?_)
     rintro _ _ _ _ _ _ _ _ _ _ _ _ _ _ _ _ _ _ _ _ _ _ _ _ _ _ _ _ _ wx b2 HW2 q1 q2 q3 q4 q5
     unfold ptr0
     go_wp2_with fail
     go_meet
     refine ⟨b2,HW2,q1,?_,q3.trans K1.out.2.2.1,?_,q5⟩
     ·rw [q2,eZ.out,K1.out.2.1]
     ·rw [eZ.out]; exact q4
    ·have eZ : Z = (b.model.zeros,[]) := by rw [← HZ.out]; unfold headZ; rw [if_neg h0]
     have h0' : ¬ ((said : Int) = 0) := by omega
     go_wp2_with fail
     go_meet
     refine ⟨b1,HW1',K1.out.1,?_,K1.out.2.2.1,?_,K1.out.2.2.2.2⟩
     ·rw [K1.out.2.1,eZ]
     ·rw [eZ,List.append_nil]; exact K1.out.2.2.2.1
   case rest =>
    obtain ⟨b2,HW2,ok2,hm2,hG2,hw2,M2⟩ := hcut
    clear x0 x1 x2 y1 y2 y3 z0 z3 z4
    have hst' : b2.G[k]? = some st := by rw [hG2]; exact KF.out.2.1
    obtain ⟨⟨x0,-,-⟩,-,-,-,-,z3,-,-⟩ := hd_cells M2 KF.out.2.2.1 hst'
    rw [hsd] at z3
    have hlt : said < to_ := by omega
    have eTS : (to_ : Int) - (said : Int) = ((to_ - said : Nat) : Int) := by omega
    have hnp := KF.out.2.2.2.2.2.2.2.np
    have hends := KF.out.2.2.2.2.2.2.2.ends
    have hlb0 := KF.out.2.2.2.2.2.2.2.lb
    have hbl2 : ((bs ++ F.2) ++ Z.2).length ≤ 45000000 := by rw [List.length_append,List.length_append]; omega
    obtain ⟨B2,hB2⟩ : ∃ B2,(bs ++ F.2) ++ Z.2 = B2 := ⟨_,rfl⟩
    rw [hB2] at hw2 hbl2
    have TL := Lib.hid (tell_any wb B2 (to_ - said) wc HW2 hw2 M2.sat.left (by omega) (by omega))
    have HL2 := Lib.hid (And.intro ok2 (And.intro hm2 (And.intro hst' (And.intro M2 hB2))))
    clear ok2 hm2 hG2 hw2 M2 hst' hB2 K1
    obtain ⟨n,hn⟩ : ∃ n,(piecesM style said to_).length = n := ⟨_,rfl⟩
    have hn1000 : n ≤ 1000 := by rw [← hn]; have := pieces_length style said to_; omega
    have HN := Lib.hid hn
    clear hn
    obtain ⟨L1,hL1⟩ : ∃ L,segL1 style said to_ = L := ⟨_,rfl⟩
    obtain ⟨L2,hL2⟩ : ∃ L,segL2 st.m style said to_ = L := ⟨_,rfl⟩
    have B1 : ∀ i,0 ≤ L1.getD i 0 ∧ L1.getD i 0 ≤ 1000 := by rw [← hL1]; exact lensM_bd style said to_ (by omega)
    have B2d : ∀ i,-1000000000 ≤ L2.getD i 0 ∧ L2.getD i 0 ≤ 1000000000 := by rw [← hL2]; exact sizesM_getD _ (by intro e h; obtain ⟨p,hp,rfl⟩ := List.mem_map.1 h; exact hends p hp) said _
    have ND := needK_bd L1 L2 st.m.lb (fun i => (B2d i).2) n
    have lL1 : L1.length = n := by rw [← hL1,← HN.out]; exact List.length_map _
    have lL2 : L2.length = n := by rw [← hL2,← HN.out]; exact sizesM_length _ _ _
    have HBD := Lib.hid (And.intro B1 B2d)
    have HLS := Lib.hid (And.intro hL1 (And.intro hL2 (And.intro lL1 lL2)))
    clear B1 B2d hL1 hL2 hends lL1 lL2
    obtain ⟨r,hr⟩ : ∃ r : Nat,needK L1 L2 st.m.lb n = st.m.lb + (r : Int) := ⟨(needK L1 L2 st.m.lb n - st.m.lb).toNat,by omega⟩
    have hr4 : r ≤ 41 := by omega
    have HR := Lib.hid hr
    clear hr ND
    go_upto_region 11 with (go_at_call 61; (with_reducible refine TL.out.mono ?_); rintro e w3 ⟨rfl,HW3,q1,q2⟩; have K3 := Lib.hid (And.intro q1 (Mv.call HL2.out.2.2.2.1 q2)); clear q1 q2)
    refine wp_piece (hd_r11 _ d b2 k g style said to_ n st HW3 X (HW ++ b.heap d) w w3 _ _ _ _ _ _ _ _ _ _ _ _ _ _ _ _ _ _ _ _ _ _ _ _ _ _ _ _ _ _ _ _ _ _ _ _ _ _ _ _ _ _ _ _ _ _ _ _ _ _ _ _ _ _ _ _ _ _ _ _ _ _ _ _ _ _ _ _ _ _ _ _ _ _ _ _ _ _ _ _ _ _ _ _ _ _ _ _ _ _ _ _ _ _ _ _ _ _ _ _ _ _ _ _ _ _ _ _ _ _ _ _ _ _ _ _ _ _ _ _ _ _ _ _ _ _ _ _ _ _ _ _ _ _ _ _ _ _ _ _ _ _ _ _ _ _ _ _ _ _ _ _ _ _ _ _ _ _ _ _ _ _ _ _ _ _ _ _ _ _ _ _ HL2.out.1 hkn HL2.out.2.2.1 KF.out.2.2.1 K3.out.2 hsd hlt hto hs63 HN.out ?_)
    rintro _ _ _ _ _ _ _ _ _ _ _ _ _ g1 c1 g2 c2 H1 H2 w4 r1 r2 M4
    unfold ptr0
    have hx' : ⟨g,67,SpotX.cells ⟨d,k⟩⟩ ∈ H1 ++ (H2 ++ X) := List.mem_append_right _ (List.mem_append_right _ KF.out.2.2.1)
    have RX : Hid (∀ W,Sat W (H1 ++ (H2 ++ X)) → ∀ i,i < n → W.cell? ⟨g1,i,none⟩ = some (.int .i64 (L1.getD i 0)) ∧ W.cell? ⟨g2,i,none⟩ = some (.int .i64 (L2.getD i 0))) := Lib.hid (by
     intro W hW i hi
     have e1 : L1[i]? = some (L1.getD i 0) := by rw [List.getD_eq_getElem?_getD,List.getElem?_eq_getElem (by rw [HLS.out.2.2.1]; exact hi)]; rfl
     have e2 : L2[i]? = some (L2.getD i 0) := by rw [List.getD_eq_getElem?_getD,List.getElem?_eq_getElem (by rw [HLS.out.2.2.2]; exact hi)]; rfl
     rw [← HLS.out.1] at e1 ⊢
     rw [← HLS.out.2.1] at e2 ⊢
     exact ⟨r1.at_ hW.left e1,r2.at_ hW.right.left e2⟩)
    obtain ⟨⟨x0',-,-⟩,-,-,-,-,-,z4',-⟩ := hd_cells M4 hx' HL2.out.2.2.1
    have K4 := Lib.hid (And.intro M4 hx')
    clear r1 r2 M4 hx' x0 z3 TL eTS
    go_upto_block 2 with fail
    refine wp_piece (hd_p2 _ n c1 c2 g1 g2 st.m.lb L1 L2 (HW3 ++ ((H1 ++ (H2 ++ X)) ++ b2.heap d)) (HW ++ b.heap d) w w4 _ _ _ _ _ _ _ _ _ _ _ _ _ _ _ _ _ _ _ _ _ _ _ _ _ _ _ _ _ _ _ _ _ _ _ _ _ _ _ _ _ _ _ _ _ _ _ _ _ _ _ _ _ _ _ _ _ _ _ _ _ _ _ _ _ _ _ _ _ _ _ _ _ _ _ _ _ _ _ _ _ _ _ _ _ _ _ _ _ _ _ _ _ _ _ _ _ _ _ _ _ _ _ _ _ _ _ _ _ _ _ _ _ _ _ _ _ _ _ _ _ _ _ _ _ _ _ _ _ _ _ _ _ _ _ _ _ _ _ _ _ _ _ _ _ _ _ _ _ _ _ _ _ _ _ _ _ _ _ _ _ _ _ _ _ _ _ _ _ hn1000 (by omega) HBD.out.1 HBD.out.2 (fun W h => RX.out W h.right.left) K4.out.1 ?_)
    rintro _ _ _ _ _ _ _ _ _ _ _ _ _ _ _ _ _ _ _ _ _ w5 M5
    rw [HR.out]
    have hlB : (B2 ++ tellM (to_ - said)).length ≤ 50000000 := by rw [List.length_append]; have := tellM_length (to_ - said); omega
    go_upto_block 4 with fail
    refine wp_piece (hd_p4 _ d b2 k g wb r st.m.lb st (B2 ++ tellM (to_ - said)) HW3 (H1 ++ (H2 ++ X)) (HW ++ b.heap d) w w5 _ _ _ _ _ _ _ _ _ _ _ _ _ _ _ _ _ _ _ _ _ _ _ _ _ _ _ _ _ _ _ _ _ _ _ _ _ _ _ _ _ _ _ _ _ _ _ _ _ _ _ _ _ _ _ _ _ _ _ _ _ _ _ _ _ _ _ _ _ _ _ _ _ _ _ _ _ _ _ _ _ _ _ _ _ _ _ _ _ _ _ _ _ _ _ _ _ _ _ _ _ _ _ _ _ _ _ _ _ _ _ _ _ _ _ _ _ _ _ _ _ _ _ _ _ _ _ _ _ _ _ _ _ _ _ _ _ _ _ _ _ _ _ _ _ _ _ _ _ _ _ _ _ _ _ _ _ _ _ _ _ _ _ _ _ _ _ _ _ _ _ _ HL2.out.1 hkn HL2.out.2.2.1 K4.out.2 K3.out.1 M5 rfl (by omega) (by omega) (by omega) ?_)
    rintro _ _ _ _ _ _ _ _ _ _ _ _ _ _ _ _ _ w6 HW6 ok6 hw6 M6
    unfold ptr0
    have hlB6 : ((B2 ++ tellM (to_ - said)) ++ List.replicate r true).length ≤ 50000100 := by rw [List.length_append,List.length_replicate]; omega
    obtain ⟨B6,hB6⟩ : ∃ B6,(B2 ++ tellM (to_ - said)) ++ List.replicate r true = B6 := ⟨_,rfl⟩
    rw [hB6] at hw6 hlB6
    have BI := Lib.hid (bit_any wb B6 0 w6 HW6 hw6 M6.sat.left (by omega))
    have K6 := Lib.hid (And.intro ok6 (And.intro M6 hB6))
    clear ok6 hw6 M6 hB6 M5 x0' z4' hlB
    go_upto_block 6 with (go_at_call 58; (with_reducible refine BI.out.mono ?_); rintro e w7 ⟨rfl,HW7,q1,q2⟩; have K7 := Lib.hid (And.intro q1 (Mv.call K6.out.2.1 q2)); clear q1 q2)
    have hlB7 : (B6 ++ [decide ((0 : Int) % 2 = 1)]).length ≤ 60000000 := by rw [List.length_append]; simp only [List.length_cons,List.length_nil]; omega
    refine wp_piece_end (hd_p6 _ d (b2.setS k st st.m.said (st.m.lb + (r : Int))) k g wb n g1 g2 c1 c2 (st.m.lb + (r : Int)) L1 L2 (st.withS st.m.said (st.m.lb + (r : Int))) (B6 ++ [decide ((0 : Int) % 2 = 1)]) HW7 (H1 ++ (H2 ++ X)) (HW ++ b.heap d) w w7 _ _ _ _ _ _ _ _ _ _ _ _ _ _ _ _ _ _ _ _ _ _ _ _ _ _ _ _ _ _ _ _ _ _ _ _ _ _ _ _ _ _ _ _ _ _ _ _ _ _ _ _ _ _ _ _ _ _ _ _ _ _ _ _ _ _ _ _ _ _ _ _ _ _ _ _ _ _ _ _ _ _ _ _ _ _ _ _ _ _ _ _ _ _ _ _ _ _ _ _ _ _ _ _ _ _ _ _ _ _ _ _ _ _ _ _ _ _ _ _ _ _ _ _ _ _ _ _ _ _ _ _ _ _ _ _ _ _ _ _ _ _ _ _ _ _ _ _ _ _ _ _ _ _ _ _ _ _ _ _ _ _ _ _ _ _ _ _ _ hkk (BandG.setS_get HL2.out.2.2.1 _ _) K4.out.2 K7.out.1 K7.out.2 rfl (by omega) hlB7 hn1000 HBD.out.1 RX.out ?_)
    rintro _ _ _ _ _ _ _ _ _ _ _ _ _ _ _ _ _ _ _ _ _ _ w8 HW8 hw8 M8
    unfold ptr0
    have K8 := Lib.hid (And.intro hw8 M8)
    clear hw8 M8
    refine bodyPost_end (results_none rfl _ _ _) rfl ⟨rfl,b2.setS k st st.m.said (st.m.lb + (r : Int)),HW8,K6.out.1,?_,?_,?_⟩
    ·have e : needM st.m style said to_ = st.m.lb + (r : Int) := by unfold needM; rw [HLS.out.1,HLS.out.2.1,HN.out,HR.out]
     rw [BandG.setS_model,HL2.out.2.1]
     unfold headM
     rw [if_neg hne,KF.out.2.2.2.1,HZ.out,e]
    ·have e : needM st.m style said to_ = st.m.lb + (r : Int) := by unfold needM; rw [HLS.out.1,HLS.out.2.1,HN.out,HR.out]
     have e2 : (st.m.lb + (r : Int) - st.m.lb).toNat = r := by omega
     unfold headM
     rw [if_neg hne,KF.out.2.2.2.1,HZ.out]
     unfold sizesB
     rw [e,HLS.out.1,HLS.out.2.1,HN.out,e2]
     have h := K8.out.1
     rw [← K6.out.2.2,← HL2.out.2.2.2.2] at h
     simpa [List.append_assoc] using h
    ·exact K8.out.2.sub (fun g => by simp only [cnt_append]; omega) (fun c hc => by simp only [List.mem_append] at hc ⊢; grind)
end
section
open Go.RowKit
def bodyFrom (ps : List (Int × Bool)) (said : Nat) : Int := if said = 0 then 0 else (ps.map (·.1)).getD (said - 1) 0
def bodyLo (ps : List (Int × Bool)) (said n : Nat) : Nat := min (bodyFrom ps said).toNat n
def bodyHi (ps : List (Int × Bool)) (said to_ n : Nat) : Nat := min (max ((ps.map (·.1)).getD (to_ - 1) 0) (bodyFrom ps said)).toNat n
def bodyM (ps : List (Int × Bool)) (bs : List UInt8) (said to_ : Nat) : List UInt8 := (bs.drop (bodyLo ps said bs.length)).take (bodyHi ps said to_ bs.length - bodyLo ps said bs.length)
theorem bodyLo_le (ps : List (Int × Bool)) (said to_ n : Nat) : bodyLo ps said n ≤ bodyHi ps said to_ n ∧ bodyHi ps said to_ n ≤ n := by
 unfold bodyLo bodyHi
 omega
def bodyW (bg vc lo hi_ : Nat) : Value := if vc = lo then .slice (some ⟨bg,0,none⟩) 0 0 else .slice (some ⟨bg,lo,none⟩) (hi_ - lo) (vc - lo)
theorem bodyW_bv {w : World} {bg n vc : Nat} {ps : List (Int × Bool)} {bs : List UInt8} {said to_ : Nat} (h : BV w (.slice (some ⟨bg,0,none⟩) n vc) bs) (hn : bs.length = n) (hv : n ≤ vc) : BV w (bodyW bg vc (bodyLo ps said n) (bodyHi ps said to_ n)) (bodyM ps bs said to_) := by
 obtain ⟨l1,l2⟩ := bodyLo_le ps said to_ n
 unfold bodyW
 split
 ·rename_i he
  have e : bodyM ps bs said to_ = [] := by unfold bodyM; rw [hn,show bodyHi ps said to_ n - bodyLo ps said n = 0 by omega,List.take_zero]
  rw [e]
  exact ⟨_,0,rfl,Nat.le_refl _,by decide,rfl,fun h => absurd h (by decide)⟩
 ·have b2 := BV.mid h (bodyLo ps said n) (bodyHi ps said to_ n) l1 l2
  rw [Nat.zero_add] at b2
  unfold bodyM
  rw [hn]
  exact b2
set_option maxHeartbeats 2000000 in
theorem body_w1 (x : SpotX) (vp : Value) (ps : List (Int × Bool)) (said to_ bg vc n : Nat) (Hp : List HB) (w : World) (hc1 : w.cell? ⟨x.d.lb,x.k * 5 + 1,none⟩ = some vp) (hc2 : w.cell? ⟨x.d.lb,x.k * 5 + 2,none⟩ = some (.slice (some ⟨bg,0,none⟩) n vc)) (hc3 : w.cell? ⟨x.d.lb,x.k * 5 + 3,none⟩ = some (.int .i64 (said : Int)))
    (hp : RowP vp ps Hp) (hsp : Sat w Hp) (hn : ps.length ≤ 1000) (hm : n ≤ 10000000) (hvc : n ≤ vc) (he : ∀ p ∈ ps,0 ≤ p.1 ∧ p.1 ≤ 100000000) (hx : x.k ≤ 100000) (hst : said < to_) (hto : to_ ≤ ps.length) :
    Calls Try.prog 30 #[x.v,.int .i64 (to_ : Int)] w fun e w' => e = .returned (bodyW bg vc (bodyLo ps said n) (bodyHi ps said to_ n)) ∧ Mv w [] w' [] := by
  have hlt := World.block_lt_of_cell? w _ hc1
  have M0 := mv_alloc w 67 x.cells
  obtain ⟨w1,hw1⟩ : ∃ w1,w1 = w.alloc (.cells x.cells 67) := ⟨_,rfl⟩
  rw [← hw1] at M0
  have SE := Lib.hid (fun (W : World) (m : Mv w [] W [⟨w.heap.size,67,x.cells⟩]) => spot_ends x vp ps Hp W (m.drop1.old hc1 hlt) hp (Mv.drop (A := [_]) (Mv.frame (R := Hp) m (by simpa using hsp))).sat hn hx)
  have b0 : w1.cell? ⟨w.heap.size,0,none⟩ = x.cells[0]? := M0.cell 0 rfl 0
  have b1 : w1.cell? ⟨w.heap.size,1,none⟩ = x.cells[1]? := M0.cell 0 rfl 1
  have b2 : w1.cell? ⟨w.heap.size,2,none⟩ = x.cells[2]? := M0.cell 0 rfl 2
  obtain ⟨l,hle⟩ : ∃ l,ps.map (·.1) = l := ⟨_,rfl⟩
  have hll : l.length = ps.length := by rw [← hle,List.length_map]
  have hlb : ∀ i,0 ≤ l.getD i 0 ∧ l.getD i 0 ≤ 100000000 := getD_bd l (by rw [← hle]; intro e h; obtain ⟨p,hp,rfl⟩ := List.mem_map.1 h; exact he p hp)
  have hlg : ∀ i,i < ps.length → l[i]? = some (l.getD i 0) := by
    intro i hi
    rw [List.getD_eq_getElem?_getD,List.getElem?_eq_getElem (by rw [hll]; exact hi)]
    rfl
  obtain ⟨fr,hfr⟩ : ∃ fr,bodyFrom ps said = fr := ⟨_,rfl⟩
  obtain ⟨e1,he1⟩ : ∃ e1,l.getD (to_ - 1) 0 = e1 := ⟨_,rfl⟩
  have hfrb : 0 ≤ fr ∧ fr ≤ 100000000 := by
    rw [← hfr]
    unfold bodyFrom
    rw [hle]
    split
    · exact ⟨by omega,by omega⟩
    · exact hlb _
  have he1b : 0 ≤ e1 ∧ e1 ≤ 100000000 := by rw [← he1]; exact hlb _
  obtain ⟨lo,hlo⟩ : ∃ lo,bodyLo ps said n = lo := ⟨_,rfl⟩
  obtain ⟨hi_,hhi⟩ : ∃ hi_,bodyHi ps said to_ n = hi_ := ⟨_,rfl⟩
  have hlh := bodyLo_le ps said to_ n
  rw [hlo,hhi] at hlh ⊢
  obtain ⟨mx,hmx⟩ : ∃ mx,max e1 fr = mx := ⟨_,rfl⟩
  have elo : (if (n : Int) < fr then (n : Int) else fr) = (lo : Int) := by
    rw [← hlo]; unfold bodyLo; rw [hfr]; split <;> omega
  have emx : (if e1 < fr then fr else e1) = mx := by
    rw [← hmx]; split <;> omega
  have ehi : (if (n : Int) < mx then (n : Int) else mx) = (hi_ : Int) := by
    rw [← hhi]; unfold bodyHi; rw [hfr,hle,he1,hmx]; split <;> omega
  have KL := Lib.hid (And.intro hfr (And.intro hle (And.intro he1 (And.intro hlo hhi))))
  have KG := Lib.hid hlg
  have KB := Lib.hid hlb
  have K0 := Lib.hid M0
  have HW := Lib.hid (show w1 = w.alloc (.cells #[.pointer (some ⟨x.d.lb,x.k * 5,none⟩),.pointer (some ⟨x.d.bb,0,none⟩),.int .i64 (x.k : Int)] 67) from hw1)
  have HST := Lib.hid (And.intro hc1 (And.intro hc2 hc3))
  have hel : (ps.map (·.1)).length = ps.length := List.length_map _
  rw [hle] at SE
  obtain ⟨np,hnp⟩ : ∃ np,ps.length = np := ⟨_,rfl⟩
  rw [hnp] at hto hll KG hn
  unfold SpotX.cells at b0 b1 b2
  unfold SpotX.v
  unfold SpotX.v at SE
  have R : Hid (∀ W v Hn,RowI v l Hn → Mv w1 [] W Hn → ∃ eg ec,v = .slice (some ⟨eg,0,none⟩) np ec ∧ (Mv w [] W []) ∧ (∀ i,i < np → W.cell? ⟨eg,i,none⟩ = some (.int .i64 (l.getD i 0))) ∧
      W.cell? ⟨w.heap.size,0,none⟩ = some (.pointer (some ⟨x.d.lb,x.k * 5,none⟩)) ∧ W.cell? ⟨x.d.lb,x.k * 5 + 2,none⟩ = some (.slice (some ⟨bg,0,none⟩) n vc) ∧ W.cell? ⟨x.d.lb,x.k * 5 + 3,none⟩ = some (.int .i64 (said : Int))) := Lib.hid (by
    intro W v Hn r m
    obtain ⟨A,c,rfl⟩ := r.slice
    obtain ⟨eg,rfl⟩ := r.form (by omega)
    have m2 : Mv w [] W (Hn ++ [⟨w.heap.size,67,x.cells⟩]) := Mv.call (H := []) K0.out m
    have old := fun (q : Addr) (u : Value) (h : w.cell? q = some u) => m2.old h (World.block_lt_of_cell? w q h)
    refine ⟨eg,c,by rw [hll],(m2.drop).drop1,fun i hi => r.at_ m.sat (KG.out i hi),?_,old _ _ HST.out.2.1,old _ _ HST.out.2.2⟩
    exact (m2.drop).cell 0 rfl 0)
  clear hw1 M0 hc1 hc2 hc3 hp hsp he hlg hlb hfr hle he1 hlo hhi hlt hel hll hmx hfrb he1b
  go_enter Try.func30,Try.ntmps30
  go_upto_region 1 with fail
  rw [← HW.out]
  go_upto_if 14 with (go_at_call 63; with_reducible refine (SE.out _ K0.out).mono ?_; rintro e w2 ⟨v,Hn,rfl,hr,m2⟩; obtain ⟨eg,ec,rfl,m3,y1,y2,y3,y4⟩ := R.out _ _ _ hr m2; have Y := Lib.hid y1; have M3 := Lib.hid m3; clear hr m2 m3 y1)
  have hYto := Y.out (to_ - 1) (by omega)
  rw [KL.out.2.2.1] at hYto
  have ect : (to_ : Int) - 1 = ((to_ - 1 : Nat) : Int) := by omega
  have hct : ((to_ - 1 : Nat) : Int) < (np : Int) := by omega
  have hcn : to_ - 1 < np := by omega
  go_cut [6,14] from 15 (fun s6 s14 wx => s6 = .int .i64 fr ∧ wx = w2)
  case first =>
    by_cases h0 : said = 0
    · subst h0
      have e : fr = 0 := by rw [← KL.out.1]; rfl
      have E := Lib.hid e
      clear e
      go_wp2_with fail
      go_meet
      exact ⟨by rw [E.out],rfl⟩
    · have hYs := Y.out (said - 1) (by omega)
      have e : l.getD (said - 1) 0 = fr := by rw [← KL.out.1]; unfold bodyFrom; rw [if_neg h0,KL.out.2.1]
      rw [e] at hYs
      have h1 : 0 < said := by omega
      have d1 : decide ((0 : Int) < (said : Int)) = true := by simp; omega
      have es : (said : Int) - 1 = ((said - 1 : Nat) : Int) := by omega
      have h2 : said - 1 < np := by omega
      clear e h0
      go_wp2_with fail
      go_meet
      exact ⟨rfl,rfl⟩
  case rest =>
    obtain ⟨rfl,rfl⟩ := hcut
    go_upto_region 5 with fail
    go_quiet (fail)
    go_wp2_with fail
    all_goals
      go_ret
      refine ⟨?_,M3.out.drewN nq⟩
      refine congrArg Ending.returned ?_
      unfold bodyW
      first
      | (rw [if_neg (by omega)]; rfl)
      | (have e0 : hi_ - lo = 0 := by omega
         rw [if_pos (by omega)]
         simp [e0])
      | (have e0 : hi_ - lo = 0 := by omega
         have e1 : vc - lo = 0 := by omega
         rw [if_pos (by omega)]
         simp [e0,e1])
set_option maxHeartbeats 2000000 in
theorem body_w0 (x : SpotX) (vp : Value) (ps : List (Int × Bool)) (said to_ : Nat) (Hp : List HB) (w : World) (hc1 : w.cell? ⟨x.d.lb,x.k * 5 + 1,none⟩ = some vp) (hc2 : w.cell? ⟨x.d.lb,x.k * 5 + 2,none⟩ = some (.slice none 0 0)) (hc3 : w.cell? ⟨x.d.lb,x.k * 5 + 3,none⟩ = some (.int .i64 (said : Int)))
  (hp : RowP vp ps Hp) (hsp : Sat w Hp) (hn : ps.length ≤ 1000) (he : ∀ p ∈ ps,0 ≤ p.1 ∧ p.1 ≤ 100000000) (hx : x.k ≤ 100000) (hst : said < to_) (hto : to_ ≤ ps.length) :
  Calls Try.prog 30 #[x.v,.int .i64 (to_ : Int)] w fun e w' => e = .returned (.slice none 0 0) ∧ Mv w [] w' [] := by
 have hlt := World.block_lt_of_cell? w _ hc1
 have M0 := mv_alloc w 67 x.cells
 obtain ⟨w1,hw1⟩ : ∃ w1,w1 = w.alloc (.cells x.cells 67) := ⟨_,rfl⟩
 rw [← hw1] at M0
 have SE := Lib.hid (fun (W : World) (m : Mv w [] W [⟨w.heap.size,67,x.cells⟩]) => spot_ends x vp ps Hp W (m.drop1.old hc1 hlt) hp (Mv.drop (A := [_]) (Mv.frame (R := Hp) m (by simpa using hsp))).sat hn hx)
 have b0 : w1.cell? ⟨w.heap.size,0,none⟩ = x.cells[0]? := M0.cell 0 rfl 0
 have b1 : w1.cell? ⟨w.heap.size,1,none⟩ = x.cells[1]? := M0.cell 0 rfl 1
 have b2 : w1.cell? ⟨w.heap.size,2,none⟩ = x.cells[2]? := M0.cell 0 rfl 2
 obtain ⟨l,hle⟩ : ∃ l,ps.map (·.1) = l := ⟨_,rfl⟩
 have hll : l.length = ps.length := by rw [← hle,List.length_map]
 have hlb : ∀ i,0 ≤ l.getD i 0 ∧ l.getD i 0 ≤ 100000000 := getD_bd l (by rw [← hle]; intro e h; obtain ⟨p,hp,rfl⟩ := List.mem_map.1 h; exact he p hp)
 have hlg : ∀ i,i < ps.length → l[i]? = some (l.getD i 0) := by
  intro i hi
  rw [List.getD_eq_getElem?_getD,List.getElem?_eq_getElem (by rw [hll]; exact hi)]
  rfl
 obtain ⟨fr,hfr⟩ : ∃ fr,bodyFrom ps said = fr := ⟨_,rfl⟩
 obtain ⟨e1,he1⟩ : ∃ e1,l.getD (to_ - 1) 0 = e1 := ⟨_,rfl⟩
 have hfrb : 0 ≤ fr ∧ fr ≤ 100000000 := by
  rw [← hfr]
  unfold bodyFrom
  rw [hle]
  split
  ·exact ⟨by omega,by omega⟩
  ·exact hlb _
 have he1b : 0 ≤ e1 ∧ e1 ≤ 100000000 := by rw [← he1]; exact hlb _
 obtain ⟨lo,hlo⟩ : ∃ lo,bodyLo ps said 0 = lo := ⟨_,rfl⟩
 obtain ⟨hi_,hhi⟩ : ∃ hi_,bodyHi ps said to_ 0 = hi_ := ⟨_,rfl⟩
 have hlh := bodyLo_le ps said to_ 0
 rw [hlo,hhi] at hlh
 obtain rfl : lo = 0 := by omega
 obtain rfl : hi_ = 0 := by omega
 obtain ⟨mx,hmx⟩ : ∃ mx,max e1 fr = mx := ⟨_,rfl⟩
 have elo : (if (0 : Int) < fr then (0 : Int) else fr) = (0 : Int) := by
  split <;> omega
 have emx : (if e1 < fr then fr else e1) = mx := by
  rw [← hmx]; split <;> omega
 have ehi : (if (0 : Int) < mx then (0 : Int) else mx) = (0 : Int) := by
  split <;> omega
 have KL := Lib.hid (And.intro hfr (And.intro hle (And.intro he1 (And.intro hlo hhi))))
 have KG := Lib.hid hlg
 have KB := Lib.hid hlb
 have K0 := Lib.hid M0
 have HW := Lib.hid (show w1 = w.alloc (.cells #[.pointer (some ⟨x.d.lb,x.k * 5,none⟩),.pointer (some ⟨x.d.bb,0,none⟩),.int .i64 (x.k : Int)] 67) from hw1)
 have HST := Lib.hid (And.intro hc1 (And.intro hc2 hc3))
 have hel : (ps.map (·.1)).length = ps.length := List.length_map _
 rw [hle] at SE
 obtain ⟨np,hnp⟩ : ∃ np,ps.length = np := ⟨_,rfl⟩
 rw [hnp] at hto hll KG hn
 unfold SpotX.cells at b0 b1 b2
 unfold SpotX.v
 unfold SpotX.v at SE
 have R : Hid (∀ W v Hn,RowI v l Hn → Mv w1 [] W Hn → ∃ eg ec,v = .slice (some ⟨eg,0,none⟩) np ec ∧ (Mv w [] W []) ∧ (∀ i,i < np → W.cell? ⟨eg,i,none⟩ = some (.int .i64 (l.getD i 0))) ∧
   W.cell? ⟨w.heap.size,0,none⟩ = some (.pointer (some ⟨x.d.lb,x.k * 5,none⟩)) ∧ W.cell? ⟨x.d.lb,x.k * 5 + 2,none⟩ = some (.slice none 0 0) ∧ W.cell? ⟨x.d.lb,x.k * 5 + 3,none⟩ = some (.int .i64 (said : Int))) := Lib.hid (by
  intro W v Hn r m
  obtain ⟨A,c,rfl⟩ := r.slice
  obtain ⟨eg,rfl⟩ := r.form (by omega)
  have m2 : Mv w [] W (Hn ++ [⟨w.heap.size,67,x.cells⟩]) := Mv.call (H := []) K0.out m
  have old := fun (q : Addr) (u : Value) (h : w.cell? q = some u) => m2.old h (World.block_lt_of_cell? w q h)
  refine ⟨eg,c,by rw [hll],(m2.drop).drop1,fun i hi => r.at_ m.sat (KG.out i hi),?_,old _ _ HST.out.2.1,old _ _ HST.out.2.2⟩
  exact (m2.drop).cell 0 rfl 0)
 clear hw1 M0 hc1 hc2 hc3 hp hsp he hlg hlb hfr hle he1 hlo hhi hlt hel hll hmx hfrb he1b
 go_enter Try.func30,Try.ntmps30
 go_upto_region 1 with fail
 rw [← HW.out]
 go_upto_if 14 with (go_at_call 63; with_reducible refine (SE.out _ K0.out).mono ?_; rintro e w2 ⟨v,Hn,rfl,hr,m2⟩; obtain ⟨eg,ec,rfl,m3,y1,y2,y3,y4⟩ := R.out _ _ _ hr m2; have Y := Lib.hid y1; have M3 := Lib.hid m3; clear hr m2 m3 y1)
 have hYto := Y.out (to_ - 1) (by omega)
 rw [KL.out.2.2.1] at hYto
 have ect : (to_ : Int) - 1 = ((to_ - 1 : Nat) : Int) := by omega
 have hct : ((to_ - 1 : Nat) : Int) < (np : Int) := by omega
 have hcn : to_ - 1 < np := by omega
 go_cut [6,14] from 15 (fun s6 s14 wx => s6 = .int .i64 fr ∧ wx = w2)
 case first =>
  by_cases h0 : said = 0
  ·subst h0
   have e : fr = 0 := by rw [← KL.out.1]; rfl
   have E := Lib.hid e
   clear e
   go_wp2_with fail
   go_meet
   exact ⟨by rw [E.out],rfl⟩
  ·have hYs := Y.out (said - 1) (by omega)
   have e : l.getD (said - 1) 0 = fr := by rw [← KL.out.1]; unfold bodyFrom; rw [if_neg h0,KL.out.2.1]
   rw [e] at hYs
   have h1 : 0 < said := by omega
   have d1 : decide ((0 : Int) < (said : Int)) = true := by simp; omega
   have es : (said : Int) - 1 = ((said - 1 : Nat) : Int) := by omega
   have h2 : said - 1 < np := by omega
   clear e h0
   go_wp2_with fail
   go_meet
   exact ⟨rfl,rfl⟩
 case rest =>
  obtain ⟨rfl,rfl⟩ := hcut
  go_upto_region 5 with fail
  go_quiet (fail)
  go_wp2_with fail
  all_goals
   go_ret
   refine ⟨?_,M3.out.drewN nq⟩
   refine congrArg Ending.returned ?_
   first | rfl | simp
theorem body_any (x : SpotX) (vp vb : Value) (ps : List (Int × Bool)) (bs : List UInt8) (said to_ : Nat) (Hp Hb : List HB) (hp : RowP vp ps Hp) (hb : RowB vb bs Hb) (hn : ps.length ≤ 1000) (hm : bs.length ≤ 10000000) (he : ∀ p ∈ ps,0 ≤ p.1 ∧ p.1 ≤ 100000000) (hx : x.k ≤ 100000) (hst : said < to_) (hto : to_ ≤ ps.length) :
  ∃ v0,(∀ W,Sat W Hb → BV W v0 (bodyM ps bs said to_)) ∧ ∀ w,w.cell? ⟨x.d.lb,x.k * 5 + 1,none⟩ = some vp → w.cell? ⟨x.d.lb,x.k * 5 + 2,none⟩ = some vb → w.cell? ⟨x.d.lb,x.k * 5 + 3,none⟩ = some (.int .i64 (said : Int)) → Sat w Hp →
   Calls Try.prog 30 #[x.v,.int .i64 (to_ : Int)] w fun e w' => e = .returned v0 ∧ Mv w [] w' [] := by
 rcases hb.2 with ⟨rfl,h0,h1⟩ | ⟨bg,vc,cur,rfl,h1,h2,-⟩
 ·have e0 : bs = [] := List.eq_nil_of_length_eq_zero h0
  subst e0
  refine ⟨.slice none 0 0,fun W hW => ?_,fun w c1 c2 c3 sp => body_w0 x vp ps said to_ Hp w c1 c2 c3 hp sp hn he hx hst hto⟩
  have e : bodyM ps [] said to_ = [] := by simp [bodyM]
  rw [e]
  exact ⟨none,0,rfl,Nat.le_refl _,by decide,rfl,fun h => absurd h (by decide)⟩
 ·exact ⟨_,fun W hW => bodyW_bv (hb.bv hW) rfl h1,fun w c1 c2 c3 sp => body_w1 x vp ps said to_ bg vc bs.length Hp w c1 c2 c3 hp sp hn hm h1 he hx hst hto⟩
end
section
open Go.RowKit
theorem passN_le_total (t : Nat) (n l : Int) : passN (t : Int) n l ≤ (t : Int) := by
 unfold passN
 split
 ·omega
 ·split
  ·omega
  ·split
   ·omega
   ·have h1 : 1 ≤ min n 100 := by omega
    have h2 : 0 ≤ min (max (t : Int) 0) 100 ∧ min (max (t : Int) 0) 100 ≤ t := by omega
    have h3 : 1 ≤ min l 100 ∧ min l 100 ≤ min n 100 := by omega
    generalize min n 100 = a at *
    generalize min (max (t : Int) 0) 100 = b at *
    generalize min l 100 = c at *
    have h4 : b * c ≤ b * a := Int.mul_le_mul_of_nonneg_left h3.2 h2.1
    have h5 : b * c / a ≤ b := Int.ediv_le_of_le_mul (by omega) h4
    omega
def toM (count layer : Nat) (s : StM) : Nat := max (passN s.ps.length (count : Int) ((layer : Int) + 1)).toNat s.said.toNat
def setSaidM (m : BandM) (k to_ : Nat) : BandM := match m.ss[k]? with
 | none => m
 | some s => { m with ss := m.ss.set k (s.withS (to_ : Int) s.lb) }
structure PackS where
 M : Nat → BandM
 bits : List Bool
 body : List UInt8
def stepE (count style layer : Nat) (S : PackS) (x : SpotX) : PackS := match (S.M x.d.bb).ss[x.k]? with
  | none => S
  | some s =>
    ⟨updM S.M x.d.bb (setSaidM (headM (S.M x.d.bb) x.k style layer s.said.toNat (toM count layer s) s).1 x.k (toM count layer s)),
     S.bits ++ (headM (S.M x.d.bb) x.k style layer s.said.toNat (toM count layer s) s).2,
     if s.said.toNat < toM count layer s then S.body ++ bodyM s.ps s.bs s.said.toNat (toM count layer s) else S.body⟩
structure GoodS (s : StM) : Prop where
 pl : 0 ≤ s.pl ∧ s.pl ≤ 60
 lb : s.lb ≤ 100
 bs : s.bs.length ≤ 300000
structure GoodB (m : BandM) : Prop where
 pl : 0 ≤ m.planes ∧ m.planes ≤ 60
 ss : ∀ s ∈ m.ss,GoodS s
theorem GoodB.plant {m : BandM} (h : GoodB m) (c : Nat) : GoodB (plantM c m) := by
 obtain ⟨e1,e2⟩ := plantM_ss c m
 exact ⟨by rw [e2]; exact h.pl,by rw [e1]; exact h.ss⟩
theorem GoodB.setS {m : BandM} (h : GoodB m) {k : Nat} {s : StM} (hs : m.ss[k]? = some s) (f z : List LevM) (said lb : Int) (hl : lb ≤ 100) : GoodB { m with first := f,zeros := z,ss := m.ss.set k (s.withS said lb) } := by
 refine ⟨h.pl,fun x hx => ?_⟩
 rcases List.mem_or_eq_of_mem_set hx with hx | rfl
 ·exact h.ss x hx
 ·have := h.ss s (List.mem_of_getElem? hs)
  exact ⟨this.pl,hl,this.bs⟩
theorem needM_le (s : StM) (style said to_ : Nat) (he : ∀ p ∈ s.ps,0 ≤ p.1 ∧ p.1 ≤ 100000000) (hl : s.lb ≤ 100) : needM s style said to_ ≤ 100 ∧ s.lb ≤ needM s style said to_ ∧ needM s style said to_ ≤ max s.lb 41 := by
 have h2 := needK_bd (segL1 style said to_) (segL2 s style said to_) s.lb (fun i => (sizesM_getD _ (by intro e h; obtain ⟨p,hp,rfl⟩ := List.mem_map.1 h; exact he p hp) said (piecesM style said to_) i).2) (piecesM style said to_).length
 unfold needM
 omega
def headS (s : StM) (style said to_ : Nat) : StM := if to_ = said then s else s.withS s.said (needM s style said to_)
theorem headM_get (m : BandM) (k style layer said to_ : Nat) (s : StM) (h : m.ss[k]? = some s) : (headM m k style layer said to_ s).1.ss[k]? = some (headS s style said to_) := by
 unfold headM headS
 split
 ·exact h
 ·exact List.getElem?_set_self (List.getElem?_eq_some_iff.1 h).1
theorem headS_same (s : StM) (style said to_ : Nat) : (headS s style said to_).ps = s.ps ∧ (headS s style said to_).bs = s.bs ∧ (headS s style said to_).said = s.said := by
 unfold headS
 split <;> exact ⟨rfl,rfl,rfl⟩
theorem GoodB.head {m : BandM} (g : GoodB m) {k : Nat} {s : StM} (h : m.ss[k]? = some s) (style layer said to_ : Nat) (he : ∀ p ∈ s.ps,0 ≤ p.1 ∧ p.1 ≤ 100000000) : GoodB (headM m k style layer said to_ s).1 := by
 have gs := g.ss s (List.mem_of_getElem? h)
 unfold headM
 split
 ·exact ⟨g.pl,g.ss⟩
 ·exact g.setS h _ _ _ _ (needM_le s style said to_ he gs.lb).1
theorem GoodB.said {m : BandM} (g : GoodB m) (k to_ : Nat) : GoodB (setSaidM m k to_) := by
 unfold setSaidM
 split
 ·exact g
 ·rename_i s hs
  exact g.setS hs m.first m.zeros _ _ (g.ss s (List.mem_of_getElem? hs)).lb
theorem headM_length (m : BandM) (k style layer said to_ : Nat) (s : StM) (hf : m.first.length ≤ 20) (hz : m.zeros.length ≤ 20) (g : GoodB m) (gs : GoodS s) (hl : layer ≤ 100) (he : ∀ p ∈ s.ps,0 ≤ p.1 ∧ p.1 ≤ 100000000) (hb : 0 ≤ s.lb) (ht : to_ ≤ 1000) : (headM m k style layer said to_ s).2.length ≤ 130000 := by
 have h1 := headF_length m k layer said to_ hf hl
 have gp := g.pl
 have gq := gs.pl
 have h2 := headZ_length m k said s hz (by omega)
 have h3 := tellM_length (to_ - said)
 have h4 := needM_le s style said to_ he gs.lb
 have h5 := bitsK_length (segL1 style said to_) (segL2 s style said to_) (needM s style said to_) (piecesM style said to_).length
 have h6 := pieces_length style said to_
 have h7 := gs.lb
 unfold headM
 split
 ·simp only
  omega
 ·simp only [sizesB,List.length_append,List.length_replicate,List.length_cons]
  omega
theorem bands_at {D : List BandA} {M : Nat → BandM} {HB1 : List HB} (hB : BandsR D M HB1) {w0 w : World} {H0 Y : List HB} (m : Mv w0 H0 w (Y ++ HB1)) {d : BandA} (hd : d ∈ D) : ∃ (b : BandG) (R : List HB),b.ok d ∧ b.model = M d.bb ∧ (∀ W,Mv w0 H0 W (Y ++ HB1) → Mv w0 H0 W ((Y ++ R) ++ b.heap d)) ∧
  ∀ (b' : BandG) (Y' : List HB),b'.ok d → ∃ HB',BandsR D (updM M d.bb b'.model) HB' ∧ ∀ W,Mv w0 H0 W ((Y' ++ R) ++ b'.heap d) → Mv w0 H0 W (Y' ++ HB') := by
 obtain ⟨H1,R,⟨b,hb1,hb2,rfl⟩,sm,back⟩ := hB.split m.sat.right.1 hd
 refine ⟨b,R,hb2,hb1,fun W mW => ?_,fun b' Y' hb' => ?_⟩
 ·refine mW.sub (fun g => ?_) (fun y hy => ?_)
  ·have := sm.1 g
   simp only [cnt_append] at this ⊢
   omega
  ·have := sm.2 y
   simp only [List.mem_append] at this hy ⊢
   grind
 ·obtain ⟨HB',h3,h4⟩ := back b'.model _ ⟨b',rfl,hb',rfl⟩
  refine ⟨HB',h3,fun W mW => mW.sub (fun g => ?_) (fun y hy => ?_)⟩
  ·have := h4.1 g
   simp only [cnt_append] at this ⊢
   omega
  ·have := h4.2 y
   simp only [List.mem_append] at this hy ⊢
   grind
theorem model_get {b : BandG} {m : BandM} (e : b.model = m) {k : Nat} {s : StM} (h : m.ss[k]? = some s) : ∃ st,b.G[k]? = some st ∧ st.m = s := by
 subst e
 simp only [BandG.model,List.getElem?_map] at h
 exact Option.map_eq_some_iff.1 h
section
variable {D : List BandA} {M : Nat → BandM} {HB1 H0 Y HW : List HB} {w0 w : World} {d : BandA} {k wb : Nat} {s : StM} {bs : List Bool}
theorem step_head (hB : BandsR D M HB1) (hd : d ∈ D) (hk : k < d.n) (hs : (M d.bb).ss[k]? = some s) (g : GoodB (M d.bb)) (hw : WrB wb bs HW) (m : Mv w0 H0 w ((HW ++ Y) ++ HB1)) (style layer to_ : Nat) (h1 : s.said.toNat ≤ to_) (h2 : to_ ≤ s.ps.length) (h3 : style ≤ 63) (h4 : layer ≤ 100) (h5 : bs.length ≤ 40000000) :
  Calls Try.prog 29 #[SpotX.v ⟨d,k⟩,.pointer (some ⟨wb,0,none⟩),.int .i64 (style : Int),.int .i64 (layer : Int),.int .i64 (to_ : Int)] w fun e w' => e = .returned (.tuple #[]) ∧
   ∃ HW' HB',WrB wb (bs ++ (headM (M d.bb) k style layer s.said.toNat to_ s).2) HW' ∧ BandsR D (updM M d.bb (headM (M d.bb) k style layer s.said.toNat to_ s).1) HB' ∧ Mv w0 H0 w' ((HW' ++ Y) ++ HB') := by
 obtain ⟨b,R,ok,em,fwd,back⟩ := bands_at hB m hd
 obtain ⟨st,hst,rfl⟩ := model_get em hs
 have gs := g.ss _ (List.mem_of_getElem? hs)
 have hso := ok.st st (List.mem_of_getElem? hst)
 have gp := g.pl
 rw [← em] at gp ⊢
 have m1 : Mv w0 H0 w ((HW ++ b.heap d) ++ (Y ++ R)) := (fwd w m).sub (fun g => by simp only [cnt_append]; omega) (fun c hc => by simp only [List.mem_append] at hc ⊢; grind)
 refine (head_any d b k wb style layer st.m.said.toNat to_ st bs HW w ok hk hst hw m1.sat.left gp gs.pl gs.lb (by have := hso.2.2.said; omega) h1 h2 h3 h4 h5).mono ?_
 rintro e w' ⟨rfl,b',HW',q1,q2,q3,q4⟩
 obtain ⟨HB',h6,h7⟩ := back b' (HW' ++ Y) q1
 refine ⟨rfl,HW',HB',q3,by rw [← q2]; exact h6,h7 w' ?_⟩
 exact (Mv.call m1 q4).sub (fun g => by simp only [cnt_append]; omega) (fun c hc => by simp only [List.mem_append] at hc ⊢; grind)
theorem step_body (hB : BandsR D M HB1) (hd : d ∈ D) (hk : k < d.n) (hs : (M d.bb).ss[k]? = some s) (m : Mv w0 H0 w (Y ++ HB1)) (to_ : Nat) (h1 : s.said.toNat < to_) (h2 : to_ ≤ s.ps.length) :
  ∃ v0,∀ W,Mv w0 H0 W (Y ++ HB1) → BV W v0 (bodyM s.ps s.bs s.said.toNat to_) ∧ Calls Try.prog 30 #[SpotX.v ⟨d,k⟩,.int .i64 (to_ : Int)] W fun e w' => e = .returned v0 ∧ Mv w0 H0 w' (Y ++ HB1) := by
 obtain ⟨b,R,ok,em,fwd,back⟩ := bands_at hB m hd
 obtain ⟨st,hst,rfl⟩ := model_get em hs
 have hso := ok.st st (List.mem_of_getElem? hst)
 have hkk : k < 4096 := Nat.lt_of_lt_of_le hk ok.small
 obtain ⟨v0,b1,b2⟩ := body_any ⟨d,k⟩ st.vp st.vb st.m.ps st.m.bs st.m.said.toNat to_ st.Hp st.Hb hso.1 hso.2.1 hso.2.2.np hso.2.2.nb hso.2.2.ends (by show k ≤ 100000; omega) h1 h2
 refine ⟨v0,fun W mW => ?_⟩
 have m1 := fwd W mW
 have sb := StG.sat m1.sat.right (List.mem_of_getElem? hst)
 have a3 := Mv.blkm m1 (List.mem_append_right _ (b.mem_states d))
 obtain ⟨c0,c1,c2,c3,c4,-⟩ := state_cells a3 hst
 refine ⟨b1 W sb.2,(b2 W c1 c2 (by have h3 := hso.2.2.said.1; rw [Int.toNat_of_nonneg h3]; exact c3) sb.1).mono ?_⟩
 rintro e w' ⟨rfl,m2⟩
 exact ⟨rfl,Mv.call (H := []) (H' := []) mW m2⟩
theorem step_said (hB : BandsR D M HB1) (hd : d ∈ D) (hs : (M d.bb).ss[k]? = some s) (m : Mv w0 H0 w (Y ++ HB1)) (to_ : Nat) (h2 : to_ ≤ s.ps.length) :
  ∃ HB',BandsR D (updM M d.bb (setSaidM (M d.bb) k to_)) HB' ∧ ∀ W,Mv w0 H0 W (Y ++ HB1) → Mv w0 H0 (W.setCell ⟨d.lb,k * 5 + 3,none⟩ (.int .i64 (to_ : Int))) (Y ++ HB') := by
 obtain ⟨b,R,ok,em,fwd,back⟩ := bands_at hB m hd
 obtain ⟨st,hst,rfl⟩ := model_get em hs
 have hso := ok.st st (List.mem_of_getElem? hst)
 have ok' := BandG.setS_ok ok hst (said := (to_ : Int)) (lb := st.m.lb) ⟨by omega,by omega⟩ hso.2.2.lb
 obtain ⟨HB',h6,h7⟩ := back (b.setS k st (to_ : Int) st.m.lb) Y ok'
 refine ⟨HB',?_,fun W mW => h7 _ ?_⟩
 ·have e : (b.setS k st (to_ : Int) st.m.lb).model = setSaidM (M d.bb) k to_ := by
   rw [BandG.setS_model,em]
   unfold setSaidM
   rw [hs]
  rw [← e]
  exact h6
 ·exact BandG.setS_mv (fwd W mW) hst (to_ : Int) st.m.lb 3 _ (by omega) rfl
theorem step_cells (hB : BandsR D M HB1) (hd : d ∈ D) (hs : (M d.bb).ss[k]? = some s) (m : Mv w0 H0 w (Y ++ HB1)) : ∃ A cp,∀ W,Mv w0 H0 W (Y ++ HB1) → W.cell? ⟨d.lb,k * 5 + 1,none⟩ = some (.slice A s.ps.length cp) ∧ W.cell? ⟨d.lb,k * 5 + 3,none⟩ = some (.int .i64 s.said) ∧ W.frozen? ⟨d.lb,k * 5 + 3,none⟩ = false := by
 obtain ⟨b,R,ok,em,fwd,back⟩ := bands_at hB m hd
 obtain ⟨st,hst,rfl⟩ := model_get em hs
 have hso := ok.st st (List.mem_of_getElem? hst)
 obtain ⟨A,cp,hvp⟩ := hso.passes
 refine ⟨A,cp,fun W mW => ?_⟩
 have a3 := Mv.blkm (fwd W mW) (List.mem_append_right _ (b.mem_states d))
 obtain ⟨c0,c1,c2,c3,c4,c5⟩ := state_cells a3 hst
 rw [hvp] at c1
 exact ⟨c1,c3,c5 _⟩
theorem step_fits (hB : BandsR D M HB1) (hd : d ∈ D) (hs : (M d.bb).ss[k]? = some s) : s.Fits ∧ (M d.bb).first.length ≤ 20 ∧ (M d.bb).zeros.length ≤ 20 := by
 obtain ⟨b,k1,k2,k3⟩ := hB.band hd
 obtain ⟨st,hst,rfl⟩ := model_get k1 hs
 rw [← k1]
 exact ⟨(k2.st st (List.mem_of_getElem? hst)).2.2,by have := k2.kf.1; simpa [BandG.model] using this,by have := k2.kz.1; simpa [BandG.model] using this⟩
end
end
end Go.Proofs.Ytnpoakabheeoeaa
