/- packet: what a head says of a block, read. packet: a head's blocks, among bands: here, read; bounds. waveletlaw8.Of: a block of the reference becomes the program's. PacketEmpty: the walk. PacketNone: a coded block's copies, as its law needs them. PacketNone: the walk. -/
import Derived.Test.YtnpoakabheeoeaaPk23
import Derived.Test.YtnpoakabheeoeaaPk18
import Derived.Test.YtnpoakabheeoeaaPk14
import Derived.Test.YtnpoakabheeoeaaPk12
set_option maxRecDepth 100000
namespace Go.Proofs.Ytnpoakabheeoeaa
section
open Go.RowKit
def readA (l : List UInt8) (m : BandM) (k : Nat) (s : StM) (r : RdM) : BandM × StM × RdM × Bool :=
 if s.ps.length = 0 then (begB m s k (beginM l m k r),begS s (beginM l m k r).2.1,(beginM l m k r).2.2,begOk (beginM l m k r).2.1) else (m,s,r,true)
def readC (l : List UInt8) (style : Nat) (m1 : BandM) (d : BandA) (k : Nat) (s1 : StM) (n : Nat) : Option Nat × RdM → Option (BandM × List PcM × RdM)
 | (none,_) => none
 | (some lb,r3) => some ({ m1 with ss := m1.ss.set k { s1 with lb := (lb : Int) } },(pcGo l ⟨d,k⟩ lb (lensM (piecesM style s1.ps.length (s1.ps.length + n))) r3).1,(pcGo l ⟨d,k⟩ lb (lensM (piecesM style s1.ps.length (s1.ps.length + n))) r3).2)
def readB (l : List UInt8) (style : Nat) (m1 : BandM) (d : BandA) (k : Nat) (s1 : StM) (r1 : RdM) : Option (BandM × List PcM × RdM) :=
 if 3 * s1.pl - 2 < ((s1.ps.length + (toldM l r1).1 : Nat) : Int) then none else readC l style m1 d k s1 (toldM l r1).1 (lbGo l (25 - s1.lb.toNat) s1.lb.toNat (toldM l r1).2)
theorem readM_eq (l : List UInt8) (style : Nat) (m : BandM) (d : BandA) (k : Nat) (s : StM) (r : RdM) {m1 : BandM} {s1 : StM} {r1 : RdM} {ok : Bool} (h : readA l m k s r = (m1,s1,r1,ok)) : readM l style m d k s r = if ok = false then none else readB l style m1 d k s1 r1 := by
 unfold readA at h
 unfold readM
 simp only [h]
 split
 ·rfl
 ·unfold readB
  split
  ·rfl
  ·unfold readC
   rfl
def ReadR (l : List UInt8) (d : BandA) (b : BandG) (rb : Nat) (HR : List HB) (w w' : World) (v : Value) (ok : Bool) : Option (BandM × List PcM × RdM) → Prop
 | none => ok = false ∧ ∃ (b' : BandG) (HR' : List HB) (r' : RdM),b'.ok d ∧ ReadH rb l r' HR' ∧ Mv w (HR ++ b.heap d) w' (HR' ++ b'.heap d)
 | some q => ok = true ∧ ∃ (b' : BandG) (HR' Hv : List HB),RowPc v q.2.1 Hv ∧ b'.ok d ∧ b'.model = q.1 ∧ ReadH rb l q.2.2 HR' ∧ Mv w (HR ++ b.heap d) w' (Hv ++ (HR' ++ b'.heap d))
def ReadPost (l : List UInt8) (d : BandA) (b : BandG) (rb : Nat) (HR : List HB) (w : World) (q : Option (BandM × List PcM × RdM)) (e : Ending) (w' : World) : Prop := ∃ v o,e = .returned (.tuple #[v,.bool o]) ∧ ReadR l d b rb HR w w' v o q
set_option maxHeartbeats 8000000 in
theorem read_any (d : BandA) (b : BandG) (k rb style : Nat) (st : StG) (l : List UInt8) (r : RdM) (HR : List HB) (w : World)
  (ok : b.ok d) (hkn : k < d.n) (hst : b.G[k]? = some st) (hr : ReadH rb l r HR) (hs : Sat w (HR ++ b.heap d)) (hpl : 0 ≤ b.planes ∧ b.planes ≤ 60) (hnn : TreeNN b.model.zeros) (hsp : st.m.pl ≤ 60) (hlb : st.m.lb ≤ 24) (hs63 : style ≤ 63) (hll : l.length ≤ 90000000) (hrb : r.begun ≤ 60000000) (hr8 : r.left ≤ 8) :
  Calls Try.prog 76 #[SpotX.v ⟨d,k⟩,.pointer (some ⟨rb,0,none⟩),.int .i64 (style : Int)] w (ReadPost l d b rb HR w (readM l style b.model d k st.m r)) := by
 have hkk : k < 4096 := Nat.lt_of_lt_of_le hkn ok.small
 obtain ⟨g,hg⟩ : ∃ g,w.heap.size = g := ⟨_,rfl⟩
 obtain ⟨X,hX⟩ : ∃ X : List HB,[⟨g,67,SpotX.cells ⟨d,k⟩⟩] = X := ⟨_,rfl⟩
 obtain ⟨w1,hw1⟩ : ∃ w1,w1 = w.alloc (.cells (SpotX.cells ⟨d,k⟩) 67) := ⟨_,rfl⟩
 have M1 : Mv w (HR ++ b.heap d) w1 (HR ++ (X ++ b.heap d)) := by
  have m := (Mv.refl hs).alloc 67 (SpotX.cells ⟨d,k⟩)
  rw [hg,← hw1] at m
  rw [← hX]
  exact m.sub (fun g => by simp only [cnt_append,cnt_cons,cnt_nil]; omega) (fun c hc => by simp only [List.mem_append,List.mem_cons,List.not_mem_nil,or_false] at hc ⊢; grind)
 have hx : ⟨g,67,SpotX.cells ⟨d,k⟩⟩ ∈ X := by rw [← hX]; exact List.mem_cons_self
 have DRP : Hid (∀ W A H1,Mv w (HR ++ b.heap d) W (A ++ (X ++ H1)) → Mv w (HR ++ b.heap d) W (A ++ H1)) := Lib.hid (fun W A H1 m => m.sub (fun g => by simp only [cnt_append]; omega) (fun c hc => by simp only [List.mem_append] at hc ⊢; grind))
 have hso := ok.st st (List.mem_of_getElem? hst)
 have hnp := hso.2.2.np
 obtain ⟨pa,pc,hvp⟩ := hso.passes
 obtain ⟨⟨x0,x1,x2⟩,⟨y1,y2,y3⟩,z0,z1,-,z3,z4,-⟩ := hd_cells M1 hx hst
 rw [hvp] at z1
 obtain ⟨np,hnpe⟩ : ∃ np,st.m.ps.length = np := ⟨_,rfl⟩
 rw [hnpe] at z1 hnp
 have M1' : Mv w (HR ++ b.heap d) w1 ((HR ++ b.heap d) ++ X) := M1.sub (fun g => by simp only [cnt_append]; omega) (fun c hc => by simp only [List.mem_append] at hc ⊢; grind)
 have BG := Lib.hid (pbegin_any d b k rb st l r HR w1 ok hkn hst hr M1'.sat.left hpl hnn hll (by omega) hr8)
 have QI := beginGo_inv l b.planes k hpl.2 b.planes.toNat 1 b.model.zeros r hr8 (by have := ok.kz.1; simpa [BandG.model] using this) hnn (by omega) (by omega)
 have eQ : beginM l b.model k r = beginGo l b.planes k b.planes.toNat 1 b.model.zeros r := rfl
 rw [← eQ] at QI
 have hA : readA l b.model k st.m r = if np = 0 then (begB b.model st.m k (beginM l b.model k r),begS st.m (beginM l b.model k r).2.1,(beginM l b.model k r).2.2,begOk (beginM l b.model k r).2.1) else (b.model,st.m,r,true) := by unfold readA; rw [hnpe]
 obtain ⟨Q,hQ⟩ : ∃ Q,beginM l b.model k r = Q := ⟨_,rfl⟩
 rw [hQ] at BG QI hA
 obtain ⟨qo,hqo⟩ : ∃ qo,begOk Q.2.1 = qo := ⟨_,rfl⟩
 rw [hqo] at BG hA
 have hQ30 : qo = true → (begS st.m Q.2.1).pl ≤ 60 := by
  rw [← hqo]
  cases hq : Q.2.1 with
  | none => intro h; simp [begOk] at h
  | some p =>
   intro h
   have := QI.2.2.1 p hq
   simp only [begS]
   omega
 have hqs : (begS st.m Q.2.1).ps = st.m.ps ∧ (begS st.m Q.2.1).lb = st.m.lb := by cases Q.2.1 <;> exact ⟨rfl,rfl⟩
 have HA := Lib.hid hA
 have HW1 := Lib.hid (show w1 = w.alloc (.cells #[.pointer (some ⟨d.lb,k * 5,none⟩),.pointer (some ⟨d.bb,0,none⟩),.int .i64 (k : Int)] 67) from hw1)
 have KF := Lib.hid (And.intro ok (And.intro hst (And.intro hx (And.intro hr (And.intro M1 M1')))))
 have KQ := Lib.hid (And.intro QI (And.intro hQ30 hqs))
 have hpn : b.planes.toNat * 1200 ≤ 60 * 1200 := Nat.mul_le_mul_right _ (by omega)
 have hqb : Q.2.2.begun ≤ 60100000 ∧ Q.2.2.left ≤ 8 := ⟨by have := QI.2.2.2.2; omega,QI.2.2.2.1⟩
 unfold SpotX.v at BG ⊢
 clear ok hst hx hr M1 M1' hA hw1 hX hs hso hvp hQ hqo hnn hpl QI hQ30 hqs eQ hpn
 go_enter Try.func76,Try.ntmps76
 go_upto_region 1 with fail
 rw [← HW1.out]
 clear HW1
 go_cut [15,16,17,18,19,20,21,22,23,24,25,26,27,28] from 29 (fun _ _ _ _ _ _ _ _ _ _ _ _ _ s28 wx => ∃ (b1 : BandG) (HR1 : List HB) (r1 : RdM) (s1 : StM) (o : Bool),s28 = .bool (!o) ∧ readA l b.model k st.m r = (b1.model,s1,r1,o) ∧ b1.ok d ∧ b1.G[k]? = some { st with m := s1 } ∧ ReadH rb l r1 HR1 ∧ Mv w (HR ++ b.heap d) wx (HR1 ++ (X ++ b1.heap d)) ∧
  r1.begun ≤ 60100000 ∧ r1.left ≤ 8 ∧ (o = true → s1.pl ≤ 60) ∧ s1.ps.length = np ∧ s1.lb ≤ 24)
 case first =>
  by_cases h0 : np = 0
  ·subst h0
   go_wp2_with (go_at_call 95; (with_reducible refine BG.out.mono ?_); rintro e w2 ⟨rfl,K2⟩; replace K2 := Lib.hid K2)
   go_meet
   obtain ⟨b1,HR1,q1,q2,q3,q4,q5⟩ := K2.out
   refine ⟨b1,HR1,Q.2.2,begS st.m Q.2.1,qo,rfl,by rw [HA.out,if_pos (by first | rfl | trivial),q2],q1,q3,q4,?_,hqb.1,hqb.2,KQ.out.2.1,by rw [KQ.out.2.2.1,hnpe],by rw [KQ.out.2.2.2]; exact hlb⟩
   exact (Mv.call KF.out.2.2.2.2.2 q5).sub (fun g => by simp only [cnt_append]; omega) (fun c hc => by simp only [List.mem_append] at hc ⊢; grind)
  ·have h1 : ¬ (np : Int) = 0 := by omega
   go_wp2_with fail
   go_meet
   exact ⟨b,HR,r,st.m,true,rfl,by rw [HA.out,if_neg h0],KF.out.1,KF.out.2.1,KF.out.2.2.2.1,KF.out.2.2.2.2.1,by omega,hr8,fun _ => hsp,hnpe,hlb⟩
 case rest =>
  obtain ⟨b1,HR1,r1,s1,o,rfl,hA,ok1,hst1,hr1,M1,hrb1,hr81,hpl1,hnp1,hlb1⟩ := hcut
  have hso1 := ok1.st _ (List.mem_of_getElem? hst1)
  have hlb0 : 0 ≤ s1.lb := hso1.2.2.lb.1
  have hpl0 : -1000 ≤ s1.pl ∧ s1.pl ≤ 1000 := hso1.2.2.pl
  obtain ⟨⟨x0,x1,x2⟩,-,z0,z1,-,z3,z4,-⟩ := hd_cells M1 KF.out.2.2.1 hst1
  obtain ⟨pa,pc,hvp⟩ := hso1.passes
  simp only at hvp z0 z1 z3 z4
  rw [hvp,hnp1] at z1
  have RE := readM_eq l style b.model d k st.m r hA
  have TL := Lib.hid (told_any rb l r1 wc HR1 hr1 M1.sat.left hll (by omega) hr81)
  have TI := toldM_inv l r1 hr81
  have K1 := Lib.hid (And.intro ok1 (And.intro hst1 (And.intro hr1 (And.intro M1 RE))))
  clear ok1 hst1 hr1 M1 hso1 hA hvp HA KQ BG hqb RE
  cases o with
  | false =>
   have RN : Hid (readM l style b.model d k st.m r = none) := Lib.hid (by rw [K1.out.2.2.2.2,if_pos rfl])
   simp only [Bool.not_false]
   go_wp2_with fail
   go_ret2
   refine ⟨_,false,rfl,?_⟩
   rw [RN.out]
   exact ⟨rfl,b1,HR1,r1,K1.out.1,K1.out.2.2.1,DRP.out _ _ _ K1.out.2.2.2.1⟩
  | true =>
   simp only [Bool.not_true]
   replace hpl1 := hpl1 rfl
   obtain ⟨tn,htn⟩ : ∃ tn,(toldM l r1).1 = tn := ⟨_,rfl⟩
   obtain ⟨r2,hr2⟩ : ∃ r2,(toldM l r1).2 = r2 := ⟨_,rfl⟩
   obtain ⟨lb0,hlb0e⟩ : ∃ lb0 : Nat,s1.lb = (lb0 : Int) := ⟨s1.lb.toNat,(Int.toNat_of_nonneg hlb0).symm⟩
   have hRB : readM l style b.model d k st.m r = if 3 * s1.pl - 2 < ((np + tn : Nat) : Int) then none else readC l style b1.model d k s1 tn (lbGo l (25 - s1.lb.toNat) s1.lb.toNat r2) := by
    rw [K1.out.2.2.2.2,if_neg (by simp)]
    unfold readB
    rw [htn,hr2,hnp1]
   rw [htn,hr2] at TL TI
   rw [show s1.lb.toNat = lb0 by omega] at hRB
   have RB := Lib.hid hRB
   clear htn hr2 hRB
   go_upto_region 5 with (go_at_call 96; (with_reducible refine TL.out.mono ?_); rintro e w3 ⟨rfl,HR3,q1,q2⟩; have K3 := Lib.hid (And.intro q1 (Mv.call K1.out.2.2.2.1 q2)); clear q1 q2)
   clear x0 x1 x2 z0 z1 z3 z4
   obtain ⟨⟨x0,x1,x2⟩,-,z0,z1,-,z3,z4,z5⟩ := hd_cells K3.out.2 KF.out.2.2.1 K1.out.2.1
   by_cases hbad : 3 * s1.pl - 2 < ((np + tn : Nat) : Int)
   ·have hbad2 : 3 * s1.pl - 2 < (np : Int) + (tn : Int) := by omega
    go_wp2_with fail
    go_ret2
    refine ⟨_,false,rfl,?_⟩
    rw [RB.out,if_pos hbad]
    exact ⟨rfl,b1,HR3,r2,K1.out.1,K3.out.1,DRP.out _ _ _ K3.out.2⟩
   ·have hbad2 : ¬ 3 * s1.pl - 2 < (np : Int) + (tn : Int) := by omega
    have LI := lbGo_inv l (25 - lb0) lb0 r2 TI.2.2.1 (by omega)
    have hst3 : b1.setS k { st with m := s1 } s1.said s1.lb = b1 := BandG.setS_self K1.out.2.1
    rw [hlb0e] at hst3
    have hr2b : r2.begun ≤ 60100016 := by omega
    have RB2 : Hid (readM l style b.model d k st.m r = readC l style b1.model d k s1 tn (lbGo l (25 - lb0) lb0 r2)) := Lib.hid (by rw [RB.out,if_neg hbad])
    have hnt : np + tn ≤ 178 := by omega
    have htn1 : 1 ≤ tn := TI.1
    have K2 := Lib.hid (And.intro hst3 (And.intro hlb0e LI))
    clear hst3 LI RB TL
    go_upto_region 7 with fail
    clear hbad hbad2 x0 x1 x2 z0 z1 z3 z4 z5
    go_loopg [50] (25 - lb0) (fun gg _ wx => ∃ (lb : Nat) (HR4 : List HB) (r4 : RdM),lb0 ≤ lb ∧ lb ≤ 24 ∧ gg = 25 - lb ∧ lbGo l (25 - lb0) lb0 r2 = lbGo l (25 - lb) lb r4 ∧ ReadH rb l r4 HR4 ∧ Mv w (HR ++ b.heap d) wx (HR4 ++ (X ++ (b1.setS k { st with m := s1 } s1.said (lb : Int)).heap d)) ∧ r4.left ≤ 8 ∧ r4.begun + lb0 ≤ r2.begun + lb)
    case atStart => exact ⟨lb0,HR3,r2,Nat.le_refl _,by omega,rfl,rfl,K3.out.1,by rw [K2.out.1]; exact K3.out.2,TI.2.2.1,Nat.le_refl _⟩
    case round =>
     obtain ⟨wa,rfl⟩ : ∃ wa : World,wa = wr := ⟨_,rfl⟩
     obtain ⟨lb,HR4,r4,hl1,hl2,rfl,hE,q4,M4,h48,h4b⟩ := hrel
     have hsd1 := (K1.out.1.st _ (List.mem_of_getElem? K1.out.2.1)).2.2.said
     have hg4 := BandG.setS_get K1.out.2.1 s1.said (lb : Int)
     have ok4 := BandG.setS_ok K1.out.1 K1.out.2.1 (said := s1.said) (lb := (lb : Int)) hsd1 ⟨by omega,by omega⟩
     obtain ⟨⟨x0,x1,x2⟩,-,z0,z1,-,z3,z4,z5⟩ := hd_cells M4 KF.out.2.2.1 hg4
     have z6 := z5 (k * 5 + 4)
     simp only [StG.withS,StM.withS] at z4
     obtain ⟨hb1,hb2,hb3⟩ := rdBit_inv l r4 h48
     rw [show 25 - lb = (24 - lb) + 1 by omega,lbGo_succ] at hE
     have KE := Lib.hid (And.intro hE (And.intro q4 (And.intro M4 (And.intro hg4 ok4))))
     have hb4b : (rdBit l r4).2.begun + lb0 ≤ r2.begun + lb + 1 := by omega
     have SM : Hid (∀ V HR5,Mv w (HR ++ b.heap d) V (HR5 ++ (X ++ (b1.setS k { st with m := s1 } s1.said (lb : Int)).heap d)) → (V.cell? ⟨g,0,none⟩ = some (.pointer (some ⟨d.lb,k * 5,none⟩)) ∧ V.cell? ⟨d.lb,k * 5 + 4,none⟩ = some (.int .i64 (lb : Int)) ∧ V.frozen? ⟨d.lb,k * 5 + 4,none⟩ = false) ∧ Mv w (HR ++ b.heap d) (V.setCell ⟨d.lb,k * 5 + 4,none⟩ (.int .i64 ((lb : Int) + 1))) (HR5 ++ (X ++ (b1.setS k { st with m := s1 } s1.said ((lb + 1 : Nat) : Int)).heap d))) := Lib.hid (by
      intro V HR5 m
      obtain ⟨⟨x0,x1,x2⟩,-,z0,z1,-,z3,z4,z5⟩ := hd_cells m KF.out.2.2.1 KE.out.2.2.2.1
      have m2 := BandG.setS_mv (A := HR5 ++ X) (by rw [List.append_assoc]; exact m) KE.out.2.2.2.1 s1.said ((lb + 1 : Nat) : Int) 4 (.int .i64 ((lb : Int) + 1)) (by omega) rfl
      rw [List.append_assoc,BandG.setS_setS] at m2
      exact ⟨⟨x0,z4,z5 _⟩,m2⟩)
     clear hE q4 M4 hg4 ok4 z5 hsd1
     by_cases hq : (rdBit l r4).1 = 1
     ·have BB := Lib.hid (bit_rd rb l r4 wa HR4 KE.out.2.1 KE.out.2.2.1.sat.left hll (by omega) h48)
      rw [hq] at BB
      by_cases hov : 24 < lb + 1
      ·have hov2 : (24 : Int) < (lb : Int) + 1 := by omega
       have RN : Hid (readM l style b.model d k st.m r = none) := Lib.hid (by rw [RB2.out,KE.out.1,if_pos hq,if_pos hov]; rfl)
       go_upto_region 9 with (go_at_call 74; (with_reducible refine BB.out.mono ?_); rintro e w5 ⟨rfl,HR5,p1,p2⟩; obtain ⟨⟨v0,v4,v5⟩,m6⟩ := SM.out w5 HR5 (Mv.call KE.out.2.2.1 p2); have K5 := Lib.hid (And.intro p1 m6); clear p1 p2 m6)
       obtain ⟨w6,hw6⟩ : ∃ w6,w6 = w5.setCell ⟨d.lb,k * 5 + 4,none⟩ (.int .i64 ((lb : Int) + 1)) := ⟨_,rfl⟩
       rw [← hw6] at K5 ⊢
       obtain ⟨⟨u0,-,-⟩,-,-,-,-,-,u4,-⟩ := hd_cells K5.out.2 KF.out.2.2.1 (BandG.setS_get K1.out.2.1 s1.said ((lb + 1 : Nat) : Int))
       simp only [StG.withS,StM.withS] at u4
       push_cast at u4
       clear hw6 v0 v4 v5
       go_wp2_with fail
       go_ret2
       refine ⟨_,false,rfl,?_⟩
       rw [RN.out]
       exact ⟨rfl,_,HR5,_,BandG.setS_ok K1.out.1 K1.out.2.1 (said := s1.said) (lb := ((lb + 1 : Nat) : Int)) (K1.out.1.st _ (List.mem_of_getElem? K1.out.2.1)).2.2.said ⟨by omega,by omega⟩,K5.out.1,DRP.out _ _ _ K5.out.2⟩
      ·have hov2 : ¬ (24 : Int) < (lb : Int) + 1 := by omega
       have hE3 : lbGo l (25 - lb0) lb0 r2 = lbGo l (25 - (lb + 1)) (lb + 1) (rdBit l r4).2 := by rw [KE.out.1,if_pos hq,if_neg hov,show 25 - (lb + 1) = 24 - lb by omega]
       have HE3 := Lib.hid hE3
       clear hE3
       go_upto_region 9 with (go_at_call 74; (with_reducible refine BB.out.mono ?_); rintro e w5 ⟨rfl,HR5,p1,p2⟩; obtain ⟨⟨v0,v4,v5⟩,m6⟩ := SM.out w5 HR5 (Mv.call KE.out.2.2.1 p2); have K5 := Lib.hid (And.intro p1 m6); clear p1 p2 m6)
       obtain ⟨w6,hw6⟩ : ∃ w6,w6 = w5.setCell ⟨d.lb,k * 5 + 4,none⟩ (.int .i64 ((lb : Int) + 1)) := ⟨_,rfl⟩
       rw [← hw6] at K5 ⊢
       obtain ⟨⟨u0,-,-⟩,-,-,-,-,-,u4,-⟩ := hd_cells K5.out.2 KF.out.2.2.1 (BandG.setS_get K1.out.2.1 s1.said ((lb + 1 : Nat) : Int))
       simp only [StG.withS,StM.withS] at u4
       push_cast at u4
       clear hw6 v0 v4 v5
       go_wp2_with fail
       go_roundg (25 - (lb + 1))
       case measure => omega
       case rel => exact ⟨lb + 1,HR5,(rdBit l r4).2,by omega,by omega,rfl,HE3.out,K5.out.1,K5.out.2,hb2,by omega⟩
     ·have hq0 : (rdBit l r4).1 = 0 := by omega
      have BB := Lib.hid (bit_rd rb l r4 wa HR4 KE.out.2.1 KE.out.2.2.1.sat.left hll (by omega) h48)
      rw [hq0] at BB
      obtain ⟨r5,hr5⟩ : ∃ r5,(rdBit l r4).2 = r5 := ⟨_,rfl⟩
      obtain ⟨L,hL⟩ : ∃ L,lensM (piecesM style np (np + tn)) = L := ⟨_,rfl⟩
      have hLl : L.length ≤ 178 := by
       rw [← hL]
       have h1 := pieces_length style np (np + tn)
       have h2 : (lensM (piecesM style np (np + tn))).length = (piecesM style np (np + tn)).length := List.length_map _
       omega
      have hLb : ∀ i,0 ≤ L.getD i 0 ∧ L.getD i 0 ≤ 1000 := by rw [← hL]; exact lensM_bd style np (np + tn) (by omega)
      obtain ⟨m2,hm2⟩ : ∃ m2,(b1.setS k { st with m := s1 } s1.said (lb : Int)).model = m2 := ⟨_,rfl⟩
      have RE : Hid (readM l style b.model d k st.m r = some (m2,(pcGo l ⟨d,k⟩ lb L r5).1,(pcGo l ⟨d,k⟩ lb L r5).2)) := Lib.hid (by
       rw [RB2.out,KE.out.1,if_neg hq,hr5]
       unfold readC
       simp only
       rw [hnp1,hL,← hm2,BandG.setS_model]
       rfl)
      rw [hr5] at BB hb2 hb3 hb4b
      obtain ⟨b2,hb2e⟩ : ∃ b2,b1.setS k { st with m := s1 } s1.said (lb : Int) = b2 := ⟨_,rfl⟩
      rw [hb2e] at KE hm2
      have hg2 : b2.G[k]? = some (StG.withS { st with m := s1 } s1.said (lb : Int)) := by rw [← hb2e]; exact BandG.setS_get K1.out.2.1 _ _
      have K6 := Lib.hid (And.intro KE.out.2.2.2.2 (And.intro hm2 hg2))
      obtain ⟨i0,hti,hz0,hz1,hz2⟩ := info_parts infoI
      have hm := fun W => run_made (P := Try.prog) 41 3 i0 _ 1 8 (np + tn) Try.underlying41 hti hz0 hz1 hz2 rfl (by decide) (by omega) (by omega) W
      rw [flat_int] at hm
      simp only [Int.natCast_add] at hm
      have ar : (List.replicate (np + tn) (Value.int .i64 0)).toArray = Array.replicate (np + tn) (.int .i64 0) := by simp
      rw [ar] at hm
      have MS : Hid (∀ V HR5,Mv w (HR ++ b.heap d) V (HR5 ++ (X ++ b2.heap d)) → Calls Try.prog 62 #[.int .i64 (style : Int),.int .i64 (np : Int),.int .i64 ((np : Int) + (tn : Int)),.slice (some ⟨V.heap.size,0,none⟩) (np + tn) (np + tn)] (V.alloc (.cells (Array.replicate (np + tn) (Value.int .i64 0)) 3)) fun e w' => ∃ a1 c1 a2 c2 n2 H1,e = .returned (.tuple #[.slice a1 L.length c1,.slice a2 n2 c2]) ∧ RowI (.slice a1 L.length c1) L H1 ∧ Mv w (HR ++ b.heap d) w' (H1 ++ (HR5 ++ (X ++ b2.heap d)))) := Lib.hid (by
       intro V HR5 m
       have m1 := m.alloc 3 (Array.replicate (np + tn) (Value.int .i64 0))
       have hrow : RowI (.slice (some ⟨V.heap.size,0,none⟩) (np + tn) (np + tn)) (List.replicate (np + tn) 0) [rowI V.heap.size (List.replicate (np + tn) 0)] := rowI_row _ _ _ (by simp) (by unfold maxLen; omega)
       have hrc : rowI V.heap.size (List.replicate (np + tn) 0) = ⟨V.heap.size,3,Array.replicate (np + tn) (Value.int .i64 0)⟩ := by unfold rowI; rw [List.map_replicate,ar]
       have m2 : Mv w (HR ++ b.heap d) (V.alloc (.cells (Array.replicate (np + tn) (Value.int .i64 0)) 3)) ([rowI V.heap.size (List.replicate (np + tn) 0)] ++ (HR5 ++ (X ++ b2.heap d))) := by rw [hrc]; exact m1
       have sg := segments_any style np (np + tn) (List.replicate (np + tn) 0) _ _ _ hs63 (by omega) (by simp) (by simp; omega) (by intro e he; rw [List.mem_replicate] at he; omega) hrow m2.sat.left
       simp only [Int.natCast_add] at sg
       refine sg.mono ?_
       rintro e w' ⟨v1,v2,H1,H2,rfl,h1,h2,m3⟩
       obtain ⟨a1,c1,rfl⟩ := h1.slice
       obtain ⟨a2,c2,rfl⟩ := h2.slice
       rw [hL] at h1 ⊢
       refine ⟨a1,c1,a2,c2,_,H1,rfl,h1,?_⟩
       exact (Mv.call m2 m3).sub (fun g => by simp only [cnt_append]; omega) (fun c hc => by simp only [List.mem_append] at hc ⊢; grind))
      have hpos : (0 : Int) ≤ (np : Int) + (tn : Int) := by omega
      clear hr5 hL hb2e hm2 hg2 hq hq0 hb1 SM ar hz0 hz1 hz2
      go_upto_region 12 with (first
       | (go_at_call 74; (with_reducible refine BB.out.mono ?_); rintro e w5 ⟨rfl,HR5,p1,p2⟩; have K5 := Lib.hid (And.intro p1 (Mv.call KE.out.2.2.1 p2)); clear p1 p2)
       | (go_at_call 62; (with_reducible refine (MS.out w5 HR5 K5.out.2).mono ?_); rintro e w7 ⟨a1,c1,a2,c2,n2,H1,rfl,p1,p2⟩; have K7 := Lib.hid (And.intro p1 p2); clear p1 p2))
      obtain ⟨cnt,hcnt⟩ : ∃ cnt,L.length = cnt := ⟨_,rfl⟩
      rw [hcnt] at K7 hLl ⊢
      have HLB := Lib.hid (And.intro hLb hcnt)
      have K8 := Lib.hid K5.out.1
      clear hm hLb hcnt MS K5 BB
      go_upto_region 14 with fail
      go_loopg [12,14,82] cnt (fun gg s12 _ s82 wx => ∃ (i : Nat) (Hv HRi : List HB),i ≤ cnt ∧ gg = cnt - i ∧ s82 = .int .i64 (i : Int) ∧ RowPc s12 (pcGo l ⟨d,k⟩ lb (L.take i) r5).1 Hv ∧ ReadH rb l (pcGo l ⟨d,k⟩ lb (L.take i) r5).2 HRi ∧ Mv w (HR ++ b.heap d) wx (Hv ++ (H1 ++ (HRi ++ (X ++ b2.heap d)))))
      case atStart => exact ⟨0,[],HR5,Nat.zero_le _,rfl,rfl,RowH.nil _ _,by rw [List.take_zero]; exact K8.out,K7.out.2⟩
      case round =>
       obtain ⟨wb,rfl⟩ : ∃ wb : World,wb = wr := ⟨_,rfl⟩
       obtain ⟨i,Hv,HRi,hi,rfl,rfl,q1,q2,M9⟩ := hrel
       obtain ⟨PG,hPG⟩ : ∃ PG,pcGo l ⟨d,k⟩ lb (L.take i) r5 = PG := ⟨_,rfl⟩
       have PI := pcGo_inv l ⟨d,k⟩ lb (L.take i) r5 hb2
       rw [hPG] at q1 q2 PI
       by_cases hlt : i < cnt
       ·have hlt2 : (i : Int) < (cnt : Int) := by omega
        obtain ⟨g1,hg1⟩ := K7.out.1.form (by omega)
        subst hg1
        have hLb := HLB.out.1 i
        obtain ⟨en,hen⟩ : ∃ en : Nat,L.getD i 0 = (en : Int) := ⟨(L.getD i 0).toNat,(Int.toNat_of_nonneg hLb.1).symm⟩
        have he1 : L[i]? = some (en : Int) := by
         rw [← hen,List.getD_eq_getElem?_getD,List.getElem?_eq_getElem (by rw [HLB.out.2]; exact hlt)]
         rfl
        have c9 := K7.out.1.at_ M9.sat.right.left he1
        have hen1 : en ≤ 1000 := by omega
        have LG := Lib.hid (fun V => log_any en V (by omega))
        obtain ⟨ln,hln⟩ : ∃ ln,en.log2 = ln := ⟨_,rfl⟩
        have hln10 : ln ≤ 10 := by
         rw [← hln]
         by_cases h0 : en = 0
         ·rw [h0]; decide
         ·exact Nat.le_of_lt_succ ((Nat.log2_lt h0).2 (by omega))
        rw [hln] at LG
        obtain ⟨qn,hqn⟩ : ∃ qn,(rdG l ((lb + ln : Nat) : Int) PG.2).1 = qn := ⟨_,rfl⟩
        obtain ⟨r9,hr9⟩ : ∃ r9,(rdG l ((lb + ln : Nat) : Int) PG.2).2 = r9 := ⟨_,rfl⟩
        have CE : Hid (∀ V A',Mv w (HR ++ b.heap d) V (A' ++ (X ++ b2.heap d)) → V.cell? ⟨g,0,none⟩ = some (.pointer (some ⟨d.lb,k * 5,none⟩)) ∧ V.cell? ⟨g,1,none⟩ = some (.pointer (some ⟨d.bb,0,none⟩)) ∧ V.cell? ⟨g,2,none⟩ = some (.int .i64 (k : Int)) ∧ V.cell? ⟨d.lb,k * 5 + 4,none⟩ = some (.int .i64 (lb : Int))) := Lib.hid (by
         intro V A' m
         obtain ⟨⟨x0,x1,x2⟩,-,z0,z1,-,z3,z4,z5⟩ := hd_cells m KF.out.2.2.1 K6.out.2.2
         exact ⟨x0,x1,x2,z4⟩)
        have M9' : Mv w (HR ++ b.heap d) wb (HRi ++ (Hv ++ (H1 ++ (X ++ b2.heap d)))) := M9.sub (fun g => by simp only [cnt_append]; omega) (fun c hc => by simp only [List.mem_append] at hc ⊢; grind)
        have BI : Hid (∀ V R,Mv w (HR ++ b.heap d) V (HRi ++ R) → Calls Try.prog 97 #[.pointer (some ⟨rb,0,none⟩),.int .i64 ((lb : Int) + (ln : Int))] V fun e w' => e = .returned (.int .i64 (qn : Int)) ∧ ∃ HR',ReadH rb l r9 HR' ∧ Mv w (HR ++ b.heap d) w' (HR' ++ R)) := Lib.hid (by
         intro V R m
         have h := bits_rd rb l PG.2 ((lb + ln : Nat) : Int) V HRi q2 m.sat.left hll (by have := PI.2.2.1; rw [List.length_take] at this; omega) PI.2.1
         rw [hqn,hr9,Int.natCast_add] at h
         refine h.mono ?_
         rintro e w' ⟨rfl,HR',p1,p2⟩
         exact ⟨rfl,HR',p1,Mv.call m p2⟩)
        obtain ⟨pa9,pc9,rfl⟩ := q1.slice
        have hpn : PG.1.length = i := by rw [PI.1,List.length_take,HLB.out.2]; omega
        have hpnH := Lib.hid hpn
        rw [hpn] at q1
        have q1' : RowH 116 5 (.slice pa9 i pc9) i (pcsV PG.1) Hv := by
         unfold RowPc at q1
         rw [hpn] at q1
         exact q1
        have hstep : pcGo l ⟨d,k⟩ lb (L.take (i + 1)) r5 = (PG.1 ++ [⟨⟨d,k⟩,en,qn⟩],r9) := by
         rw [List.take_add_one,he1]
         show pcGo l ⟨d,k⟩ lb (L.take i ++ [(en : Int)]) r5 = _
         rw [pcGo_snoc,hPG,Int.toNat_natCast,hln,hqn,hr9]
        have K9 := Lib.hid (And.intro q1' (And.intro M9' hstep))
        rw [hpn]
        have hi178 : i ≤ 1000 := by omega
        clear q1 q1' q2 M9 M9' hPG PI hstep hpn hqn hr9 hln hen hLb he1
        go_upto_region 16 with fail
        refine wp_piece_end (read_r16 _ d b2 k g rb lb en ln qn i pc9 pa9 l PG.2 r9 PG.1 HRi Hv H1 X (HR ++ b.heap d) w wb _ _ _ _ _ _ _ _ _ _ _ _ _ _ _ _ _ _ _ _ _ _ _ _ _ _ _ _ _ _ _ _ _ _ _ _ _ _ _ _ _ _ _ _ _ _ _ _ _ _ _ _ _ _ _ _ _ _ _ _ _ _ _ _ _ _ _ _ _ _ _ _ _ _ _ _ _ _ _ _ _ _ _ _ _ _ _ _ _ _ _ _ _ _ _ _ _ _ _ _ CE LG BI hl2 hln10 hi178 K9.out.1 K9.out.2.1 ?_)
        rintro _ _ _ _ _ _ _ _ _ _ _ _ _ _ _ u101 u12 g8 HB HRx W HW ⟨-,p2⟩ p1 rfl
        obtain ⟨a12,c12,rfl⟩ := RowH.slice p1
        have K10 : Hid (RowPc (.slice a12 (i + 1) c12) (PG.1 ++ [⟨⟨d,k⟩,en,qn⟩]) HB ∧ ReadH rb l r9 HRx ∧ Mv w (HR ++ b.heap d) W (HB ++ (H1 ++ (HRx ++ (X ++ b2.heap d))))) := Lib.hid ⟨by
         have e : (PG.1 ++ [(⟨⟨d,k⟩,en,qn⟩ : PcM)]).length = i + 1 := by rw [List.length_append,hpnH.out]; rfl
         unfold RowPc
         rw [e]
         exact p1,p2,HW.1.sub (fun g => by simp only [oh_true,cnt_append,cnt_cons,cnt_nil]; omega) (fun c hc => by simp only [oh_true,List.mem_append,List.mem_cons,List.not_mem_nil,or_false] at hc ⊢; grind)⟩
        clear p1 p2 HW
        go_wp2_with fail
        go_roundg (cnt - (i + 1))
        case measure => omega
        case rel => exact ⟨i + 1,HB,HRx,by omega,rfl,by push_cast; rfl,by rw [K9.out.2.2]; exact K10.out.1,by rw [K9.out.2.2]; exact K10.out.2.1,K10.out.2.2⟩
       ·obtain rfl : i = cnt := by omega
        have hlt2 : ¬ (i : Int) < (i : Int) := by omega
        have hfin : pcGo l ⟨d,k⟩ lb L r5 = PG := by rw [← hPG,List.take_of_length_le (by rw [HLB.out.2]; exact Nat.le_refl _)]
        have K9 := Lib.hid (And.intro q1 (And.intro q2 (And.intro M9 hfin)))
        clear q1 q2 M9 hfin hPG PI
        go_wp2_with fail
        go_ret2
        refine ⟨_,true,rfl,?_⟩
        rw [RE.out,K9.out.2.2.2]
        exact ⟨rfl,b2,HRi,Hv,K9.out.1,K6.out.1,K6.out.2.1,K9.out.2.1,by
         have m := DRP.out _ (Hv ++ (H1 ++ HRi)) _ (by simpa only [List.append_assoc] using K9.out.2.2.1)
         exact m.sub (fun g => by simp only [cnt_append]; omega) (fun c hc => by simp only [List.mem_append] at hc ⊢; grind)⟩
end
section
open Go.RowKit
structure GoodR (m : BandM) : Prop where
 pl : 0 ≤ m.planes ∧ m.planes ≤ 60
 nn : TreeNN m.zeros
 ss : ∀ s ∈ m.ss,s.pl ≤ 60 ∧ s.lb ≤ 24
theorem hereM_inv (l : List UInt8) (m : BandM) (s : StM) (k layer : Nat) (r : RdM) (h8 : r.left ≤ 8) (hf : m.first.length ≤ 20) (hl : layer ≤ 100) (g : GoodR m) :
  GoodR (hereM l m s k layer r).1 ∧ (hereM l m s k layer r).1.ss = m.ss ∧ (hereM l m s k layer r).2.2.left ≤ 8 ∧ (hereM l m s k layer r).2.2.begun ≤ r.begun + 2020 := by
 unfold hereM
 split
 ·have h := decAt_inv l m.first k ((layer : Int) + 1) r h8 hf (by omega)
  exact ⟨⟨g.pl,g.nn,g.ss⟩,rfl,h.2.1,by have := h.2.2; simp only; omega⟩
 ·have h := rdBit_inv l r h8
  exact ⟨g,rfl,h.2.1,by have := h.2.2; simp only; omega⟩
theorem readA_inv {l : List UInt8} {m : BandM} {k : Nat} {s : StM} {r : RdM} (h8 : r.left ≤ 8) (hz : m.zeros.length ≤ 20) (g : GoodR m) (hs : m.ss[k]? = some s) {m1 : BandM} {s1 : StM} {r1 : RdM} {o : Bool} (h : readA l m k s r = (m1,s1,r1,o)) :
  m1.planes = m.planes ∧ TreeNN m1.zeros ∧ m1.ss = m.ss.set k s1 ∧ s1.ps = s.ps ∧ s1.bs = s.bs ∧ s1.lb = s.lb ∧ (o = true → s1.pl ≤ 60) ∧ r1.left ≤ 8 ∧ r1.begun ≤ r.begun + 72000 ∧ m1.first = m.first := by
 unfold readA at h
 have gs := g.ss s (List.mem_of_getElem? hs)
 split at h
 ·obtain ⟨Q,hQ⟩ : ∃ Q,beginM l m k r = Q := ⟨_,rfl⟩
  have QI := beginGo_inv l m.planes k g.pl.2 m.planes.toNat 1 m.zeros r h8 hz g.nn (by omega) (by have := g.pl.1; omega)
  rw [show beginGo l m.planes k m.planes.toNat 1 m.zeros r = Q from hQ] at QI
  rw [hQ] at h
  simp only [Prod.mk.injEq] at h
  obtain ⟨rfl,rfl,rfl,rfl⟩ := h
  have hpn : m.planes.toNat * 1200 ≤ 60 * 1200 := Nat.mul_le_mul_right _ (by have := g.pl.2; omega)
  refine ⟨rfl,QI.2.1,rfl,?_,?_,?_,fun ho => ?_,QI.2.2.2.1,by have := QI.2.2.2.2; omega,rfl⟩
  ·cases Q.2.1 <;> rfl
  ·cases Q.2.1 <;> rfl
  ·cases Q.2.1 <;> rfl
  ·cases hq : Q.2.1 with
   | none => rw [hq] at ho; simp [begOk] at ho
   | some p =>
    have := QI.2.2.1 p hq
    have := g.pl.2
    simp only [begS]
    omega
 ·simp only [Prod.mk.injEq] at h
  obtain ⟨rfl,rfl,rfl,rfl⟩ := h
  exact ⟨rfl,g.nn,(set_self_get hs).symm,rfl,rfl,rfl,fun _ => gs.1,h8,by omega,rfl⟩
theorem readM_inv {l : List UInt8} {style : Nat} {m : BandM} {d : BandA} {k : Nat} {s : StM} {r : RdM} (h8 : r.left ≤ 8) (hz : m.zeros.length ≤ 20) (g : GoodR m) (hs : m.ss[k]? = some s) (hlb : 0 ≤ s.lb) {q : BandM × List PcM × RdM} (h : readM l style m d k s r = some q) :
  GoodR q.1 ∧ q.2.2.left ≤ 8 ∧ q.2.2.begun ≤ r.begun + 80000 ∧ q.2.1.length ≤ 178 := by
 obtain ⟨⟨m1,s1,r1,o⟩,hA⟩ : ∃ t,readA l m k s r = t := ⟨_,rfl⟩
 have gs := g.ss s (List.mem_of_getElem? hs)
 obtain ⟨a1,a2,a3,a4,a5,a6,a7,a8,a9,a10⟩ := readA_inv h8 hz g hs hA
 rw [readM_eq l style m d k s r hA] at h
 split at h
 ·cases h
 ·rename_i ho
  have ho1 : o = true := by cases o; exact absurd rfl ho; rfl
  unfold readB at h
  split at h
  ·cases h
  ·rename_i hb
   have hp := a7 ho1
   obtain ⟨t1,t2,t3,t4⟩ := toldM_inv l r1 a8
   have LI := lbGo_inv l (25 - s1.lb.toNat) s1.lb.toNat (toldM l r1).2 t3 (by rw [a6]; omega)
   obtain ⟨⟨lo,r3⟩,hlo⟩ : ∃ t,lbGo l (25 - s1.lb.toNat) s1.lb.toNat (toldM l r1).2 = t := ⟨_,rfl⟩
   rw [hlo] at h LI
   cases lo with
   | none => cases h
   | some lb =>
    simp only [readC,Option.some.injEq] at h
    subst h
    have hL : (lensM (piecesM style s1.ps.length (s1.ps.length + (toldM l r1).1))).length ≤ 178 := by
     have h1 := pieces_length style s1.ps.length (s1.ps.length + (toldM l r1).1)
     have h2 : (lensM (piecesM style s1.ps.length (s1.ps.length + (toldM l r1).1))).length = (piecesM style s1.ps.length (s1.ps.length + (toldM l r1).1)).length := List.length_map _
     omega
    obtain ⟨p1,p2,p3,p4⟩ := pcGo_inv l ⟨d,k⟩ lb (lensM (piecesM style s1.ps.length (s1.ps.length + (toldM l r1).1))) r3 LI.1
    have hl24 := LI.2.2 lb rfl
    refine ⟨⟨by rw [show ({ m1 with ss := m1.ss.set k { s1 with lb := (lb : Int) } } : BandM).planes = m1.planes from rfl,a1]; exact g.pl,a2,fun x hx => ?_⟩,p2,?_,by simp only; omega⟩
    ·rcases List.mem_or_eq_of_mem_set hx with hx | rfl
     ·rw [a3] at hx
      rcases List.mem_or_eq_of_mem_set hx with hx | rfl
      ·exact g.ss x hx
      ·exact ⟨hp,by rw [a6]; exact gs.2⟩
     ·exact ⟨hp,by simp only; omega⟩
    ·have := LI.2.1
     simp only at this ⊢
     omega
section
variable {D : List BandA} {M : Nat → BandM} {HB1 H0 Y HR : List HB} {w0 w : World} {d : BandA} {k rb : Nat} {s : StM} {l : List UInt8} {r : RdM}
theorem step_here (hB : BandsR D M HB1) (hd : d ∈ D) (hk : k < d.n) (hs : (M d.bb).ss[k]? = some s) (hr : ReadH rb l r HR) (m : Mv w0 H0 w ((HR ++ Y) ++ HB1)) (layer : Nat) (hl : layer ≤ 100) (hll : l.length ≤ 90000000) (hrb : r.begun ≤ 70000000) (h8 : r.left ≤ 8) :
  Calls Try.prog 75 #[SpotX.v ⟨d,k⟩,.pointer (some ⟨rb,0,none⟩),.int .i64 (layer : Int)] w fun e w' => e = .returned (.bool (hereM l (M d.bb) s k layer r).2.1) ∧
   ∃ HR' HB',ReadH rb l (hereM l (M d.bb) s k layer r).2.2 HR' ∧ BandsR D (updM M d.bb (hereM l (M d.bb) s k layer r).1) HB' ∧ Mv w0 H0 w' ((HR' ++ Y) ++ HB') := by
 obtain ⟨b,R,ok,em,fwd,back⟩ := bands_at hB m hd
 obtain ⟨st,hst,rfl⟩ := model_get em hs
 rw [← em]
 have m1 : Mv w0 H0 w ((HR ++ b.heap d) ++ (Y ++ R)) := (fwd w m).sub (fun g => by simp only [cnt_append]; omega) (fun c hc => by simp only [List.mem_append] at hc ⊢; grind)
 refine (here_any d b k rb layer st l r HR w ok hk hst hr m1.sat.left hl hll hrb h8).mono ?_
 rintro e w' ⟨rfl,b',HR',q1,q2,q3,q4,q5⟩
 obtain ⟨HB',h6,h7⟩ := back b' (HR' ++ Y) q1
 refine ⟨rfl,HR',HB',q4,by rw [← q2]; exact h6,h7 w' ?_⟩
 exact (Mv.call m1 q5).sub (fun g => by simp only [cnt_append]; omega) (fun c hc => by simp only [List.mem_append] at hc ⊢; grind)
def SRead (D : List BandA) (M : Nat → BandM) (d : BandA) (rb : Nat) (l : List UInt8) (w0 : World) (H0 Y : List HB) (w' : World) (v : Value) (o : Bool) : Option (BandM × List PcM × RdM) → Prop
 | none => o = false ∧ Mv w0 H0 w' Y
 | some q => o = true ∧ ∃ HR' Hv HB',RowPc v q.2.1 Hv ∧ ReadH rb l q.2.2 HR' ∧ BandsR D (updM M d.bb q.1) HB' ∧ Mv w0 H0 w' ((Hv ++ (HR' ++ Y)) ++ HB')
def SPost (D : List BandA) (M : Nat → BandM) (d : BandA) (rb : Nat) (l : List UInt8) (w0 : World) (H0 Y : List HB) (q : Option (BandM × List PcM × RdM)) (e : Ending) (w' : World) : Prop := ∃ v o,e = .returned (.tuple #[v,.bool o]) ∧ SRead D M d rb l w0 H0 Y w' v o q
theorem step_read (hB : BandsR D M HB1) (hd : d ∈ D) (hk : k < d.n) (hs : (M d.bb).ss[k]? = some s) (g : GoodR (M d.bb)) (hr : ReadH rb l r HR) (m : Mv w0 H0 w ((HR ++ Y) ++ HB1)) (style : Nat) (hs63 : style ≤ 63) (hll : l.length ≤ 90000000) (hrb : r.begun ≤ 60000000) (h8 : r.left ≤ 8) :
  Calls Try.prog 76 #[SpotX.v ⟨d,k⟩,.pointer (some ⟨rb,0,none⟩),.int .i64 (style : Int)] w (SPost D M d rb l w0 H0 Y (readM l style (M d.bb) d k s r)) := by
 obtain ⟨b,R,ok,em,fwd,back⟩ := bands_at hB m hd
 obtain ⟨st,hst,rfl⟩ := model_get em hs
 have gs := g.ss _ (List.mem_of_getElem? hs)
 have gp := g.pl
 have gn := g.nn
 rw [← em] at gp gn ⊢
 have m1 : Mv w0 H0 w ((HR ++ b.heap d) ++ (Y ++ R)) := (fwd w m).sub (fun g => by simp only [cnt_append]; omega) (fun c hc => by simp only [List.mem_append] at hc ⊢; grind)
 refine (read_any d b k rb style st l r HR w ok hk hst hr m1.sat.left gp gn gs.1 gs.2 hs63 hll hrb h8).mono ?_
 rintro e w' ⟨v,o,rfl,h⟩
 refine ⟨v,o,rfl,?_⟩
 obtain ⟨q,hq⟩ : ∃ q,readM l style b.model d k st.m r = q := ⟨_,rfl⟩
 rw [hq] at h ⊢
 cases q with
 | none =>
  obtain ⟨rfl,b',HR',r',p1,p2,p3⟩ := h
  exact ⟨rfl,(Mv.call m1 p3).sub (fun g => by simp only [cnt_append]; omega) (fun c hc => by simp only [List.mem_append] at hc ⊢; grind)⟩
 | some q =>
  obtain ⟨rfl,b',HR',Hv,p0,p1,p2,p3,p4⟩ := h
  obtain ⟨HB',h6,h7⟩ := back b' (Hv ++ (HR' ++ Y)) p1
  refine ⟨rfl,HR',Hv,HB',p0,p3,by rw [← p2]; exact h6,h7 w' ?_⟩
  exact (Mv.call m1 p4).sub (fun g => by simp only [cnt_append]; omega) (fun c hc => by simp only [List.mem_append] at hc ⊢; grind)
end
structure DecS where
 M : Nat → BandM
 out : List PcM
 rd : RdM
def stepD (l : List UInt8) (style layer : Nat) (S : DecS) (x : SpotX) : Option DecS := match (S.M x.d.bb).ss[x.k]? with
 | none => some S
 | some s => if (hereM l (S.M x.d.bb) s x.k layer S.rd).2.1 = false then some ⟨updM S.M x.d.bb (hereM l (S.M x.d.bb) s x.k layer S.rd).1,S.out,(hereM l (S.M x.d.bb) s x.k layer S.rd).2.2⟩
  else (readM l style (hereM l (S.M x.d.bb) s x.k layer S.rd).1 x.d x.k s (hereM l (S.M x.d.bb) s x.k layer S.rd).2.2).map fun q => ⟨updM S.M x.d.bb q.1,S.out ++ q.2.1,q.2.2⟩
def foldD (l : List UInt8) (style layer : Nat) (o : Option DecS) (L : List SpotX) : Option DecS := L.foldl (fun o x => o.bind fun S => stepD l style layer S x) o
theorem foldD_snoc (l : List UInt8) (style layer : Nat) (o : Option DecS) (L : List SpotX) (x : SpotX) : foldD l style layer o (L ++ [x]) = (foldD l style layer o L).bind fun S => stepD l style layer S x := by
 unfold foldD
 rw [List.foldl_append]
 rfl
theorem foldD_none (l : List UInt8) (style layer : Nat) (L : List SpotX) : foldD l style layer none L = none := by
 unfold foldD
 induction L with
 | nil => rfl
 | cons x L ih => exact ih
theorem foldD_prefix {l : List UInt8} {style layer : Nat} {o : Option DecS} {A L : List SpotX} (h : A <+: L) (hn : foldD l style layer o A = none) : foldD l style layer o L = none := by
 obtain ⟨t,rfl⟩ := h
 have : foldD l style layer o (A ++ t) = foldD l style layer (foldD l style layer o A) t := by unfold foldD; rw [List.foldl_append]
 rw [this,hn,foldD_none]
end
section
open Go.RowKit
theorem step_appP {ops : Array Oper} {o : Oper} {a : Act} {w : World} {K : Act → World → Prop} {Q : Exit → Act → World → Prop} {E : Prop} (hgd : o.guard = none) (s x : Operand) (ho : o.op = .call { callee := .builtin .append,args := #[s,x],argTypes := #[43,43] }) (v u : Value) (l r : List (Int × Bool)) (H : List HB)
  (hsv : a.eval s = v) (hxu : a.eval x = u) (h : RowP v l H) (hs : Sat w H) (hu : PV w u r) (hl : l.length + r.length ≤ 100000000)
  (hK : ∀ v' w' H',RowP v' (l ++ r) H' → Mv w H w' H' → K (a.put o.dst v') w') : if Region.wanted o (yielded ops a.tmps) = true then Oper.wp Try.prog o a w K Q else E := by
 have hw : Region.wanted o (yielded ops a.tmps) = true := by simp [Region.wanted,hgd]
 rw [if_pos hw]
 exact wp_appP s x ho v u l r H hsv hxu h hs hu hl hK
theorem pv_one (w : World) (p : Int × Bool) (g : Nat) (hg : g = w.heap.size) : PV (w.alloc (.cells #[.int .i64 p.1,.bool p.2] 108)) (.slice (some ⟨g,0,none⟩) 1 1) [p] := by
 subst hg
 have h : RowP (.slice (some ⟨w.heap.size,0,none⟩) 1 1) [p] [⟨w.heap.size,108,#[.int .i64 p.1,.bool p.2]⟩] := RowH.new 108 w.heap.size 1 #[.int .i64 p.1,.bool p.2] rfl (by decide)
 exact h.pv (mv_alloc w 108 _).sat
theorem RowQ.at2 {w : World} {g n c : Nat} {l : List (Int × Bool)} {H : List HB} (h : RowQ (.slice (some ⟨g,0,none⟩) n c) l H) (hs : Sat w H) {k : Nat} {p : Int × Bool} (hk : l[k]? = some p) : w.cell? ⟨g,k * 2 + 1,none⟩ = some (.bool p.2) := by
 obtain ⟨a',c',e⟩ := h.slice
 cases e
 have hi := (List.getElem?_eq_some_iff.1 hk).1
 exact (RowH.cell h hs rfl (k * 2 + 1) (by omega)).1.trans (passesV_get hk).2
def blT (g : Nat) (pl : Int) (vp vb : Value) : HB := ⟨g,45,#[.int .i64 pl,vp,vb]⟩
def blQ (g : Nat) (pl : Int) (vp vb : Value) : HB := ⟨g,38,#[.int .i64 pl,vp,vb]⟩
set_option maxHeartbeats 4000000 in
theorem of_any (pl : Int) (vp : Value) (ba : Option Addr) (bn bc : Nat) (ps : List (Int × Bool)) (Hq : List HB) (w : World) (hq : RowQ vp ps Hq) (hs : Sat w Hq) (hn : ps.length ≤ 1000) :
  Calls Try.prog 15 #[.agg #[.int .i64 pl,vp,.slice ba bn bc]] w fun e w' => ∃ vp' Hp,e = .returned (.agg #[.int .i64 pl,vp',.slice ba bn bc]) ∧ RowP vp' ps Hp ∧ Mv w Hq w' (Hp ++ Hq) := by
 obtain ⟨qa,qc,rfl⟩ := hq.slice
 obtain ⟨n,hnn⟩ : ∃ n,ps.length = n := ⟨_,rfl⟩
 rw [hnn] at hq hn ⊢
 have M1 := ((Mv.refl hs).alloc 38 #[.int .i64 pl,.slice qa n qc,.slice ba bn bc]).alloc 45 #[.int .i64 0,.slice none 0 0,.slice none 0 0]
 have M2 := M1.alloc 45 #[.int .i64 pl,.slice none 0 0,.slice ba bn bc]
 simp only [World.size_alloc] at M1 M2
 have K2 : Hid (Mv w Hq _ ([] ++ (blT (w.heap.size + 1 + 1) pl (.slice none 0 0) (.slice ba bn bc) :: blT (w.heap.size + 1) 0 (.slice none 0 0) (.slice none 0 0) :: blQ w.heap.size pl (.slice qa n qc) (.slice ba bn bc) :: Hq))) := Lib.hid M2
 have KQ := Lib.hid (And.intro hq hnn)
 clear M1 M2 hq hs hnn
 go_enter Try.func15,Try.ntmps15
 go_upto_region 2 with fail
 generalize ((w.alloc (.cells #[.int .i64 pl,.slice qa n qc,.slice ba bn bc] 38)).alloc (.cells #[.int .i64 0,.slice none 0 0,.slice none 0 0] 45)).alloc (.cells #[.int .i64 pl,.slice none 0 0,.slice ba bn bc] 45) = w2 at *
 generalize w.heap.size = g at *
 have K3 : Hid (Mv w Hq w2 ([] ++ (blT (g + 2) pl (.slice none 0 0) (.slice ba bn bc) :: blT (g + 1) 0 (.slice none 0 0) (.slice none 0 0) :: blQ g pl (.slice qa n qc) (.slice ba bn bc) :: Hq))) := K2
 clear K2
 go_wp2_with fail
 go_loopg [4] n (fun mm s4 wx => ∃ (k : Nat) (l : List (Int × Bool)) (a : Option Addr) (c : Nat) (H : List HB),k ≤ n ∧ mm = n - k ∧ s4 = .int .i64 (k : Int) ∧ ps.take k = l ∧ l.length = k ∧ RowP (.slice a k c) l H ∧ Mv w Hq wx (H ++ (blT (g + 2) pl (.slice a k c) (.slice ba bn bc) :: blT (g + 1) 0 (.slice none 0 0) (.slice none 0 0) :: blQ g pl (.slice qa n qc) (.slice ba bn bc) :: Hq)))
 case atStart => exact ⟨0,[],none,0,[],Nat.zero_le _,rfl,rfl,rfl,rfl,RowH.nil _ _,K3.out⟩
 case round =>
  obtain ⟨k,l,a,c,H,hk,rfl,rfl,hl,hll,hp,hm⟩ := hrel
  have c1 : wr.cell? ⟨g,1,none⟩ = some (.slice qa n qc) := (hm.drop.cell 2 (g := g) rfl 1)
  by_cases hlt : k < n
  ·have d1 : decide ((k : Int) < (n : Int)) = true := by simp; omega
   obtain ⟨-,qg,rfl⟩ := KQ.out.1.form (by omega)
   obtain ⟨p,hpk⟩ : ∃ p,ps[k]? = some p := ⟨_,List.getElem?_eq_getElem (by rw [KQ.out.2]; exact hlt)⟩
   have SQ : Sat wr Hq := Sat.right (A := [_,_,_]) hm.drop.sat
   have p1 := (KQ.out.1.at_ SQ hpk).1
   have p2 := KQ.out.1.at2 SQ hpk
   have hkn : (k : Int) < (n : Int) := by omega
   have r0 : wr.drew.cell? ⟨g,1,none⟩ = some (.slice (some ⟨qg,0,none⟩) n qc) := c1
   have r1 : wr.drew.cell? ⟨qg,k * 2,none⟩ = some (.int .i64 p.1) := p1
   have r2 : wr.drew.cell? ⟨qg,k * 2 + 1,none⟩ = some (.bool p.2) := p2
   have r3 : wr.drew.cell? ⟨g + 2,1,none⟩ = some (.slice a k c) := (hm.drop.cell 0 (g := g + 2) rfl 1)
   have M1 := hm.alloc 108 #[.int .i64 p.1,.bool p.2]
   have A1 : Hid (PV (wr.alloc (.cells #[.int .i64 p.1,.bool p.2] 108)).drew (.slice (some ⟨wr.heap.size,0,none⟩) 1 1) [p]) := Lib.hid (pv_one wr p _ rfl)
   have r4 : (wr.alloc (.cells #[.int .i64 p.1,.bool p.2] 108)).drew.cell? ⟨g + 2,1,none⟩ = some (.slice a k c) := (M1.drop1.drop.cell 0 (g := g + 2) rfl 1)
   have K1 := Lib.hid M1.drop1.drew
   have KP := Lib.hid hp
   obtain ⟨l6,hl6⟩ : ∃ l6,ps.take (k + 1) = l6 := ⟨_,rfl⟩
   have HL6 : Hid (l ++ [p] = l6) := Lib.hid (by rw [← hl6,List.take_add_one,hl,hpk]; rfl)
   have hl6l : l6.length = k + 1 := by rw [← HL6.out,List.length_append,hll]; rfl
   have HT := Lib.hid hl6
   have hbd : l.length + [p].length ≤ 100000000 := by rw [hll]; simp only [List.length_cons,List.length_nil]; omega
   clear M1 hp hm hl hl6 SQ p1 p2 hpk
   go_upto_region 5 with fail
   clear c1
   go_region_law (first
    | ((with_reducible refine step_appP (o := ⟨some 33,_,_,_,_,_⟩) (v := .slice a k c) (u := .slice (some ⟨wr.heap.size,0,none⟩) 1 1) (l := l) (r := [p]) (H := H) rfl (.tmp 18) (.tmp 32) rfl ?_ ?_ KP.out K1.out.sat.left A1.out hbd ?_); simp [Act.eval]; simp [Act.eval]; intro v6 w6 H6 hr6 m6; rw [HL6.out] at hr6; obtain ⟨a6,c6,rfl⟩ := hr6.slice; have M6 := Mv.call K1.out m6; (have y3 : w6.cell? ⟨g + 2,1,none⟩ = some (.slice a k c) := (by first | exact (M6.drop.cell 0 (g := g + 2) rfl 1))); (have z3 : w6.frozen? ⟨g + 2,1,none⟩ = false := (by first | exact (M6.drop.frozen 0 (g := g + 2) rfl 1))); have K6 := Lib.hid (And.intro hr6 M6); clear hr6 m6 M6))
   all_goals
    have M7 := Lib.hid (Mv.setAt (A := H6) (g := g + 2) (t := 45) (cs := #[.int .i64 pl,.slice a k c,.slice ba bn bc]) K6.out.2 1 (.slice a6 (k + 1) c6))
    go_wp2_with fail
    go_roundg (n - (k + 1))
    case measure => omega
    case rel => exact ⟨k + 1,l6,a6,c6,H6,by omega,rfl,by push_cast; rfl,HT.out,hl6l,by (have := K6.out.1; rw [hl6l] at this; exact this),M7.out⟩
  ·have d1 : decide ((k : Int) < (n : Int)) = false := by simp; omega
   obtain rfl : k = n := by omega
   have el : ps = l := by rw [← hl,List.take_of_length_le (by rw [KQ.out.2]; exact Nat.le_refl _)]
   rw [← el] at hp
   have HL := Lib.hid hp
   have m1 : Mv w Hq wr ([blT (g + 1) 0 (.slice none 0 0) (.slice none 0 0)] ++ (blT (g + 2) pl (.slice a k c) (.slice ba bn bc) :: (H ++ Hq))) := hm.sub (fun g => by simp only [cnt_append,cnt_cons,cnt_nil]; omega) (fun b hb => by
    simp only [List.mem_append,List.mem_cons,List.not_mem_nil,or_false] at hb ⊢
    rcases hb with h | h | h | h
    ·exact .inr (.inr (.inl h))
    ·exact .inr (.inl h)
    ·exact .inl h
    ·exact .inr (.inr (.inr (.inr h))))
   have K1 := Lib.hid m1
   clear el hl hll hp hm m1
   go_upto_region 6 with fail
   clear c1
   refine wp_region_lit ?_
   refine wpList_load_row rfl 45 (.tmp 3) rfl (g + 2) rfl 45 #[.int .i64 pl,.slice a k c,.slice ba bn bc] (0,0) _ (K1.out.blk 1 (g := g + 2) (t := 45) (cs := #[.int .i64 pl,.slice a k c,.slice ba bn bc]) rfl) Try.underlying45 rfl (by kernel_rfl) ?_
   refine wpList_store_row rfl 45 (.tmp 2) (.tmp 35) rfl (g + 1) #[.int .i64 pl,.slice a k c,.slice ba bn bc] rfl rfl 45 _ (K1.out.blk 0 (g := g + 1) (t := 45) (cs := #[.int .i64 0,.slice none 0 0,.slice none 0 0]) rfl) (by kernel_rfl) rfl (by simp [Value.oneCell']) ?_
   have M9 := Lib.hid (Mv.call K1.out (setRow_eq (cs := #[.int .i64 pl,.slice a k c,.slice ba bn bc]) (K1.out.blk 0 (g := g + 1) (t := 45) (cs := #[.int .i64 0,.slice none 0 0,.slice none 0 0]) rfl)))
   generalize wr.setRow (g + 1) #[.int .i64 pl,.slice a k c,.slice ba bn bc] = w9 at *
   go_wp2_with fail
   refine bodyPost_ret (v := .agg #[.int .i64 pl,.slice a k c,.slice ba bn bc]) (results_cell_row Try.results15 _ _ (g + 1) 45 _ (0,0) _ rfl (M9.out.blk 0 rfl) Try.underlying45 rfl (by kernel_rfl)) rfl ?_
   exact ⟨_,H,rfl,HL.out,M9.out.drop1.drop1⟩
end
section
open Go.RowKit
theorem within15 (x n : Int) (w : World) (h3 : 1 ≤ n) (h4 : n ≤ 1000000) :
  Calls Try.prog 9 #[.int .i64 x,.int .i64 n] w fun e w' => e = .returned (.int .i64 (x % n)) ∧ w' = w := by
 obtain ⟨h5,h6⟩ := tmod_bd x n h3
 have E := Lib.hid (tmod_adj x n h3)
 go_enter Try.func9,Try.ntmps9
 go_wp2
 all_goals go_ret
 ·exact ⟨by rw [← E.out,if_pos (by assumption)]; rfl,rfl⟩
 ·exact ⟨by rw [← E.out,if_neg (by omega)]; rfl,rfl⟩
theorem withinN (x n : Int) (h3 : 1 ≤ n) (h4 : n ≤ 1000000) : ∃ k : Nat,(k : Int) < n ∧ ∀ w,Calls Try.prog 9 #[.int .i64 x,.int .i64 n] w fun e w' => e = .returned (.int .i64 (k : Int)) ∧ w' = w := by
 have h1 := Int.emod_nonneg x (show n ≠ 0 by omega)
 have h2 := Int.emod_lt_of_pos x (show 0 < n by omega)
 refine ⟨(x % n).toNat,by omega,fun w => ?_⟩
 rw [Int.toNat_of_nonneg h1]
 exact within15 x n w (by omega) (by omega)
end
section
open Go.RowKit
def noneX (xb : Nat) (P : Int) (pv bv : Value) (Hp Hb : List HB) : List HB := blQ xb P pv bv :: (Hp ++ Hb)
theorem noneX_cells {w0 W : World} {H0 H Hp Hb : List HB} {xb : Nat} {P : Int} {pv bv : Value} (m : Mv w0 H0 W (H ++ noneX xb P pv bv Hp Hb)) :
  W.cell? ⟨xb,0,none⟩ = some (.int .i64 P) ∧ W.cell? ⟨xb,1,none⟩ = some pv ∧ W.cell? ⟨xb,2,none⟩ = some bv :=
 ⟨m.drop.cell 0 rfl 0,m.drop.cell 0 rfl 1,m.drop.cell 0 rfl 2⟩
section
variable {w0 W : World} {xb : Nat} {P : Int} {pv : Value} {ba : Option Addr} {bn bc : Nat} {ps : List (Int × Bool)} {bs : List UInt8} {Hp Hb : List HB}
theorem none_of (hp : RowQ pv ps Hp) (hn : ps.length ≤ 1000) {H : List HB} (m : Mv w0 [] W (H ++ noneX xb P pv (.slice ba bn bc) Hp Hb)) :
  Calls Try.prog 15 #[.agg #[.int .i64 P,pv,.slice ba bn bc]] W fun e w' => ∃ vp' H1,e = .returned (.agg #[.int .i64 P,vp',.slice ba bn bc]) ∧ RowP vp' ps H1 ∧ Mv w0 [] w' (H1 ++ (H ++ noneX xb P pv (.slice ba bn bc) Hp Hb)) := by
 have m1 : Mv w0 [] W (Hp ++ (H ++ (blQ xb P pv (.slice ba bn bc) :: Hb))) := m.sub (fun g => by simp only [noneX,cnt_append,cnt_cons]; omega) (fun c hc => by simp only [noneX,List.mem_append,List.mem_cons] at hc ⊢; grind)
 refine (of_any P pv ba bn bc ps Hp W hp m1.sat.left hn).mono ?_
 rintro e w' ⟨vp',H1,rfl,r1,m2⟩
 exact ⟨vp',H1,rfl,r1,(Mv.call m1 m2).sub (fun g => by simp only [noneX,cnt_append,cnt_cons]; omega) (fun c hc => by simp only [noneX,List.mem_append,List.mem_cons] at hc ⊢; grind)⟩
theorem none_block {d : BandA} {m : BandM} {HA : List HB} (hB : BandR d m HA) (k : Int) {X : List HB} (M : Mv w0 [] W (HA ++ X)) :
  Calls Try.prog 16 #[.pointer (some ⟨d.bb,0,none⟩),.int .i64 k] W fun e w' => ∃ vp' vb' H1 H2,e = .returned (.agg #[.int .i64 (stOf m k).pl,vp',vb']) ∧ RowP vp' (stOf m k).ps H1 ∧ RowB vb' (stOf m k).bs H2 ∧ Mv w0 [] w' ((H1 ++ H2) ++ (HA ++ X)) := by
 refine (block_any d m HA W hB M.sat.left k).mono ?_
 rintro e w' ⟨vp',vb',H1,H2,rfl,r1,r2,m1⟩
 exact ⟨vp',vb',H1,H2,rfl,r1,r2,Mv.call (H := []) M m1⟩
end
end
section
open Go.RowKit
def oneG (r : Nat) : GeoM := ⟨1,1,0,0,[r],[0]⟩
theorem oneG_ok (r : Nat) (h : r < 1073741824) : (oneG r).Ok := ⟨Nat.le_refl 1,by show 1 ≤ 64; decide,Nat.le_refl 1,by show 1 ≤ 64; decide,by show 0 ≤ 3; decide,by show 0 ≤ 63; decide,rfl,rfl,by intro m hm; simp only [oneG,List.mem_singleton] at hm; subst hm; exact h,by intro m hm; simp only [oneG,List.mem_singleton] at hm; subst hm; exact Nat.zero_le 1⟩
theorem one_neg (r : Nat) : (oneG r).neg = [(r : Int)].map fun n => oneN (decide (n < 0)) := by
 have h : decide ((r : Int) < 0) = false := by simp
 simp only [oneG,List.map_cons,List.map_nil,h]
 rfl
theorem encode_one (r vg vc : Nat) (w0 : World) (hr : r < 1073741824) (hv : w0.cell? ⟨vg,0,none⟩ = some (.int .i64 (r : Int))) (hvg : vg < w0.heap.size) :
  Calls Try.prog 13 #[.int .i64 1,.int .i64 1,.int .i64 0,.int .i64 0,.slice (some ⟨vg,0,none⟩) 1 vc] w0 fun e w' =>
   ∃ pv bv Hp Hb,e = .returned (.tuple #[.agg #[.int .i64 ((encodeM (oneG r)).planes : Int),pv,bv],.int .i64 0]) ∧ RowQ pv (encodeM (oneG r)).passes Hp ∧ RowB bv (encodeM (oneG r)).bytes Hb ∧ Mv w0 [] w' (Hp ++ Hb) :=
 encode_any (oneG r) [(r : Int)] vg vc w0 (oneG_ok r hr) rfl (one_neg r) (fun i m h => by
  cases i with
  | zero => simp at h; subst h; exact hv
  | succ i => simp at h) hvg
theorem one_bounds (r : Nat) (h : r < 1073741824) : (encodeM (oneG r)).planes ≤ 30 ∧ (encodeM (oneG r)).passes.length ≤ 88 ∧ (encodeM (oneG r)).bytes.length ≤ 30000 ∧ ∀ p ∈ (encodeM (oneG r)).passes,0 ≤ p.1 ∧ p.1 ≤ 100000000 := by
 obtain ⟨ok,hb⟩ := encodeM_ok (oneG r) (Nat.le_refl 1)
 have hp : (encodeM (oneG r)).planes ≤ 30 := planesOf_le (oneG r).mag 30 (by
  intro m hm
  simp only [oneG,List.mem_singleton] at hm
  subst hm
  have : (2 : Nat) ^ 30 = 1073741824 := rfl
  omega)
 have hn : (encodeM (oneG r)).passes.length ≤ 88 := by rw [ok.len]; unfold countM; omega
 have h2 : countM (encodeM (oneG r)).planes ≤ 88 := by unfold countM; omega
 have h3 : (encodeM (oneG r)).bytes.length ≤ 88 * 260 := by
  refine Nat.le_trans hb ?_
  have e : 16 * (12 * ((oneG r).w * (oneG r).h) + 4) + 4 = 260 := rfl
  rw [e]
  exact Nat.mul_le_mul_right _ h2
 exact ⟨hp,hn,by omega,fun p hpm => by have := ok.pos p hpm; omega⟩
end
end Go.Proofs.Ytnpoakabheeoeaa
