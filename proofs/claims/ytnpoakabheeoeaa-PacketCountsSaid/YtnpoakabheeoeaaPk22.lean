/- packet: how many planes has a block? Rows grow: any elements. Pieces that a head tells. What a head says of a block, read: the plain model. -/
import Derived.Test.YtnpoakabheeoeaaPk21
import Derived.Test.YtnpoakabheeoeaaPk10
set_option maxRecDepth 100000
namespace Go.Proofs.Ytnpoakabheeoeaa
section
open Go.RowKit
def TreeNN (T : List LevM) : Prop := ∀ L ∈ T,∀ z ∈ L.l,0 ≤ z.n
theorem at_nn {L : LevM} (h : ∀ z ∈ L.l,0 ≤ z.n) (x y : Nat) : 0 ≤ (L.at_ x y).n := by
 unfold LevM.at_
 rw [List.getD_eq_getElem?_getD]
 cases hg : L.l[y * L.w + x]? with
 | none => exact Int.le_refl _
 | some z => exact h z (List.mem_of_getElem? hg)
theorem decL_nn (l : List UInt8) : ∀ (f : Nat) (x : NodeM) (b : Int) (r : RdM),0 ≤ x.n → 0 ≤ x.low → 0 ≤ (decL l f x b r).1.n
 | 0,x,b,r,h,_ => h
 | f + 1,x,b,r,h,h2 => by
  unfold decL
  split
  ·split
   ·exact h2
   ·exact decL_nn l f _ b _ h (by simp only; omega)
  ·exact h
theorem decT_nn (l : List UInt8) (T : List LevM) (x y : Nat) (b : Int) (r : RdM) (h8 : r.left ≤ 8) (h : TreeNN T) : TreeNN (decT l T x y b r).1 := by
 induction T generalizing x y with
 | nil => exact h
 | cons L R ih =>
  have hR := ih (x / 2) (y / 2) (fun L' hL' => h L' (List.mem_cons_of_mem _ hL'))
  have h0 := (decT_inv l R (x / 2) (y / 2) b r h8).2.1
  intro L' hL' z hz
  simp only [decT,List.mem_cons] at hL'
  rcases hL' with rfl | hL'
  ·rcases List.mem_or_eq_of_mem_set hz with hz | rfl
   ·exact h L List.mem_cons_self z hz
   ·exact decL_nn l _ _ b _ (at_nn (h L List.mem_cons_self) x y) (by simp only; omega)
  ·exact hR L' hL' z hz
theorem decAt_nn (l : List UInt8) (T : List LevM) (k : Nat) (b : Int) (r : RdM) (h8 : r.left ≤ 8) (h : TreeNN T) : TreeNN (decAt l T k b r).1 := by
 cases T with
 | nil => exact h
 | cons L R => exact decT_nn l _ _ _ b r h8 h
theorem decAt_true (l : List UInt8) (T : List LevM) (k : Nat) (b : Int) (r : RdM) (h8 : r.left ≤ 8) (h : TreeNN T) (ht : (decAt l T k b r).2.1 = true) : 0 ≤ knownAt (decAt l T k b r).1 k ∧ knownAt (decAt l T k b r).1 k < b := by
 cases T with
 | nil => simp [decAt] at ht
 | cons L R =>
  have hn := decAt_nn l (L :: R) k b r h8 h
  obtain ⟨q,hq⟩ : ∃ q,decT l (L :: R) (k % L.w) (k / L.w) b r = q := ⟨_,rfl⟩
  obtain ⟨L',R',e1,e2⟩ : ∃ L' R',q.1 = L' :: R' ∧ L'.w = L.w := by rw [← hq]; exact ⟨_,_,rfl,rfl⟩
  have ed : decAt l (L :: R) k b r = (q.1,belowM (leafT q.1 (k % L.w) (k / L.w)) b,q.2.2) := by rw [← hq]; rfl
  rw [ed] at ht hn ⊢
  simp only at ht hn ⊢
  rw [e1] at ht hn ⊢
  obtain ⟨z,hz⟩ : ∃ z,L'.at_ (k % L.w) (k / L.w) = z := ⟨_,rfl⟩
  have z0 : 0 ≤ z.n := by rw [← hz]; exact at_nn (hn L' List.mem_cons_self) _ _
  have ek : knownAt (L' :: R') k = knownM z := by rw [← hz,← e2]; rfl
  have ht2 : belowM z b = true := by rw [← hz]; exact ht
  unfold belowM at ht2
  simp only [Bool.and_eq_true,decide_eq_true_eq] at ht2
  rw [ek]
  unfold knownM
  rw [if_pos ht2.1]
  exact ⟨z0,ht2.2⟩
def beginGo (l : List UInt8) (planes : Int) (k : Nat) : Nat → Int → List LevM → RdM → List LevM × Option Int × RdM
 | 0,_,T,r => (T,none,r)
 | f + 1,n,T,r => if (decAt l T k n r).2.1 = true then ((decAt l T k n r).1,some (planes - knownAt (decAt l T k n r).1 k),(decAt l T k n r).2.2) else beginGo l planes k f (n + 1) (decAt l T k n r).1 (decAt l T k n r).2.2
theorem beginGo_succ (l : List UInt8) (planes : Int) (k f : Nat) (n : Int) (T : List LevM) (r : RdM) : beginGo l planes k (f + 1) n T r = if (decAt l T k n r).2.1 = true then ((decAt l T k n r).1,some (planes - knownAt (decAt l T k n r).1 k),(decAt l T k n r).2.2) else beginGo l planes k f (n + 1) (decAt l T k n r).1 (decAt l T k n r).2.2 := rfl
def beginM (l : List UInt8) (m : BandM) (k : Nat) (r : RdM) : List LevM × Option Int × RdM := beginGo l m.planes k m.planes.toNat 1 m.zeros r
def begS (s : StM) : Option Int → StM
 | none => s
 | some p => { s with pl := p }
def begOk : Option Int → Bool
 | none => false
 | some p => decide (1 ≤ p) && decide (p ≤ 30)
def begB (m : BandM) (s : StM) (k : Nat) (q : List LevM × Option Int × RdM) : BandM := { m with zeros := q.1,ss := m.ss.set k (begS s q.2.1) }
theorem beginGo_inv (l : List UInt8) (planes : Int) (k : Nat) (hp : planes ≤ 60) : ∀ (f : Nat) (n : Int) (T : List LevM) (r : RdM),r.left ≤ 8 → T.length ≤ 20 → TreeNN T → 0 ≤ n → n + f = planes + 1 →
  (beginGo l planes k f n T r).1.length = T.length ∧ TreeNN (beginGo l planes k f n T r).1 ∧ (∀ p,(beginGo l planes k f n T r).2.1 = some p → 1 ≤ p ∧ p ≤ planes) ∧ (beginGo l planes k f n T r).2.2.left ≤ 8 ∧ (beginGo l planes k f n T r).2.2.begun ≤ r.begun + f * 1200
 | 0,n,T,r,h8,hT,hn,_,_ => ⟨rfl,hn,by simp [beginGo],h8,by simp [beginGo]⟩
 | f + 1,n,T,r,h8,hT,hn,hn0,hf => by
  obtain ⟨i1,i2,i3⟩ := decAt_inv l T k n r h8 hT (by omega)
  have i4 := decAt_nn l T k n r h8 hn
  have i5 : (decAt l T k n r).2.2.begun ≤ r.begun + 1200 := by omega
  unfold beginGo
  split
  ·rename_i ht
   have i6 := decAt_true l T k n r h8 hn ht
   refine ⟨i1,i4,fun p hp => ?_,i2,?_⟩
   ·simp only [Option.some.injEq] at hp
    omega
   ·simp only
    omega
  ·obtain ⟨j1,j2,j3,j4,j5⟩ := beginGo_inv l planes k hp f (n + 1) _ (decAt l T k n r).2.2 i2 (by rw [i1]; exact hT) i4 (by omega) (by omega)
   exact ⟨by rw [j1,i1],j2,j3,j4,by omega⟩
def BandG.putS (b : BandG) (k : Nat) (s' : StG) : BandG := { b with G := b.G.set k s' }
theorem BandG.putS_mv {b : BandG} {d : BandA} {w0 w : World} {H0 A : List HB} (M : Mv w0 H0 w (A ++ b.heap d)) {k : Nat} {s s' : StG} (hg : b.G[k]? = some s) (i : Nat) (v : Value) (hi : i < 5) (hh : s'.heap = s.heap) (hv : s'.v = s.v.set i v) :
  Mv w0 H0 (w.setCell ⟨d.lb,k * 5 + i,none⟩ v) (A ++ (b.putS k s').heap d) := by
 have m1 : Mv w0 H0 w ((A ++ [bandB b d]) ++ statesB b d :: (b.Hf ++ (b.Hz ++ b.G.flatMap StG.heap))) := by
  simpa [BandG.heap] using M
 have m2 := Mv.setAt m1 (k * 5 + i) v
 have e : (b.G.flatMap StG.v).toArray.setIfInBounds (k * 5 + i) v = ((b.G.set k s').flatMap StG.v).toArray := by
  rw [List.setIfInBounds_toArray,flat_set StG.v 5 StG.v_length b.G k s _ hg i hi v hv]
 rw [e] at m2
 have e2 : (b.putS k s').heap d = bandB b d :: ⟨d.lb,70,((b.G.set k s').flatMap StG.v).toArray⟩ :: (b.Hf ++ (b.Hz ++ b.G.flatMap StG.heap)) := by
  unfold BandG.heap
  rw [show (b.putS k s').G.flatMap StG.heap = b.G.flatMap StG.heap from flatMap_set_same StG.heap (x := s) (x' := s') hh _ _ hg]
  rfl
 rw [e2]
 simpa using m2
theorem BandG.putS_ok {b : BandG} {d : BandA} (ok : b.ok d) {k : Nat} {s' : StG} (hs : s'.ok) : (b.putS k s').ok d := by
 refine ⟨ok.tf,ok.tz,ok.kf,ok.kz,?_,?_,ok.n,ok.pl,ok.hw,ok.hh⟩
 ·intro x hx
  rcases List.mem_or_eq_of_mem_set hx with h | rfl
  ·exact ok.st x h
  ·exact hs
 ·exact (List.length_set ..).trans ok.len
theorem BandG.putS_model (b : BandG) (k : Nat) (s' : StG) : (b.putS k s').model = { b.model with ss := b.model.ss.set k s'.m } := by
 simp only [BandG.putS,BandG.model,List.map_set]
theorem BandG.putS_get {b : BandG} {k : Nat} {s s' : StG} (hg : b.G[k]? = some s) : (b.putS k s').G[k]? = some s' :=
 List.getElem?_set_self (List.getElem?_eq_some_iff.1 hg).1
theorem set_self_get {α : Type} {l : List α} {k : Nat} {x : α} (h : l[k]? = some x) : l.set k x = l := by
 obtain ⟨h1,h2⟩ := List.getElem?_eq_some_iff.1 h
 rw [← h2]
 exact List.set_getElem_self h1
def BegR (d : BandA) (b : BandG) (k rb : Nat) (st : StG) (l : List UInt8) (q : List LevM × Option Int × RdM) (HR : List HB) (w w' : World) : Prop :=
 ∃ (b' : BandG) (HR' : List HB),b'.ok d ∧ b'.model = begB b.model st.m k q ∧ b'.G[k]? = some { st with m := begS st.m q.2.1 } ∧ ReadH rb l q.2.2 HR' ∧ Mv w (HR ++ b.heap d) w' (HR' ++ b'.heap d)
set_option maxHeartbeats 4000000 in
theorem pbegin_any (d : BandA) (b : BandG) (k rb : Nat) (st : StG) (l : List UInt8) (r : RdM) (HR : List HB) (w : World)
  (ok : b.ok d) (hkn : k < d.n) (hst : b.G[k]? = some st) (hr : ReadH rb l r HR) (hs : Sat w (HR ++ b.heap d)) (hpl : 0 ≤ b.planes ∧ b.planes ≤ 60) (hnn : TreeNN b.model.zeros) (hll : l.length ≤ 90000000) (hrb : r.begun ≤ 70000000) (hr8 : r.left ≤ 8) :
  Calls Try.prog 95 #[SpotX.v ⟨d,k⟩,.pointer (some ⟨rb,0,none⟩)] w fun e w' => e = .returned (.bool (begOk (beginM l b.model k r).2.1)) ∧ BegR d b k rb st l (beginM l b.model k r) HR w w' := by
 have hkk : k < 4096 := Nat.lt_of_lt_of_le hkn ok.small
 have hkn0 := hkn
 obtain ⟨g,hg⟩ : ∃ g,w.heap.size = g := ⟨_,rfl⟩
 obtain ⟨X,hX⟩ : ∃ X : List HB,[⟨g,67,SpotX.cells ⟨d,k⟩⟩] = X := ⟨_,rfl⟩
 obtain ⟨w1,hw1⟩ : ∃ w1,w1 = w.alloc (.cells (SpotX.cells ⟨d,k⟩) 67) := ⟨_,rfl⟩
 have M1 : Mv w (HR ++ b.heap d) w1 (HR ++ (X ++ b.heap d)) := by
  have m := (Mv.refl hs).alloc 67 (SpotX.cells ⟨d,k⟩)
  rw [hg,← hw1] at m
  rw [← hX]
  exact m.sub (fun g => by simp only [cnt_append,cnt_cons,cnt_nil]; omega) (fun c hc => by simp only [List.mem_append,List.mem_cons,List.not_mem_nil,or_false] at hc ⊢; grind)
 have hx : ⟨g,67,SpotX.cells ⟨d,k⟩⟩ ∈ X := by rw [← hX]; exact List.mem_cons_self
 have DRP : Hid (∀ W A H1,Mv w (HR ++ b.heap d) W (A ++ (X ++ H1)) → Mv w (HR ++ b.heap d) W (A ++ H1)) := Lib.hid (fun W A H1 m => m.sub (fun g => by simp only [cnt_append]; omega) (fun c hc => by simp only [List.mem_append] at hc ⊢; grind))
 obtain ⟨pn,hpn⟩ : ∃ pn : Nat,b.planes = (pn : Int) := ⟨b.planes.toNat,(Int.toNat_of_nonneg hpl.1).symm⟩
 have hpn60 : pn ≤ 60 := by omega
 have hT0 : b.model.zeros.length ≤ 20 := by have := ok.kz.1; simpa [BandG.model] using this
 have KF := Lib.hid (And.intro ok (And.intro M1 (And.intro hr (And.intro hnn (And.intro hst (And.intro hx hT0))))))
 have HW1 := Lib.hid (show w1 = w.alloc (.cells #[.pointer (some ⟨d.lb,k * 5,none⟩),.pointer (some ⟨d.bb,0,none⟩),.int .i64 (k : Int)] 67) from hw1)
 have eB : beginM l b.model k r = beginGo l (pn : Int) k pn 1 b.model.zeros r := by
  show beginGo l b.planes k b.planes.toNat 1 b.model.zeros r = _
  rw [hpn]
  rfl
 rw [eB]
 unfold SpotX.v
 clear hw1 ok hst hx M1 hs hX hr hnn hT0 eB hpl
 go_enter Try.func95,Try.ntmps95
 go_upto_region 1 with fail
 rw [← HW1.out]
 clear HW1
 go_wp2_with fail
 go_loopg [5] pn (fun gg s5 wx => ∃ (i : Nat) (b1 : BandG) (HR1 : List HB) (r1 : RdM),i ≤ pn ∧ gg = pn - i ∧ s5 = .int .i64 ((i : Int) + 1) ∧ b1.ok d ∧ b1.model = { b.model with zeros := b1.model.zeros } ∧ b1.G = b.G ∧ b1.planes = (pn : Int) ∧ ReadH rb l r1 HR1 ∧ Mv w (HR ++ b.heap d) wx (HR1 ++ (X ++ b1.heap d)) ∧
  beginGo l (pn : Int) k pn 1 b.model.zeros r = beginGo l (pn : Int) k (pn - i) ((i : Int) + 1) b1.model.zeros r1 ∧ r1.left ≤ 8 ∧ r1.begun ≤ r.begun + 1200 * i ∧ TreeNN b1.model.zeros)
 case atStart => exact ⟨0,b,HR,r,Nat.zero_le _,rfl,rfl,KF.out.1,rfl,rfl,hpn,KF.out.2.2.1,KF.out.2.1,rfl,hr8,Nat.le_refl _,KF.out.2.2.2.1⟩
 case round =>
  obtain ⟨wa,rfl⟩ : ∃ wa : World,wa = wr := ⟨_,rfl⟩
  obtain ⟨i,b1,HR1,r1,hi,rfl,rfl,ok1,hm1,hG1,hp1,q1,m1,hE,h8,hb1,hn1⟩ := hrel
  have hst1 : b1.G[k]? = some st := by rw [hG1]; exact KF.out.2.2.2.2.1
  obtain ⟨⟨x0,x1,x2⟩,⟨y1,y2,y3⟩,z0,z1,-,z3,z4,-⟩ := hd_cells m1 KF.out.2.2.2.2.2.1 hst1
  rw [hp1] at y1
  have hT1 : b1.model.zeros.length ≤ 20 := by have := ok1.kz.1; simpa [BandG.model] using this
  by_cases hlt : i < pn
  ·have d1 : ((i : Int) + 1) ≤ (pn : Int) := by omega
   have EZ := Lib.hid (band_decZ ok1 q1 m1.drew k hkn ((i : Int) + 1) (by omega) hll (by omega) h8)
   have DI := decAt_inv l b1.model.zeros k ((i : Int) + 1) r1 h8 hT1 (by omega)
   have DN := decAt_nn l b1.model.zeros k ((i : Int) + 1) r1 h8 hn1
   have DT := decAt_true l b1.model.zeros k ((i : Int) + 1) r1 h8 hn1
   have hi60 : i ≤ 60 := by omega
   rw [show pn - i = (pn - i - 1) + 1 by omega] at hE
   rw [beginGo_succ] at hE
   have hbz : ({ b1.model with zeros := (decAt l b1.model.zeros k ((i : Int) + 1) r1).1 } : BandM) = { b.model with zeros := (decAt l b1.model.zeros k ((i : Int) + 1) r1).1 } := by rw [hm1]
   rw [hbz] at EZ
   obtain ⟨qt,hqt⟩ : ∃ q,(decAt l b1.model.zeros k ((i : Int) + 1) r1).1 = q := ⟨_,rfl⟩
   obtain ⟨qr,hqr⟩ : ∃ q,(decAt l b1.model.zeros k ((i : Int) + 1) r1).2.2 = q := ⟨_,rfl⟩
   have KE := Lib.hid hE
   rw [hqt,hqr] at KE EZ DI
   rw [hqt] at DN DT
   obtain ⟨qb,hqb⟩ : ∃ q,(decAt l b1.model.zeros k ((i : Int) + 1) r1).2.1 = q := ⟨_,rfl⟩
   rw [hqb] at KE EZ DT
   have KG := Lib.hid hG1
   have KB := Lib.hid hb1
   clear hE hbz hqt hqr hqb hG1 q1 hst1 ok1 hm1
   go_upto_region 4 with fail
   go_still_tail 9,(by kernel_rfl)
   change wpList _ _ _ _ _ wa.drew
   have KP := Lib.hid (And.intro DN (And.intro DT DI))
   clear DN DT DI hn1 hT1 m1 hb1 h8
   cases qb with
   | false =>
    go_wp2_with (go_at_call 94; (with_reducible refine EZ.out.mono ?_); rintro e w2 ⟨rfl,b2,HR2,q1,q2,q3,q4,q5⟩; have K2 := Lib.hid (And.intro q1 (And.intro q2 (And.intro q3 (And.intro q4 q5)))); clear q1 q2 q3 q4 q5)
    go_roundg (pn - (i + 1))
    case measure => omega
    case rel =>
     have hz : b2.model.zeros = qt := by rw [K2.out.2.1]
     have hp2 : b2.planes = (pn : Int) := by rw [← hpn]; exact congrArg BandM.planes K2.out.2.1
     refine ⟨i + 1,b2,HR2,qr,by omega,rfl,by push_cast; rfl,K2.out.1,by rw [hz]; exact K2.out.2.1,K2.out.2.2.1.trans KG.out,hp2,K2.out.2.2.2.1,K2.out.2.2.2.2,?_,KP.out.2.2.2.1,?_,by rw [hz]; exact KP.out.1⟩
     ·rw [KE.out,hz,if_neg (by simp),Nat.sub_sub]
      push_cast
      rfl
     ·have := KP.out.2.2.2.2
      have := KB.out
      omega
   | true =>
    go_upto_region 5 with (go_at_call 94; (with_reducible refine EZ.out.mono ?_); rintro e w2 ⟨rfl,b2,HR2,q1,q2,q3,q4,q5⟩; have K2 := Lib.hid (And.intro q1 (And.intro q2 (And.intro q3 (And.intro q4 q5)))); clear q1 q2 q3 q4 q5)
    have hz : b2.model.zeros = qt := by rw [K2.out.2.1]
    have hp2 : b2.planes = (pn : Int) := by rw [← hpn]; exact congrArg BandM.planes K2.out.2.1
    have hst2 : b2.G[k]? = some st := by rw [K2.out.2.2.1,KG.out]; exact KF.out.2.2.2.2.1
    obtain ⟨kn,hkn⟩ : ∃ kn,knownAt qt k = kn := ⟨_,rfl⟩
    have hkb := KP.out.2.1 (by first | rfl | trivial)
    rw [hkn] at hkb
    have hmx : Try.prog.follows .mixedOrders = true := by kernel_rfl
    obtain ⟨C,hC⟩ : ∃ C : World → Prop,C = fun w' => Hid (Mv w (HR ++ b.heap d) w' (HR2 ++ (X ++ b2.heap d))) := ⟨_,rfl⟩
    have CF : ∀ w',C w' → w'.cell? ⟨g,0,none⟩ = some (.pointer (some ⟨d.lb,k * 5,none⟩)) ∧ w'.cell? ⟨g,1,none⟩ = some (.pointer (some ⟨d.bb,0,none⟩)) ∧ w'.cell? ⟨g,2,none⟩ = some (.int .i64 (k : Int)) ∧ w'.cell? ⟨d.bb,1,none⟩ = some (.int .i64 (pn : Int)) ∧ w'.cell? ⟨d.bb,3,none⟩ = some (.pointer (some ⟨b2.zt,0,none⟩)) ∧ w'.cell? ⟨d.lb,k * 5,none⟩ = some (.int .i64 st.m.pl) ∧ w'.frozen? ⟨d.lb,k * 5,none⟩ = false := by
     intro w' h
     rw [hC] at h
     obtain ⟨⟨x0,x1,x2⟩,⟨y1,y2,y3⟩,z0,z1,-,z3,z4,z5⟩ := hd_cells h.out KF.out.2.2.2.2.2.1 hst2
     rw [hp2] at y1
     exact ⟨x0,x1,x2,y1,y3,z0,z5 _⟩
    have CK : ∀ w',C w' → Calls Try.prog 109 #[.pointer (some ⟨b2.zt,0,none⟩),.int .i64 (k : Int)] w' fun e w3 => e = .returned (.int .i64 kn) ∧ C w3 := by
     intro w' h
     rw [hC] at h ⊢
     refine (band_known K2.out.1 h.out.sat.right.right k hkn0).mono ?_
     rintro e w3 ⟨rfl,m3⟩
     exact ⟨by rw [hz,hkn],Lib.hid (Mv.call (H := []) (H' := []) h.out m3)⟩
    have CD : C w2.drew := by rw [hC]; exact Lib.hid (Mv.drew K2.out.2.2.2.2)
    replace CF := Lib.hid CF
    replace CK := Lib.hid CK
    have HC := Lib.hid hC
    have HKN := Lib.hid hkn
    have HZ := Lib.hid (And.intro hz (And.intro hp2 hst2))
    clear hC hkn hz hp2 hst2 x0 x1 x2 y1 y2 y3 z0 z1 z3 z4
    refine plain_quiet_tail 19 C hmx CD (by kernel_rfl) ?_
    simp only [List.take_succ_cons,List.take_zero,List.drop_succ_cons,List.drop_zero]
    (first | (with_reducible refine qc_pass ?hw1 ?nx1; (case hw1 => (go_simp; done)); (try simp only [Act.put,List.setIfInBounds_toArray,List.set_cons_zero,List.set_cons_succ])) | (with_reducible refine qc_one ?v1 ?hw1 (fun w' hw' => ?hr1) ?nx1; (case hw1 => (go_simp; done)); (case hr1 => (first | (refine qc_val ?_; (obtain ⟨a0,a1,a2,a3,a4,a5,a6⟩ := CF.out w' hw'); clear hw'; go_simp; done) | (refine qc_val ?_; (obtain ⟨a0,a1,a2,a3,a4,a5,a6⟩ := CF.out w' hw'); clear hw'; go_simp; rfl) | (refine qc_call (f := ?f1) (args := ?args1) ?h11 ?h21; (case h11 => ((obtain ⟨a0,a1,a2,a3,a4,a5,a6⟩ := CF.out w' hw'); go_simp; constructor <;> rfl)); (case h21 => (exact CK.out w' hw'))) | (refine qc_skip ?_; (obtain ⟨a0,a1,a2,a3,a4,a5,a6⟩ := CF.out w' hw'); clear hw'; go_simp; done))); (try simp only [Act.put,List.setIfInBounds_toArray,List.set_cons_zero,List.set_cons_succ])))
    (first | (with_reducible refine qc_pass ?hw2 ?nx2; (case hw2 => (go_simp; done)); (try simp only [Act.put,List.setIfInBounds_toArray,List.set_cons_zero,List.set_cons_succ])) | (with_reducible refine qc_one ?v2 ?hw2 (fun w' hw' => ?hr2) ?nx2; (case hw2 => (go_simp; done)); (case hr2 => (first | (refine qc_val ?_; (obtain ⟨a0,a1,a2,a3,a4,a5,a6⟩ := CF.out w' hw'); clear hw'; go_simp; done) | (refine qc_val ?_; (obtain ⟨a0,a1,a2,a3,a4,a5,a6⟩ := CF.out w' hw'); clear hw'; go_simp; rfl) | (refine qc_call (f := ?f2) (args := ?args2) ?h12 ?h22; (case h12 => ((obtain ⟨a0,a1,a2,a3,a4,a5,a6⟩ := CF.out w' hw'); go_simp; constructor <;> rfl)); (case h22 => (exact CK.out w' hw'))) | (refine qc_skip ?_; (obtain ⟨a0,a1,a2,a3,a4,a5,a6⟩ := CF.out w' hw'); clear hw'; go_simp; done))); (try simp only [Act.put,List.setIfInBounds_toArray,List.set_cons_zero,List.set_cons_succ])))
    (first | (with_reducible refine qc_pass ?hw3 ?nx3; (case hw3 => (go_simp; done)); (try simp only [Act.put,List.setIfInBounds_toArray,List.set_cons_zero,List.set_cons_succ])) | (with_reducible refine qc_one ?v3 ?hw3 (fun w' hw' => ?hr3) ?nx3; (case hw3 => (go_simp; done)); (case hr3 => (first | (refine qc_val ?_; (obtain ⟨a0,a1,a2,a3,a4,a5,a6⟩ := CF.out w' hw'); clear hw'; go_simp; done) | (refine qc_val ?_; (obtain ⟨a0,a1,a2,a3,a4,a5,a6⟩ := CF.out w' hw'); clear hw'; go_simp; rfl) | (refine qc_call (f := ?f3) (args := ?args3) ?h13 ?h23; (case h13 => ((obtain ⟨a0,a1,a2,a3,a4,a5,a6⟩ := CF.out w' hw'); go_simp; constructor <;> rfl)); (case h23 => (exact CK.out w' hw'))) | (refine qc_skip ?_; (obtain ⟨a0,a1,a2,a3,a4,a5,a6⟩ := CF.out w' hw'); clear hw'; go_simp; done))); (try simp only [Act.put,List.setIfInBounds_toArray,List.set_cons_zero,List.set_cons_succ])))
    (first | (with_reducible refine qc_pass ?hw4 ?nx4; (case hw4 => (go_simp; done)); (try simp only [Act.put,List.setIfInBounds_toArray,List.set_cons_zero,List.set_cons_succ])) | (with_reducible refine qc_one ?v4 ?hw4 (fun w' hw' => ?hr4) ?nx4; (case hw4 => (go_simp; done)); (case hr4 => (first | (refine qc_val ?_; (obtain ⟨a0,a1,a2,a3,a4,a5,a6⟩ := CF.out w' hw'); clear hw'; go_simp; done) | (refine qc_val ?_; (obtain ⟨a0,a1,a2,a3,a4,a5,a6⟩ := CF.out w' hw'); clear hw'; go_simp; rfl) | (refine qc_call (f := ?f4) (args := ?args4) ?h14 ?h24; (case h14 => ((obtain ⟨a0,a1,a2,a3,a4,a5,a6⟩ := CF.out w' hw'); go_simp; constructor <;> rfl)); (case h24 => (exact CK.out w' hw'))) | (refine qc_skip ?_; (obtain ⟨a0,a1,a2,a3,a4,a5,a6⟩ := CF.out w' hw'); clear hw'; go_simp; done))); (try simp only [Act.put,List.setIfInBounds_toArray,List.set_cons_zero,List.set_cons_succ])))
    (first | (with_reducible refine qc_pass ?hw5 ?nx5; (case hw5 => (go_simp; done)); (try simp only [Act.put,List.setIfInBounds_toArray,List.set_cons_zero,List.set_cons_succ])) | (with_reducible refine qc_one ?v5 ?hw5 (fun w' hw' => ?hr5) ?nx5; (case hw5 => (go_simp; done)); (case hr5 => (first | (refine qc_val ?_; (obtain ⟨a0,a1,a2,a3,a4,a5,a6⟩ := CF.out w' hw'); clear hw'; go_simp; done) | (refine qc_val ?_; (obtain ⟨a0,a1,a2,a3,a4,a5,a6⟩ := CF.out w' hw'); clear hw'; go_simp; rfl) | (refine qc_call (f := ?f5) (args := ?args5) ?h15 ?h25; (case h15 => ((obtain ⟨a0,a1,a2,a3,a4,a5,a6⟩ := CF.out w' hw'); go_simp; constructor <;> rfl)); (case h25 => (exact CK.out w' hw'))) | (refine qc_skip ?_; (obtain ⟨a0,a1,a2,a3,a4,a5,a6⟩ := CF.out w' hw'); clear hw'; go_simp; done))); (try simp only [Act.put,List.setIfInBounds_toArray,List.set_cons_zero,List.set_cons_succ])))
    (first | (with_reducible refine qc_pass ?hw6 ?nx6; (case hw6 => (go_simp; done)); (try simp only [Act.put,List.setIfInBounds_toArray,List.set_cons_zero,List.set_cons_succ])) | (with_reducible refine qc_one ?v6 ?hw6 (fun w' hw' => ?hr6) ?nx6; (case hw6 => (go_simp; done)); (case hr6 => (first | (refine qc_val ?_; (obtain ⟨a0,a1,a2,a3,a4,a5,a6⟩ := CF.out w' hw'); clear hw'; go_simp; done) | (refine qc_val ?_; (obtain ⟨a0,a1,a2,a3,a4,a5,a6⟩ := CF.out w' hw'); clear hw'; go_simp; rfl) | (refine qc_call (f := ?f6) (args := ?args6) ?h16 ?h26; (case h16 => ((obtain ⟨a0,a1,a2,a3,a4,a5,a6⟩ := CF.out w' hw'); go_simp; constructor <;> rfl)); (case h26 => (exact CK.out w' hw'))) | (refine qc_skip ?_; (obtain ⟨a0,a1,a2,a3,a4,a5,a6⟩ := CF.out w' hw'); clear hw'; go_simp; done))); (try simp only [Act.put,List.setIfInBounds_toArray,List.set_cons_zero,List.set_cons_succ])))
    (first | (with_reducible refine qc_pass ?hw7 ?nx7; (case hw7 => (go_simp; done)); (try simp only [Act.put,List.setIfInBounds_toArray,List.set_cons_zero,List.set_cons_succ])) | (with_reducible refine qc_one ?v7 ?hw7 (fun w' hw' => ?hr7) ?nx7; (case hw7 => (go_simp; done)); (case hr7 => (first | (refine qc_val ?_; (obtain ⟨a0,a1,a2,a3,a4,a5,a6⟩ := CF.out w' hw'); clear hw'; go_simp; done) | (refine qc_val ?_; (obtain ⟨a0,a1,a2,a3,a4,a5,a6⟩ := CF.out w' hw'); clear hw'; go_simp; rfl) | (refine qc_call (f := ?f7) (args := ?args7) ?h17 ?h27; (case h17 => ((obtain ⟨a0,a1,a2,a3,a4,a5,a6⟩ := CF.out w' hw'); go_simp; constructor <;> rfl)); (case h27 => (exact CK.out w' hw'))) | (refine qc_skip ?_; (obtain ⟨a0,a1,a2,a3,a4,a5,a6⟩ := CF.out w' hw'); clear hw'; go_simp; done))); (try simp only [Act.put,List.setIfInBounds_toArray,List.set_cons_zero,List.set_cons_succ])))
    (first | (with_reducible refine qc_pass ?hw8 ?nx8; (case hw8 => (go_simp; done)); (try simp only [Act.put,List.setIfInBounds_toArray,List.set_cons_zero,List.set_cons_succ])) | (with_reducible refine qc_one ?v8 ?hw8 (fun w' hw' => ?hr8) ?nx8; (case hw8 => (go_simp; done)); (case hr8 => (first | (refine qc_val ?_; (obtain ⟨a0,a1,a2,a3,a4,a5,a6⟩ := CF.out w' hw'); clear hw'; go_simp; done) | (refine qc_val ?_; (obtain ⟨a0,a1,a2,a3,a4,a5,a6⟩ := CF.out w' hw'); clear hw'; go_simp; rfl) | (refine qc_call (f := ?f8) (args := ?args8) ?h18 ?h28; (case h18 => ((obtain ⟨a0,a1,a2,a3,a4,a5,a6⟩ := CF.out w' hw'); go_simp; constructor <;> rfl)); (case h28 => (exact CK.out w' hw'))) | (refine qc_skip ?_; (obtain ⟨a0,a1,a2,a3,a4,a5,a6⟩ := CF.out w' hw'); clear hw'; go_simp; done))); (try simp only [Act.put,List.setIfInBounds_toArray,List.set_cons_zero,List.set_cons_succ])))
    (first | (with_reducible refine qc_pass ?hw9 ?nx9; (case hw9 => (go_simp; done)); (try simp only [Act.put,List.setIfInBounds_toArray,List.set_cons_zero,List.set_cons_succ])) | (with_reducible refine qc_one ?v9 ?hw9 (fun w' hw' => ?hr9) ?nx9; (case hw9 => (go_simp; done)); (case hr9 => (first | (refine qc_val ?_; (obtain ⟨a0,a1,a2,a3,a4,a5,a6⟩ := CF.out w' hw'); clear hw'; go_simp; done) | (refine qc_val ?_; (obtain ⟨a0,a1,a2,a3,a4,a5,a6⟩ := CF.out w' hw'); clear hw'; go_simp; rfl) | (refine qc_call (f := ?f9) (args := ?args9) ?h19 ?h29; (case h19 => ((obtain ⟨a0,a1,a2,a3,a4,a5,a6⟩ := CF.out w' hw'); go_simp; constructor <;> rfl)); (case h29 => (exact CK.out w' hw'))) | (refine qc_skip ?_; (obtain ⟨a0,a1,a2,a3,a4,a5,a6⟩ := CF.out w' hw'); clear hw'; go_simp; done))); (try simp only [Act.put,List.setIfInBounds_toArray,List.set_cons_zero,List.set_cons_succ])))
    (first | (with_reducible refine qc_pass ?hw10 ?nx10; (case hw10 => (go_simp; done)); (try simp only [Act.put,List.setIfInBounds_toArray,List.set_cons_zero,List.set_cons_succ])) | (with_reducible refine qc_one ?v10 ?hw10 (fun w' hw' => ?hr10) ?nx10; (case hw10 => (go_simp; done)); (case hr10 => (first | (refine qc_val ?_; (obtain ⟨a0,a1,a2,a3,a4,a5,a6⟩ := CF.out w' hw'); clear hw'; go_simp; done) | (refine qc_val ?_; (obtain ⟨a0,a1,a2,a3,a4,a5,a6⟩ := CF.out w' hw'); clear hw'; go_simp; rfl) | (refine qc_call (f := ?f10) (args := ?args10) ?h110 ?h210; (case h110 => ((obtain ⟨a0,a1,a2,a3,a4,a5,a6⟩ := CF.out w' hw'); go_simp; constructor <;> rfl)); (case h210 => (exact CK.out w' hw'))) | (refine qc_skip ?_; (obtain ⟨a0,a1,a2,a3,a4,a5,a6⟩ := CF.out w' hw'); clear hw'; go_simp; done))); (try simp only [Act.put,List.setIfInBounds_toArray,List.set_cons_zero,List.set_cons_succ])))
    (first | (with_reducible refine qc_pass ?hw11 ?nx11; (case hw11 => (go_simp; done)); (try simp only [Act.put,List.setIfInBounds_toArray,List.set_cons_zero,List.set_cons_succ])) | (with_reducible refine qc_one ?v11 ?hw11 (fun w' hw' => ?hr11) ?nx11; (case hw11 => (go_simp; done)); (case hr11 => (first | (refine qc_val ?_; (obtain ⟨a0,a1,a2,a3,a4,a5,a6⟩ := CF.out w' hw'); clear hw'; go_simp; done) | (refine qc_val ?_; (obtain ⟨a0,a1,a2,a3,a4,a5,a6⟩ := CF.out w' hw'); clear hw'; go_simp; rfl) | (refine qc_call (f := ?f11) (args := ?args11) ?h111 ?h211; (case h111 => ((obtain ⟨a0,a1,a2,a3,a4,a5,a6⟩ := CF.out w' hw'); go_simp; constructor <;> rfl)); (case h211 => (exact CK.out w' hw'))) | (refine qc_skip ?_; (obtain ⟨a0,a1,a2,a3,a4,a5,a6⟩ := CF.out w' hw'); clear hw'; go_simp; done))); (try simp only [Act.put,List.setIfInBounds_toArray,List.set_cons_zero,List.set_cons_succ])))
    (first | (with_reducible refine qc_pass ?hw12 ?nx12; (case hw12 => (go_simp; done)); (try simp only [Act.put,List.setIfInBounds_toArray,List.set_cons_zero,List.set_cons_succ])) | (with_reducible refine qc_one ?v12 ?hw12 (fun w' hw' => ?hr12) ?nx12; (case hw12 => (go_simp; done)); (case hr12 => (first | (refine qc_val ?_; (obtain ⟨a0,a1,a2,a3,a4,a5,a6⟩ := CF.out w' hw'); clear hw'; go_simp; done) | (refine qc_val ?_; (obtain ⟨a0,a1,a2,a3,a4,a5,a6⟩ := CF.out w' hw'); clear hw'; go_simp; rfl) | (refine qc_call (f := ?f12) (args := ?args12) ?h112 ?h212; (case h112 => ((obtain ⟨a0,a1,a2,a3,a4,a5,a6⟩ := CF.out w' hw'); go_simp; constructor <;> rfl)); (case h212 => (exact CK.out w' hw'))) | (refine qc_skip ?_; (obtain ⟨a0,a1,a2,a3,a4,a5,a6⟩ := CF.out w' hw'); clear hw'; go_simp; done))); (try simp only [Act.put,List.setIfInBounds_toArray,List.set_cons_zero,List.set_cons_succ])))
    (first | (with_reducible refine qc_pass ?hw13 ?nx13; (case hw13 => (go_simp; done)); (try simp only [Act.put,List.setIfInBounds_toArray,List.set_cons_zero,List.set_cons_succ])) | (with_reducible refine qc_one ?v13 ?hw13 (fun w' hw' => ?hr13) ?nx13; (case hw13 => (go_simp; done)); (case hr13 => (first | (refine qc_val ?_; (obtain ⟨a0,a1,a2,a3,a4,a5,a6⟩ := CF.out w' hw'); clear hw'; go_simp; done) | (refine qc_val ?_; (obtain ⟨a0,a1,a2,a3,a4,a5,a6⟩ := CF.out w' hw'); clear hw'; go_simp; rfl) | (refine qc_call (f := ?f13) (args := ?args13) ?h113 ?h213; (case h113 => ((obtain ⟨a0,a1,a2,a3,a4,a5,a6⟩ := CF.out w' hw'); go_simp; constructor <;> rfl)); (case h213 => (exact CK.out w' hw'))) | (refine qc_skip ?_; (obtain ⟨a0,a1,a2,a3,a4,a5,a6⟩ := CF.out w' hw'); clear hw'; go_simp; done))); (try simp only [Act.put,List.setIfInBounds_toArray,List.set_cons_zero,List.set_cons_succ])))
    (first | (with_reducible refine qc_pass ?hw14 ?nx14; (case hw14 => (go_simp; done)); (try simp only [Act.put,List.setIfInBounds_toArray,List.set_cons_zero,List.set_cons_succ])) | (with_reducible refine qc_one ?v14 ?hw14 (fun w' hw' => ?hr14) ?nx14; (case hw14 => (go_simp; done)); (case hr14 => (first | (refine qc_val ?_; (obtain ⟨a0,a1,a2,a3,a4,a5,a6⟩ := CF.out w' hw'); clear hw'; go_simp; done) | (refine qc_val ?_; (obtain ⟨a0,a1,a2,a3,a4,a5,a6⟩ := CF.out w' hw'); clear hw'; go_simp; rfl) | (refine qc_call (f := ?f14) (args := ?args14) ?h114 ?h214; (case h114 => ((obtain ⟨a0,a1,a2,a3,a4,a5,a6⟩ := CF.out w' hw'); go_simp; constructor <;> rfl)); (case h214 => (exact CK.out w' hw'))) | (refine qc_skip ?_; (obtain ⟨a0,a1,a2,a3,a4,a5,a6⟩ := CF.out w' hw'); clear hw'; go_simp; done))); (try simp only [Act.put,List.setIfInBounds_toArray,List.set_cons_zero,List.set_cons_succ])))
    (first | (with_reducible refine qc_pass ?hw15 ?nx15; (case hw15 => (go_simp; done)); (try simp only [Act.put,List.setIfInBounds_toArray,List.set_cons_zero,List.set_cons_succ])) | (with_reducible refine qc_one ?v15 ?hw15 (fun w' hw' => ?hr15) ?nx15; (case hw15 => (go_simp; done)); (case hr15 => (first | (refine qc_val ?_; (obtain ⟨a0,a1,a2,a3,a4,a5,a6⟩ := CF.out w' hw'); clear hw'; go_simp; done) | (refine qc_val ?_; (obtain ⟨a0,a1,a2,a3,a4,a5,a6⟩ := CF.out w' hw'); clear hw'; go_simp; rfl) | (refine qc_call (f := ?f15) (args := ?args15) ?h115 ?h215; (case h115 => ((obtain ⟨a0,a1,a2,a3,a4,a5,a6⟩ := CF.out w' hw'); go_simp; constructor <;> rfl)); (case h215 => (exact CK.out w' hw'))) | (refine qc_skip ?_; (obtain ⟨a0,a1,a2,a3,a4,a5,a6⟩ := CF.out w' hw'); clear hw'; go_simp; done))); (try simp only [Act.put,List.setIfInBounds_toArray,List.set_cons_zero,List.set_cons_succ])))
    (first | (with_reducible refine qc_pass ?hw16 ?nx16; (case hw16 => (go_simp; done)); (try simp only [Act.put,List.setIfInBounds_toArray,List.set_cons_zero,List.set_cons_succ])) | (with_reducible refine qc_one ?v16 ?hw16 (fun w' hw' => ?hr16) ?nx16; (case hw16 => (go_simp; done)); (case hr16 => (first | (refine qc_val ?_; (obtain ⟨a0,a1,a2,a3,a4,a5,a6⟩ := CF.out w' hw'); clear hw'; go_simp; done) | (refine qc_val ?_; (obtain ⟨a0,a1,a2,a3,a4,a5,a6⟩ := CF.out w' hw'); clear hw'; go_simp; rfl) | (refine qc_call (f := ?f16) (args := ?args16) ?h116 ?h216; (case h116 => ((obtain ⟨a0,a1,a2,a3,a4,a5,a6⟩ := CF.out w' hw'); go_simp; constructor <;> rfl)); (case h216 => (exact CK.out w' hw'))) | (refine qc_skip ?_; (obtain ⟨a0,a1,a2,a3,a4,a5,a6⟩ := CF.out w' hw'); clear hw'; go_simp; done))); (try simp only [Act.put,List.setIfInBounds_toArray,List.set_cons_zero,List.set_cons_succ])))
    (first | (with_reducible refine qc_pass ?hw17 ?nx17; (case hw17 => (go_simp; done)); (try simp only [Act.put,List.setIfInBounds_toArray,List.set_cons_zero,List.set_cons_succ])) | (with_reducible refine qc_one ?v17 ?hw17 (fun w' hw' => ?hr17) ?nx17; (case hw17 => (go_simp; done)); (case hr17 => (first | (refine qc_val ?_; (obtain ⟨a0,a1,a2,a3,a4,a5,a6⟩ := CF.out w' hw'); clear hw'; go_simp; done) | (refine qc_val ?_; (obtain ⟨a0,a1,a2,a3,a4,a5,a6⟩ := CF.out w' hw'); clear hw'; go_simp; rfl) | (refine qc_call (f := ?f17) (args := ?args17) ?h117 ?h217; (case h117 => ((obtain ⟨a0,a1,a2,a3,a4,a5,a6⟩ := CF.out w' hw'); go_simp; constructor <;> rfl)); (case h217 => (exact CK.out w' hw'))) | (refine qc_skip ?_; (obtain ⟨a0,a1,a2,a3,a4,a5,a6⟩ := CF.out w' hw'); clear hw'; go_simp; done))); (try simp only [Act.put,List.setIfInBounds_toArray,List.set_cons_zero,List.set_cons_succ])))
    (first | (with_reducible refine qc_pass ?hw18 ?nx18; (case hw18 => (go_simp; done)); (try simp only [Act.put,List.setIfInBounds_toArray,List.set_cons_zero,List.set_cons_succ])) | (with_reducible refine qc_one ?v18 ?hw18 (fun w' hw' => ?hr18) ?nx18; (case hw18 => (go_simp; done)); (case hr18 => (first | (refine qc_val ?_; (obtain ⟨a0,a1,a2,a3,a4,a5,a6⟩ := CF.out w' hw'); clear hw'; go_simp; done) | (refine qc_val ?_; (obtain ⟨a0,a1,a2,a3,a4,a5,a6⟩ := CF.out w' hw'); clear hw'; go_simp; rfl) | (refine qc_call (f := ?f18) (args := ?args18) ?h118 ?h218; (case h118 => ((obtain ⟨a0,a1,a2,a3,a4,a5,a6⟩ := CF.out w' hw'); go_simp; constructor <;> rfl)); (case h218 => (exact CK.out w' hw'))) | (refine qc_skip ?_; (obtain ⟨a0,a1,a2,a3,a4,a5,a6⟩ := CF.out w' hw'); clear hw'; go_simp; done))); (try simp only [Act.put,List.setIfInBounds_toArray,List.set_cons_zero,List.set_cons_succ])))
    (first | (with_reducible refine qc_pass ?hw19 ?nx19; (case hw19 => (go_simp; done)); (try simp only [Act.put,List.setIfInBounds_toArray,List.set_cons_zero,List.set_cons_succ])) | (with_reducible refine qc_one ?v19 ?hw19 (fun w' hw' => ?hr19) ?nx19; (case hw19 => (go_simp; done)); (case hr19 => (first | (refine qc_val ?_; (obtain ⟨a0,a1,a2,a3,a4,a5,a6⟩ := CF.out w' hw'); clear hw'; go_simp; done) | (refine qc_val ?_; (obtain ⟨a0,a1,a2,a3,a4,a5,a6⟩ := CF.out w' hw'); clear hw'; go_simp; rfl) | (refine qc_call (f := ?f19) (args := ?args19) ?h119 ?h219; (case h119 => ((obtain ⟨a0,a1,a2,a3,a4,a5,a6⟩ := CF.out w' hw'); go_simp; constructor <;> rfl)); (case h219 => (exact CK.out w' hw'))) | (refine qc_skip ?_; (obtain ⟨a0,a1,a2,a3,a4,a5,a6⟩ := CF.out w' hw'); clear hw'; go_simp; done))); (try simp only [Act.put,List.setIfInBounds_toArray,List.set_cons_zero,List.set_cons_succ])))
    refine wpQuiet_nil ?_
    intro w3 hw3
    obtain ⟨a0,a1,a2,a3,a4,a5,a6⟩ := CF.out w3 hw3
    have m3 : Hid (Mv w (HR ++ b.heap d) w3 (HR2 ++ (X ++ b2.heap d))) := by rw [HC.out] at hw3; exact hw3
    clear hw3 CD CK CF HC C
    obtain ⟨pp,hpp⟩ : ∃ pp,(pn : Int) - kn = pp := ⟨_,rfl⟩
    have hp1 : 1 ≤ pp ∧ pp ≤ 60 := by omega
    obtain ⟨st',hst'⟩ : ∃ st' : StG,st' = { st with m := { st.m with pl := pp } } := ⟨_,rfl⟩
    have M4 := BandG.putS_mv (A := HR2 ++ X) (by rw [List.append_assoc]; exact m3.out) HZ.out.2.2 (s' := st') 0 (.int .i64 pp) (by omega) (by rw [hst']; rfl) (by rw [hst']; rfl)
    rw [List.append_assoc] at M4
    have ok4 : (b2.putS k st').ok d := BandG.putS_ok K2.out.1 (by
     have h := K2.out.1.st st (List.mem_of_getElem? HZ.out.2.2)
     rw [hst']
     exact ⟨h.1,h.2.1,⟨h.2.2.np,h.2.2.nb,by simp only; omega,h.2.2.said,h.2.2.lb,h.2.2.ends⟩⟩)
    obtain ⟨w4,hw4⟩ : ∃ w4,w4 = w3.setCell ⟨d.lb,k * 5,none⟩ (.int .i64 pp) := ⟨_,rfl⟩
    rw [Nat.add_zero,← hw4] at M4
    obtain ⟨⟨x0,x1,x2⟩,-,z0,-⟩ := hd_cells M4 KF.out.2.2.2.2.2.1 (BandG.putS_get HZ.out.2.2)
    have e0 : st'.m.pl = pp := by rw [hst']
    rw [e0] at z0
    obtain ⟨bb,hbb⟩ : ∃ bb,decide (pp ≤ 30) = bb := ⟨_,rfl⟩
    have hE2 : beginGo l (pn : Int) k pn 1 b.model.zeros r = (qt,some pp,qr) := by rw [KE.out,if_pos (by first | rfl | trivial),HKN.out,hpp]
    have hok : begOk (some pp) = bb := by show (decide (1 ≤ pp) && decide (pp ≤ 30)) = bb; rw [decide_eq_true hp1.1,Bool.true_and,hbb]
    have K4 := Lib.hid (And.intro ok4 (And.intro M4 (And.intro hE2 (And.intro hok hst'))))
    have HW4 := Lib.hid hw4
    have HPP := Lib.hid hpp
    clear ok4 M4 hE2 hok hst' e0 hw4 hpp
    go_upto_region 6 with fail
    all_goals rw [HPP.out,← HW4.out]
    clear a0 a1 a2 a3 a4 a5 a6
    go_wp2_with fail
    go_ret
    rw [K4.out.2.2.1]
    exact ⟨by show Ending.returned (.bool bb) = _; rw [K4.out.2.2.2.1],b2.putS k st',HR2,K4.out.1,by rw [BandG.putS_model,K2.out.2.1,K4.out.2.2.2.2]; rfl,by rw [BandG.putS_get HZ.out.2.2,K4.out.2.2.2.2]; rfl,K2.out.2.2.2.1,DRP.out _ _ _ K4.out.2.1⟩
  ·obtain rfl : i = pn := by omega
   have d1 : ¬ (i : Int) + 1 ≤ (i : Int) := by omega
   have hE2 : beginGo l (i : Int) k i 1 b.model.zeros r = (b1.model.zeros,none,r1) := by rw [hE,Nat.sub_self]; rfl
   have K4 := Lib.hid (And.intro ok1 (And.intro m1 (And.intro hE2 (And.intro hm1 (And.intro hst1 q1)))))
   clear hE hE2 ok1 m1 hm1 hG1 hst1 q1 hn1 hT1
   go_wp2_with fail
   go_ret
   rw [K4.out.2.2.1]
   refine ⟨rfl,b1,HR1,K4.out.1,?_,K4.out.2.2.2.2.1,K4.out.2.2.2.2.2,DRP.out _ _ _ K4.out.2.1⟩
   rw [K4.out.2.2.2.1]
   unfold begB begS
   simp only
   rw [set_self_get (by simp [BandG.model,KF.out.2.2.2.2.1])]
end
section
open Go.RowKit
section
variable {t e : TypeId} {size bytes : Nat} {z : Value}
theorem run_appR (hu : Try.prog.underlying t = some (.slice e)) (hi : (Try.prog.info? e).map (fun i => (i.zero,i.size,i.bytes)) = some (some z,size,bytes)) (hzs : z.cells.size = size) (h0 : 0 < size) (hb : bytes ≤ 1000) {w : World} {v : Value} {n : Nat} {xs : List Value} {H : List HB} (h : RowH e size v n xs H) (hs : Sat w H)
  {A : Option Addr} {m c : Nat} {news : List Value} (hr : Reads w w.heap.size size A m news) (h1 : ∀ u ∈ news,u.oneCell' = true) (hl : n + m ≤ 1000000) (ty : TypeId) :
  ∃ v' w' H',(Builtin.append_ #[t,t] ty #[v,.slice A m c]).run Try.prog w = .ok v' w' ∧ RowH e size v' (n + m) (xs ++ news) H' ∧ Mv w H w' H' := by
 obtain ⟨i0,hti,hz0,hz1,hz2⟩ := info_parts hi
 have hq : (n + m) * bytes ≤ 1000000 * 1000 := Nat.mul_le_mul hl hb
 obtain ⟨v',w',hrun,k1,k2,k3⟩ := run_append_any (P := Try.prog) w 0 t ty e i0 z size bytes hu hti hz0 hz1 hz2 hzs h0 v n xs (RowH.owns h hs (fun _ _ => Nat.zero_le _)) w.heap.size A m c news hr h1 (by unfold maxLen; omega) (by omega) (Nat.zero_le _)
 obtain ⟨H',k4,k5⟩ := mv_owns_grown h k1 k2 k3
 exact ⟨v',w',H',hrun,k4,k5⟩
variable {ops : Array Oper} {rest : List Oper} {o : Oper} {a : Act} {w : World} {K : Act → World → Prop} {Q : Exit → Act → World → Prop} {E : Prop}
theorem wp_appR (hu : Try.prog.underlying t = some (.slice e)) (hi : (Try.prog.info? e).map (fun i => (i.zero,i.size,i.bytes)) = some (some z,size,bytes)) (hzs : z.cells.size = size) (h0 : 0 < size) (hb : bytes ≤ 1000)
  (s x : Operand) (ho : o.op = .call { callee := .builtin .append,args := #[s,x],argTypes := #[t,t] }) (v : Value) {n : Nat} {xs : List Value} {H : List HB} {A : Option Addr} {m c : Nat} {news : List Value}
  (hsv : a.eval s = v) (hxu : a.eval x = .slice A m c) (h : RowH e size v n xs H) (hs : Sat w H) (hr : Reads w w.heap.size size A m news) (h1 : ∀ u ∈ news,u.oneCell' = true) (hl : n + m ≤ 1000000)
  (hK : ∀ v' w' H',RowH e size v' (n + m) (xs ++ news) H' → Mv w H w' H' → K (a.put o.dst v') w') : o.wp Try.prog a w K Q := by
 obtain ⟨v',w',H',hrun,h2,h3⟩ := run_appR hu hi hzs h0 hb h hs hr h1 hl (c := c) o.type
 unfold Oper.wp execOp
 simp only [ho,resolve,invoke,builtin,Sem.run_bind,Sem.run_pure,Result.andThen_ok,List.map_toArray,List.map_cons,List.map_nil,hsv,hxu,hrun]
 exact hK v' w' H' h2 h3
theorem wpList_appR (hu : Try.prog.underlying t = some (.slice e)) (hi : (Try.prog.info? e).map (fun i => (i.zero,i.size,i.bytes)) = some (some z,size,bytes)) (hzs : z.cells.size = size) (h0 : 0 < size) (hb : bytes ≤ 1000) (hgd : o.guard = none)
  (s x : Operand) (ho : o.op = .call { callee := .builtin .append,args := #[s,x],argTypes := #[t,t] }) (v : Value) {n : Nat} {xs : List Value} {H : List HB} {A : Option Addr} {m c : Nat} {news : List Value}
  (hsv : a.eval s = v) (hxu : a.eval x = .slice A m c) (h : RowH e size v n xs H) (hs : Sat w H) (hr : Reads w w.heap.size size A m news) (h1 : ∀ u ∈ news,u.oneCell' = true) (hl : n + m ≤ 1000000)
  (hK : ∀ v' w' H',RowH e size v' (n + m) (xs ++ news) H' → Mv w H w' H' → wpList Try.prog ops Q rest (a.put o.dst v') w') : wpList Try.prog ops Q (o :: rest) a w :=
 wpList_plain hgd fun _ hk => wp_appR hu hi hzs h0 hb s x ho v hsv hxu h hs hr h1 hl fun v' w' H' h2 h3 => hk _ _ (hK v' w' H' h2 h3)
theorem step_appR (hu : Try.prog.underlying t = some (.slice e)) (hi : (Try.prog.info? e).map (fun i => (i.zero,i.size,i.bytes)) = some (some z,size,bytes)) (hzs : z.cells.size = size) (h0 : 0 < size) (hb : bytes ≤ 1000) (hgd : o.guard = none)
  (s x : Operand) (ho : o.op = .call { callee := .builtin .append,args := #[s,x],argTypes := #[t,t] }) (v : Value) {n : Nat} {xs : List Value} {H : List HB} {A : Option Addr} {m c : Nat} {news : List Value}
  (hsv : a.eval s = v) (hxu : a.eval x = .slice A m c) (h : RowH e size v n xs H) (hs : Sat w H) (hr : Reads w w.heap.size size A m news) (h1 : ∀ u ∈ news,u.oneCell' = true) (hl : n + m ≤ 1000000)
  (hK : ∀ v' w' H',RowH e size v' (n + m) (xs ++ news) H' → Mv w H w' H' → K (a.put o.dst v') w') : if Region.wanted o (yielded ops a.tmps) = true then Oper.wp Try.prog o a w K Q else E := by
 have hw : Region.wanted o (yielded ops a.tmps) = true := by simp [Region.wanted,hgd]
 rw [if_pos hw]
 exact wp_appR hu hi hzs h0 hb s x ho v hsv hxu h hs hr h1 hl hK
end
structure PcM where
 x : SpotX
 p : Nat
 n : Nat
def pieceV (q : PcM) : List Value := [.pointer (some ⟨q.x.d.lb,q.x.k * 5,none⟩),.pointer (some ⟨q.x.d.bb,0,none⟩),.int .i64 (q.x.k : Int),.int .i64 (q.p : Int),.int .i64 (q.n : Int)]
def pcsV (l : List PcM) : List Value := l.flatMap pieceV
theorem pcsV_append (a b : List PcM) : pcsV (a ++ b) = pcsV a ++ pcsV b := by simp [pcsV]
theorem pcsV_one (l : List PcM) : ∀ u ∈ pcsV l,u.oneCell' = true := by
 intro u hu
 simp only [pcsV,pieceV,List.mem_flatMap,List.mem_cons,List.not_mem_nil,or_false] at hu
 obtain ⟨q,-,rfl | rfl | rfl | rfl | rfl⟩ := hu <;> rfl
def RowPc (v : Value) (l : List PcM) (H : List HB) : Prop := RowH 116 5 v l.length (pcsV l) H
theorem infoPc : (Try.prog.info? 116).map (fun i => (i.zero,i.size,i.bytes)) = some (some (.agg #[.pointer none,.pointer none,.int .i64 0,.int .i64 0,.int .i64 0]),5,40) := by kernel_rfl
theorem RowPc.slice {v : Value} {l : List PcM} {H : List HB} (h : RowPc v l H) : ∃ a c,v = .slice a l.length c := RowH.slice h
def lbGo (l : List UInt8) : Nat → Nat → RdM → Option Nat × RdM
 | 0,_,r => (none,r)
 | f + 1,lb,r => if (rdBit l r).1 = 1 then (if 24 < lb + 1 then (none,(rdBit l r).2) else lbGo l f (lb + 1) (rdBit l r).2) else (some lb,(rdBit l r).2)
theorem lbGo_succ (l : List UInt8) (f lb : Nat) (r : RdM) : lbGo l (f + 1) lb r = if (rdBit l r).1 = 1 then (if 24 < lb + 1 then (none,(rdBit l r).2) else lbGo l f (lb + 1) (rdBit l r).2) else (some lb,(rdBit l r).2) := rfl
theorem lbGo_inv (l : List UInt8) : ∀ (f lb : Nat) (r : RdM),r.left ≤ 8 → lb ≤ 24 → (lbGo l f lb r).2.left ≤ 8 ∧ (lbGo l f lb r).2.begun ≤ r.begun + f ∧ ∀ b,(lbGo l f lb r).1 = some b → lb ≤ b ∧ b ≤ 24
 | 0,lb,r,h,_ => ⟨h,Nat.le_refl _,by simp [lbGo]⟩
 | f + 1,lb,r,h,h2 => by
  obtain ⟨k1,k2,k3⟩ := rdBit_inv l r h
  rw [lbGo_succ]
  split
  ·split
   ·exact ⟨k2,by simp only; omega,by simp⟩
   ·obtain ⟨i1,i2,i3⟩ := lbGo_inv l f (lb + 1) (rdBit l r).2 k2 (by omega)
    exact ⟨i1,by omega,fun b hb => by have := i3 b hb; omega⟩
  ·refine ⟨k2,by simp only; omega,fun b hb => ?_⟩
   simp only [Option.some.injEq] at hb
   omega
def pcGo (l : List UInt8) (x : SpotX) (lb : Nat) : List Int → RdM → List PcM × RdM
 | [],r => ([],r)
 | p :: ps,r => (⟨x,p.toNat,(rdG l ((lb + p.toNat.log2 : Nat) : Int) r).1⟩ :: (pcGo l x lb ps (rdG l ((lb + p.toNat.log2 : Nat) : Int) r).2).1,(pcGo l x lb ps (rdG l ((lb + p.toNat.log2 : Nat) : Int) r).2).2)
theorem pcGo_snoc (l : List UInt8) (x : SpotX) (lb : Nat) : ∀ (ps : List Int) (p : Int) (r : RdM),pcGo l x lb (ps ++ [p]) r = ((pcGo l x lb ps r).1 ++ [⟨x,p.toNat,(rdG l ((lb + p.toNat.log2 : Nat) : Int) (pcGo l x lb ps r).2).1⟩],(rdG l ((lb + p.toNat.log2 : Nat) : Int) (pcGo l x lb ps r).2).2)
 | [],p,r => rfl
 | q :: ps,p,r => by
  rw [List.cons_append]
  simp only [pcGo,pcGo_snoc l x lb ps p,List.cons_append]
theorem rdG_inv (l : List UInt8) (s : Int) (r : RdM) (h : r.left ≤ 8) : (rdG l s r).2.left ≤ 8 ∧ (rdG l s r).2.begun ≤ r.begun + 32 ∧ (rdG l s r).1 < 4294967296 := by
 unfold rdG
 split
 ·rename_i hs
  obtain ⟨h1,h2,h3⟩ := rdB_inv l r h s.toNat
  have h4 : 2 ^ s.toNat ≤ 2 ^ 32 := Nat.pow_le_pow_right (n := 2) (by decide) (by omega)
  exact ⟨h2,by omega,by omega⟩
 ·exact ⟨h,by simp only; omega,by simp⟩
theorem pcGo_inv (l : List UInt8) (x : SpotX) (lb : Nat) : ∀ (ps : List Int) (r : RdM),r.left ≤ 8 → (pcGo l x lb ps r).1.length = ps.length ∧ (pcGo l x lb ps r).2.left ≤ 8 ∧ (pcGo l x lb ps r).2.begun ≤ r.begun + 32 * ps.length ∧ ∀ q ∈ (pcGo l x lb ps r).1,q.x = x ∧ q.n < 4294967296
 | [],r,h => ⟨rfl,h,by simp [pcGo],by simp [pcGo]⟩
 | p :: ps,r,h => by
  obtain ⟨g1,g2,g3⟩ := rdG_inv l ((lb + p.toNat.log2 : Nat) : Int) r h
  obtain ⟨i1,i2,i3,i4⟩ := pcGo_inv l x lb ps _ g1
  simp only [pcGo]
  refine ⟨by rw [List.length_cons,List.length_cons,i1],i2,by simp only [List.length_cons]; omega,fun q hq => ?_⟩
  rcases List.mem_cons.1 hq with rfl | hq
  ·exact ⟨rfl,g3⟩
  ·exact i4 q hq
def readM (l : List UInt8) (style : Nat) (m : BandM) (d : BandA) (k : Nat) (s : StM) (r : RdM) : Option (BandM × List PcM × RdM) :=
 let q := beginM l m k r
 let (m1,s1,r1,ok) := if s.ps.length = 0 then (begB m s k q,begS s q.2.1,q.2.2,begOk q.2.1) else (m,s,r,true)
 if ok = false then none else
 let n := (toldM l r1).1
 if 3 * s1.pl - 2 < (s1.ps.length + n : Nat) then none else
 match lbGo l (25 - s1.lb.toNat) s1.lb.toNat (toldM l r1).2 with
 | (none,_) => none
 | (some lb,r3) =>
  let pg := pcGo l ⟨d,k⟩ lb (lensM (piecesM style s1.ps.length (s1.ps.length + n))) r3
  some ({ m1 with ss := m1.ss.set k { s1 with lb := (lb : Int) } },pg.1,pg.2)
end
end Go.Proofs.Ytnpoakabheeoeaa
