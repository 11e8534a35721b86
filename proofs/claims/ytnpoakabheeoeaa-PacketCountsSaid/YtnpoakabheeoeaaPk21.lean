/- Tag trees of the program: what a reader's bits say of a node: the plain model; the walk's state. Tag trees of the program: Decode. Tag trees of the program: Decode, Known, of a band's trees; how many passes are told. packet: has a block new passes? how many planes has it? -/
import Derived.Test.YtnpoakabheeoeaaPk05
import Derived.Test.YtnpoakabheeoeaaPk12
import Derived.Test.YtnpoakabheeoeaaPk06
import Derived.Test.YtnpoakabheeoeaaPk18
set_option maxRecDepth 100000
namespace Go.Proofs.Ytnpoakabheeoeaa
section
open Go.RowKit
def decL (l : List UInt8) : Nat → NodeM → Int → RdM → NodeM × RdM
 | 0,x,_,r => (x,r)
 | f + 1,x,b,r => if x.low < b ∧ x.said = false then (if (rdBit l r).1 = 1 then ({ x with said := true,n := x.low },(rdBit l r).2) else decL l f { x with low := x.low + 1,said := false } b (rdBit l r).2) else (x,r)
def decNode (l : List UInt8) (x : NodeM) (low b : Int) (r : RdM) : NodeM × RdM := decL l (b - max x.low low).toNat { x with low := max x.low low } b r
structure DecR where
 t : List LvG
 low : Int
 rd : RdM
def decP (l : List UInt8) : List LvG → Nat → Nat → Int → RdM → DecR
 | [],_,_,_,r => ⟨[],0,r⟩
 | p :: R,x,y,b,r =>
  let q := decP l R (x / 2) (y / 2) b r
  let e := decNode l (p.2.at_ x y) q.low b q.rd
  ⟨(p.1,p.2.set_ x y e.1) :: q.t,e.1.low,e.2⟩
theorem decP_shape (l : List UInt8) (P : List LvG) (x y : Nat) (b : Int) (r : RdM) : (decP l P x y b r).t.map (fun p => shapeL p.2) = P.map (fun p => shapeL p.2) ∧ (decP l P x y b r).t.map (·.1) = P.map (·.1) := by
 induction P generalizing x y with
 | nil => exact ⟨rfl,rfl⟩
 | cons q R ih =>
  obtain ⟨h1,h2⟩ := ih (x / 2) (y / 2)
  simp only [decP,List.map_cons,h1,h2,List.cons.injEq,and_true]
  exact LevM.set_shape _ _ _ _
theorem decL_inv (l : List UInt8) : ∀ (f : Nat) (x : NodeM) (b : Int) (r : RdM),r.left ≤ 8 → (decL l f x b r).2.left ≤ 8 ∧ (decL l f x b r).2.begun ≤ r.begun + f ∧ x.low ≤ (decL l f x b r).1.low
 | 0,x,b,r,h => ⟨h,Nat.le_refl _,Int.le_refl _⟩
 | f + 1,x,b,r,h => by
  obtain ⟨-,k2,k3⟩ := rdBit_inv l r h
  unfold decL
  split
  ·split
   ·exact ⟨k2,by simp only; omega,Int.le_refl _⟩
   ·obtain ⟨h1,h2,h3⟩ := decL_inv l f { x with low := x.low + 1,said := false } b (rdBit l r).2 k2
    refine ⟨h1,by omega,?_⟩
    simp only at h3
    omega
  ·exact ⟨h,by simp only; omega,Int.le_refl _⟩
theorem decP_inv (l : List UInt8) (P : List LvG) (x y : Nat) (b : Int) (r : RdM) (h : r.left ≤ 8) : 0 ≤ (decP l P x y b r).low ∧ (decP l P x y b r).rd.left ≤ 8 ∧ (decP l P x y b r).rd.begun ≤ r.begun + P.length * b.toNat := by
 induction P generalizing x y with
 | nil => exact ⟨Int.le_refl _,h,by simp [decP]⟩
 | cons q R ih =>
  obtain ⟨h1,h2,h3⟩ := ih (x / 2) (y / 2)
  obtain ⟨k1,k2,k3⟩ := decL_inv l (b - max (q.2.at_ x y).low (decP l R (x / 2) (y / 2) b r).low).toNat { q.2.at_ x y with low := max (q.2.at_ x y).low (decP l R (x / 2) (y / 2) b r).low } b (decP l R (x / 2) (y / 2) b r).rd h2
  simp only [decP,decNode]
  refine ⟨?_,k1,?_⟩
  ·simp only at k3
   omega
  ·rw [List.length_cons,Nat.succ_mul,← Nat.add_assoc]
   exact Nat.le_trans k2 (Nat.add_le_add h3 (by omega))
theorem decL_said (l : List UInt8) (f : Nat) (x : NodeM) (b : Int) (r : RdM) (h : ¬ (x.low < b ∧ x.said = false)) : decL l f x b r = (x,r) := by
 cases f with
 | zero => rfl
 | succ f => unfold decL; rw [if_neg h]
theorem decL_one (l : List UInt8) (f : Nat) (x : NodeM) (b : Int) (r : RdM) (h : x.low < b ∧ x.said = false) (hn : (rdBit l r).1 = 1) (hf : f = (b - x.low).toNat) : decL l f x b r = ({ x with said := true,n := x.low },(rdBit l r).2) := by
 cases f with
 | zero => omega
 | succ f => unfold decL; rw [if_pos h,if_pos hn]
theorem decL_zero (l : List UInt8) (f : Nat) (x : NodeM) (b : Int) (r : RdM) (h : x.low < b ∧ x.said = false) (hn : ¬ (rdBit l r).1 = 1) (hf : f = (b - x.low).toNat) : f = (b - (x.low + 1)).toNat + 1 ∧ decL l f x b r = decL l (b - (x.low + 1)).toNat { x with low := x.low + 1,said := false } b (rdBit l r).2 := by
 obtain ⟨f',rfl⟩ : ∃ f',f = f' + 1 := ⟨f - 1,by omega⟩
 have e : f' = (b - (x.low + 1)).toNat := by omega
 refine ⟨by omega,?_⟩
 rw [← e]
 conv => lhs; unfold decL
 rw [if_pos h,if_neg hn]
theorem tree_setW {tb : Nat} {P : List LvG} {H : List HB} {w : World} (h : TreeH tb P H) (hs : Sat w H) (hd : PDims P) {i : Nat} {p : LvG} (hp : P[i]? = some p) {x y : Nat} (hx : x < p.2.w) (hy : y < p.2.h) (z : NodeM) (f : Nat) (v : Value)
  (hv : (f = 0 ∧ z = { p.2.at_ x y with n := z.n } ∧ v = .int .i64 z.n) ∨ (f = 1 ∧ z = { p.2.at_ x y with low := z.low } ∧ v = .int .i64 z.low) ∨ (f = 2 ∧ z = { p.2.at_ x y with said := z.said } ∧ v = .bool z.said)) :
  ∃ H',TreeH tb (P.set i (p.1,p.2.set_ x y z)) H' ∧ Mv w H (w.setCell ⟨p.1,3 * (y * p.2.w + x) + f,none⟩ v) H' := by
 rcases hv with ⟨rfl,hz,rfl⟩ | hv
 ·refine tree_set h hs hp _ (LevM.set_shape _ _ _ _) _ _ ?_
  have := nodes_setN p.2 x y z.n (by rw [(hd.get hp).1]; exact place_lt hx hy)
  unfold LevM.setN at this
  rw [← hz] at this
  exact this
 ·exact tree_setZ h hs hd hp hx hy z f v hv
def StD (w0 : World) (H0 : List HB) (w : World) (tb rb : Nat) (l : List UInt8) (T : List LvG) (m : Nat) (p : LvG) (X Y : Nat) (z : NodeM) (r : RdM) (Hn : List HB) : Prop :=
 ∃ HT HR,TreeH tb (T.set m (p.1,p.2.set_ X Y z)) HT ∧ ReadH rb l r HR ∧ Mv w0 H0 w (HR ++ (HT ++ Hn))
section
variable {w0 w : World} {H0 : List HB} {tb rb : Nat} {l : List UInt8} {T : List LvG} {m : Nat} {p : LvG} {X Y : Nat} {z : NodeM} {r : RdM} {Hn : List HB}
theorem StD.cells (h : StD w0 H0 w tb rb l T m p X Y z r Hn) (hd : PDims T) (hp : T[m]? = some p) (hx : X < p.2.w) (hy : Y < p.2.h) :
  w.cell? ⟨p.1,3 * (Y * p.2.w + X),none⟩ = some (.int .i64 z.n) ∧ w.cell? ⟨p.1,3 * (Y * p.2.w + X) + 1,none⟩ = some (.int .i64 z.low) ∧ w.cell? ⟨p.1,3 * (Y * p.2.w + X) + 2,none⟩ = some (.bool z.said) ∧ ∀ k,w.frozen? ⟨p.1,k,none⟩ = false := by
 obtain ⟨HT,HR,h1,h2,h3⟩ := h
 have hm := (List.getElem?_eq_some_iff.1 hp).1
 have := node_cellS h1 h3.sat.right.left (hd.congr (setT_shape hp z)) (i := m) (p := (p.1,p.2.set_ X Y z)) (by rw [List.getElem?_set,if_pos rfl,if_pos hm]) (x := X) (y := Y) hx hy
 rw [LevM.at_set _ _ _ _ (by rw [(hd.get hp).1]; exact place_lt hx hy)] at this
 exact this
theorem StD.set (h : StD w0 H0 w tb rb l T m p X Y z r Hn) (hd : PDims T) (hp : T[m]? = some p) (hx : X < p.2.w) (hy : Y < p.2.h) (z' : NodeM) (f : Nat) (v : Value)
  (hv : (f = 0 ∧ z' = { z with n := z'.n } ∧ v = .int .i64 z'.n) ∨ (f = 1 ∧ z' = { z with low := z'.low } ∧ v = .int .i64 z'.low) ∨ (f = 2 ∧ z' = { z with said := z'.said } ∧ v = .bool z'.said)) :
  StD w0 H0 (w.setCell ⟨p.1,3 * (Y * p.2.w + X) + f,none⟩ v) tb rb l T m p X Y z' r Hn := by
 obtain ⟨HT,HR,h1,h2,h3⟩ := h
 have hm := (List.getElem?_eq_some_iff.1 hp).1
 have ha := LevM.at_set p.2 X Y z (by rw [(hd.get hp).1]; exact place_lt hx hy)
 obtain ⟨HT',k1,k2⟩ := tree_setW h1 h3.sat.right.left (hd.congr (setT_shape hp z)) (i := m) (p := (p.1,p.2.set_ X Y z)) (by rw [List.getElem?_set,if_pos rfl,if_pos hm]) (x := X) (y := Y) hx hy z' f v (by rw [ha]; exact hv)
 rw [List.set_set,LevM.set_set] at k1
 exact ⟨HT',HR,k1,h2,Mv.mv1 (A := HT') (B := HR) (R := Hn) (Mv.call (Mv.mv1 (A := HR) (B := HT) (R := Hn) h3) k2)⟩
theorem StD.bit (h : StD w0 H0 w tb rb l T m p X Y z r Hn) (hl : l.length ≤ 90000000) (hb : r.begun ≤ 90000000) (h8 : r.left ≤ 8) (q : Nat) (hq : (rdBit l r).1 = q) :
  Calls Try.prog 74 #[.pointer (some ⟨rb,0,none⟩)] w fun e w' => e = .returned (.int .i64 (q : Int)) ∧ StD w0 H0 w' tb rb l T m p X Y z (rdBit l r).2 Hn := by
 obtain ⟨HT,HR,h1,h2,h3⟩ := h
 refine (bit_rd rb l r w HR h2 h3.sat.left hl hb h8).mono ?_
 rintro e w' ⟨rfl,HR',k1,k2⟩
 exact ⟨by rw [hq],HT,HR',h1,k1,Mv.call h3 k2⟩
end
def midD (l : List UInt8) (P : List LvG) (x y : Nat) (b : Int) (r : RdM) (m : Nat) : List LvG := P.take m ++ (decP l (P.drop m) (x / 2 ^ m) (y / 2 ^ m) b r).t
theorem midD_shape (l : List UInt8) (P : List LvG) (x y : Nat) (b : Int) (r : RdM) (m : Nat) : (midD l P x y b r m).map (fun p => shapeL p.2) = P.map (fun p => shapeL p.2) := by
 unfold midD
 rw [List.map_append,(decP_shape _ _ _ _ _ _).1,List.map_take,List.map_drop,List.take_append_drop]
theorem midD_get (l : List UInt8) (P : List LvG) (x y : Nat) (b : Int) (r : RdM) (m : Nat) (p : LvG) (hp : P[m]? = some p) : (midD l P x y b r (m + 1))[m]? = some p := by
 have hm := (List.getElem?_eq_some_iff.1 hp).1
 unfold midD
 rw [List.getElem?_append_left (by simp; omega),List.getElem?_take,if_pos (by omega),hp]
theorem midD_step (l : List UInt8) (P : List LvG) (x y : Nat) (b : Int) (r : RdM) (m : Nat) (p : LvG) (hp : P[m]? = some p) :
  let q := decP l (P.drop (m + 1)) (x / 2 ^ (m + 1)) (y / 2 ^ (m + 1)) b r
  let e := decNode l (p.2.at_ (x / 2 ^ m) (y / 2 ^ m)) q.low b q.rd
  (midD l P x y b r (m + 1)).set m (p.1,p.2.set_ (x / 2 ^ m) (y / 2 ^ m) e.1) = midD l P x y b r m ∧ (decP l (P.drop m) (x / 2 ^ m) (y / 2 ^ m) b r).low = e.1.low ∧ (decP l (P.drop m) (x / 2 ^ m) (y / 2 ^ m) b r).rd = e.2 := by
 obtain ⟨hm,hpe⟩ := List.getElem?_eq_some_iff.1 hp
 have e1 : P.drop m = p :: P.drop (m + 1) := by rw [List.drop_eq_getElem_cons hm,hpe]
 have e2 : ∀ z : Nat,z / 2 ^ m / 2 = z / 2 ^ (m + 1) := fun z => by rw [Nat.div_div_eq_div_mul,Nat.pow_succ]
 intro q e
 rw [e1]
 simp only [decP,e2]
 refine ⟨?_,rfl,rfl⟩
 unfold midD
 rw [e1]
 simp only [decP,e2]
 rw [List.take_add_one,hp]
 rw [List.append_assoc,List.set_append_right _ _ (by simp; omega)]
 have e3 : m - (P.take m).length = 0 := by simp; omega
 rw [e3]
 rfl
theorem midD_all (l : List UInt8) (P : List LvG) (x y : Nat) (b : Int) (r : RdM) : midD l P x y b r P.length = P := by simp [midD,decP]
theorem midD_zero (l : List UInt8) (P : List LvG) (x y : Nat) (b : Int) (r : RdM) : midD l P x y b r 0 = (decP l P x y b r).t := by simp [midD]
def leafD (P : List LvG) (x y : Nat) : NodeM := match P with
 | [] => ⟨0,0,false⟩
 | p :: _ => p.2.at_ x y
def belowM (z : NodeM) (b : Int) : Bool := z.said && decide (z.n < b)
end
section
open Go.RowKit
set_option maxHeartbeats 4000000 in
theorem dec_tree (tb rb : Nat) (l : List UInt8) (P : List LvG) (r : RdM) (k : Nat) (b : Int) (p0 : LvG) (W : World) (HT HR : List HB) (h : TreeH tb P HT) (hw : ReadH rb l r HR) (hs : Sat W (HR ++ HT)) (hl : P.length ≤ 20) (hd : PDims P) (h0 : P[0]? = some p0) (hk : k < p0.2.w * p0.2.h)
  (hb : b ≤ 1000) (hll : l.length ≤ 90000000) (hrb : r.begun ≤ 80000000) (hr8 : r.left ≤ 8) :
  Calls Try.prog 94 #[.pointer (some ⟨tb,0,none⟩),.pointer (some ⟨rb,0,none⟩),.int .i64 (k : Int),.int .i64 b] W fun e W' => e = .returned (.bool (belowM (leafD (decP l P (k % p0.2.w) (k / p0.2.w) b r).t (k % p0.2.w) (k / p0.2.w)) b)) ∧
   ∃ HT' HR',TreeH tb (decP l P (k % p0.2.w) (k / p0.2.w) b r).t HT' ∧ ReadH rb l (decP l P (k % p0.2.w) (k / p0.2.w) b r).rd HR' ∧ Mv W (HR ++ HT) W' (HR' ++ HT') := by
 have WO := Lib.hid (way_ok tb P k p0 W HT h hs.right hl hd h0 hk)
 have hn : 0 < P.length := (List.getElem?_eq_some_iff.1 h0).1
 have q := hd.get h0
 have hx : k % p0.2.w < p0.2.w := Nat.mod_lt _ (by omega)
 have hy : k / p0.2.w < p0.2.h := Nat.div_lt_of_lt_mul hk
 have AT := Lib.hid fun i p hp => PDims.at_ (i := i) (p := p) hd h0 hx hy hp
 generalize k % p0.2.w = x at *
 generalize k / p0.2.w = y at *
 have K := Lib.hid (And.intro h (And.intro hw (And.intro hs (And.intro hd h0))))
 clear h hw hs hd q h0 hk hx hy
 have hn0 : (0 : Int) < (P.length : Int) := by omega
 rw [← midD_zero]
 go_enter Try.func94,Try.ntmps94
 go_wp2_with (go_at_call 79; refine WO.out.mono ?_; rintro e w1 ⟨v1,H1,rfl,r1,m1⟩; obtain ⟨a1,c1,rfl⟩ := r1.slice; have K1 := Lib.hid (And.intro r1 m1); clear r1 m1)
 go_loopg [9,12,18] P.length (fun g s9 _ s18 wx => ∃ (m : Nat) (HTm HRm : List HB),m ≤ P.length ∧ m = g ∧ s18 = .int .i64 ((P.length - m : Nat) : Int) ∧ s9 = .int .i64 (decP l (P.drop m) (x / 2 ^ m) (y / 2 ^ m) b r).low ∧
  TreeH tb (midD l P x y b r m) HTm ∧ ReadH rb l (decP l (P.drop m) (x / 2 ^ m) (y / 2 ^ m) b r).rd HRm ∧ Mv W (HR ++ HT) wx (HRm ++ (HTm ++ H1)))
 case atStart =>
  refine ⟨P.length,HT,HR,Nat.le_refl _,rfl,by simp,by simp [decP],by rw [midD_all]; exact K.out.1,by simpa [decP] using K.out.2.1,?_⟩
  have := Mv.call (Mv.mv1 (A := HR) (B := HT) (R := []) (by simpa using Mv.refl K.out.2.2.1)) K1.out.2
  exact Mv.sub this (fun g => by simp only [cnt_append,cnt_nil]; omega) (fun c hc => by simp only [List.mem_append,List.not_mem_nil,or_false] at hc ⊢; grind)
 case round =>
  obtain ⟨wa,rfl⟩ : ∃ wa : World,wa = wr := ⟨_,rfl⟩
  obtain ⟨m,HTm,HRm,hm,rfl,rfl,rfl,tm,bm,mm⟩ := hrel
  by_cases hm0 : m = 0
  ·subst hm0
   obtain ⟨g1,eg1,hc1,-⟩ := K1.out.1.get mm.sat.right.right (by omega)
   have cj := hc1 (P.length - 1) (by omega)
   rw [List.getElem?_reverse (by rw [wayV_length]; omega),wayV_length,show P.length - 1 - (P.length - 1) = 0 from by omega,wayV_get P x y 0 p0 K.out.2.2.2.2] at cj
   subst eg1
   have hsh := midD_shape l P x y b r 0
   have hdT : PDims (midD l P x y b r 0) := K.out.2.2.2.1.congr hsh
   obtain ⟨pz,hpz⟩ : ∃ pz,(midD l P x y b r 0)[0]? = some pz := ⟨_,List.getElem?_eq_getElem (by have := congrArg List.length hsh; simp only [List.length_map] at this; omega)⟩
   have hpw : pz.1 = p0.1 ∧ pz.2.w = p0.2.w ∧ pz.2.h = p0.2.h := by
    have e1 := congrArg (fun l => l[0]?) hsh
    have e2 := congrArg (fun l => l[0]?) (decP_shape l P x y b r).2
    rw [midD_zero] at e1 hpz
    simp only [List.getElem?_map,hpz,K.out.2.2.2.2,Option.map_some,Option.some.injEq,shapeL,Prod.mk.injEq] at e1 e2
    exact ⟨e2,e1.1,e1.2.1⟩
   have hxy := AT.out 0 p0 K.out.2.2.2.2
   simp only [Nat.pow_zero,Nat.div_one] at hxy cj
   obtain ⟨y0,y1,y2,-⟩ := node_cell (R := HRm ++ H1) tm (mm.sub (fun g => by simp only [cnt_append]; omega) (fun c hc => by simp only [List.mem_append] at hc ⊢; grind)) hdT hpz (x := x) (y := y) (by rw [hpw.2.1]; exact hxy.1) (by rw [hpw.2.2]; exact hxy.2)
   have hlf : leafD (midD l P x y b r 0) x y = pz.2.at_ x y := by
    obtain ⟨T,hT⟩ : ∃ T,midD l P x y b r 0 = T := ⟨_,rfl⟩
    rw [hT] at hpz ⊢
    cases T with
    | nil => simp at hpz
    | cons a T => simp at hpz; subst hpz; rfl
   rw [hpw.1,hpw.2.1] at y0 y1 y2
   obtain ⟨z,hz⟩ : ∃ z,pz.2.at_ x y = z := ⟨_,rfl⟩
   rw [hz] at y0 y1 y2 hlf
   have HLF := Lib.hid hlf
   clear hz
   have KE := Lib.hid (And.intro tm (And.intro bm mm))
   clear tm bm mm K1 hc1 hsh hdT hpz hpw hxy hlf y1
   simp only [Nat.sub_zero,List.drop_zero,Nat.pow_zero,Nat.div_one] at KE ⊢
   have d9 : ¬ (P.length : Int) < (P.length : Int) := by omega
   have d8 : decide ((0 : Int) < (P.length : Int)) = true := decide_eq_true hn0
   by_cases hsd : z.said = true
   ·rw [hsd] at y2
    obtain ⟨bb,hbb⟩ : ∃ bb,decide (z.n < b) = bb := ⟨_,rfl⟩
    have hbm : belowM z b = bb := by unfold belowM; rw [hsd,hbb]; rfl
    have HBM := Lib.hid hbm
    clear hbm hsd
    go_wp2_with fail
    go_ret
    exact ⟨by show Ending.returned (.bool _) = _; rw [HLF.out,HBM.out],HTm,KE.out.1,HRm,KE.out.2.1,Mv.sub KE.out.2.2 (fun g => by simp only [cnt_append]; omega) (fun c hc => by simp only [List.mem_append] at hc ⊢; grind)⟩
   ·rw [Bool.not_eq_true] at hsd
    rw [hsd] at y2
    have hbm : belowM z b = false := by unfold belowM; rw [hsd]; rfl
    have HBM := Lib.hid hbm
    clear hbm hsd
    go_wp2_with fail
    go_ret
    exact ⟨by show Ending.returned (.bool _) = _; rw [HLF.out,HBM.out],HTm,KE.out.1,HRm,KE.out.2.1,Mv.sub KE.out.2.2 (fun g => by simp only [cnt_append]; omega) (fun c hc => by simp only [List.mem_append] at hc ⊢; grind)⟩
  ·obtain ⟨m,rfl⟩ : ∃ m',m = m' + 1 := ⟨m - 1,by omega⟩
   obtain ⟨p,hp⟩ : ∃ p,P[m]? = some p := ⟨_,List.getElem?_eq_getElem (by omega)⟩
   obtain ⟨g1,eg1,hc1,-⟩ := K1.out.1.get mm.sat.right.right (by omega)
   obtain ⟨j,hj⟩ : ∃ j,P.length - (m + 1) = j := ⟨_,rfl⟩
   have hjn : j < P.length := by omega
   have cj := hc1 j (by omega)
   rw [List.getElem?_reverse (by rw [wayV_length]; exact hjn),wayV_length,show P.length - 1 - j = m from by omega,wayV_get P x y m p hp] at cj
   subst eg1
   have hT := midD_get l P x y b r m p hp
   have hst := midD_step l P x y b r m p hp
   have hdT : PDims (midD l P x y b r (m + 1)) := K.out.2.2.2.1.congr (midD_shape l P x y b r (m + 1))
   have hXY := AT.out m p hp
   obtain ⟨hlow,he8,heb⟩ := decP_inv l (P.drop (m + 1)) (x / 2 ^ (m + 1)) (y / 2 ^ (m + 1)) b r hr8
   have hbl : (decP l (P.drop (m + 1)) (x / 2 ^ (m + 1)) (y / 2 ^ (m + 1)) b r).rd.begun ≤ 80020000 := by
    have := Nat.mul_le_mul (show (P.drop (m + 1)).length ≤ 20 by simp; omega) (show b.toNat ≤ 1000 by omega)
    omega
   clear heb
   generalize hX : x / 2 ^ m = X at *
   generalize hY : y / 2 ^ m = Y at *
   have HX := Lib.hid (And.intro hX hY)
   clear hX hY
   generalize decP l (P.drop (m + 1)) (x / 2 ^ (m + 1)) (y / 2 ^ (m + 1)) b r = E at *
   have hTs : (midD l P x y b r (m + 1)).set m (p.1,p.2.set_ X Y (p.2.at_ X Y)) = midD l P x y b r (m + 1) := by
    rw [LevM.set_at _ _ _ (by rw [(K.out.2.2.2.1.get hp).1]; exact place_lt hXY.1 hXY.2)]
    obtain ⟨h1,h2⟩ := List.getElem?_eq_some_iff.1 hT
    conv => rhs; rw [← List.set_getElem_self h1]
    rw [h2]
   have S0 : StD W (HR ++ HT) wa tb rb l (midD l P x y b r (m + 1)) m p X Y (p.2.at_ X Y) E.rd H1 := ⟨HTm,HRm,by rw [hTs]; exact tm,bm,mm⟩
   simp only at hst
   generalize p.2.at_ X Y = z0 at *
   generalize midD l P x y b r (m + 1) = T at *
   have CE := fun w z r (h : StD W (HR ++ HT) w tb rb l T m p X Y z r H1) => h.cells hdT hT hXY.1 hXY.2
   have SE := fun w z r z' f v (h : StD W (HR ++ HT) w tb rb l T m p X Y z r H1) => h.set hdT hT hXY.1 hXY.2 z' f v
   generalize 3 * (Y * p.2.w + X) = kk at *
   have KS := Lib.hid S0
   obtain ⟨y0,y1,y2,fz⟩ := CE wa z0 _ S0
   have CE := Lib.hid CE
   have SE := Lib.hid SE
   have HS := Lib.hid hst
   have KM := Lib.hid (And.intro hm hj)
   obtain ⟨lo,hlo⟩ : ∃ lo,E.low = lo := ⟨_,rfl⟩
   obtain ⟨re,hre⟩ : ∃ re,E.rd = re := ⟨_,rfl⟩
   rw [hlo] at hlow HS ⊢
   rw [hre] at HS he8 hbl KS
   rw [hj]
   clear tm bm mm hc1 hT hst hdT hXY hTs S0 hp hlo hj hm hm0 hre
   go_upto_region 7 with fail
   all_goals
    obtain ⟨lw,hlw⟩ : ∃ lw,max z0.low lo = lw := ⟨_,rfl⟩
    have S1 := SE.out wa z0 _ { z0 with low := max z0.low lo } 1 (.int .i64 (max z0.low lo)) KS.out (.inr (.inl ⟨rfl,rfl,rfl⟩))
    have hmx : max z0.low lo = lo ∧ lo = lw ∨ max z0.low lo = z0.low ∧ z0.low = lw := by omega
    have hw5 : ∃ w5,w5 = wa.setCell ⟨p.1,kk + 1,none⟩ (.int .i64 (max z0.low lo)) := ⟨_,rfl⟩
    obtain ⟨w5,hw5⟩ := hw5
    rw [← hw5] at S1
    have EN : decNode l z0 lo b re = decL l (b - lw).toNat { z0 with low := lw } b re := by unfold decNode; rw [hlw]
    rw [hlw] at S1
    have hlb : 0 ≤ lw := by omega
    first
     | (have h5 : max z0.low lo = lo := by omega)
     | (have h5 : max z0.low lo = z0.low := by omega)
    rw [h5] at hw5
    simp only [← hw5]
    have EN := Lib.hid EN
    have KS1 := Lib.hid S1
    clear y0 y1 y2 fz hw5 S1 h5 hmx hlw cj
    go_loopg [31] (b - lw).toNat (fun g _ wx => ∃ (z : NodeM) (r' : RdM),(b - z.low).toNat = g ∧ decL l (b - lw).toNat { z0 with low := lw } b re = decL l g z b r' ∧ StD W (HR ++ HT) wx tb rb l T m p X Y z r' H1 ∧ 0 ≤ z.low ∧ r'.left ≤ 8 ∧ r'.begun + g ≤ re.begun + (b - lw).toNat)
    case atStart => exact ⟨_,re,rfl,rfl,KS1.out,hlb,he8,Nat.le_refl _⟩
    case round =>
     obtain ⟨wd,rfl⟩ : ∃ wd : World,wd = wr := ⟨_,rfl⟩
     obtain ⟨z,r',rfl,hE,hS,hz0,hr8',hrb'⟩ := hrel
     obtain ⟨y0,y1,y2,fz⟩ := CE.out wd z _ hS
     have KZ := Lib.hid (And.intro hE hS)
     have f0 := fz kk
     have f1 := fz (kk + 1)
     have f2 := fz (kk + 2)
     clear hE hS fz
     by_cases hlt : z.low < b
     ·by_cases hsd : z.said = true
      ·rw [hsd] at y2
       have EQ : Hid (decNode l z0 lo b re = (z,r')) := Lib.hid (by rw [EN.out,KZ.out.1,decL_said _ _ _ _ _ (fun e => by rw [hsd] at e; cases e.2)])
       have K9 := Lib.hid KZ.out.2
       clear hsd
       go_wp2_with fail
       --[r1
       go_roundg m
       case measure => omega
       case rel =>
        obtain ⟨HT9,HR9,q1,q2,q3⟩ := K9.out
        obtain ⟨s1,s2,s3⟩ := HS.out
        rw [EQ.out] at s1 s2 s3
        rw [← HX.out.1,← HX.out.2] at s1 s2 s3
        refine ⟨m,HT9,HR9,by have := KM.out.1; omega,rfl,?_,?_,by rw [← s1,HX.out.1,HX.out.2]; exact q1,by rw [s3]; exact q2,q3⟩
        ·have := KM.out; first | (congr 1; omega) | go_num
        ·rw [s2]
       --]r1
      ·rw [Bool.not_eq_true] at hsd
       rw [hsd] at y2
       by_cases hq : (rdBit l r').1 = 1
       ·have EQ : Hid (decNode l z0 lo b re = ({ z with said := true,n := z.low },(rdBit l r').2)) := Lib.hid (by rw [EN.out,KZ.out.1,decL_one _ _ _ _ _ ⟨hlt,hsd⟩ hq rfl])
        have B6 := Lib.hid (KZ.out.2.bit hll (by omega) hr8' 1 hq)
        have S6 : Hid (∀ w',StD W (HR ++ HT) w' tb rb l T m p X Y z (rdBit l r').2 H1 → StD W (HR ++ HT) ((w'.setCell ⟨p.1,kk + 2,none⟩ (.bool true)).setCell ⟨p.1,kk,none⟩ (.int .i64 z.low)) tb rb l T m p X Y { z with said := true,n := z.low } (rdBit l r').2 H1) := Lib.hid (fun w' h => by
         have s6 := SE.out w' z _ { z with said := true } 2 (.bool true) h (.inr (.inr ⟨rfl,rfl,rfl⟩))
         exact SE.out _ _ _ { z with said := true,n := z.low } 0 (.int .i64 z.low) s6 (.inl ⟨rfl,rfl,rfl⟩))
        clear hsd hq
        go_wp2_with (go_at_call 74; with_reducible refine B6.out.mono ?_; rintro e w7 ⟨rfl,S7⟩; obtain ⟨x0,x1,x2,fz⟩ := CE.out w7 _ _ S7; have f0 := fz kk; have f1 := fz (kk + 1); have f2 := fz (kk + 2); have K7 := Lib.hid S7; clear S7 fz)
        --[r2
        have K9 := Lib.hid (S6.out w7 K7.out)
        go_roundg m
        case measure => omega
        case rel =>
         obtain ⟨HT9,HR9,q1,q2,q3⟩ := K9.out
         obtain ⟨s1,s2,s3⟩ := HS.out
         rw [EQ.out] at s1 s2 s3
         rw [← HX.out.1,← HX.out.2] at s1 s2 s3
         refine ⟨m,HT9,HR9,by have := KM.out.1; omega,rfl,?_,?_,by rw [← s1,HX.out.1,HX.out.2]; exact q1,by rw [s3]; exact q2,q3⟩
         ·have := KM.out; first | (congr 1; omega) | go_num
         ·rw [s2]
        --]r2
       ·obtain ⟨hf,EZ⟩ := decL_zero l _ z b r' ⟨hlt,hsd⟩ hq rfl
        have EQ := Lib.hid EZ
        have hr2 := rdBit_inv l r' hr8'
        have hq0 : (rdBit l r').1 = 0 := by omega
        have B6 := Lib.hid (KZ.out.2.bit hll (by omega) hr8' 0 hq0)
        have S6 : Hid (∀ w',StD W (HR ++ HT) w' tb rb l T m p X Y z (rdBit l r').2 H1 → StD W (HR ++ HT) ((w'.setCell ⟨p.1,kk + 2,none⟩ (.bool false)).setCell ⟨p.1,kk + 1,none⟩ (.int .i64 (z.low + 1))) tb rb l T m p X Y { z with said := false,low := z.low + 1 } (rdBit l r').2 H1) := Lib.hid (fun w' h => by
         have s6 := SE.out w' z _ { z with said := false } 2 (.bool false) h (.inr (.inr ⟨rfl,rfl,rfl⟩))
         exact SE.out _ _ _ { z with said := false,low := z.low + 1 } 1 (.int .i64 (z.low + 1)) s6 (.inr (.inl ⟨rfl,rfl,rfl⟩)))
        have hr3 := hr2.2
        generalize hr4 : (rdBit l r').2 = r4 at *
        clear EZ hsd hq hq0 hr2 hr4
        go_wp2_with (go_at_call 74; with_reducible refine B6.out.mono ?_; rintro e w7 ⟨rfl,S7⟩; obtain ⟨x0,x1,x2,fz⟩ := CE.out w7 _ _ S7; have f0 := fz kk; have f1 := fz (kk + 1); have f2 := fz (kk + 2); have K7 := Lib.hid S7; clear S7 fz)
        --[r3
        have K8 := Lib.hid (S6.out w7 K7.out)
        go_roundg (b - (z.low + 1)).toNat
        case measure => omega
        case rel =>
         refine ⟨_,r4,rfl,?_,K8.out,by first | omega | (simp only; omega),hr3.1,by have := hr3.2; first | omega | (simp only; omega)⟩
         rw [KZ.out.1,EQ.out]
        --]r3
     ·have EQ : Hid (decNode l z0 lo b re = (z,r')) := Lib.hid (by rw [EN.out,KZ.out.1,decL_said _ _ _ _ _ (fun e => hlt e.1)])
      have K9 := Lib.hid KZ.out.2
      go_wp2_with fail
      --[r4
      go_roundg m
      case measure => omega
      case rel =>
       obtain ⟨HT9,HR9,q1,q2,q3⟩ := K9.out
       obtain ⟨s1,s2,s3⟩ := HS.out
       rw [EQ.out] at s1 s2 s3
       rw [← HX.out.1,← HX.out.2] at s1 s2 s3
       refine ⟨m,HT9,HR9,by have := KM.out.1; omega,rfl,?_,?_,by rw [← s1,HX.out.1,HX.out.2]; exact q1,by rw [s3]; exact q2,q3⟩
       ·have := KM.out; first | (congr 1; omega) | go_num
       ·rw [s2]
      --]r4
end
section
open Go.RowKit
def decT (l : List UInt8) : List LevM → Nat → Nat → Int → RdM → List LevM × Int × RdM
 | [],_,_,_,r => ([],0,r)
 | L :: R,x,y,b,r =>
  let q := decT l R (x / 2) (y / 2) b r
  let e := decNode l (L.at_ x y) q.2.1 b q.2.2
  (L.set_ x y e.1 :: q.1,e.1.low,e.2)
theorem decP_map (l : List UInt8) (P : List LvG) (x y : Nat) (b : Int) (r : RdM) : decT l (P.map (·.2)) x y b r = ((decP l P x y b r).t.map (·.2),(decP l P x y b r).low,(decP l P x y b r).rd) := by
 induction P generalizing x y with
 | nil => rfl
 | cons p R ih => simp only [List.map_cons,decT,decP,ih]
def leafT (T : List LevM) (x y : Nat) : NodeM := match T with
 | [] => ⟨0,0,false⟩
 | L :: _ => L.at_ x y
theorem leafT_map (P : List LvG) (x y : Nat) : leafT (P.map (·.2)) x y = leafD P x y := by cases P <;> rfl
def decAt (l : List UInt8) (T : List LevM) (k : Nat) (b : Int) (r : RdM) : List LevM × Bool × RdM :=
 match T with
 | [] => ([],false,r)
 | L :: R => ((decT l (L :: R) (k % L.w) (k / L.w) b r).1,belowM (leafT (decT l (L :: R) (k % L.w) (k / L.w) b r).1 (k % L.w) (k / L.w)) b,(decT l (L :: R) (k % L.w) (k / L.w) b r).2.2)
theorem decAt_map (l : List UInt8) (P : List LvG) (k : Nat) (b : Int) (r : RdM) (p0 : LvG) (h : P[0]? = some p0) : decAt l (P.map (·.2)) k b r = ((decP l P (k % p0.2.w) (k / p0.2.w) b r).t.map (·.2),belowM (leafD (decP l P (k % p0.2.w) (k / p0.2.w) b r).t (k % p0.2.w) (k / p0.2.w)) b,(decP l P (k % p0.2.w) (k / p0.2.w) b r).rd) := by
 cases P with
 | nil => simp at h
 | cons p R =>
  simp only [List.getElem?_cons_zero,Option.some.injEq] at h
  subst h
  show ((decT l ((p :: R).map (·.2)) (k % p.2.w) (k / p.2.w) b r).1,belowM (leafT (decT l ((p :: R).map (·.2)) (k % p.2.w) (k / p.2.w) b r).1 (k % p.2.w) (k / p.2.w)) b,(decT l ((p :: R).map (·.2)) (k % p.2.w) (k / p.2.w) b r).2.2) = _
  rw [decP_map,leafT_map]
theorem decT_inv (l : List UInt8) (T : List LevM) (x y : Nat) (b : Int) (r : RdM) (h : r.left ≤ 8) : (decT l T x y b r).1.length = T.length ∧ 0 ≤ (decT l T x y b r).2.1 ∧ (decT l T x y b r).2.2.left ≤ 8 ∧ (decT l T x y b r).2.2.begun ≤ r.begun + T.length * b.toNat := by
 induction T generalizing x y with
 | nil => exact ⟨rfl,Int.le_refl _,h,by simp [decT]⟩
 | cons q R ih =>
  obtain ⟨h0,h1,h2,h3⟩ := ih (x / 2) (y / 2)
  obtain ⟨k1,k2,k3⟩ := decL_inv l (b - max (q.at_ x y).low (decT l R (x / 2) (y / 2) b r).2.1).toNat { q.at_ x y with low := max (q.at_ x y).low (decT l R (x / 2) (y / 2) b r).2.1 } b (decT l R (x / 2) (y / 2) b r).2.2 h2
  simp only [decT,decNode]
  refine ⟨by simp [h0],?_,k1,?_⟩
  ·simp only at k3
   omega
  ·rw [List.length_cons,Nat.succ_mul,← Nat.add_assoc]
   exact Nat.le_trans k2 (Nat.add_le_add h3 (by omega))
theorem decAt_inv (l : List UInt8) (T : List LevM) (k : Nat) (b : Int) (r : RdM) (h : r.left ≤ 8) (hT : T.length ≤ 20) (hb : b ≤ 1000) : (decAt l T k b r).1.length = T.length ∧ (decAt l T k b r).2.2.left ≤ 8 ∧ (decAt l T k b r).2.2.begun ≤ r.begun + 20 * b.toNat := by
 cases T with
 | nil => exact ⟨rfl,h,by simp [decAt]⟩
 | cons L R =>
  obtain ⟨h0,h1,h2,h3⟩ := decT_inv l (L :: R) (k % L.w) (k / L.w) b r h
  exact ⟨h0,h2,Nat.le_trans h3 (Nat.add_le_add_left (Nat.mul_le_mul_right _ hT) _)⟩
section
variable {d : BandA} {b : BandG} {w0 w : World} {H0 X HR : List HB} {rb : Nat} {l : List UInt8} {r : RdM}
theorem band_decF (ok : b.ok d) (hw : ReadH rb l r HR) (m : Mv w0 H0 w (HR ++ (X ++ b.heap d))) (k : Nat) (hk : k < d.n) (bd : Int) (hb : bd ≤ 1000) (hll : l.length ≤ 90000000) (hrb : r.begun ≤ 80000000) (hr8 : r.left ≤ 8) :
  Calls Try.prog 94 #[.pointer (some ⟨b.ft,0,none⟩),.pointer (some ⟨rb,0,none⟩),.int .i64 (k : Int),.int .i64 bd] w fun e w2 => e = .returned (.bool (decAt l b.model.first k bd r).2.1) ∧
   ∃ (b' : BandG) (HR' : List HB),b'.ok d ∧ b'.model = { b.model with first := (decAt l b.model.first k bd r).1 } ∧ b'.G = b.G ∧ ReadH rb l (decAt l b.model.first k bd r).2.2 HR' ∧ Mv w0 H0 w2 (HR' ++ (X ++ b'.heap d)) := by
 have hkw : k < b.w * b.h := by rw [← ok.n]; exact hk
 obtain ⟨p0,h0,hw1,hh⟩ := ok.kf.2.2 (by omega)
 have m1 : Mv w0 H0 w ((HR ++ b.Hf) ++ (X ++ bandB b d :: statesB b d :: (b.Hz ++ b.G.flatMap StG.heap))) :=
  m.sub (fun g => by simp only [BandG.heap,cnt_append,cnt_cons]; omega) (fun c hc => by simp only [BandG.heap,List.mem_append,List.mem_cons] at hc ⊢; grind)
 have em := decAt_map l b.Pf k bd r p0 h0
 rw [show b.model.first = b.Pf.map (·.2) from rfl,em]
 refine (dec_tree b.ft rb l b.Pf r k bd p0 w b.Hf HR ok.tf hw m1.sat.left ok.kf.1 ok.kf.2.1 h0 (by rw [hw1,hh]; exact hkw) hb hll hrb hr8).mono ?_
 rintro e w2 ⟨rfl,H',HR',hT,hR,hM⟩
 have sh := decP_shape l b.Pf (k % p0.2.w) (k / p0.2.w) bd r
 refine ⟨rfl,{ b with Pf := (decP l b.Pf (k % p0.2.w) (k / p0.2.w) bd r).t,Hf := H' },HR',⟨hT,ok.tz,ok.kf.congr sh.1,ok.kz,ok.st,ok.len,ok.n,ok.pl,ok.hw,ok.hh⟩,rfl,rfl,hR,?_⟩
 exact (Mv.call m1 hM).sub (fun g => by simp only [BandG.heap,cnt_append,cnt_cons,bandB,statesB]; omega) (fun c hc => by simp only [BandG.heap,List.mem_append,List.mem_cons,bandB,statesB] at hc ⊢; grind)
theorem band_decZ (ok : b.ok d) (hw : ReadH rb l r HR) (m : Mv w0 H0 w (HR ++ (X ++ b.heap d))) (k : Nat) (hk : k < d.n) (bd : Int) (hb : bd ≤ 1000) (hll : l.length ≤ 90000000) (hrb : r.begun ≤ 80000000) (hr8 : r.left ≤ 8) :
  Calls Try.prog 94 #[.pointer (some ⟨b.zt,0,none⟩),.pointer (some ⟨rb,0,none⟩),.int .i64 (k : Int),.int .i64 bd] w fun e w2 => e = .returned (.bool (decAt l b.model.zeros k bd r).2.1) ∧
   ∃ (b' : BandG) (HR' : List HB),b'.ok d ∧ b'.model = { b.model with zeros := (decAt l b.model.zeros k bd r).1 } ∧ b'.G = b.G ∧ ReadH rb l (decAt l b.model.zeros k bd r).2.2 HR' ∧ Mv w0 H0 w2 (HR' ++ (X ++ b'.heap d)) := by
 have hkw : k < b.w * b.h := by rw [← ok.n]; exact hk
 obtain ⟨p0,h0,hw1,hh⟩ := ok.kz.2.2 (by omega)
 have m1 : Mv w0 H0 w ((HR ++ b.Hz) ++ (X ++ bandB b d :: statesB b d :: (b.Hf ++ b.G.flatMap StG.heap))) :=
  m.sub (fun g => by simp only [BandG.heap,cnt_append,cnt_cons]; omega) (fun c hc => by simp only [BandG.heap,List.mem_append,List.mem_cons] at hc ⊢; grind)
 have em := decAt_map l b.Pz k bd r p0 h0
 rw [show b.model.zeros = b.Pz.map (·.2) from rfl,em]
 refine (dec_tree b.zt rb l b.Pz r k bd p0 w b.Hz HR ok.tz hw m1.sat.left ok.kz.1 ok.kz.2.1 h0 (by rw [hw1,hh]; exact hkw) hb hll hrb hr8).mono ?_
 rintro e w2 ⟨rfl,H',HR',hT,hR,hM⟩
 have sh := decP_shape l b.Pz (k % p0.2.w) (k / p0.2.w) bd r
 refine ⟨rfl,{ b with Pz := (decP l b.Pz (k % p0.2.w) (k / p0.2.w) bd r).t,Hz := H' },HR',⟨ok.tf,hT,ok.kf,ok.kz.congr sh.1,ok.st,ok.len,ok.n,ok.pl,ok.hw,ok.hh⟩,rfl,rfl,hR,?_⟩
 exact (Mv.call m1 hM).sub (fun g => by simp only [BandG.heap,cnt_append,cnt_cons,bandB,statesB]; omega) (fun c hc => by simp only [BandG.heap,List.mem_append,List.mem_cons,bandB,statesB] at hc ⊢; grind)
end
theorem Mv.still {w w1 : World} {H R : List HB} (hs : Sat w H) (m : Mv w H w1 (R ++ H)) : Mv w [] w1 R := by
 refine ⟨m.sat.left,⟨m.only.os,m.only.tape,m.only.output,m.only.size,fun k hk _ => ?_⟩,fun g hg => ?_⟩
 ·by_cases hk2 : k ∈ keys H
  ·obtain ⟨b,hb,rfl⟩ := List.mem_map.1 hk2
   exact (m.sat.right.2 b hb).trans (hs.2 b hb).symm
  ·exact m.only.block k hk hk2
 ·rcases m.new g (by rw [keys_append]; exact List.mem_append_left _ hg) with h1 | h1
  ·exact (m.sat.apart hg h1).elim
  ·exact .inr h1
def knownM (z : NodeM) : Int := if z.said then z.n else -1
def knownAt (T : List LevM) (k : Nat) : Int := match T with
 | [] => -1
 | L :: R => knownM (leafT (L :: R) (k % L.w) (k / L.w))
theorem known_tree (tb : Nat) (P : List LvG) (k : Nat) (p0 : LvG) (W : World) (HT : List HB) (h : TreeH tb P HT) (hs : Sat W HT) (hl : P.length ≤ 20) (hd : PDims P) (h0 : P[0]? = some p0) (hk : k < p0.2.w * p0.2.h) :
  Calls Try.prog 109 #[.pointer (some ⟨tb,0,none⟩),.int .i64 (k : Int)] W fun e W' => e = .returned (.int .i64 (knownM (p0.2.at_ (k % p0.2.w) (k / p0.2.w)))) ∧ Mv W [] W' [] := by
 have WO := Lib.hid (way_ok tb P k p0 W HT h hs hl hd h0 hk)
 have hn : 0 < P.length := (List.getElem?_eq_some_iff.1 h0).1
 have q := hd.get h0
 have hx : k % p0.2.w < p0.2.w := Nat.mod_lt _ (by omega)
 have hy : k / p0.2.w < p0.2.h := Nat.div_lt_of_lt_mul hk
 generalize k % p0.2.w = x at *
 generalize k / p0.2.w = y at *
 have CE : Hid (∀ v1 H1 w1,RowH 166 1 v1 P.length (wayV P x y).reverse H1 → Mv W HT w1 (H1 ++ HT) → ∃ g c,v1 = .slice (some ⟨g,0,none⟩) P.length c ∧ w1.cell? ⟨g,P.length - 1,none⟩ = some (.pointer (some ⟨p0.1,3 * (y * p0.2.w + x),none⟩)) ∧
   w1.cell? ⟨p0.1,3 * (y * p0.2.w + x),none⟩ = some (.int .i64 (p0.2.at_ x y).n) ∧ w1.cell? ⟨p0.1,3 * (y * p0.2.w + x) + 2,none⟩ = some (.bool (p0.2.at_ x y).said) ∧ Mv W [] w1 []) := Lib.hid (by
  intro v1 H1 w1 r1 m1
  obtain ⟨a1,c1,rfl⟩ := r1.slice
  obtain ⟨g1,eg1,hc1,-⟩ := r1.get m1.sat.left hn
  have cj := hc1 (P.length - 1) (by omega)
  rw [List.getElem?_reverse (by rw [wayV_length]; omega),wayV_length,show P.length - 1 - (P.length - 1) = 0 from by omega,wayV_get P x y 0 p0 h0] at cj
  simp only [Nat.pow_zero,Nat.div_one] at cj
  obtain ⟨y0,y1,y2,-⟩ := node_cell (R := H1) h m1 hd h0 hx hy
  subst eg1
  exact ⟨g1,c1,rfl,cj,y0,y2,Mv.drop (A := H1) (H := []) (by rw [List.append_nil]; exact Mv.still hs m1)⟩)
 generalize p0.2.at_ x y = z at *
 generalize P.length = np at *
 have hn0 : (0 : Int) < (np : Int) := by omega
 have hP0 : ¬ (np : Int) = 0 := by omega
 clear h hs hd h0 hk q hx hy
 go_enter Try.func109,Try.ntmps109
 by_cases hsd : z.said = true
 ·have ek : knownM z = z.n := by unfold knownM; rw [if_pos hsd]
  rw [ek]
  rw [hsd] at CE
  clear hsd ek
  go_wp2_with (go_at_call 79; refine WO.out.mono ?_; rintro e w1 ⟨v1,H1,rfl,r1,m1⟩; obtain ⟨g1,c1,rfl,z1,z2,z3,m2⟩ := CE.out v1 H1 w1 r1 m1; have K1 := Lib.hid m2; clear r1 m1 m2)
  go_ret
  exact ⟨rfl,K1.out⟩
 ·have ek : knownM z = -1 := by unfold knownM; rw [if_neg hsd]
  rw [Bool.not_eq_true] at hsd
  rw [ek]
  rw [hsd] at CE
  clear hsd ek
  go_wp2_with (go_at_call 79; refine WO.out.mono ?_; rintro e w1 ⟨v1,H1,rfl,r1,m1⟩; obtain ⟨g1,c1,rfl,z1,z2,z3,m2⟩ := CE.out v1 H1 w1 r1 m1; have K1 := Lib.hid m2; clear r1 m1 m2)
  go_ret
  exact ⟨rfl,K1.out⟩
theorem band_known {d : BandA} {b : BandG} {w : World} (ok : b.ok d) (hs : Sat w (b.heap d)) (k : Nat) (hk : k < d.n) :
  Calls Try.prog 109 #[.pointer (some ⟨b.zt,0,none⟩),.int .i64 (k : Int)] w fun e w2 => e = .returned (.int .i64 (knownAt b.model.zeros k)) ∧ Mv w [] w2 [] := by
 have hkw : k < b.w * b.h := by rw [← ok.n]; exact hk
 obtain ⟨p0,h0,hw1,hh⟩ := ok.kz.2.2 (by omega)
 have s1 : Sat w b.Hz := hs.sub (fun g => by simp only [BandG.heap,cnt_append,cnt_cons]; omega) (fun c hc => by simp only [BandG.heap,List.mem_append,List.mem_cons] at hc ⊢; grind)
 have e : knownAt b.model.zeros k = knownM (p0.2.at_ (k % p0.2.w) (k / p0.2.w)) := by
  show knownAt (b.Pz.map (·.2)) k = _
  obtain ⟨P,hP⟩ : ∃ P,b.Pz = P := ⟨_,rfl⟩
  rw [hP] at h0 ⊢
  cases P with
  | nil => simp at h0
  | cons p R => simp at h0; subst h0; rfl
 rw [e]
 exact known_tree b.zt b.Pz k p0 w b.Hz ok.tz s1 ok.kz.1 ok.kz.2.1 h0 (by rw [hw1,hh]; exact hkw)
def toldM (l : List UInt8) (r : RdM) : Nat × RdM :=
 let a := rdBit l r
 if a.1 = 0 then (1,a.2) else
 let b := rdBit l a.2
 if b.1 = 0 then (2,b.2) else
 let c := rdG l 2 b.2
 if c.1 < 3 then (3 + c.1,c.2) else
 let d := rdG l 5 c.2
 if d.1 < 31 then (6 + d.1,d.2) else
 (37 + (rdG l 7 d.2).1,(rdG l 7 d.2).2)
theorem toldM_inv (l : List UInt8) (r : RdM) (h : r.left ≤ 8) : 1 ≤ (toldM l r).1 ∧ (toldM l r).1 ≤ 164 ∧ (toldM l r).2.left ≤ 8 ∧ (toldM l r).2.begun ≤ r.begun + 16 := by
 obtain ⟨a1,a2,a3⟩ := rdBit_inv l r h
 obtain ⟨b1,b2,b3⟩ := rdBit_inv l _ a2
 obtain ⟨c1,c2,c3⟩ := rdB_inv l _ b2 2
 obtain ⟨d1,d2,d3⟩ := rdB_inv l _ c2 5
 obtain ⟨e1,e2,e3⟩ := rdB_inv l _ d2 7
 have g2 : ∀ s,rdG l 2 s = rdB l 2 s := fun s => by unfold rdG; rw [if_pos (by omega)]; rfl
 have g5 : ∀ s,rdG l 5 s = rdB l 5 s := fun s => by unfold rdG; rw [if_pos (by omega)]; rfl
 have g7 : ∀ s,rdG l 7 s = rdB l 7 s := fun s => by unfold rdG; rw [if_pos (by omega)]; rfl
 unfold toldM
 simp only [g2,g5,g7]
 split
 ·exact ⟨by simp,by simp,a2,by simp only; omega⟩
 ·split
  ·exact ⟨by simp,by simp,b2,by simp only; omega⟩
  ·split
   ·exact ⟨by simp only; omega,by simp only; omega,c2,by simp only; omega⟩
   ·split
    ·exact ⟨by simp only; omega,by simp only; omega,d2,by simp only; omega⟩
    ·exact ⟨by simp only; omega,by simp only; omega,e2,by simp only; omega⟩
set_option maxHeartbeats 1000000 in
theorem told_any (rb : Nat) (l : List UInt8) (r : RdM) (w : World) (H : List HB) (h : ReadH rb l r H) (hs : Sat w H) (hl : l.length ≤ 90000000) (hb : r.begun ≤ 70000000) (h8 : r.left ≤ 8) :
  Calls Try.prog 96 #[.pointer (some ⟨rb,0,none⟩)] w fun e w' => e = .returned (.int .i64 ((toldM l r).1 : Int)) ∧ ∃ H',ReadH rb l (toldM l r).2 H' ∧ Mv w H w' H' := by
 have BT : Hid (∀ W H' r' q,ReadH rb l r' H' → Mv w H W H' → r'.begun ≤ 80000000 → r'.left ≤ 8 → (rdBit l r').1 = q → Calls Try.prog 74 #[.pointer (some ⟨rb,0,none⟩)] W fun e w' => e = .returned (.int .i64 (q : Int)) ∧ ∃ H'',ReadH rb l (rdBit l r').2 H'' ∧ Mv w H w' H'') := Lib.hid (by
  intro W H' r' q h1 m1 h2 h3 h4
  refine (bit_rd rb l r' W H' h1 m1.sat hl (by omega) h3).mono ?_
  rintro e w' ⟨rfl,H'',k1,k2⟩
  exact ⟨by rw [h4],H'',k1,m1.trans k2⟩)
 have GT : Hid (∀ W H' r' sz q,ReadH rb l r' H' → Mv w H W H' → r'.begun ≤ 80000000 → r'.left ≤ 8 → (rdG l sz r').1 = q → Calls Try.prog 97 #[.pointer (some ⟨rb,0,none⟩),.int .i64 sz] W fun e w' => e = .returned (.int .i64 (q : Int)) ∧ ∃ H'',ReadH rb l (rdG l sz r').2 H'' ∧ Mv w H w' H'') := Lib.hid (by
  intro W H' r' sz q h1 m1 h2 h3 h4
  refine (bits_rd rb l r' sz W H' h1 m1.sat hl (by omega) h3).mono ?_
  rintro e w' ⟨rfl,H'',k1,k2⟩
  exact ⟨by rw [h4],H'',k1,m1.trans k2⟩)
 obtain ⟨a1,a2,a3⟩ := rdBit_inv l r h8
 obtain ⟨r1,hr1⟩ : ∃ r1,(rdBit l r).2 = r1 := ⟨_,rfl⟩
 rw [hr1] at a2 a3
 obtain ⟨b1,b2,b3⟩ := rdBit_inv l r1 a2
 obtain ⟨r2,hr2⟩ : ∃ r2,(rdBit l r1).2 = r2 := ⟨_,rfl⟩
 rw [hr2] at b2 b3
 obtain ⟨c1,c2,c3⟩ := rdB_inv l r2 b2 2
 rw [← show rdG l 2 r2 = rdB l 2 r2 by unfold rdG; rw [if_pos (by omega)]; rfl] at c1 c2 c3
 obtain ⟨r3,hr3⟩ : ∃ r3,(rdG l 2 r2).2 = r3 := ⟨_,rfl⟩
 rw [hr3] at c2 c3
 obtain ⟨d1,d2,d3⟩ := rdB_inv l r3 c2 5
 rw [← show rdG l 5 r3 = rdB l 5 r3 by unfold rdG; rw [if_pos (by omega)]; rfl] at d1 d2 d3
 obtain ⟨r4,hr4⟩ : ∃ r4,(rdG l 5 r3).2 = r4 := ⟨_,rfl⟩
 rw [hr4] at d2 d3
 obtain ⟨e1,e2,e3⟩ := rdB_inv l r4 d2 7
 rw [← show rdG l 7 r4 = rdB l 7 r4 by unfold rdG; rw [if_pos (by omega)]; rfl] at e1 e2 e3
 obtain ⟨qa,hqa⟩ : ∃ q,(rdBit l r).1 = q := ⟨_,rfl⟩
 obtain ⟨qb,hqb⟩ : ∃ q,(rdBit l r1).1 = q := ⟨_,rfl⟩
 obtain ⟨qc,hqc⟩ : ∃ q,(rdG l 2 r2).1 = q := ⟨_,rfl⟩
 obtain ⟨qd,hqd⟩ : ∃ q,(rdG l 5 r3).1 = q := ⟨_,rfl⟩
 obtain ⟨qe,hqe⟩ : ∃ q,(rdG l 7 r4).1 = q := ⟨_,rfl⟩
 have K0 := Lib.hid (And.intro h (Mv.refl hs))
 unfold toldM
 simp only [hr1,hr2,hr3,hr4,hqa,hqb,hqc,hqd,hqe]
 rw [hqa] at a1
 rw [hqb] at b1
 rw [hqc] at c1
 rw [hqd] at d1
 rw [hqe] at e1
 clear h hs
 have CA := Lib.hid (BT.out w H r qa K0.out.1 K0.out.2 (by omega) h8 hqa)
 have CB := Lib.hid (fun W H' (h1 : ReadH rb l r1 H') m1 => BT.out W H' r1 qb h1 m1 (by omega) a2 hqb)
 have CC := Lib.hid (fun W H' (h1 : ReadH rb l r2 H') m1 => GT.out W H' r2 2 qc h1 m1 (by omega) b2 hqc)
 have CD := Lib.hid (fun W H' (h1 : ReadH rb l r3 H') m1 => GT.out W H' r3 5 qd h1 m1 (by omega) c2 hqd)
 have CE := Lib.hid (fun W H' (h1 : ReadH rb l r4 H') m1 => GT.out W H' r4 7 qe h1 m1 (by omega) d2 hqe)
 rw [hr1] at CA
 rw [hr2] at CB
 rw [hr3] at CC
 rw [hr4] at CD
 clear hr1 hr2 hr3 hr4 hqa hqb hqc hqd hqe a2 a3 b2 b3 c2 c3 d2 d3 e2 e3 BT GT K0
 by_cases ha : qa = 0
 ·subst ha
  go_enter Try.func96,Try.ntmps96
  go_wp2_with (go_at_call 74; (with_reducible refine CA.out.mono ?_); rintro e w1 ⟨rfl,H1,q1,m1⟩; have K1 := Lib.hid (And.intro q1 m1); clear q1 m1)
  go_ret
  exact ⟨rfl,H1,K1.out.1,K1.out.2⟩
 ·obtain rfl : qa = 1 := by omega
  rw [if_neg (by decide)]
  by_cases hb : qb = 0
  ·subst hb
   go_enter Try.func96,Try.ntmps96
   go_upto_region 3 with (go_at_call 74; (with_reducible refine CA.out.mono ?_); rintro e w1 ⟨rfl,H1,q1,m1⟩; have K1 := Lib.hid (And.intro q1 m1); clear q1 m1)
   go_wp2_with (go_at_call 74; (with_reducible refine (CB.out _ _ K1.out.1 K1.out.2).mono ?_); rintro e w2 ⟨rfl,H2,q1,m1⟩; have K2 := Lib.hid (And.intro q1 m1); clear q1 m1)
   go_ret
   exact ⟨rfl,H2,K2.out.1,K2.out.2⟩
  ·obtain rfl : qb = 1 := by omega
   rw [if_neg (by decide)]
   by_cases hc : qc < 3
   ·rw [if_pos hc]
    have hc' : (qc : Int) < 3 := by omega
    go_enter Try.func96,Try.ntmps96
    go_upto_region 3 with (go_at_call 74; (with_reducible refine CA.out.mono ?_); rintro e w1 ⟨rfl,H1,q1,m1⟩; have K1 := Lib.hid (And.intro q1 m1); clear q1 m1)
    go_upto_region 5 with (go_at_call 74; (with_reducible refine (CB.out _ _ K1.out.1 K1.out.2).mono ?_); rintro e w2 ⟨rfl,H2,q1,m1⟩; have K2 := Lib.hid (And.intro q1 m1); clear q1 m1)
    go_wp2_with (go_at_call 97; (with_reducible refine (CC.out _ _ K2.out.1 K2.out.2).mono ?_); rintro e w3 ⟨rfl,H3,q1,m1⟩; have K3 := Lib.hid (And.intro q1 m1); clear q1 m1)
    go_ret
    exact ⟨by push_cast; rfl,H3,K3.out.1,K3.out.2⟩
   ·rw [if_neg hc]
    have hc' : ¬ (qc : Int) < 3 := by omega
    by_cases hd : qd < 31
    ·rw [if_pos hd]
     have hd' : (qd : Int) < 31 := by omega
     go_enter Try.func96,Try.ntmps96
     go_upto_region 3 with (go_at_call 74; (with_reducible refine CA.out.mono ?_); rintro e w1 ⟨rfl,H1,q1,m1⟩; have K1 := Lib.hid (And.intro q1 m1); clear q1 m1)
     go_upto_region 5 with (go_at_call 74; (with_reducible refine (CB.out _ _ K1.out.1 K1.out.2).mono ?_); rintro e w2 ⟨rfl,H2,q1,m1⟩; have K2 := Lib.hid (And.intro q1 m1); clear q1 m1)
     go_upto_region 8 with (go_at_call 97; (with_reducible refine (CC.out _ _ K2.out.1 K2.out.2).mono ?_); rintro e w3 ⟨rfl,H3,q1,m1⟩; have K3 := Lib.hid (And.intro q1 m1); clear q1 m1)
     go_wp2_with (go_at_call 97; (with_reducible refine (CD.out _ _ K3.out.1 K3.out.2).mono ?_); rintro e w4 ⟨rfl,H4,q1,m1⟩; have K4 := Lib.hid (And.intro q1 m1); clear q1 m1)
     go_ret
     exact ⟨by push_cast; rfl,H4,K4.out.1,K4.out.2⟩
    ·rw [if_neg hd]
     have hd' : ¬ (qd : Int) < 31 := by omega
     go_enter Try.func96,Try.ntmps96
     go_upto_region 3 with (go_at_call 74; (with_reducible refine CA.out.mono ?_); rintro e w1 ⟨rfl,H1,q1,m1⟩; have K1 := Lib.hid (And.intro q1 m1); clear q1 m1)
     go_upto_region 5 with (go_at_call 74; (with_reducible refine (CB.out _ _ K1.out.1 K1.out.2).mono ?_); rintro e w2 ⟨rfl,H2,q1,m1⟩; have K2 := Lib.hid (And.intro q1 m1); clear q1 m1)
     go_upto_region 8 with (go_at_call 97; (with_reducible refine (CC.out _ _ K2.out.1 K2.out.2).mono ?_); rintro e w3 ⟨rfl,H3,q1,m1⟩; have K3 := Lib.hid (And.intro q1 m1); clear q1 m1)
     go_upto_region 11 with (go_at_call 97; (with_reducible refine (CD.out _ _ K3.out.1 K3.out.2).mono ?_); rintro e w4 ⟨rfl,H4,q1,m1⟩; have K4 := Lib.hid (And.intro q1 m1); clear q1 m1)
     go_wp2_with (go_at_call 97; (with_reducible refine (CE.out _ _ K4.out.1 K4.out.2).mono ?_); rintro e w5 ⟨rfl,H5,q1,m1⟩; have K5 := Lib.hid (And.intro q1 m1); clear q1 m1)
     go_ret
     exact ⟨by push_cast; rfl,H5,K5.out.1,K5.out.2⟩
end
section
open Go.RowKit
def hereM (l : List UInt8) (m : BandM) (s : StM) (k layer : Nat) (r : RdM) : BandM × Bool × RdM :=
 if s.ps.length = 0 then ({ m with first := (decAt l m.first k ((layer : Int) + 1) r).1 },(decAt l m.first k ((layer : Int) + 1) r).2.1,(decAt l m.first k ((layer : Int) + 1) r).2.2)
 else (m,decide ((rdBit l r).1 = 1),(rdBit l r).2)
set_option maxHeartbeats 4000000 in
theorem here_any (d : BandA) (b : BandG) (k rb layer : Nat) (st : StG) (l : List UInt8) (r : RdM) (HR : List HB) (w : World)
  (ok : b.ok d) (hkn : k < d.n) (hst : b.G[k]? = some st) (hr : ReadH rb l r HR) (hs : Sat w (HR ++ b.heap d)) (hly : layer ≤ 100) (hll : l.length ≤ 90000000) (hrb : r.begun ≤ 70000000) (hr8 : r.left ≤ 8) :
  Calls Try.prog 75 #[SpotX.v ⟨d,k⟩,.pointer (some ⟨rb,0,none⟩),.int .i64 (layer : Int)] w fun e w' => e = .returned (.bool (hereM l b.model st.m k layer r).2.1) ∧
   ∃ (b' : BandG) (HR' : List HB),b'.ok d ∧ b'.model = (hereM l b.model st.m k layer r).1 ∧ b'.G = b.G ∧ ReadH rb l (hereM l b.model st.m k layer r).2.2 HR' ∧ Mv w (HR ++ b.heap d) w' (HR' ++ b'.heap d) := by
 have hkk : k < 4096 := Nat.lt_of_lt_of_le hkn ok.small
 have hso := ok.st st (List.mem_of_getElem? hst)
 obtain ⟨pa,pc,hvp⟩ := hso.passes
 obtain ⟨g,hg⟩ : ∃ g,w.heap.size = g := ⟨_,rfl⟩
 obtain ⟨X,hX⟩ : ∃ X : List HB,[⟨g,67,SpotX.cells ⟨d,k⟩⟩] = X := ⟨_,rfl⟩
 obtain ⟨w1,hw1⟩ : ∃ w1,w1 = w.alloc (.cells (SpotX.cells ⟨d,k⟩) 67) := ⟨_,rfl⟩
 have M1 : Mv w (HR ++ b.heap d) w1 (HR ++ (X ++ b.heap d)) := by
  have m := (Mv.refl hs).alloc 67 (SpotX.cells ⟨d,k⟩)
  rw [hg,← hw1] at m
  rw [← hX]
  exact m.sub (fun g => by simp only [cnt_append,cnt_cons,cnt_nil]; omega) (fun c hc => by simp only [List.mem_append,List.mem_cons,List.not_mem_nil,or_false] at hc ⊢; grind)
 have hx : ⟨g,67,SpotX.cells ⟨d,k⟩⟩ ∈ X := by rw [← hX]; exact List.mem_cons_self
 obtain ⟨⟨x0,x1,x2⟩,⟨y1,y2,y3⟩,z0,z1,-,z3,z4,-⟩ := hd_cells M1 hx hst
 rw [hvp] at z1
 obtain ⟨np,hnp⟩ : ∃ np,st.m.ps.length = np := ⟨_,rfl⟩
 rw [hnp] at z1
 have DRP : Hid (∀ W A H1,Mv w (HR ++ b.heap d) W (A ++ (X ++ H1)) → Mv w (HR ++ b.heap d) W (A ++ H1)) := Lib.hid (fun W A H1 m => m.sub (fun g => by simp only [cnt_append]; omega) (fun c hc => by simp only [List.mem_append] at hc ⊢; grind))
 have EF := Lib.hid (band_decF ok hr M1.drew k hkn ((layer : Int) + 1) (by omega) hll (by omega) hr8)
 have EB := Lib.hid (bit_rd rb l r w1 HR hr M1.sat.left hll (by omega) hr8)
 have hq1 := (rdBit_inv l r hr8).1
 have KF := Lib.hid (And.intro ok M1)
 have HW1 := Lib.hid (show w1 = w.alloc (.cells #[.pointer (some ⟨d.lb,k * 5,none⟩),.pointer (some ⟨d.bb,0,none⟩),.int .i64 (k : Int)] 67) from hw1)
 unfold hereM SpotX.v
 rw [hnp]
 clear hw1 ok hst hx M1 hs hX hso hnp hvp
 by_cases h0 : np = 0
 ·rw [if_pos h0]
  subst h0
  generalize decAt l b.model.first k ((layer : Int) + 1) r = q at *
  go_enter Try.func75,Try.ntmps75
  go_upto_region 1 with fail
  rw [← HW1.out]
  go_upto_region 3 with fail
  go_still_tail 10,(by kernel_rfl)
  change wpList _ _ _ _ _ w1.drew
  go_wp2_with (go_at_call 94; (with_reducible refine EF.out.mono ?_); rintro e w2 ⟨rfl,b1,HR2,q1,q2,q3,q4,q5⟩; have K2 := Lib.hid (And.intro q1 (And.intro q2 (And.intro q3 (And.intro q4 (DRP.out _ _ _ q5))))); clear q1 q2 q3 q4 q5)
  go_ret
  exact ⟨rfl,b1,HR2,K2.out.1,K2.out.2.1,K2.out.2.2.1,K2.out.2.2.2.1,K2.out.2.2.2.2⟩
 ·rw [if_neg h0]
  have h1 : (0 : Int) < (np : Int) := by omega
  obtain ⟨r1,hr1⟩ : ∃ r1,(rdBit l r).2 = r1 := ⟨_,rfl⟩
  rw [hr1] at EB
  simp only [hr1]
  clear h0
  by_cases hq : (rdBit l r).1 = 1
  ·rw [hq] at EB
   rw [decide_eq_true hq]
   clear hq hq1 hr1
   go_enter Try.func75,Try.ntmps75
   go_upto_region 1 with fail
   rw [← HW1.out]
   go_wp2_with (go_at_call 74; (with_reducible refine EB.out.mono ?_); rintro e w2 ⟨rfl,HR2,q1,q2⟩; have K2 := Lib.hid (And.intro q1 (DRP.out _ _ _ (Mv.call KF.out.2 q2))); clear q1 q2)
   go_ret
   exact ⟨rfl,b,HR2,KF.out.1,rfl,rfl,K2.out.1,K2.out.2⟩
  ·have hq0 : (rdBit l r).1 = 0 := by omega
   rw [hq0] at EB
   rw [decide_eq_false hq]
   clear hq hq1 hr1 hq0
   go_enter Try.func75,Try.ntmps75
   go_upto_region 1 with fail
   rw [← HW1.out]
   go_wp2_with (go_at_call 74; (with_reducible refine EB.out.mono ?_); rintro e w2 ⟨rfl,HR2,q1,q2⟩; have K2 := Lib.hid (And.intro q1 (DRP.out _ _ _ (Mv.call KF.out.2 q2))); clear q1 q2)
   go_ret
   exact ⟨rfl,b,HR2,KF.out.1,rfl,rfl,K2.out.1,K2.out.2⟩
end
end Go.Proofs.Ytnpoakabheeoeaa
