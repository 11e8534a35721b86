/- Bands of blocks in memory. -/
import Derived.Test.YtnpoakabheeoeaaMsp
import Derived.Test.YtnpoakabheeoeaaTl
namespace Go.Proofs.Ytnpoakabheeoeaa
open Go.RowKit

/-! ### rows of records -/
theorem flat_length {α : Type} (f : α → List Value) (n : Nat) (hf : ∀ x, (f x).length = n) (l : List α) : (l.flatMap f).length = l.length * n := by
  induction l with
  | nil => simp
  | cons x l ih => rw [List.flatMap_cons, List.length_append, ih, hf, List.length_cons, Nat.succ_mul, Nat.add_comm]
theorem flat_get {α : Type} (f : α → List Value) (n : Nat) (hf : ∀ x, (f x).length = n) (l : List α) (i : Nat) (x : α) (h : l[i]? = some x) (j : Nat) (hj : j < n) : (l.flatMap f)[i * n + j]? = (f x)[j]? := by
  induction l generalizing i with
  | nil => simp at h
  | cons y l ih =>
    rw [List.flatMap_cons]
    cases i with
    | zero =>
      simp at h
      subst h
      rw [List.getElem?_append_left (by rw [hf]; omega)]
      simp
    | succ i =>
      rw [List.getElem?_append_right (by rw [hf, Nat.succ_mul]; omega), hf, show (i + 1) * n + j - n = i * n + j from by rw [Nat.succ_mul]; omega]
      exact ih i (by simpa using h)
theorem flat_set {α : Type} (f : α → List Value) (n : Nat) (hf : ∀ x, (f x).length = n) (l : List α) (i : Nat) (x y : α) (h : l[i]? = some x) (j : Nat) (hj : j < n) (v : Value) (hv : f y = (f x).set j v) : (l.flatMap f).set (i * n + j) v = (l.set i y).flatMap f := by
  induction l generalizing i with
  | nil => simp at h
  | cons z l ih =>
    cases i with
    | zero =>
      simp at h
      subst h
      rw [List.set_cons_zero, List.flatMap_cons, List.flatMap_cons, hv, List.set_append_left _ _ (by rw [hf]; omega)]
      simp
    | succ i =>
      rw [List.set_cons_succ, List.flatMap_cons, List.flatMap_cons, List.set_append_right _ _ (by rw [hf, Nat.succ_mul]; omega), hf, show (i + 1) * n + j - n = i * n + j from by rw [Nat.succ_mul]; omega, ih i (by simpa using h)]

/-! ### what is known of a block -/
structure StM where
  pl : Int
  ps : List (Int × Bool)
  bs : List UInt8
  said : Int
  lb : Int
def passV (p : Int × Bool) : List Value := [.int .i64 p.1, .bool p.2]
def passesV (l : List (Int × Bool)) : List Value := l.flatMap passV
theorem passV_length (p : Int × Bool) : (passV p).length = 2 := rfl
/-- with its rows in memory -/
structure StG where
  m : StM
  vp : Value
  vb : Value
  Hp : List HB
  Hb : List HB
/-- bounds -/
structure StM.Fits (m : StM) : Prop where
  np : m.ps.length ≤ 1000
  nb : m.bs.length ≤ 10000000
  pl : -1000 ≤ m.pl ∧ m.pl ≤ 1000
  said : 0 ≤ m.said ∧ m.said ≤ m.ps.length
  lb : 0 ≤ m.lb ∧ m.lb ≤ 1000
  ends : ∀ p ∈ m.ps, 0 ≤ p.1 ∧ p.1 ≤ 100000000
def StG.ok (s : StG) : Prop := RowH 108 2 s.vp s.m.ps.length (passesV s.m.ps) s.Hp ∧ RowB s.vb s.m.bs s.Hb ∧ s.m.Fits
def StG.v (s : StG) : List Value := [.int .i64 s.m.pl, s.vp, s.vb, .int .i64 s.m.said, .int .i64 s.m.lb]
def StG.heap (s : StG) : List HB := s.Hp ++ s.Hb
theorem StG.v_length (s : StG) : s.v.length = 5 := rfl

/-! ### a band -/
def TreeOk (P : List LvG) (w h : Nat) : Prop := P.length ≤ 20 ∧ PDims P ∧ (0 < w * h → ∃ p0, P[0]? = some p0 ∧ p0.2.w = w ∧ p0.2.h = h)
theorem TreeOk.congr {P Q : List LvG} {w h : Nat} (k : TreeOk P w h) (e : Q.map (fun p => shapeL p.2) = P.map (fun p => shapeL p.2)) : TreeOk Q w h := by
  have hl : Q.length = P.length := by simpa using congrArg List.length e
  refine ⟨by rw [hl]; exact k.1, k.2.1.congr e, fun h0 => ?_⟩
  obtain ⟨p0, h1, h2, h3⟩ := k.2.2 h0
  have h4 := congrArg (fun l => l[0]?) e
  simp only [List.getElem?_map, h1, Option.map_some] at h4
  obtain ⟨q, hq, h5⟩ := Option.map_eq_some_iff.1 h4
  simp only [shapeL, Prod.mk.injEq] at h5
  exact ⟨q, hq, by omega, by omega⟩
theorem dims_new : ∀ (k w h : Nat), 1 ≤ w → 1 ≤ h → w ≤ 2 ^ k → h ≤ 2 ^ k → Dims (treeNew (k + 1) w h) ∧ (∃ T, treeNew (k + 1) w h = levNew w h :: T) ∧ (treeNew (k + 1) w h).length ≤ k + 1 ∧ ∀ L ∈ treeNew (k + 1) w h, 1 ≤ L.w ∧ L.w ≤ w ∧ 1 ≤ L.h ∧ L.h ≤ h := by
  intro k
  induction k with
  | zero =>
    intro w h h1 h2 h3 h4
    obtain rfl : w = 1 := by omega
    obtain rfl : h = 1 := by omega
    refine ⟨?_, ⟨[], by simp [treeNew]⟩, by simp [treeNew], ?_⟩
    · simp [treeNew, Dims, levNew]
    · intro L hL
      simp [treeNew] at hL
      subst hL
      simp [levNew]
  | succ k ih =>
    intro w h h1 h2 h3 h4
    by_cases hb : w = 1 ∧ h = 1
    · obtain ⟨rfl, rfl⟩ := hb
      refine ⟨?_, ⟨[], by simp [treeNew]⟩, by simp [treeNew], ?_⟩
      · simp [treeNew, Dims, levNew]
      · intro L hL
        simp [treeNew] at hL
        subst hL
        simp [levNew]
    · have e : treeNew (k + 1 + 1) w h = levNew w h :: treeNew (k + 1) ((w + 1) / 2) ((h + 1) / 2) := by
        conv => lhs; unfold treeNew
        rw [if_neg hb]
      have hp : 2 ^ (k + 1) = 2 * 2 ^ k := by rw [Nat.pow_succ, Nat.mul_comm]
      obtain ⟨i1, ⟨T, i2⟩, i3, i4⟩ := ih ((w + 1) / 2) ((h + 1) / 2) (by omega) (by omega) (by omega) (by omega)
      rw [e]
      refine ⟨?_, ⟨_, rfl⟩, by simp; omega, ?_⟩
      · rw [i2] at i1 ⊢
        exact ⟨h1, h2, by simp [levNew], rfl, rfl, i1⟩
      · intro L hL
        rcases List.mem_cons.1 hL with rfl | hL
        · exact ⟨h1, Nat.le_refl _, h2, Nat.le_refl _⟩
        · have := i4 L hL
          omega
theorem treeOk_new (P : List LvG) (w h : Nat) (hw : w ≤ 64) (hh : h ≤ 64) (e : P.map (·.2) = treeOf w h) : TreeOk P w h := by
  by_cases hb : (w : Int) < 1 ∨ (h : Int) < 1 ∨ 64 < (w : Int) ∨ 64 < (h : Int)
  · have e0 : treeOf w h = [] := by unfold treeOf; rw [if_pos hb]
    rw [e0] at e
    obtain rfl := List.map_eq_nil_iff.1 e
    refine ⟨by simp, ⟨by simp [Dims], by simp⟩, fun h0 => ?_⟩
    have h1 := Nat.pos_of_mul_pos_left h0
    have h2 := Nat.pos_of_mul_pos_right h0
    omega
  · have e0 : treeOf w h = treeNew 7 w h := by unfold treeOf; rw [if_neg hb]; simp
    rw [e0] at e
    obtain ⟨i1, ⟨T, i2⟩, i3, i4⟩ := dims_new 6 w h (by omega) (by omega) (by omega) (by omega)
    rw [← e] at i1 i2 i3 i4
    refine ⟨by simp at i3; omega, ⟨i1, fun p hp => ?_⟩, fun _ => ?_⟩
    · have := i4 p.2 (List.mem_map.2 ⟨p, hp, rfl⟩)
      omega
    · have h4 := congrArg (fun l => l[0]?) i2
      simp only [List.getElem?_map, List.getElem?_cons_zero] at h4
      obtain ⟨q, hq, h5⟩ := Option.map_eq_some_iff.1 h4
      exact ⟨q, hq, by rw [h5]; rfl, by rw [h5]; rfl⟩

structure BandM where
  w : Nat
  h : Nat
  planes : Int
  first : List LevM
  zeros : List LevM
  set : Bool
  ss : List StM
structure BandG where
  ft : Nat
  zt : Nat
  Pf : List LvG
  Pz : List LvG
  Hf : List HB
  Hz : List HB
  G : List StG
  planes : Int
  set : Bool
  w : Nat
  h : Nat
def BandG.model (b : BandG) : BandM := ⟨b.w, b.h, b.planes, b.Pf.map (·.2), b.Pz.map (·.2), b.set, b.G.map (·.m)⟩
structure BandG.ok (b : BandG) (d : BandA) : Prop where
  tf : TreeH b.ft b.Pf b.Hf
  tz : TreeH b.zt b.Pz b.Hz
  kf : TreeOk b.Pf b.w b.h
  kz : TreeOk b.Pz b.w b.h
  st : ∀ s ∈ b.G, s.ok
  len : b.G.length = d.n
  n : d.n = b.w * b.h
  pl : -1000 ≤ b.planes ∧ b.planes ≤ 1000
  hw : b.w ≤ 64
  hh : b.h ≤ 64
def bandB (b : BandG) (d : BandA) : HB := ⟨d.bb, 85, #[.slice (some ⟨d.lb, 0, none⟩) d.n d.n, .int .i64 b.planes, .pointer (some ⟨b.ft, 0, none⟩), .pointer (some ⟨b.zt, 0, none⟩), .bool b.set]⟩
def statesB (b : BandG) (d : BandA) : HB := ⟨d.lb, 70, (b.G.flatMap StG.v).toArray⟩
def BandG.heap (b : BandG) (d : BandA) : List HB := bandB b d :: statesB b d :: (b.Hf ++ (b.Hz ++ b.G.flatMap StG.heap))
def BandR (d : BandA) (m : BandM) (H : List HB) : Prop := ∃ b : BandG, b.model = m ∧ b.ok d ∧ H = b.heap d

theorem BandG.ok.small {b : BandG} {d : BandA} (h : b.ok d) : d.n ≤ 4096 := by
  rw [h.n]
  exact Nat.mul_le_mul h.hw h.hh
theorem RowH.types {e : TypeId} {size n : Nat} {v : Value} {xs : List Value} {H : List HB} (h : RowH e size v n xs H) : ∀ b ∈ H, b.t = e := by
  rcases h.2 with ⟨-, -, rfl⟩ | ⟨g, cap, cur, -, -, -, -, -, rfl⟩
  · intro b hb; cases hb
  · intro b hb
    simp only [List.mem_singleton] at hb
    subst hb
    rfl
theorem TreeH.types {tb : Nat} {P : List LvG} {H : List HB} (h : TreeH tb P H) : ∀ b ∈ H, b.t = 139 ∨ b.t = 142 ∨ b.t = 145 := by
  obtain ⟨v, Hl, rfl, hr⟩ := h
  intro b hb
  rcases List.mem_cons.1 hb with rfl | hb
  · exact .inl rfl
  · rcases List.mem_append.1 hb with hb | hb
    · exact .inr (.inl (hr.types b hb))
    · obtain ⟨p, -, rfl⟩ := List.mem_map.1 hb
      exact .inr (.inr rfl)
/-- no spot among them -/
def NoSpot (H : List HB) : Prop := ∀ b ∈ H, b.t ≠ 67
theorem NoSpot.append {A B : List HB} (h : NoSpot A) (k : NoSpot B) : NoSpot (A ++ B) := fun b hb => (List.mem_append.1 hb).elim (h b) (k b)
theorem NoSpot.cons {a : HB} {B : List HB} (h : a.t ≠ 67) (k : NoSpot B) : NoSpot (a :: B) := fun b hb => by
  rcases List.mem_cons.1 hb with rfl | hb
  · exact h
  · exact k b hb
theorem NoSpot.nil : NoSpot [] := fun b hb => by cases hb
theorem NoSpot.tree {tb : Nat} {P : List LvG} {H : List HB} (h : TreeH tb P H) : NoSpot H := fun b hb => by
  rcases h.types b hb with e | e | e <;> rw [e] <;> decide
theorem NoSpot.row {e : TypeId} {size n : Nat} {v : Value} {xs : List Value} {H : List HB} (h : RowH e size v n xs H) (he : e ≠ 67) : NoSpot H := fun b hb => by rw [h.types b hb]; exact he
theorem NoSpot.states {G : List StG} (h : ∀ s ∈ G, s.ok) : NoSpot (G.flatMap StG.heap) := by
  intro b hb
  obtain ⟨s, hs, hb⟩ := List.mem_flatMap.1 hb
  have := h s hs
  exact (NoSpot.row this.1 (by decide)).append (NoSpot.row this.2.1 (by decide)) b hb
theorem BandR.noSpot {d : BandA} {m : BandM} {H : List HB} (h : BandR d m H) : NoSpot H := by
  obtain ⟨b, -, hk, rfl⟩ := h
  exact NoSpot.cons (show 85 ≠ 67 by decide) (NoSpot.cons (show 70 ≠ 67 by decide) ((NoSpot.tree hk.tf).append ((NoSpot.tree hk.tz).append (NoSpot.states hk.st))))

/-! ### some bands -/
def updM (M : Nat → BandM) (b : Nat) (m : BandM) : Nat → BandM := fun k => if k = b then m else M k
theorem updM_same (M : Nat → BandM) (b : Nat) (m : BandM) : updM M b m b = m := by simp [updM]
theorem updM_other (M : Nat → BandM) {b k : Nat} (m : BandM) (h : k ≠ b) : updM M b m k = M k := by simp [updM, h]
theorem updM_updM (M : Nat → BandM) (b : Nat) (m m' : BandM) : updM (updM M b m) b m' = updM M b m' := by funext k; simp only [updM]; split <;> rfl
theorem updM_self (M : Nat → BandM) (b : Nat) : updM M b (M b) = M := by funext k; simp only [updM]; split <;> simp_all
def BandsR : List BandA → (Nat → BandM) → List HB → Prop
  | [], _, H => H = []
  | d :: D, M, H => ∃ H1 H2, H = H1 ++ H2 ∧ BandR d (M d.bb) H1 ∧ BandsR D M H2
theorem BandR.key {d : BandA} {m : BandM} {H : List HB} (h : BandR d m H) : d.bb ∈ keys H := by
  obtain ⟨b, -, -, rfl⟩ := h
  simp [BandG.heap, bandB, keys]
theorem BandsR.noSpot {D : List BandA} {M : Nat → BandM} {H : List HB} (h : BandsR D M H) : NoSpot H := by
  induction D generalizing H with
  | nil => cases h; exact NoSpot.nil
  | cons d D ih =>
    obtain ⟨H1, H2, rfl, h1, h2⟩ := h
    exact h1.noSpot.append (ih h2)
theorem BandsR.key {D : List BandA} {M : Nat → BandM} {H : List HB} (h : BandsR D M H) {d : BandA} (hd : d ∈ D) : d.bb ∈ keys H := by
  induction D generalizing H with
  | nil => cases hd
  | cons e D ih =>
    obtain ⟨H1, H2, rfl, h1, h2⟩ := h
    rw [keys_append, List.mem_append]
    rcases List.mem_cons.1 hd with rfl | hd
    · exact .inl h1.key
    · exact .inr (ih h2 hd)
theorem BandsR.congr {D : List BandA} {M M' : Nat → BandM} {H : List HB} (h : BandsR D M H) (e : ∀ d ∈ D, M' d.bb = M d.bb) : BandsR D M' H := by
  induction D generalizing H with
  | nil => exact h
  | cons d D ih =>
    obtain ⟨H1, H2, rfl, h1, h2⟩ := h
    exact ⟨H1, H2, rfl, by rw [e d List.mem_cons_self]; exact h1, ih h2 fun x hx => e x (List.mem_cons_of_mem _ hx)⟩
/-- the same blocks, in another order -/
def Same (A B : List HB) : Prop := (∀ g, cnt g A = cnt g B) ∧ ∀ b, b ∈ A ↔ b ∈ B
theorem Same.mv {w0 w : World} {H0 A B : List HB} (h : Same A B) (m : Mv w0 H0 w A) : Mv w0 H0 w B := m.sub (fun g => by rw [h.1 g]; exact Nat.le_refl _) (fun b hb => (h.2 b).2 hb)
theorem Same.symm {A B : List HB} (h : Same A B) : Same B A := ⟨fun g => (h.1 g).symm, fun b => (h.2 b).symm⟩
/-- one band of some, and how it is laid back -/
theorem BandsR.split {D : List BandA} {M : Nat → BandM} {H : List HB} (h : BandsR D M H) (hk : (keys H).Nodup) {d : BandA} (hd : d ∈ D) : ∃ H1 R, BandR d (M d.bb) H1 ∧ Same H (H1 ++ R) ∧ ∀ m' H1', BandR d m' H1' → ∃ H', BandsR D (updM M d.bb m') H' ∧ Same (H1' ++ R) H' := by
  induction D generalizing H with
  | nil => cases hd
  | cons e D ih =>
    obtain ⟨H1, H2, rfl, h1, h2⟩ := h
    rw [keys_append] at hk
    obtain ⟨k1, k2, k3⟩ := List.nodup_append.1 hk
    by_cases he : e = d
    · subst he
      refine ⟨H1, H2, h1, ⟨fun _ => rfl, fun _ => Iff.rfl⟩, fun m' H1' h' => ⟨H1' ++ H2, ⟨H1', H2, rfl, by rw [updM_same]; exact h', h2.congr fun x hx => ?_⟩, ⟨fun _ => rfl, fun _ => Iff.rfl⟩⟩⟩
      exact updM_other _ _ fun e2 => k3 _ h1.key _ (h2.key hx) e2.symm
    · have hd' : d ∈ D := by
        rcases List.mem_cons.1 hd with e2 | e2
        · exact absurd e2.symm he
        · exact e2
      obtain ⟨A, R, i1, i2, i3⟩ := ih h2 k2 hd'
      refine ⟨A, H1 ++ R, i1, ⟨fun g => ?_, fun b => ?_⟩, fun m' H1' h' => ?_⟩
      · have := i2.1 g
        simp only [cnt_append] at this ⊢
        omega
      · have := i2.2 b
        simp only [List.mem_append] at this ⊢
        grind
      · obtain ⟨H', j1, j2⟩ := i3 m' H1' h'
        refine ⟨H1 ++ H', ⟨H1, H', rfl, ?_, j1⟩, ⟨fun g => ?_, fun b => ?_⟩⟩
        · rw [updM_other]
          · exact h1
          · intro e2
            exact k3 _ h1.key _ (h2.key hd') e2
        · have := j2.1 g
          simp only [cnt_append] at this ⊢
          omega
        · have := j2.2 b
          simp only [List.mem_append] at this ⊢
          grind
end Go.Proofs.Ytnpoakabheeoeaa
