/- SketchSums: the law's walk: another sample makes another sum; laid back, it is as it was. -/
import Derived.Test.YtblcplfgddgkoaaSkKnown
namespace Go.Proofs.Ytblcplfgddgkoaa
open Go.RowKit

/-- one component, its samples in a block of their own: what is read, and may be written -/
def OneRd (w : World) (b b' cap cap' : Nat) (c : CompD) : Prop :=
  1 ≤ cap ∧ cap ≤ maxLen ∧ c.data.length ≤ cap' ∧ cap' ≤ maxLen ∧ b ≠ b' ∧ w.cell? ⟨b, 0, none⟩ = some (.int .i64 c.depth) ∧ w.cell? ⟨b, 1, none⟩ = some (.bool c.signed) ∧
  w.cell? ⟨b, 2, none⟩ = some (.int .i64 c.dx) ∧ w.cell? ⟨b, 3, none⟩ = some (.int .i64 c.dy) ∧ w.cell? ⟨b, 4, none⟩ = some (.slice (some ⟨b', 0, none⟩) c.data.length cap') ∧
  (∀ k x, c.data[k]? = some x → w.cell? ⟨b', k, none⟩ = some (.int .i64 x)) ∧ (∀ k, w.frozen? ⟨b', k, none⟩ = false)

theorem OneRd.of_owns {w : World} {B : Nat} {v : Value} {c : CompD} (h : CompsOwn w B v [c]) (hne : c.data ≠ []) :
    ∃ b b' cap cap', v = .slice (some ⟨b, 0, none⟩) 1 cap ∧ B ≤ b ∧ B ≤ b' ∧ b < w.heap.size ∧ b' < w.heap.size ∧ OneRd w b b' cap cap' c := by
  obtain ⟨dvs, hl, ho, hd⟩ := h
  obtain ⟨dv, rfl⟩ : ∃ dv, dvs = [dv] := by
    match dvs, hl with
    | [dv], _ => exact ⟨dv, rfl⟩
  have hd0 := hd 0 c dv rfl rfl
  rcases ho.2 with ⟨_, h0⟩ | ⟨b, cap, cur, rfl, hb, hg, hn, hc, hs, ht⟩
  · simp at h0
  rcases hd0.2 with ⟨_, h0⟩ | ⟨b', cap', cur', rfl, hb', hg', hn', hc', hs', ht'⟩
  · exact absurd (List.eq_nil_of_length_eq_zero h0) hne
  have hbb : b ≠ b' := by
    rintro rfl
    rw [hg] at hg'
    simp at hg'
  have rd := Rd.of_owns ho
  obtain ⟨a1, p1, e1, _, _, r3⟩ := rd
  simp only [Value.slice.injEq] at e1
  obtain ⟨rfl, _, rfl⟩ := e1
  have rdd := Rd.of_owns hd0
  obtain ⟨a2, p2, e2, _, _, s3⟩ := rdd
  simp only [Value.slice.injEq] at e2
  obtain ⟨rfl, _, rfl⟩ := e2
  have get : ∀ j u, (compFlat [c] [.slice (some ⟨b', 0, none⟩) c.data.length cap'])[j]? = some u → w.cell? ⟨b, j, none⟩ = some u := fun j u hu => by
    obtain ⟨b2, o2, e3, h3⟩ := r3 j u hu
    simp only [Option.some.injEq, Addr.mk.injEq, and_true] at e3
    obtain ⟨rfl, rfl⟩ := e3
    simpa using h3
  have getd : ∀ j u, (c.data.map (Value.int .i64))[j]? = some u → w.cell? ⟨b', j, none⟩ = some u := fun j u hu => by
    obtain ⟨b2, o2, e3, h3⟩ := s3 j u hu
    simp only [Option.some.injEq, Addr.mk.injEq, and_true] at e3
    obtain ⟨rfl, rfl⟩ := e3
    simpa using h3
  refine ⟨b, b', cap, cap', rfl, hb, hb', (Array.getElem?_eq_some_iff.1 hg).1, (Array.getElem?_eq_some_iff.1 hg').1, hn, hc, hn', hc', hbb, get 0 _ rfl, get 1 _ rfl, get 2 _ rfl, get 3 _ rfl, get 4 _ rfl, fun k x hx => getd k _ (by simp [hx]), fun k => ?_⟩
  simp [World.frozen?, hg']

theorem OneRd.rd {w : World} {b b' cap cap' : Nat} {c : CompD} (h : OneRd w b b' cap cap' c) : CompsRd w (.slice (some ⟨b, 0, none⟩) 1 cap) [c] := by
  obtain ⟨h1, h2, h3, h4, h5, c0, c1, c2, c3, c4, hd, _⟩ := h
  refine ⟨_, cap, rfl, h1, h2, fun k c' hk => ?_⟩
  match k, hk with
  | 0, hk =>
    simp at hk
    subst hk
    exact ⟨b, 0, _, rfl, c0, c1, c2, c3, c4, _, cap', rfl, h3, h4, fun k x hx => ⟨b', 0, rfl, by rw [Nat.zero_add]; exact hd k x hx⟩⟩

theorem OneRd.keep {w w' : World} {b b' cap cap' : Nat} {c : CompD} (h : OneRd w b b' cap cap' c) (hb : Below w.heap.size w w') (hb1 : b < w.heap.size) (hb2 : b' < w.heap.size) : OneRd w' b b' cap cap' c := by
  obtain ⟨h1, h2, h3, h4, h5, c0, c1, c2, c3, c4, hd, hf⟩ := h
  have e : ∀ j u, w.cell? ⟨b, j, none⟩ = some u → w'.cell? ⟨b, j, none⟩ = some u := fun j u hu => (hb.cell (p := ⟨b, j, none⟩) hb1).trans hu
  exact ⟨h1, h2, h3, h4, h5, e _ _ c0, e _ _ c1, e _ _ c2, e _ _ c3, e _ _ c4, fun k x hx => (hb.cell (p := ⟨b', k, none⟩) hb2).trans (hd k x hx), fun k => (hb.frozen (p := ⟨b', k, none⟩) hb2).trans (hf k)⟩

theorem OneRd.set {w : World} {b b' cap cap' : Nat} {c : CompD} (h : OneRd w b b' cap cap' c) (k : Nat) (x : Int) (hk : k < c.data.length) :
    OneRd (w.setCell ⟨b', k, none⟩ (.int .i64 x)) b b' cap cap' { c with data := c.data.set k x } := by
  obtain ⟨h1, h2, h3, h4, h5, c0, c1, c2, c3, c4, hd, hf⟩ := h
  have ne : ∀ j : Nat, (⟨b', k, none⟩ : Addr) ≠ ⟨b, j, none⟩ := fun j e => h5 (Addr.mk.inj e).1.symm
  have e : ∀ (j : Nat) u, w.cell? ⟨b, j, none⟩ = some u → (w.setCell ⟨b', k, none⟩ (.int .i64 x)).cell? ⟨b, j, none⟩ = some u := fun j u hu => by rw [World.cell?_setCell_other (h := ne j)]; exact hu
  refine ⟨h1, h2, by simpa using h3, h4, h5, e _ _ c0, e _ _ c1, e _ _ c2, e _ _ c3, by simpa using e _ _ c4, fun j y hy => ?_, fun j => by rw [World.frozen?_setCell]; exact hf j⟩
  simp only [List.getElem?_set] at hy
  by_cases hkj : k = j
  · subst hkj
    rw [if_pos rfl, if_pos hk] at hy
    simp only [Option.some.injEq] at hy
    subst hy
    exact World.cell?_setCell_same _ _ _ (hd k _ (List.getElem?_eq_getElem hk))
  · rw [if_neg hkj] at hy
    rw [World.cell?_setCell_other (h := fun e => hkj (Addr.mk.inj e).2.1)]
    exact hd j y hy

theorem step_inj (n m x : Int) (h0 : 0 ≤ n) (h1 : n < 1000003) (h2 : 0 ≤ m) (h3 : m < 1000003) (h : (n * 31 + x) % 1000003 = (m * 31 + x) % 1000003) : n = m := by omega

theorem sumRow_inj (xs : List Int) : ∀ n m : Int, 0 ≤ n → n < 1000003 → 0 ≤ m → m < 1000003 → n ≠ m → sumRow n xs ≠ sumRow m xs := by
  induction xs with
  | nil => intro n m _ _ _ _ h; exact h
  | cons x xs ih =>
    intro n m h0 h1 h2 h3 h
    exact ih _ _ (Int.emod_nonneg _ (by decide)) (Int.emod_lt_of_pos _ (by decide)) (Int.emod_nonneg _ (by decide)) (Int.emod_lt_of_pos _ (by decide)) (fun e => h (step_inj n m x h0 h1 h2 h3 e))

theorem sumRow_set (xs : List Int) : ∀ (n : Int) (k : Nat) (x y : Int), xs[k]? = some x → x ≠ y → 0 ≤ x → x < 256 → 0 ≤ y → y < 256 → sumRow n (xs.set k y) ≠ sumRow n xs := by
  induction xs with
  | nil => intro n k x y h; simp at h
  | cons a xs ih =>
    intro n k x y h hne h0 h1 h2 h3
    cases k with
    | zero =>
      simp at h
      subst h
      rw [List.set_cons_zero]
      show sumRow ((n * 31 + y) % 1000003) xs ≠ sumRow ((n * 31 + a) % 1000003) xs
      exact sumRow_inj xs _ _ (Int.emod_nonneg _ (by decide)) (Int.emod_lt_of_pos _ (by decide)) (Int.emod_nonneg _ (by decide)) (Int.emod_lt_of_pos _ (by decide)) (by omega)
    | succ k =>
      rw [List.set_cons_succ]
      exact ih _ k x y (by simpa using h) hne h0 h1 h2 h3

theorem set_back (xs : List Int) (k : Nat) (x y : Int) (h : xs[k]? = some x) : (xs.set k y).set k x = xs := by
  rw [List.set_set]
  apply List.ext_getElem?
  intro i
  rw [List.getElem?_set]
  by_cases e : k = i
  · subst e
    rw [if_pos rfl, if_pos (List.getElem?_eq_some_iff.1 h).1, h]
  · rw [if_neg e]

/-- the picture's variable, as it lies in block g -/
def VarAt (w : World) (g : Nat) (X Y : Int) (b cap : Nat) : Prop :=
  w.cell? ⟨g, 0, none⟩ = some (.int .i64 X) ∧ w.cell? ⟨g, 1, none⟩ = some (.int .i64 Y) ∧ w.cell? ⟨g, 2, none⟩ = some (.int .i64 0) ∧ w.cell? ⟨g, 3, none⟩ = some (.int .i64 0) ∧
  w.cell? ⟨g, 4, none⟩ = some (.slice (some ⟨b, 0, none⟩) 1 cap)

theorem VarAt.keep {w w' : World} {g : Nat} {X Y : Int} {b cap : Nat} (h : VarAt w g X Y b cap) (hb : Below w.heap.size w w') : VarAt w' g X Y b cap := by
  obtain ⟨h0, h1, h2, h3, h4⟩ := h
  have hg := World.block_lt_of_cell? w _ h0
  have e : ∀ j u, w.cell? ⟨g, j, none⟩ = some u → w'.cell? ⟨g, j, none⟩ = some u := fun j u hu => (hb.cell (p := ⟨g, j, none⟩) hg).trans hu
  exact ⟨e _ _ h0, e _ _ h1, e _ _ h2, e _ _ h3, e _ _ h4⟩

theorem VarAt.set {w : World} {g : Nat} {X Y : Int} {b cap : Nat} (h : VarAt w g X Y b cap) {b' : Nat} (hne : b' ≠ g) (k : Nat) (u : Value) : VarAt (w.setCell ⟨b', k, none⟩ u) g X Y b cap := by
  obtain ⟨h0, h1, h2, h3, h4⟩ := h
  have e : ∀ (j : Nat) v, w.cell? ⟨g, j, none⟩ = some v → (w.setCell ⟨b', k, none⟩ u).cell? ⟨g, j, none⟩ = some v := fun j v hv => by
    rw [World.cell?_setCell_other (h := fun e => hne (Addr.mk.inj e).1)]; exact hv
  exact ⟨e _ _ h0, e _ _ h1, e _ _ h2, e _ _ h3, e _ _ h4⟩

set_option maxRecDepth 100000 in
set_option maxHeartbeats 4000000 in
theorem sums_walk (x y at_ by_ : Int) (w : World) :
    Calls Try.prog 5 #[.int .i64 x, .int .i64 y, .int .i64 at_, .int .i64 by_] w fun e w' => e = .returned (.bool true) ∧ Below w.heap.size w w' := by
  go_enter Try.func5, Try.ntmps5
  go_wp2_with (first
    | (go_at_call 8; refine (known_any _).mono ?_; rintro e w1 ⟨rfl, hb1⟩)
    | (go_at_call 14; refine (lwithin _ _ _ (by omega) (by omega)).mono ?_; rintro e w2 ⟨rfl, rfl⟩))
  obtain ⟨X, eX⟩ : ∃ X : Nat, (X : Int) = 1 + x % 12 := ⟨(1 + x % 12).toNat, by omega⟩
  obtain ⟨Y, eY⟩ : ∃ Y : Nat, (Y : Int) = 1 + y % 12 := ⟨(1 + y % 12).toNat, by omega⟩
  have x1 : 1 ≤ X := by omega
  have x2 : X ≤ 12 := by omega
  have y1 : 1 ≤ Y := by omega
  have y2 : Y ≤ 12 := by omega
  rw [← eX, ← eY]
  clear eX eY
  refine (draw_ok X Y 0 0 1 8 3 _ (by omega) (by omega) (by omega) (by omega) (by omega) (by omega) (by omega) (by omega) (by omega) (by omega) (by omega) (by omega)).mono ?_
  rintro e w2 ⟨v, rfl, ho, hb2⟩
  have hcs : drawCs X Y 0 0 8 3 (Int.toNat 1) = [{ depth := 8, signed := false, dx := 1, dy := 1, data := dataD 3 8 0 X Y }] := by
    simp [drawCs, drawC, stepOf, wid, byI]
  have hlen : (dataD 3 8 0 X Y).length = X * Y := by have := dataTo_length 3 8 0 X Y 0; rw [dataTo_zero] at this; simpa using this
  have hpix : ∀ (k : Nat) (z : Int), (dataD 3 8 0 X Y)[k]? = some z → 0 ≤ z ∧ z < 256 := by
    intro k z hz
    have hm := List.mem_of_getElem? hz
    unfold dataD at hm
    simp only [List.mem_flatMap, List.mem_map] at hm
    obtain ⟨j, _, i, _, rfl⟩ := hm
    unfold pix
    exact ⟨Int.emod_nonneg _ (by decide), Int.emod_lt_of_pos _ (by decide)⟩
  rw [hcs] at ho
  clear hcs
  generalize dataD 3 8 0 X Y = xs at *
  have hXY : X * Y ≤ 144 := Nat.mul_le_mul x2 y2
  have hX1 : 1 ≤ X * Y := Nat.mul_le_mul x1 y1
  rw [← hlen] at hXY hX1
  clear hlen x1 x2 y1 y2
  obtain ⟨b, b', cap, cap', rfl, hB, hB', q1, q2, hone⟩ := OneRd.of_owns ho (by rintro rfl; simp at hX1)
  clear ho
  have hs1 := hb1.size
  have hs2 := hb2.size
  have HB := hb1.trans (hb2.mono hs1)
  clear hb1 hb2
  have HP := Lib.hid hpix
  clear hpix
  go_wp2_with fail
  have HBA : Below w.heap.size w (w2.alloc (.cells #[.int .i64 X, .int .i64 Y, .int .i64 0, .int .i64 0, .slice (some ⟨b, 0, none⟩) 1 cap] 25)) := HB.alloc (by omega) _
  have HVA : VarAt (w2.alloc (.cells #[.int .i64 X, .int .i64 Y, .int .i64 0, .int .i64 0, .slice (some ⟨b, 0, none⟩) 1 cap] 25)) w2.heap.size X Y b cap := ⟨by simp, by simp, by simp, by simp, by simp⟩
  have HOA := hone.keep ((Below.refl w2.heap.size w2).alloc (Nat.le_refl _) (.cells #[.int .i64 X, .int .i64 Y, .int .i64 0, .int .i64 0, .slice (some ⟨b, 0, none⟩) 1 cap] 25)) q1 q2
  have hsA : w2.heap.size < (w2.alloc (.cells #[.int .i64 X, .int .i64 Y, .int .i64 0, .int .i64 0, .slice (some ⟨b, 0, none⟩) 1 cap] 25)).heap.size := by simp
  generalize w2.alloc (.cells #[.int .i64 X, .int .i64 Y, .int .i64 0, .int .i64 0, .slice (some ⟨b, 0, none⟩) 1 cap] 25) = wA at *
  have hbg : b' ≠ w2.heap.size := by omega
  generalize w2.heap.size = g at *
  clear hone HB hs2
  refine (sum_any X Y 0 0 _ [_] wA (OneRd.rd HOA)).mono ?_
  rintro e w3 ⟨he, hb3⟩
  obtain ⟨s0, hs0⟩ : ∃ s0, s0 = sumD 7 [{ depth := 8, signed := false, dx := 1, dy := 1, data := xs }] := ⟨_, rfl⟩
  rw [← hs0] at he
  subst he
  have HS0 := Lib.hid hs0
  clear hs0
  have HB3 := HBA.trans (hb3.mono HBA.size)
  have HV3 := HVA.keep hb3
  have HO3 := HOA.keep hb3 (by omega) (by omega)
  have hs3 := hb3.size
  have hT := Lib.hid HO3
  obtain ⟨v0, v1, v2, v3, v4⟩ := HV3
  obtain ⟨_, _, l1, l2, _, _, _, _, _, o4, od, of_⟩ := HO3
  clear HBA HVA HOA hb3
  unfold maxLen at l2
  go_wp2_with fail
  refine (lwithin at_ xs.length w3 (by omega) (by omega)).mono ?_
  rintro e w4 ⟨he, rfl⟩
  obtain ⟨k, hk⟩ : ∃ k : Nat, (k : Int) = at_ % xs.length := ⟨(at_ % xs.length).toNat, by have := Int.emod_nonneg at_ (b := (xs.length : Int)) (by omega); omega⟩
  have hkl : k < xs.length := by have := Int.emod_lt_of_pos at_ (b := (xs.length : Int)) (by omega); omega
  rw [← hk] at he
  clear hk
  subst he
  obtain ⟨z, hz⟩ : ∃ z, xs[k]? = some z := ⟨_, List.getElem?_eq_getElem hkl⟩
  have hcz := od k z hz
  have hfz := of_ k
  obtain ⟨z1, z2⟩ := HP.out k z hz
  have HZ := Lib.hid hz
  clear od of_ hz
  go_wp2_with (go_at_call 14; refine (lwithin _ _ _ (by omega) (by omega)).mono ?_; rintro e w4 ⟨rfl, rfl⟩)
  have hnew : ∃ u, u = (z + 1 + by_ % 255) % 256 ∧ 0 ≤ u ∧ u < 256 ∧ z ≠ u := ⟨_, rfl, by omega, by omega, by omega⟩
  obtain ⟨u, eu, u1, u2, u3⟩ := hnew
  rw [← eu]
  clear eu
  have HB5 : Below w.heap.size w (w3.setCell ⟨b', k, none⟩ (.int .i64 u)) := HB3.setCell (by show w.heap.size ≤ b'; omega) _
  have HV5 := VarAt.set ⟨v0, v1, v2, v3, v4⟩ hbg k (.int .i64 u)
  have HO5 := OneRd.set hT.out k u hkl
  have hs5 : (w3.setCell ⟨b', k, none⟩ (.int .i64 u)).heap.size = w3.heap.size := by simp [World.setCell]
  generalize w3.setCell ⟨b', k, none⟩ (.int .i64 u) = w5 at *
  clear v0 v1 v2 v3 v4 o4 hcz hfz hT HB3
  refine (sum_any X Y 0 0 _ [_] w5 (OneRd.rd HO5)).mono ?_
  rintro e w6 ⟨he, hb6⟩
  obtain ⟨s1, hs1'⟩ : ∃ s1, s1 = sumD 7 [{ depth := 8, signed := false, dx := 1, dy := 1, data := xs.set k u }] := ⟨_, rfl⟩
  have hne : (s1 != s0) = true := by
    rw [bne_iff_ne, hs1', HS0.out]
    exact sumRow_set xs 7 k z u HZ.out u3 z1 z2 u1 u2
  rw [← hs1'] at he
  subst he
  clear hs1'
  have HB6 := HB5.trans (hb6.mono HB5.size)
  have HV6 := HV5.keep hb6
  have HO6 := HO5.keep hb6 (by omega) (by omega)
  have hs6 := hb6.size
  have hT := Lib.hid HO6
  obtain ⟨v0, v1, v2, v3, v4⟩ := HV6
  obtain ⟨_, _, _, _, _, _, _, _, _, o4, od, of_⟩ := HO6
  have hcz := od k u (by simp [hkl])
  have hfz := of_ k
  clear HB5 HV5 HO5 hb6 od of_
  simp only [List.length_set] at o4
  go_wp2_with fail
  have HB7 : Below w.heap.size w (w6.setCell ⟨b', k, none⟩ (.int .i64 z)) := HB6.setCell (by show w.heap.size ≤ b'; omega) _
  have HO7 := OneRd.set hT.out k z (by simpa using hkl)
  simp only [set_back xs k z u HZ.out] at HO7
  refine (sum_any X Y 0 0 _ [_] _ (OneRd.rd HO7)).mono ?_
  rintro e w8 ⟨he, hb8⟩
  rw [← HS0.out] at he
  subst he
  go_wp2_with fail
  go_ret
  exact ⟨rfl, HB7.trans (hb8.mono HB7.size)⟩
end Go.Proofs.Ytblcplfgddgkoaa
