/- The laws' Form: Make. -/
import Derived.Test.YtlhlhlabnjfhcaaFmN
namespace Go.Proofs.Ytlhlhlabnjfhcaa
open Go.RowKit

theorem owns_grown {w w' : World} {B : Nat} {e : TypeId} {size : Nat} {v : Value} {n : Nat} {xs : List Value} {g : Nat} (h : w.ownsRow B e size v n xs) (hg : w.grownBy w' (some g)) (hgB : g < B) : w'.ownsRow B e size v n xs :=
  World.ownsRow.kept h hg (.inr fun he => by have := (h.lt _ he).1; omega)
theorem CompsOwn.grown {w w' : World} {B g : Nat} {v : Value} {cs : List CompD} (h : CompsOwn w B v cs) (hg : w.grownBy w' (some g)) (hgB : g < B) : CompsOwn w' B v cs := by
  obtain ⟨dvs, h1, h2, h3⟩ := h
  exact ⟨dvs, h1, owns_grown h2 hg hgB, fun i c dv hc hd => owns_grown (h3 i c dv hc hd) hg hgB⟩
theorem CompsOwn.base {w : World} {B B' : Nat} {v : Value} {cs : List CompD} (h : CompsOwn w B v cs) (hB : B' ≤ B) : CompsOwn w B' v cs := by
  obtain ⟨dvs, h1, h2, h3⟩ := h
  exact ⟨dvs, h1, owns_base h2 hB, fun i c dv hc hd => owns_base (h3 i c dv hc hd) hB⟩

/-- what the laws' Form makes: a valid picture, and params -/
structure MadeOk (f : FormD) (side : Int) (m : ImgD) (p : ParD) : Prop where
  ox0 : 0 ≤ m.ox
  ox1 : m.ox < 6
  oy0 : 0 ≤ m.oy
  oy1 : m.oy < 6
  x0 : m.ox < m.x
  x1 : m.x ≤ m.ox + side
  y0 : m.oy < m.y
  y1 : m.y ≤ m.oy + side
  n1 : 1 ≤ m.cs.length
  n4 : m.cs.length ≤ 4
  par : ParOk p
  tx0 : m.ox < p.tx
  tx1 : p.tx ≤ 2944
  ty0 : m.oy < p.ty
  ty1 : p.ty ≤ 2944
  few : ceilI m.x p.tx * ceilI m.y p.ty ≤ 6
  comps : ∃ depth, 1 ≤ depth ∧ depth ≤ 10 ∧ ∀ c ∈ m.cs, FmOk m.x m.y m.ox m.oy (!(f.sub.tmod 5 == 1)) depth f.signed c
  rct : p.rct = true → 3 ≤ m.cs.length ∧ (f.sub.tmod 5 == 1) = false

def precF (f : FormD) : ParD := if f.prec.tmod 4 == 0 then { parF f with prec := 15 } else parF f
/-- all but the samples is fixed by the form -/
structure MadeIs (f : FormD) (side : Int) (m : ImgD) (p : ParD) : Prop where
  ox : f.ox % 6 = m.ox
  oy : f.oy % 6 = m.oy
  x : m.ox + 1 + f.x % side = m.x
  y : m.oy + 1 + f.y % side = m.y
  n : 1 + f.comps % 4 = (m.cs.length : Int)
  comps : CompsIs f.sub (1 + f.depth % 10) m.cs
  sg : ∀ c ∈ m.cs, c.signed = f.signed
  dbl : DblIs m.x m.y (m.ox + 1 + f.tx % side) (m.oy + 1 + f.ty % side) p.tx p.ty
  par : p = { precF f with tx := p.tx, ty := p.ty, rct := f.rct && (decide (3 ≤ m.cs.length) && !(f.sub.tmod 5 == 1)) }

set_option maxRecDepth 100000 in
set_option maxHeartbeats 4000000 in
theorem make_is (f : FormD) (ns : Value) (nl : List Int) (side : Int) (w : World) (hn : RdI w ns nl) (s1 : 1 ≤ side) (s2 : side ≤ 40) :
    Calls Try.prog 20 #[.agg (formA f ns), .int .i64 side] w fun e w' => ∃ m p v, e = .returned (.tuple #[imgV m v, parV p]) ∧ CompsOwn w' w.heap.size v m.cs ∧ MadeOk f side m p ∧ MadeIs f side m p ∧ Below w.heap.size w w' := by
  have F : ∀ x n W, 1 ≤ n → n ≤ 1000000 → Calls Try.prog 39 #[.int .i64 x, .int .i64 n] W fun e w' => e = .returned (.int .i64 (x % n)) ∧ W = w' := fun x n W => fwithin x n W
  have FW := Lib.hid F
  clear F
  have HN := Lib.hid hn
  clear hn
  unfold formA
  go_enter Try.func20, Try.ntmps20
  go_wp2_with fail
  obtain ⟨va, vc, rfl, -, -, -⟩ : ∃ (va : Option Addr) (vc : Nat), ns = .slice va nl.length vc ∧ True ∧ True ∧ True := by
    obtain ⟨a, c, h, -⟩ := HN.out
    exact ⟨a, c, h, trivial, trivial, trivial⟩
  have hf1 : Blk (((w.alloc (.cells (formA f (.slice va nl.length vc)) 24)).alloc (.cells #[.int .i64 0, .int .i64 0, .int .i64 0, .int .i64 0, .slice none 0 0] 29)).alloc (.cells #[.int .i64 0, .int .i64 0, .int .i64 0, .int .i64 0, .int .i64 0, .int .i64 0, .int .i64 0, .int .i64 0, .int .i64 0, .bool false, .bool false, .bool false] 31)) w.heap.size 24 (formA f (.slice va nl.length vc)) := ((Blk.new _ _ _).alloc _).alloc _
  have hr1 : Blk (((w.alloc (.cells (formA f (.slice va nl.length vc)) 24)).alloc (.cells #[.int .i64 0, .int .i64 0, .int .i64 0, .int .i64 0, .slice none 0 0] 29)).alloc (.cells #[.int .i64 0, .int .i64 0, .int .i64 0, .int .i64 0, .int .i64 0, .int .i64 0, .int .i64 0, .int .i64 0, .int .i64 0, .bool false, .bool false, .bool false] 31)) (w.heap.size + 1) 29 (imgA ⟨0, 0, 0, 0, []⟩ (.slice none 0 0)) := by
    have := (Blk.new (w.alloc (.cells (formA f (.slice va nl.length vc)) 24)) 29 #[.int .i64 0, .int .i64 0, .int .i64 0, .int .i64 0, .slice none 0 0]).alloc (.cells #[.int .i64 0, .int .i64 0, .int .i64 0, .int .i64 0, .int .i64 0, .int .i64 0, .int .i64 0, .int .i64 0, .int .i64 0, .bool false, .bool false, .bool false] 31)
    simpa [imgA] using this
  have hs1 : Blk (((w.alloc (.cells (formA f (.slice va nl.length vc)) 24)).alloc (.cells #[.int .i64 0, .int .i64 0, .int .i64 0, .int .i64 0, .slice none 0 0] 29)).alloc (.cells #[.int .i64 0, .int .i64 0, .int .i64 0, .int .i64 0, .int .i64 0, .int .i64 0, .int .i64 0, .int .i64 0, .int .i64 0, .bool false, .bool false, .bool false] 31)) (w.heap.size + 2) 31 (parA ⟨0, 0, 0, 0, 0, 0, 0, 0, 0, false, false, false⟩) := by
    have := Blk.new ((w.alloc (.cells (formA f (.slice va nl.length vc)) 24)).alloc (.cells #[.int .i64 0, .int .i64 0, .int .i64 0, .int .i64 0, .slice none 0 0] 29)) 31 #[.int .i64 0, .int .i64 0, .int .i64 0, .int .i64 0, .int .i64 0, .int .i64 0, .int .i64 0, .int .i64 0, .int .i64 0, .bool false, .bool false, .bool false]
    simpa [parA] using this
  have hb1 : Below w.heap.size w (((w.alloc (.cells (formA f (.slice va nl.length vc)) 24)).alloc (.cells #[.int .i64 0, .int .i64 0, .int .i64 0, .int .i64 0, .slice none 0 0] 29)).alloc (.cells #[.int .i64 0, .int .i64 0, .int .i64 0, .int .i64 0, .int .i64 0, .int .i64 0, .int .i64 0, .int .i64 0, .int .i64 0, .bool false, .bool false, .bool false] 31)) := (((Below.refl _ _).alloc (Nat.le_refl _) _).alloc (by simp) _).alloc (by simp; omega) _
  have hz1 : (((w.alloc (.cells (formA f (.slice va nl.length vc)) 24)).alloc (.cells #[.int .i64 0, .int .i64 0, .int .i64 0, .int .i64 0, .slice none 0 0] 29)).alloc (.cells #[.int .i64 0, .int .i64 0, .int .i64 0, .int .i64 0, .int .i64 0, .int .i64 0, .int .i64 0, .int .i64 0, .int .i64 0, .bool false, .bool false, .bool false] 31)).heap.size = w.heap.size + 3 := by simp
  unfold formA at hf1 hr1 hs1 hb1 hz1
  generalize hw1 : (((w.alloc (.cells _ 24)).alloc (.cells #[.int .i64 0, .int .i64 0, .int .i64 0, .int .i64 0, .slice none 0 0] 29)).alloc (.cells #[.int .i64 0, .int .i64 0, .int .i64 0, .int .i64 0, .int .i64 0, .int .i64 0, .int .i64 0, .int .i64 0, .int .i64 0, .bool false, .bool false, .bool false] 31)) = w1 at *
  clear hw1
  have c2 : w1.cell? ⟨w.heap.size, 2, none⟩ = some (.int .i64 f.ox) := hf1.cell 2
  have c3 : w1.cell? ⟨w.heap.size, 3, none⟩ = some (.int .i64 f.oy) := hf1.cell 3
  go_upto_region 1 with fail
  refine wp_piece (make_r1 _ w.heap.size f.ox f.oy w1 _ _ _ _ _ _ _ _ _ _ _ _ _ _ _ _ _ _ _ _ _ _ _ _ _ _ _ _ _ _ _ _ _ _ _ _ _ _ _ _ _ _ _ _ _ _ _ _ _ _ _ _ _ _ _ _ _ _ _ _ _ _ _ _ _ _ _ _ _ _ _ _ _ _ _ _ _ _ _ _ _ _ _ _ _ _ _ _ _ _ _ _ _ _ _ _ _ _ _ _ _ _ _ _ _ _ _ _ _ _ _ _ _ _ _ _ _ _ _ _ _ _ _ _ _ _ _ _ _ _ _ _ _ _ _ _ _ _ _ _ _ _ _ _ _ _ _ _ _ _ _ _ _ _ _ _ _ _ _ _ _ _ _ _ _ _ _ _ _ _ _ _ _ _ _ _ _ _ _ _ _ _ _ _ _ _ _ _ _ _ _ _ _ _ _ _ _ _ _ _ _ _ _ _ _ _ _ _ _ _ _ _ _ _ _ _ _ _ _ _ _ _ _ _ _ c2 c3 (by omega) ?_)
  rintro t17 t18 t19 t20 t21 t22 t23 w2 hi2 hb2 hz2
  rw [hz1] at hi2
  simp only [hz1]
  rw [hz1] at hz2
  have hf2 := hf1.below hb2 hf1.lt
  have hr2 := hr1.below hb2 hr1.lt
  have hs2 := hs1.below hb2 hs1.lt
  have hB2 := hb1.trans (hb2.mono (by omega))
  clear hf1 hr1 hs1 hb1 hz1 hb2 c2 c3
  have c0 : w2.cell? ⟨w.heap.size, 0, none⟩ = some (.int .i64 f.x) := hf2.cell 0
  have c1 : w2.cell? ⟨w.heap.size, 1, none⟩ = some (.int .i64 f.y) := hf2.cell 1
  have a1 := Int.emod_nonneg f.x (show side ≠ 0 by omega)
  have a2 := Int.emod_lt_of_pos f.x (show 0 < side by omega)
  have a3 := Int.emod_nonneg f.y (show side ≠ 0 by omega)
  have a4 := Int.emod_lt_of_pos f.y (show 0 < side by omega)
  have a5 := Int.emod_nonneg f.ox (show (6 : Int) ≠ 0 by decide)
  have a6 := Int.emod_lt_of_pos f.ox (show (0 : Int) < 6 by decide)
  have a7 := Int.emod_nonneg f.oy (show (6 : Int) ≠ 0 by decide)
  have a8 := Int.emod_lt_of_pos f.oy (show (0 : Int) < 6 by decide)
  generalize hox : f.ox % 6 = ox at *
  generalize hoy : f.oy % 6 = oy at *
  have HOX := Lib.hid (And.intro hox hoy)
  clear hox hoy
  go_upto_region 2 with fail
  refine wp_piece (make_r2 _ w.heap.size (w.heap.size + 3) f.x f.y ox oy side w2 _ _ _ _ _ _ _ _ _ _ _ _ _ _ _ _ _ _ _ _ _ _ _ _ _ _ _ _ _ _ _ _ _ _ _ _ _ _ _ _ _ _ _ _ _ _ _ _ _ _ _ _ _ _ _ _ _ _ _ _ _ _ _ _ _ _ _ _ _ _ _ _ _ _ _ _ _ _ _ _ _ _ _ _ _ _ _ _ _ _ _ _ _ _ _ _ _ _ _ _ _ _ _ _ _ _ _ _ _ _ _ _ _ _ _ _ _ _ _ _ _ _ _ _ _ _ _ _ _ _ _ _ _ _ _ _ _ _ _ _ _ _ _ _ _ _ _ _ _ _ _ _ _ _ _ _ _ _ _ _ _ _ _ _ _ _ _ _ _ _ _ _ _ _ _ _ _ _ _ _ _ _ _ _ _ _ _ _ _ _ _ _ _ _ _ _ _ _ _ _ _ _ _ _ _ _ _ _ _ _ _ _ _ _ _ _ _ _ _ _ _ _ _ c0 c1 hi2 (by omega) s1 s2 a5 a6 a7 a8 ?_)
  rintro t24 t25 t26 t27 t28 t29 t30 t31 t32 t33 t34 t35 t36 t37 t38 t39 t40 t41 w3 hi3 hg3 hz3
  rw [hz2] at hz3
  generalize hrx : f.x % side = rx at *
  generalize hry : f.y % side = ry at *
  have HRX := Lib.hid (And.intro hrx hry)
  clear hrx hry
  have hf3 := hf2.grown hg3 (by simp)
  have hr3 := hr2.grown hg3 (by simp)
  have hs3 := hs2.grown hg3 (by simp)
  have hB3 := hB2.trans (below_grown hg3 (by omega) (by rintro k ⟨⟩; omega))
  clear hf2 hr2 hs2 hi2 hB2 hz2 c0 c1 hg3
  have b2 := hf3.frozen 0
  obtain ⟨q0, q1, q2, q3, q4, q5, q6, q7, q8⟩ : w3.cell? ⟨w.heap.size, 13, none⟩ = some (.int .i64 f.levels) ∧ w3.cell? ⟨w.heap.size, 14, none⟩ = some (.int .i64 f.cbw) ∧ w3.cell? ⟨w.heap.size, 15, none⟩ = some (.int .i64 f.cbh) ∧ w3.cell? ⟨w.heap.size, 16, none⟩ = some (.int .i64 f.prec) ∧ w3.cell? ⟨w.heap.size, 17, none⟩ = some (.int .i64 f.style) ∧
      w3.cell? ⟨w.heap.size, 18, none⟩ = some (.int .i64 f.order) ∧ w3.cell? ⟨w.heap.size, 19, none⟩ = some (.int .i64 f.layers) ∧ w3.cell? ⟨w.heap.size, 9, none⟩ = some (.bool f.sop) ∧ w3.cell? ⟨w.heap.size, 10, none⟩ = some (.bool f.eph) :=
    ⟨hf3.cell 13, hf3.cell 14, hf3.cell 15, hf3.cell 16, hf3.cell 17, hf3.cell 18, hf3.cell 19, hf3.cell 9, hf3.cell 10⟩
  go_upto_region 3 with fail
  refine wp_piece (make_r3 _ w.heap.size f w3 _ _ _ _ _ _ _ _ _ _ _ _ _ _ _ _ _ _ _ _ _ _ _ _ _ _ _ _ _ _ _ _ _ _ _ _ _ _ _ _ _ _ _ _ _ _ _ _ _ _ _ _ _ _ _ _ _ _ _ _ _ _ _ _ _ _ _ _ _ _ _ _ _ _ _ _ _ _ _ _ _ _ _ _ _ _ _ _ _ _ _ _ _ _ _ _ _ _ _ _ _ _ _ _ _ _ _ _ _ _ _ _ _ _ _ _ _ _ _ _ _ _ _ _ _ _ _ _ _ _ _ _ _ _ _ _ _ _ _ _ _ _ _ _ _ _ _ _ _ _ _ _ _ _ _ _ _ _ _ _ _ _ _ _ _ _ _ _ _ _ _ _ _ _ _ _ _ _ _ _ _ _ _ _ _ _ _ _ _ _ _ _ _ _ _ _ _ _ _ _ _ _ _ _ _ _ _ _ _ _ _ _ _ _ _ _ _ _ _ _ _ _ _ _ _ q0 q1 q2 q3 q4 q5 q6 q7 q8 (by omega) ?_)
  rintro t42 t43 t44 t45 t46 t47 t48 t49 t50 t51 t52 t53 t54 t55 t56 t57 t58 t59 t60 t61 t62 t63 t64 t65 t66 t67 t68 t69 t70 t71 p4 w4 hp4 ok4 is4 hb4 hz4
  have HI4 := Lib.hid is4
  clear is4
  rw [hz3] at hp4
  simp only [hz3]
  rw [hz3] at hz4
  have hf4 := hf3.below hb4 hf3.lt
  have hr4 := hr3.below hb4 hr3.lt
  have hs4 := hs3.below hb4 hs3.lt
  have hi4 := hi3.below hb4 hi3.lt
  have hB4 := hB3.trans (hb4.mono (by omega))
  clear hf3 hr3 hs3 hi3 hB3 hz3 q0 q1 q2 q3 q4 q5 q6 q7 q8 b2 hb4
  have c16 : w4.cell? ⟨w.heap.size, 16, none⟩ = some (.int .i64 f.prec) := hf4.cell 16
  have pc5 : w4.cell? ⟨w.heap.size + 4, 5, none⟩ = some (.int .i64 p4.prec) := hp4.cell 5
  have fp5 := hp4.frozen 5
  go_upto_if 75 with fail
  go_cut [] from 17 (fun wx => (∃ p, Blk wx (w.heap.size + 4) 31 (parA p) ∧ ParOk p ∧ p = precF f) ∧ w4.grownBy wx (some (w.heap.size + 4)) ∧ wx.heap.size = w.heap.size + 5)
  case first =>
    --[r5
    rcases Bool.eq_false_or_eq_true (f.prec.tmod 4 == 0) with hm | hm
    · go_wp2_with fail
      go_meet
      exact ⟨⟨{ p4 with prec := 15 }, hp4.set_ 5 (.int .i64 15), by unfold ParOk at ok4 ⊢; simp only; omega, by unfold precF; rw [hm, HI4.out]; rfl⟩, only_setCell (World.grownBy.refl _ _) (p := ⟨w.heap.size + 4, 5, none⟩) (.inl rfl) _, by simp [hz4]⟩
    · go_wp2_with fail
      go_meet
      exact ⟨⟨p4, hp4, ok4, by unfold precF; rw [hm, HI4.out]; rfl⟩, World.grownBy.refl _ _, hz4⟩
    --]r5
  obtain ⟨w5, rfl⟩ : ∃ w5 : World, w5 = wc := ⟨_, rfl⟩
  obtain ⟨⟨p5, hp5, ok5, is5⟩, hg5, hz5⟩ := hcut
  have HI5 := Lib.hid is5
  clear is5
  have hf5 := hf4.grown hg5 (by simp)
  have hr5 := hr4.grown hg5 (by simp)
  have hs5 := hs4.grown hg5 (by simp)
  have hi5 := hi4.grown hg5 (by simp)
  have hB5 := hB4.trans (below_grown hg5 (by omega) (by rintro k ⟨⟩; omega))
  clear hf4 hr4 hs4 hi4 hB4 hz4 c16 pc5 fp5 hg5 hp4 ok4
  have c11 : w5.cell? ⟨w.heap.size, 11, none⟩ = some (.int .i64 f.tx) := hf5.cell 11
  have c12 : w5.cell? ⟨w.heap.size, 12, none⟩ = some (.int .i64 f.ty) := hf5.cell 12
  have i2 : w5.cell? ⟨w.heap.size + 3, 2, none⟩ = some (.int .i64 ox) := hi5.cell 2
  have i3 : w5.cell? ⟨w.heap.size + 3, 3, none⟩ = some (.int .i64 oy) := hi5.cell 3
  have a9 := Int.emod_nonneg f.tx (show side ≠ 0 by omega)
  have a10 := Int.emod_lt_of_pos f.tx (show 0 < side by omega)
  have a11 := Int.emod_nonneg f.ty (show side ≠ 0 by omega)
  have a12 := Int.emod_lt_of_pos f.ty (show 0 < side by omega)
  go_upto_region 6 with fail
  refine wp_piece (make_r6 _ w.heap.size (w.heap.size + 3) (w.heap.size + 4) f.tx f.ty ox oy side ⟨0, 0, 0, 0, []⟩ (.slice none 0 0) p5 w5 _ _ _ _ _ _ _ _ _ _ _ _ _ _ _ _ _ _ _ _ _ _ _ _ _ _ _ _ _ _ _ _ _ _ _ _ _ _ _ _ _ _ _ _ _ _ _ _ _ _ _ _ _ _ _ _ _ _ _ _ _ _ _ _ _ _ _ _ _ _ _ _ _ _ _ _ _ _ _ _ _ _ _ _ _ _ _ _ _ _ _ _ _ _ _ _ _ _ _ _ _ _ _ _ _ _ _ _ _ _ _ _ _ _ _ _ _ _ _ _ _ _ _ _ _ _ _ _ _ _ _ _ _ _ _ _ _ _ _ _ _ _ _ _ _ _ _ _ _ _ _ _ _ _ _ _ _ _ _ _ _ _ _ _ _ _ _ _ _ _ _ _ _ _ _ _ _ _ _ _ _ _ _ _ _ _ _ _ _ _ _ _ _ _ _ _ _ _ _ _ _ _ _ _ _ _ _ _ _ _ _ _ _ _ _ _ _ _ _ _ _ _ c11 c12 i2 i3 hp5 (by omega) (by omega) s1 s2 a5 a6 a7 a8 ?_)
  rintro t77 t78 t79 t80 t81 t82 t83 t84 t85 t86 t87 t88 t89 t90 t91 t92 t93 t94 w6 hp6 hg6 hz6
  rw [hz5] at hz6
  generalize htx : f.tx % side = tx at *
  generalize hty : f.ty % side = ty at *
  have HTX := Lib.hid (And.intro htx hty)
  clear htx hty
  have hf6 := hf5.grown hg6 (by simp)
  have hr6 := hr5.grown hg6 (by simp)
  have hs6 := hs5.grown hg6 (by simp)
  have hi6 := hi5.grown hg6 (by simp)
  have hB6 := hB5.trans (below_grown hg6 (by omega) (by rintro k ⟨⟩; omega))
  clear hf5 hr5 hs5 hi5 hB5 hz5 hg6 hp5 c11 c12 i2 i3
  go_upto_block 0 with fail
  have HB := Lib.hid (And.intro hf6 (And.intro hr6 (And.intro hs6 hB6)))
  refine wp_piece (make_dbl _ (w.heap.size + 3) (w.heap.size + 4) (ox + 1 + rx) (oy + 1 + ry) ox oy { p5 with tx := ox + 1 + tx, ty := oy + 1 + ty } w6 _ _ _ _ _ _ _ _ _ _ _ _ _ _ _ _ _ _ _ _ _ _ _ _ _ _ _ _ _ _ _ _ _ _ _ _ _ _ _ _ _ _ _ _ _ _ _ _ _ _ _ _ _ _ _ _ _ _ _ _ _ _ _ _ _ _ _ _ _ _ _ _ _ _ _ _ _ _ _ _ _ _ _ _ _ _ _ _ _ _ _ _ _ _ _ _ _ _ _ _ _ _ _ _ _ _ _ _ _ _ _ _ _ _ _ _ _ _ _ _ _ _ _ _ _ _ _ _ _ _ _ _ _ _ _ _ _ _ _ _ _ _ _ _ _ _ _ _ _ _ _ _ _ _ _ _ _ _ _ _ _ _ _ _ _ _ _ _ _ _ _ _ _ _ _ _ _ _ _ _ _ _ _ _ _ _ _ _ _ _ _ _ _ _ _ _ _ _ _ _ _ _ _ _ _ _ _ _ _ _ _ _ _ _ _ _ _ _ _ _ _ _ _ _ hi6 hp6 (by omega) (by omega) (by omega) (by omega) (by omega) (by omega) (by simp only; omega) (by simp only; omega) (by simp only; omega) (by simp only; omega) ?_)
  rintro t95 t96 t97 t98 t99 t100 t101 t102 t103 t104 t105 t106 a b wa hpa k1 k2 k3 k4 ktl kdb hga
  have hia := hi6.grown hga (by simp)
  obtain ⟨hf6, hr6, hs6, hB6⟩ := HB.out
  have hfa := hf6.grown hga (by simp)
  have hra := hr6.grown hga (by simp)
  have hsa := hs6.grown hga (by simp)
  have hBa := hB6.trans (below_grown hga (by omega) (by rintro k ⟨⟩; omega))
  have hza := hga.size
  obtain ⟨X, hX⟩ : ∃ X, ox + 1 + rx = X := ⟨_, rfl⟩
  obtain ⟨Y, hY⟩ : ∃ Y, oy + 1 + ry = Y := ⟨_, rfl⟩
  simp only at kdb
  rw [hX] at hia ktl kdb
  rw [hY] at hia ktl kdb
  have x0 : ox < X := by omega
  have x1 : X ≤ ox + side := by omega
  have y0 : oy < Y := by omega
  have y1 : Y ≤ oy + side := by omega
  have HP5 : Hid (ParOk { p5 with tx := a, ty := b }) := by unfold ParOk at ok5 ⊢; exact ok5
  obtain ⟨p7, hp7⟩ : ∃ p7 : ParD, p7 = { p5 with tx := a, ty := b } := ⟨_, rfl⟩
  have ea : a = p7.tx := by rw [hp7]
  have eb : b = p7.ty := by rw [hp7]
  have HP : Hid (ParOk p7 ∧ ox < p7.tx ∧ p7.tx ≤ 2944 ∧ oy < p7.ty ∧ p7.ty ≤ 2944 ∧ ceilI X p7.tx * ceilI Y p7.ty ≤ 6) := by
    rw [← ea, ← eb]
    exact ⟨by rw [hp7]; exact HP5.out, k1, k2, k3, k4, ktl⟩
  have HPI : Hid ((ox + 1 + rx = X ∧ oy + 1 + ry = Y) ∧ DblIs X Y (ox + 1 + tx) (oy + 1 + ty) p7.tx p7.ty ∧ p7 = { precF f with tx := p7.tx, ty := p7.ty }) := Lib.hid ⟨⟨hX, hY⟩, by rw [← ea, ← eb]; exact kdb, by rw [hp7, HI5.out]⟩
  rw [← hp7] at hpa
  clear HB hf6 hr6 hs6 hB6 hi6 hp6 hga hX hY HP5 ea eb hp7 ktl kdb k1 k2 k3 k4 ok5 a1 a2 a3 a4 a9 a10 a11 a12
  have a13 := Int.emod_nonneg f.depth (show (10 : Int) ≠ 0 by decide)
  have a14 := Int.emod_lt_of_pos f.depth (show (0 : Int) < 10 by decide)
  have a15 := Int.emod_nonneg f.comps (show (4 : Int) ≠ 0 by decide)
  have a16 := Int.emod_lt_of_pos f.comps (show (0 : Int) < 4 by decide)
  have F1 := fun W => FW.out f.depth 10 W (by decide) (by decide)
  have F2 := fun W => FW.out f.comps 4 W (by decide) (by decide)
  generalize hde : f.depth % 10 = de at *
  generalize hco : f.comps % 4 = co at *
  have HDE := Lib.hid (And.intro hde hco)
  clear hde hco
  have v5 : wa.cell? ⟨w.heap.size, 5, none⟩ = some (.int .i64 f.depth) := hfa.cell 5
  have v4 : wa.cell? ⟨w.heap.size, 4, none⟩ = some (.int .i64 f.comps) := hfa.cell 4
  have HA := Lib.hid (And.intro hfa (And.intro hra (And.intro hsa (And.intro hia (And.intro hpa (And.intro hBa hza))))))
  clear hfa hra hsa hia hpa hBa hza
  go_upto_block 2 with (first | (go_at_call 39; (with_reducible refine (F1 _).mono ?_); rintro e w' ⟨rfl, rfl⟩) | (go_at_call 39; (with_reducible refine (F2 _).mono ?_); rintro e w' ⟨rfl, rfl⟩))
  obtain ⟨hfa, hra, hsa, hia, hpa, hBa, hza⟩ := HA.out
  obtain ⟨n, hn⟩ := Int.eq_ofNat_of_zero_le (show 0 ≤ 1 + co by omega)
  rw [hn]
  refine wp_piece (make_comps _ f w.heap.size (w.heap.size + 3) vc n nl va X Y ox oy (1 + de) w wa _ _ _ _ _ _ _ _ _ _ _ _ _ _ _ _ _ _ _ _ _ _ _ _ _ _ _ _ _ _ _ _ _ _ _ _ _ _ _ _ _ _ _ _ _ _ _ _ _ _ _ _ _ _ _ _ _ _ _ _ _ _ _ _ _ _ _ _ _ _ _ _ _ _ _ _ _ _ _ _ _ _ _ _ _ _ _ _ _ _ _ _ _ _ _ _ _ _ _ _ _ _ _ _ _ _ _ _ _ _ _ _ _ _ _ _ _ _ _ _ _ _ _ _ _ _ _ _ _ _ _ _ _ _ _ _ _ _ _ _ _ _ _ _ _ _ _ _ _ _ _ _ _ _ _ _ _ _ _ _ _ _ _ _ _ _ _ _ _ _ _ _ _ _ _ _ _ _ _ _ _ _ _ _ _ _ _ _ _ _ _ _ _ _ _ _ _ _ _ _ _ _ _ _ _ _ _ _ _ _ _ _ _ _ _ _ _ _ _ _ _ HN.out hBa (by omega) hfa hia x0 (by omega) y0 (by omega) a5 a7 (by omega) (by omega) (by omega) ?_)
  rintro t11 t12 t13 t14 t15 t16 t115 t116 t117 t118 t119 t120 t121 t122 t123 t124 t125 t126 t127 t128 t129 t130 t131 t132 t133 t134 t135 t136 t137 t138 t139 t140 t141 t142 t143 t144 t145 t146 t147 t148 t149 t150 t151 t152 t153 t154 t155 t156 t157 t158 t159 t160 t161 t162 t163 t164 t165 t166 t167 t168 t169 t170 t171 t172 t173 t174 t175 t176 t177 t178 t179 t180 t181 t182 t183 t184 t185 t186 t187 t188 t189 t190 t191 t192 t193 t194 t195 t196 t197 t198 t199 t200 t201 t202 t203 t204 t205 t206 t207 t208 t209 t210 v cs wx hix hcx hcl hall his hgx
  have HIS := Lib.hid his
  clear his
  have hfx := hfa.grown hgx (by simp)
  have hrx := hra.grown hgx (by simp)
  have hsx := hsa.grown hgx (by simp)
  have hpx := hpa.grown hgx (by simp)
  have hBx := hBa.trans (below_grown hgx (by omega) (by rintro k ⟨⟩; omega))
  have hzx := hgx.size
  obtain ⟨av, cv, rfl⟩ := hcx.slice
  have HX := Lib.hid (And.intro hfx (And.intro hrx (And.intro hsx (And.intro hpx (And.intro hBx (And.intro hix (And.intro hcx (And.intro hcl hall))))))))
  have v8 : wx.cell? ⟨w.heap.size, 8, none⟩ = some (.bool f.rct) := hfx.cell 8
  have v6 : wx.cell? ⟨w.heap.size, 6, none⟩ = some (.int .i64 f.sub) := hfx.cell 6
  clear hfa hra hsa hia hpa hBa hfx hrx hsx hpx hBx hix hcx hcl hall hgx HA v5 v4 F1 F2
  go_upto_region 27 with fail
  refine wp_piece (make_r27 _ w.heap.size (w.heap.size + 4) n p7 f.rct f.sub wx _ _ _ _ _ _ _ _ _ _ _ _ _ _ _ _ _ _ _ _ _ _ _ _ _ _ _ _ _ _ _ _ _ _ _ _ _ _ _ _ _ _ _ _ _ _ _ _ _ _ _ _ _ _ _ _ _ _ _ _ _ _ _ _ _ _ _ _ _ _ _ _ _ _ _ _ _ _ _ _ _ _ _ _ _ _ _ _ _ _ _ _ _ _ _ _ _ _ _ _ _ _ _ _ _ _ _ _ _ _ _ _ _ _ _ _ _ _ _ _ _ _ _ _ _ _ _ _ _ _ _ _ _ _ _ _ _ _ _ _ _ _ _ _ _ _ _ _ _ _ _ _ _ _ _ _ _ _ _ _ _ _ _ _ _ _ _ _ _ _ _ _ _ _ _ _ _ _ _ _ _ _ _ _ _ _ _ _ _ _ _ _ _ _ _ _ _ _ _ _ _ _ _ _ _ _ _ _ _ _ _ _ _ _ _ _ _ _ _ _ _ _ _ v8 v6 HX.out.2.2.2.1 ?_)
  rintro t211 t212 t213 t214 t215 t216 t217 t218 t219 t220 t221 t222 t223 rb wy hpy hrb hrb2 hgy
  have HRB := Lib.hid hrb2
  clear hrb2
  obtain ⟨hfx, hrx, hsx, hpx, hBx, hix, hcx, hcl, hall⟩ := HX.out
  have hiy := hix.grown hgy (by simp)
  have hry := hrx.grown hgy (by simp)
  have hsy := hsx.grown hgy (by simp)
  have hcy := hcx.grown hgy (by omega)
  have hBy := hBx.trans (below_grown hgy (by omega) (by rintro k ⟨⟩; omega))
  obtain ⟨m0, m1, m2, m3, m4⟩ : wy.cell? ⟨w.heap.size + 3, 0, none⟩ = some (.int .i64 X) ∧ wy.cell? ⟨w.heap.size + 3, 1, none⟩ = some (.int .i64 Y) ∧ wy.cell? ⟨w.heap.size + 3, 2, none⟩ = some (.int .i64 ox) ∧ wy.cell? ⟨w.heap.size + 3, 3, none⟩ = some (.int .i64 oy) ∧ wy.cell? ⟨w.heap.size + 3, 4, none⟩ = some (.slice av cs.length cv) := ⟨hiy.cell 0, hiy.cell 1, hiy.cell 2, hiy.cell 3, hiy.cell 4⟩
  obtain ⟨n0, n1, n2, n3, n4, n5, n6, n7, n8, n9', n10, n11⟩ : wy.cell? ⟨w.heap.size + 4, 0, none⟩ = some (.int .i64 p7.tx) ∧ wy.cell? ⟨w.heap.size + 4, 1, none⟩ = some (.int .i64 p7.ty) ∧ wy.cell? ⟨w.heap.size + 4, 2, none⟩ = some (.int .i64 p7.lv) ∧ wy.cell? ⟨w.heap.size + 4, 3, none⟩ = some (.int .i64 p7.cbw) ∧ wy.cell? ⟨w.heap.size + 4, 4, none⟩ = some (.int .i64 p7.cbh) ∧ wy.cell? ⟨w.heap.size + 4, 5, none⟩ = some (.int .i64 p7.prec) ∧
      wy.cell? ⟨w.heap.size + 4, 6, none⟩ = some (.int .i64 p7.style) ∧ wy.cell? ⟨w.heap.size + 4, 7, none⟩ = some (.int .i64 p7.order) ∧ wy.cell? ⟨w.heap.size + 4, 8, none⟩ = some (.int .i64 p7.layers) ∧ wy.cell? ⟨w.heap.size + 4, 9, none⟩ = some (.bool rb) ∧ wy.cell? ⟨w.heap.size + 4, 10, none⟩ = some (.bool p7.sop) ∧ wy.cell? ⟨w.heap.size + 4, 11, none⟩ = some (.bool p7.eph) :=
    ⟨hpy.cell 0, hpy.cell 1, hpy.cell 2, hpy.cell 3, hpy.cell 4, hpy.cell 5, hpy.cell 6, hpy.cell 7, hpy.cell 8, hpy.cell 9, hpy.cell 10, hpy.cell 11⟩
  obtain ⟨r0, r1, r2, r3, r4⟩ : wy.cell? ⟨w.heap.size + 1, 0, none⟩ = some (.int .i64 0) ∧ wy.cell? ⟨w.heap.size + 1, 1, none⟩ = some (.int .i64 0) ∧ wy.cell? ⟨w.heap.size + 1, 2, none⟩ = some (.int .i64 0) ∧ wy.cell? ⟨w.heap.size + 1, 3, none⟩ = some (.int .i64 0) ∧ wy.cell? ⟨w.heap.size + 1, 4, none⟩ = some (.slice none 0 0) := ⟨hry.cell 0, hry.cell 1, hry.cell 2, hry.cell 3, hry.cell 4⟩
  obtain ⟨s0, s1', s2', s3, s4, s5, s6, s7, s8, s9, s10, s11⟩ : wy.cell? ⟨w.heap.size + 2, 0, none⟩ = some (.int .i64 0) ∧ wy.cell? ⟨w.heap.size + 2, 1, none⟩ = some (.int .i64 0) ∧ wy.cell? ⟨w.heap.size + 2, 2, none⟩ = some (.int .i64 0) ∧ wy.cell? ⟨w.heap.size + 2, 3, none⟩ = some (.int .i64 0) ∧ wy.cell? ⟨w.heap.size + 2, 4, none⟩ = some (.int .i64 0) ∧ wy.cell? ⟨w.heap.size + 2, 5, none⟩ = some (.int .i64 0) ∧
      wy.cell? ⟨w.heap.size + 2, 6, none⟩ = some (.int .i64 0) ∧ wy.cell? ⟨w.heap.size + 2, 7, none⟩ = some (.int .i64 0) ∧ wy.cell? ⟨w.heap.size + 2, 8, none⟩ = some (.int .i64 0) ∧ wy.cell? ⟨w.heap.size + 2, 9, none⟩ = some (.bool false) ∧ wy.cell? ⟨w.heap.size + 2, 10, none⟩ = some (.bool false) ∧ wy.cell? ⟨w.heap.size + 2, 11, none⟩ = some (.bool false) :=
    ⟨hsy.cell 0, hsy.cell 1, hsy.cell 2, hsy.cell 3, hsy.cell 4, hsy.cell 5, hsy.cell 6, hsy.cell 7, hsy.cell 8, hsy.cell 9, hsy.cell 10, hsy.cell 11⟩
  have fr : ∀ j, wy.frozen? ⟨w.heap.size + 1, j, none⟩ = false := hry.frozen
  have fs : ∀ j, wy.frozen? ⟨w.heap.size + 2, j, none⟩ = false := hsy.frozen
  have HY := Lib.hid (And.intro hcy (And.intro hBy (And.intro hcl (And.intro hall hzx))))
  have HV : Hid (CompsOwn wy w.heap.size (.slice av cs.length cv) cs) := hcy.base (by omega)
  clear hfx hrx hsx hpx hBx hix hcx hcl hall hiy hry hsy hcy hBy hpy hgy HX v8 v6
  go_wp2_with fail
  go_region
  go_wp2_with fail
  obtain ⟨hcy, hBy, hcl, hall, hzx'⟩ := HY.out
  obtain ⟨ok7, u1, u2, u3, u4, u5⟩ := HP.out
  have hD : ∀ W : World, CompsOwn W wa.heap.size (.slice av cs.length cv) cs → CompsOwn W.drew wa.heap.size (.slice av cs.length cv) cs := fun W h => h
  refine bodyPost_ret (v := .tuple #[imgV ⟨X, Y, ox, oy, cs⟩ (.slice av cs.length cv), parV { p7 with rct := rb }]) ?_ rfl ⟨⟨X, Y, ox, oy, cs⟩, { p7 with rct := rb }, .slice av cs.length cv, rfl, ?_, ?_, ?_, ?_⟩
  · simp [results, Try.results20, go_sem, imgV, parV, r0, r1, r2, r3, r4, s0, s1', s2', s3, s4, s5, s6, s7, s8, s9, s10, s11]
  · refine CompsOwn.base (B := wa.heap.size) (hD _ ?_) (by omega)
    iterate 17 refine CompsOwn.setCell ?_ (by simp; omega) _
    exact hcy
  · have hn' : n = cs.length := hcl.symm
    exact { ox0 := a5, ox1 := a6, oy0 := a7, oy1 := a8, x0 := x0, x1 := x1, y0 := y0, y1 := y1, n1 := by simp only; omega, n4 := by simp only; omega, par := ok7, tx0 := u1, tx1 := u2, ty0 := u3, ty1 := u4, few := u5, comps := ⟨1 + de, by omega, by omega, hall⟩, rct := fun h => by have := hrb h; simp only; exact ⟨by omega, this.2⟩ }
  · obtain ⟨⟨j1, j2⟩, j3, j4⟩ := HPI.out
    exact { ox := HOX.out.1, oy := HOX.out.2, x := by rw [HRX.out.1]; exact j1, y := by rw [HRX.out.2]; exact j2, n := by rw [HDE.out.2, hn, hcl], comps := by rw [HDE.out.1]; exact HIS.out, sg := fun c hc => (hall c hc).2.2.2.2.2.2.1, dbl := by rw [HTX.out.1, HTX.out.2]; exact j3, par := by rw [HRB.out, ← hcl]; simp only; rw [j4] }
  · refine Below.drew ?_
    iterate 17 refine Below.setCell ?_ (by simp; try omega) _
    exact hBy
theorem make_any (f : FormD) (ns : Value) (nl : List Int) (side : Int) (w : World) (hn : RdI w ns nl) (s1 : 1 ≤ side) (s2 : side ≤ 40) :
    Calls Try.prog 20 #[.agg (formA f ns), .int .i64 side] w fun e w' => ∃ m p v, e = .returned (.tuple #[imgV m v, parV p]) ∧ CompsOwn w' w.heap.size v m.cs ∧ MadeOk f side m p ∧ Below w.heap.size w w' := by
  refine (make_is f ns nl side w hn s1 s2).mono ?_
  rintro e w' ⟨m, p, v, h1, h2, h3, -, h4⟩
  exact ⟨m, p, v, h1, h2, h3, h4⟩
end Go.Proofs.Ytlhlhlabnjfhcaa
