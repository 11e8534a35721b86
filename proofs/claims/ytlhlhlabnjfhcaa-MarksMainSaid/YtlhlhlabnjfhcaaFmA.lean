/- The laws' Form: within, ceil, Part, Area, Bounds, tiles, canvasPart. -/
import Derived.Test.YtlhlhlabnjfhcaaFmC
import Derived.BigQuiet
import Derived.Deep.QuietTactic
import Derived.Deep.LoopGhost
import Derived.Deep.RegionWith
import Derived.Deep.DeepCutAuto
import Derived.Deep.RegionHeld3
import Derived.StillTailTactics
namespace Go.Proofs.Ytlhlhlabnjfhcaa
open Go.RowKit

set_option maxRecDepth 100000 in
theorem fwithin (x n : Int) (w : World) (h3 : 1 ≤ n) (h4 : n ≤ 1000000) :
    Calls Try.prog 39 #[.int .i64 x, .int .i64 n] w fun e w' => e = .returned (.int .i64 (x % n)) ∧ w = w' := by
  obtain ⟨h5, h6⟩ := tmod_bd x n h3
  have E := Lib.hid (tmod_adj x n h3)
  go_enter Try.func39, Try.ntmps39
  go_wp2
  all_goals go_ret
  · exact ⟨by rw [← E.out, if_pos (by assumption)]; rfl, rfl⟩
  · exact ⟨by rw [← E.out, if_neg (by omega)]; rfl, rfl⟩

/-- ceil: a by b -/
def ceilI (a b : Int) : Int := (a + b - 1) / b

theorem ceil_pos (a b : Int) (w : World) (h0 : 0 ≤ a) (h1 : a ≤ 1000000) (h2 : 1 ≤ b) (h3 : b ≤ 1000000) :
    Calls Try.prog 66 #[.int .i64 a, .int .i64 b] w fun e w' => e = .returned (.int .i64 (ceilI a b)) ∧ w = w' := by
  go_enter Try.func66, Try.ntmps66
  go_wp2
  go_ret
  exact ⟨rfl, rfl⟩

theorem ceilI_bd (a b : Int) (h0 : 0 ≤ a) (h2 : 1 ≤ b) : 0 ≤ ceilI a b ∧ ceilI a b ≤ a := by
  unfold ceilI
  constructor
  · exact Int.ediv_nonneg (by omega) (by omega)
  · have : (a + b - 1) / b < a + 1 := by
      apply Int.ediv_lt_of_lt_mul (by omega)
      have : (a + 1) * b = a * b + b := by rw [Int.add_mul, Int.one_mul]
      rw [this]
      have : a * 1 ≤ a * b := Int.mul_le_mul_of_nonneg_left h2 h0
      omega
    omega

def overV (x0 y0 x1 y1 dx dy : Int) : Value := .agg #[.int .i64 (ceilI x0 dx), .int .i64 (ceilI y0 dy), .int .i64 (ceilI x1 dx), .int .i64 (ceilI y1 dy)]

theorem bcell {W w1 : World} (hb : Below W.heap.size W w1) : (∀ b o, b < W.heap.size → w1.cell? ⟨b, o, none⟩ = W.cell? ⟨b, o, none⟩) ∧ (∀ b o, b < W.heap.size → w1.frozen? ⟨b, o, none⟩ = W.frozen? ⟨b, o, none⟩) :=
  ⟨fun b o h => hb.cell (p := ⟨b, o, none⟩) h, fun b o h => hb.frozen (p := ⟨b, o, none⟩) h⟩

theorem wp_region_tail {P : Program} {id : Nat} {Q : Exit → Act → World → Prop} {a : Act} {w : World} {l : List Oper} (n : Nat) (hm : P.follows .mixedOrders = true) (hB : Region.lexTailB .any l.toArray n = true)
    (h : wpStill P l.toArray w.drew (fun a' => wpList P l.toArray Q (l.drop n) a' w.drew) (l.take n) a) : (Code.region id l.toArray true).wp P Q a w := wp_region_still_tail n hm hB h

set_option maxRecDepth 100000 in
set_option maxHeartbeats 1000000 in
theorem over_any (x0 y0 x1 y1 dx dy : Int) (w : World) (a1 : 0 ≤ x0) (a2 : x0 ≤ 1000000) (b1 : 0 ≤ y0) (b2 : y0 ≤ 1000000) (c1 : 0 ≤ x1) (c2 : x1 ≤ 1000000) (d1 : 0 ≤ y1) (d2 : y1 ≤ 1000000)
    (e1 : 1 ≤ dx) (e2 : dx ≤ 1000000) (f1 : 1 ≤ dy) (f2 : dy ≤ 1000000) :
    Calls Try.prog 67 #[.agg #[.int .i64 x0, .int .i64 y0, .int .i64 x1, .int .i64 y1], .int .i64 dx, .int .i64 dy, .int .i64 0, .int .i64 0] w fun e w' =>
      e = .returned (overV x0 y0 x1 y1 dx dy) ∧ Below w.heap.size w w' := by
  go_enter Try.func67, Try.ntmps67
  go_wp2_with fail
  have g1 : IntKind.i64.wrap x0 = x0 := IntWalk.i64_in _ (by omega)
  have g2 : IntKind.i64.wrap y0 = y0 := IntWalk.i64_in _ (by omega)
  have g3 : IntKind.i64.wrap x1 = x1 := IntWalk.i64_in _ (by omega)
  have g4 : IntKind.i64.wrap y1 = y1 := IntWalk.i64_in _ (by omega)
  refine wp_region_tail 25 (by kernel_rfl) (by kernel_rfl) ?_
  simp only [List.take_succ_cons, List.take_zero, List.drop_succ_cons, List.drop_zero]
  repeat (first
    | still_step
    | still_call ((ceil_pos _ _ _ (by omega) (by omega) (by omega) (by omega)).mono (fun e w' h => ⟨h.1, h.2.symm⟩)))
  refine wpStill_nil ?_
  go_wp2_with fail
  refine bodyPost_ret (v := overV x0 y0 x1 y1 dx dy) (by simp [results, Try.results67, go_sem, overV]) rfl ⟨rfl, ?_⟩
  exact (((Below.refl _ _).alloc (Nat.le_refl _) _).alloc (by simp) _).drew

theorem part_any (x0 y0 x1 y1 dx dy : Int) (w : World) (a1 : 0 ≤ x0) (a2 : x0 ≤ 1000000) (b1 : 0 ≤ y0) (b2 : y0 ≤ 1000000) (c1 : 0 ≤ x1) (c2 : x1 ≤ 1000000) (d1 : 0 ≤ y1) (d2 : y1 ≤ 1000000)
    (e1 : 1 ≤ dx) (e2 : dx ≤ 1000000) (f1 : 1 ≤ dy) (f2 : dy ≤ 1000000) :
    Calls Try.prog 59 #[.agg #[.int .i64 x0, .int .i64 y0, .int .i64 x1, .int .i64 y1], .int .i64 dx, .int .i64 dy] w fun e w' =>
      e = .returned (overV x0 y0 x1 y1 dx dy) ∧ Below w.heap.size w w' := by
  go_enter Try.func59, Try.ntmps59
  go_wp2_with fail
  refine (over_any x0 y0 x1 y1 dx dy _ a1 a2 b1 b2 c1 c2 d1 d2 e1 e2 f1 f2).mono ?_
  rintro e w1 ⟨rfl, hb⟩
  obtain ⟨hc, hf⟩ := bcell hb
  have hz : w.heap.size + 1 < w1.heap.size := by have := hb.size; simp at this; omega
  have HB : Below w.heap.size w w1 := (((Below.refl w.heap.size w).alloc (Nat.le_refl _) _).alloc (by simp) _).trans (hb.mono (by simp; omega))
  clear hb
  unfold overV
  go_wp2_with fail
  refine bodyPost_ret (v := overV x0 y0 x1 y1 dx dy) (by simp [results, Try.results59, go_sem, overV, hc]) rfl ⟨rfl, ?_⟩
  exact (((HB.setCell (by simp) _).setCell (by simp) _).setCell (by simp) _).setCell (by simp) _

theorem whole_any (X Y Ox Oy : Int) (v : Value) (w : World) :
    Calls Try.prog 60 #[.agg #[.int .i64 X, .int .i64 Y, .int .i64 Ox, .int .i64 Oy, v]] w fun e w' =>
      e = .returned (.agg #[.int .i64 Ox, .int .i64 Oy, .int .i64 X, .int .i64 Y]) ∧ Below w.heap.size w w' := by
  go_enter Try.func60, Try.ntmps60
  go_wp2_with fail
  refine bodyPost_ret (v := .agg #[.int .i64 Ox, .int .i64 Oy, .int .i64 X, .int .i64 Y]) (by simp [results, Try.results60, go_sem]) rfl ⟨rfl, ?_⟩
  exact ((Below.refl _ _).alloc (Nat.le_refl _) _).alloc (by simp) _
theorem rarea_any (x0 y0 x1 y1 : Int) (w : World) (a1 : 0 ≤ x0) (a2 : x0 ≤ 1000) (b1 : 0 ≤ y0) (b2 : y0 ≤ 1000) (c1 : x0 ≤ x1) (c2 : x1 ≤ 1000) (d1 : y0 ≤ y1) (d2 : y1 ≤ 1000) :
    Calls Try.prog 58 #[.agg #[.int .i64 x0, .int .i64 y0, .int .i64 x1, .int .i64 y1]] w fun e w' => e = .returned (.int .i64 ((x1 - x0) * (y1 - y0))) ∧ Below w.heap.size w w' := by
  have m0 : 0 ≤ (x1 - x0) * (y1 - y0) := Int.mul_nonneg (by omega) (by omega)
  have m1 : (x1 - x0) * (y1 - y0) ≤ 1000 * 1000 := Int.mul_le_mul (by omega) (by omega) (by omega) (by omega)
  go_enter Try.func58, Try.ntmps58
  go_wp2_with fail
  go_ret
  exact ⟨rfl, (Below.refl _ _).alloc (Nat.le_refl _) _⟩

theorem half_bd (depth : Int) (h1 : 1 ≤ depth) (h2 : depth ≤ 16) : (1 : Int) ≤ 2 ^ (depth.toNat - 1) ∧ (2 : Int) ^ (depth.toNat - 1) ≤ 32768 ∧ (2 : Int) * 2 ^ (depth.toNat - 1) - 1 = 2 ^ depth.toNat - 1 := by
  obtain ⟨n, rfl⟩ := Int.eq_ofNat_of_zero_le (a := depth) (by omega)
  simp only [Int.toNat_natCast]
  have : n = 1 ∨ n = 2 ∨ n = 3 ∨ n = 4 ∨ n = 5 ∨ n = 6 ∨ n = 7 ∨ n = 8 ∨ n = 9 ∨ n = 10 ∨ n = 11 ∨ n = 12 ∨ n = 13 ∨ n = 14 ∨ n = 15 ∨ n = 16 := by omega
  rcases this with h|h|h|h|h|h|h|h|h|h|h|h|h|h|h|h <;> subst h <;> decide

theorem bcellC {B : Nat} {W w1 : World} (hb : Below B W w1) {a : Addr} {u : Value} (h : W.cell? a = some u) (hl : a.block < B) : w1.cell? a = some u := (hb.cell (p := a) hl).trans h
def loI (depth : Int) (sg : Bool) : Int := if sg then -(2 ^ (depth.toNat - 1)) else 0
def hiI (depth : Int) (sg : Bool) : Int := if sg then 2 ^ (depth.toNat - 1) - 1 else 2 ^ depth.toNat - 1
theorem lohi_bd (depth : Int) (sg : Bool) (h1 : 1 ≤ depth) (h2 : depth ≤ 16) : -32768 ≤ loI depth sg ∧ loI depth sg ≤ hiI depth sg ∧ hiI depth sg ≤ 65535 := by
  obtain ⟨p1, p2, p3⟩ := half_bd depth h1 h2
  unfold loI hiI
  cases sg <;> simp <;> omega

set_option maxRecDepth 100000 in
theorem rbounds_any (depth : Int) (sg : Bool) (w : World) (h1 : 1 ≤ depth) (h2 : depth ≤ 16) :
    Calls Try.prog 41 #[.int .i64 depth, .bool sg] w fun e w' => e = .returned (.tuple #[.int .i64 (loI depth sg), .int .i64 (hiI depth sg)]) ∧ w = w' := by
  obtain ⟨p1, p2, p3⟩ := half_bd depth h1 h2
  have P3 := Lib.hid p3
  clear p3
  cases sg
  · go_enter Try.func41, Try.ntmps41
    go_wp2_with fail
    go_ret2
    exact ⟨by unfold loI hiI; rw [← P3.out]; rfl, rfl⟩
  · go_enter Try.func41, Try.ntmps41
    go_wp2_with fail
    go_ret2
    exact ⟨by unfold loI hiI; simp, rfl⟩

theorem ceilI_mono (a b d : Int) (h : a ≤ b) (hd : 1 ≤ d) : ceilI a d ≤ ceilI b d := by
  unfold ceilI
  exact Int.ediv_le_ediv (by omega) (by omega)
theorem bnext {W W1 w1 : World} {B : Nat} (hb : Below W1.heap.size W1 w1) (h0 : Below B W W1) (hB : B ≤ W1.heap.size) : Below B W w1 := h0.trans (hb.mono hB)


def areaI (X Y Ox Oy dx dy : Int) : Int := (ceilI X dx - ceilI Ox dx) * (ceilI Y dy - ceilI Oy dy)
set_option maxRecDepth 100000 in
set_option maxHeartbeats 4000000 in
theorem canvasPart_any (X Y Ox Oy : Int) (v : Value) (depth : Int) (sg : Bool) (dx dy : Int) (dv : Value) (w : World) (x0 : Ox ≤ X) (x1 : X ≤ 64) (y0 : Oy ≤ Y) (y1 : Y ≤ 64) (o0 : 0 ≤ Ox) (o1 : 0 ≤ Oy) (k3 : 1 ≤ dx) (k4 : dx ≤ 4) (k5 : 1 ≤ dy) (k6 : dy ≤ 4) :
    Calls Try.prog 42 #[.agg #[.int .i64 X, .int .i64 Y, .int .i64 Ox, .int .i64 Oy, v], .agg #[.int .i64 depth, .bool sg, .int .i64 dx, .int .i64 dy, dv]] w fun e w' => e = .returned (.int .i64 (areaI X Y Ox Oy dx dy)) ∧ Below w.heap.size w w' := by
  obtain ⟨a1, a2⟩ := ceilI_bd X dx (by omega) k3
  obtain ⟨a3, a4⟩ := ceilI_bd Ox dx (by omega) k3
  obtain ⟨a5, a6⟩ := ceilI_bd Y dy (by omega) k5
  obtain ⟨a7, a8⟩ := ceilI_bd Oy dy (by omega) k5
  have a9 := ceilI_mono Ox X dx (by omega) k3
  have a10 := ceilI_mono Oy Y dy (by omega) k5
  unfold areaI
  go_enter Try.func42, Try.ntmps42
  go_wp2_with fail
  have hK : Below w.heap.size w ((w.alloc (.cells #[.int .i64 X, .int .i64 Y, .int .i64 Ox, .int .i64 Oy, v] 29)).alloc (.cells #[.int .i64 depth, .bool sg, .int .i64 dx, .int .i64 dy, dv] 45)) := ((Below.refl w.heap.size w).alloc (Nat.le_refl _) _).alloc (by simp) _
  generalize hq : (w.alloc (.cells #[.int .i64 X, .int .i64 Y, .int .i64 Ox, .int .i64 Oy, v] 29)).alloc (.cells #[.int .i64 depth, .bool sg, .int .i64 dx, .int .i64 dy, dv] 45) = wq at *
  have m0 : wq.cell? ⟨w.heap.size, 0, none⟩ = some (.int .i64 X) := by rw [← hq]; simp
  have m1 : wq.cell? ⟨w.heap.size, 1, none⟩ = some (.int .i64 Y) := by rw [← hq]; simp
  have m2 : wq.cell? ⟨w.heap.size, 2, none⟩ = some (.int .i64 Ox) := by rw [← hq]; simp
  have m3 : wq.cell? ⟨w.heap.size, 3, none⟩ = some (.int .i64 Oy) := by rw [← hq]; simp
  have m4 : wq.cell? ⟨w.heap.size, 4, none⟩ = some v := by rw [← hq]; simp
  have z2 : wq.cell? ⟨w.heap.size + 1, 2, none⟩ = some (.int .i64 dx) := by rw [← hq]; simp
  have z3 : wq.cell? ⟨w.heap.size + 1, 3, none⟩ = some (.int .i64 dy) := by rw [← hq]; simp
  have sw : w.heap.size < wq.heap.size := by rw [← hq]; simp; omega
  have sq : w.heap.size + 1 < wq.heap.size := by rw [← hq]; simp
  have HK := Lib.hid hK
  clear hq hK
  go_region_held3 (fun w' => w'.cell? ⟨w.heap.size, 0, none⟩ = some (.int .i64 X) ∧ w'.cell? ⟨w.heap.size, 1, none⟩ = some (.int .i64 Y) ∧ w'.cell? ⟨w.heap.size, 2, none⟩ = some (.int .i64 Ox) ∧ w'.cell? ⟨w.heap.size, 3, none⟩ = some (.int .i64 Oy) ∧ w'.cell? ⟨w.heap.size, 4, none⟩ = some v ∧ w'.cell? ⟨w.heap.size + 1, 2, none⟩ = some (.int .i64 dx) ∧ w'.cell? ⟨w.heap.size + 1, 3, none⟩ = some (.int .i64 dy))
    (first | exact ⟨m0, m1, m2, m3, m4, z2, z3⟩ | (refine (fun HB : Below wq.heap.size wq _ => ⟨bcellC HB m0 sw, bcellC HB m1 sw, bcellC HB m2 sw, bcellC HB m3 sw, bcellC HB m4 sw, bcellC HB z2 sq, bcellC HB z3 sq⟩) ?_; repeat (first | exact HB7 | exact HB6 | exact HB5 | exact Below.refl _ _ | refine Below.drew ?_)))
    (first | (go_at_call 60; refine (whole_any _ _ _ _ _ _).mono ?_; rintro e w5 ⟨rfl, hb5⟩; have HB5 : Below wq.heap.size wq w5 := bnext hb5 (by repeat (first | exact Below.refl _ _ | refine Below.drew ?_)) (by first | omega | (simp; done) | (simp; omega))) | (go_at_call 59; refine (part_any _ _ _ _ _ _ _ (by omega) (by omega) (by omega) (by omega) (by omega) (by omega) (by omega) (by omega) (by omega) (by omega) (by omega) (by omega)).mono ?_; rintro e w6 ⟨rfl, hb6⟩; simp only [overV]; have HB6 : Below wq.heap.size wq w6 := bnext hb6 HB5 HB5.size) | (go_at_call 58; refine (rarea_any _ _ _ _ _ (by omega) (by omega) (by omega) (by omega) (by omega) (by omega) (by omega) (by omega)).mono ?_; rintro e w7 ⟨rfl, hb7⟩; have HB7 : Below wq.heap.size wq w7 := bnext hb7 HB6 HB6.size))
  all_goals
    go_wp2_with fail
    go_ret
    exact ⟨rfl, HK.out.trans (HB7.mono (by omega))⟩
end Go.Proofs.Ytlhlhlabnjfhcaa
