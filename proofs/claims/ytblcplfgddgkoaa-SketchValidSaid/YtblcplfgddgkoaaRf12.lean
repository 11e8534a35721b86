/- The document's chapter 12 (waveletref12): ceil, over, Part, Whole, Area. -/
import Derived.Test.YtblcplfgddgkoaaSkSum
import Derived.StillTailTactics
namespace Go.Proofs.Ytblcplfgddgkoaa
open Go.RowKit

/-- ceil: a by b -/
def ceilI (a b : Int) : Int := (a + b - 1) / b

theorem ceil_pos (a b : Int) (w : World) (h0 : 0 ≤ a) (h1 : a ≤ 1000000) (h2 : 1 ≤ b) (h3 : b ≤ 1000000) :
    Calls Try.prog 33 #[.int .i64 a, .int .i64 b] w fun e w' => e = .returned (.int .i64 (ceilI a b)) ∧ w = w' := by
  go_enter Try.func33, Try.ntmps33
  go_wp2
  go_ret
  exact ⟨rfl, rfl⟩

theorem ceilI_bd (a b : Int) (h0 : 0 ≤ a) (h2 : 1 ≤ b) : 0 ≤ ceilI a b ∧ ceilI a b ≤ a := by
  unfold ceilI
  constructor
  · exact Int.ediv_nonneg (by omega) (by omega)
  · have : (a + b - 1) / b < a + 1 := by
      apply Int.ediv_lt_of_lt_mul (by omega)
      have : (a + 1) * b = a * b + b := by rw [Int.add_mul, Int.one_mul]
      rw [this]
      have : a * 1 ≤ a * b := Int.mul_le_mul_of_nonneg_left h2 h0
      omega
    omega

def overV (x0 y0 x1 y1 dx dy : Int) : Value := .agg #[.int .i64 (ceilI x0 dx), .int .i64 (ceilI y0 dy), .int .i64 (ceilI x1 dx), .int .i64 (ceilI y1 dy)]

theorem bcell {W w1 : World} (hb : Below W.heap.size W w1) : (∀ b o, b < W.heap.size → w1.cell? ⟨b, o, none⟩ = W.cell? ⟨b, o, none⟩) ∧ (∀ b o, b < W.heap.size → w1.frozen? ⟨b, o, none⟩ = W.frozen? ⟨b, o, none⟩) :=
  ⟨fun b o h => hb.cell (p := ⟨b, o, none⟩) h, fun b o h => hb.frozen (p := ⟨b, o, none⟩) h⟩

theorem wp_region_tail {P : Program} {id : Nat} {Q : Exit → Act → World → Prop} {a : Act} {w : World} {l : List Oper} (n : Nat) (hm : P.follows .mixedOrders = true) (hB : Region.lexTailB .any l.toArray n = true)
    (h : wpStill P l.toArray w.drew (fun a' => wpList P l.toArray Q (l.drop n) a' w.drew) (l.take n) a) : (Code.region id l.toArray true).wp P Q a w := wp_region_still_tail n hm hB h

set_option maxHeartbeats 1000000 in
theorem over_any (x0 y0 x1 y1 dx dy : Int) (w : World) (a1 : 0 ≤ x0) (a2 : x0 ≤ 1000000) (b1 : 0 ≤ y0) (b2 : y0 ≤ 1000000) (c1 : 0 ≤ x1) (c2 : x1 ≤ 1000000) (d1 : 0 ≤ y1) (d2 : y1 ≤ 1000000)
    (e1 : 1 ≤ dx) (e2 : dx ≤ 1000000) (f1 : 1 ≤ dy) (f2 : dy ≤ 1000000) :
    Calls Try.prog 31 #[.agg #[.int .i64 x0, .int .i64 y0, .int .i64 x1, .int .i64 y1], .int .i64 dx, .int .i64 dy, .int .i64 0, .int .i64 0] w fun e w' =>
      e = .returned (overV x0 y0 x1 y1 dx dy) ∧ Below w.heap.size w w' := by
  go_enter Try.func31, Try.ntmps31
  go_wp2_with fail
  have g1 : IntKind.i64.wrap x0 = x0 := IntWalk.i64_in _ (by omega)
  have g2 : IntKind.i64.wrap y0 = y0 := IntWalk.i64_in _ (by omega)
  have g3 : IntKind.i64.wrap x1 = x1 := IntWalk.i64_in _ (by omega)
  have g4 : IntKind.i64.wrap y1 = y1 := IntWalk.i64_in _ (by omega)
  refine wp_region_tail 25 (by kernel_rfl) (by kernel_rfl) ?_
  simp only [List.take_succ_cons, List.take_zero, List.drop_succ_cons, List.drop_zero]
  repeat (first
    | still_step
    | still_call ((ceil_pos _ _ _ (by omega) (by omega) (by omega) (by omega)).mono (fun e w' h => ⟨h.1, h.2.symm⟩)))
  refine wpStill_nil ?_
  go_wp2_with fail
  refine bodyPost_ret (v := overV x0 y0 x1 y1 dx dy) (by simp [results, Try.results31, go_sem, overV]) rfl ⟨rfl, ?_⟩
  exact (((Below.refl _ _).alloc (Nat.le_refl _) _).alloc (by simp) _).drew

theorem part_any (x0 y0 x1 y1 dx dy : Int) (w : World) (a1 : 0 ≤ x0) (a2 : x0 ≤ 1000000) (b1 : 0 ≤ y0) (b2 : y0 ≤ 1000000) (c1 : 0 ≤ x1) (c2 : x1 ≤ 1000000) (d1 : 0 ≤ y1) (d2 : y1 ≤ 1000000)
    (e1 : 1 ≤ dx) (e2 : dx ≤ 1000000) (f1 : 1 ≤ dy) (f2 : dy ≤ 1000000) :
    Calls Try.prog 19 #[.agg #[.int .i64 x0, .int .i64 y0, .int .i64 x1, .int .i64 y1], .int .i64 dx, .int .i64 dy] w fun e w' =>
      e = .returned (overV x0 y0 x1 y1 dx dy) ∧ Below w.heap.size w w' := by
  go_enter Try.func19, Try.ntmps19
  go_wp2_with fail
  refine (over_any x0 y0 x1 y1 dx dy _ a1 a2 b1 b2 c1 c2 d1 d2 e1 e2 f1 f2).mono ?_
  rintro e w1 ⟨rfl, hb⟩
  obtain ⟨hc, hf⟩ := bcell hb
  have hz : w.heap.size + 1 < w1.heap.size := by have := hb.size; simp at this; omega
  have HB : Below w.heap.size w w1 := (((Below.refl w.heap.size w).alloc (Nat.le_refl _) _).alloc (by simp) _).trans (hb.mono (by simp; omega))
  clear hb
  unfold overV
  go_wp2_with fail
  refine bodyPost_ret (v := overV x0 y0 x1 y1 dx dy) (by simp [results, Try.results19, go_sem, overV, hc]) rfl ⟨rfl, ?_⟩
  exact (((HB.setCell (by simp) _).setCell (by simp) _).setCell (by simp) _).setCell (by simp) _

theorem whole_any (X Y Ox Oy : Int) (v : Value) (w : World) :
    Calls Try.prog 20 #[.agg #[.int .i64 X, .int .i64 Y, .int .i64 Ox, .int .i64 Oy, v]] w fun e w' =>
      e = .returned (.agg #[.int .i64 Ox, .int .i64 Oy, .int .i64 X, .int .i64 Y]) ∧ Below w.heap.size w w' := by
  go_enter Try.func20, Try.ntmps20
  go_wp2_with fail
  refine bodyPost_ret (v := .agg #[.int .i64 Ox, .int .i64 Oy, .int .i64 X, .int .i64 Y]) (by simp [results, Try.results20, go_sem]) rfl ⟨rfl, ?_⟩
  exact ((Below.refl _ _).alloc (Nat.le_refl _) _).alloc (by simp) _
end Go.Proofs.Ytblcplfgddgkoaa
