/- Small functions of packets: how many passes a layer brings; the k-th block; a flag. How many passes a block has behind a layer; the k-th block. A band's trees are laid: what that is; a band's cells. -/
import Derived.Test.YtnpoakabheeoeaaPa
namespace Go.Proofs.Ytnpoakabheeoeaa
open Go.RowKit

/-- how many of a block's passes are in the first layers -/
def passN (total layers l : Int) : Int := if l < 1 then 0 else if layers < 1 then 0 else if layers < l then min (max total 0) 100 else min (max total 0) 100 * min l 100 / min layers 100
theorem passN_zero (layers l : Int) : passN 0 layers l = 0 := by
  unfold passN
  split
  · rfl
  · split
    · rfl
    · have e : min (max (0 : Int) 0) 100 = 0 := by omega
      rw [e]
      split
      · rfl
      · rw [Int.zero_mul, Int.zero_ediv]
theorem passN_le (total layers l : Int) : 0 ≤ passN total layers l ∧ passN total layers l ≤ 100 := by
  unfold passN
  split
  · omega
  · split
    · omega
    · split
      · omega
      · have h1 : 1 ≤ min layers 100 := by omega
        have h2 : 0 ≤ min (max total 0) 100 ∧ min (max total 0) 100 ≤ 100 := by omega
        have h3 : 1 ≤ min l 100 ∧ min l 100 ≤ min layers 100 := by omega
        generalize min layers 100 = a at *
        generalize min (max total 0) 100 = b at *
        generalize min l 100 = c at *
        constructor
        · exact Int.ediv_nonneg (Int.mul_nonneg h2.1 (by omega)) (by omega)
        · have : b * c ≤ 100 * a := Int.mul_le_mul h2.2 h3.2 (by omega) (by omega)
          exact Int.ediv_le_of_le_mul (by omega) this
theorem pass_mid (t n l a b c : Int) (h1 : 1 ≤ l) (h2 : 1 ≤ n) (h3 : l ≤ n) (ha : a = min (max t 0) 100) (hb : b = min l 100) (hc : c = min n 100) : wrap64 ((wrap64 (a * b)).tdiv c) = passN t n l := by
  have e : passN t n l = a * b / c := by unfold passN; rw [if_neg (by omega), if_neg (by omega), if_neg (by omega), ha, hb, hc]
  have k := passN_le t n l
  have ha1 : 0 ≤ a ∧ a ≤ 100 := by omega
  have hb1 : 0 ≤ b ∧ b ≤ 100 := by omega
  have h4 : 0 ≤ a * b := Int.mul_nonneg ha1.1 hb1.1
  have h5 : a * b ≤ 100 * 100 := Int.mul_le_mul ha1.2 hb1.2 hb1.1 (by omega)
  rw [e] at k ⊢
  rw [← IntWalk.i64_left (a * b), IntWalk.i64_in _ (by omega), Int.tdiv_eq_ediv_of_nonneg h4, ← IntWalk.i64_left (a * b / c), IntWalk.i64_in _ (by omega)]
set_option maxRecDepth 100000 in
set_option maxHeartbeats 2000000 in
theorem passes_any (t n l : Int) (w : World) (ht : 0 ≤ t ∧ t ≤ 1000000) (hn : -1000000 ≤ n ∧ n ≤ 1000000) (hl : -1000000 ≤ l ∧ l ≤ 1000000) :
    Calls Try.prog 57 #[.int .i64 t, .int .i64 n, .int .i64 l] w fun e w' => e = .returned (.int .i64 (passN t n l)) ∧ Mv w [] w' [] := by
  go_enter Try.func57, Try.ntmps57
  go_wp2_with fail
  all_goals
    go_ret
    refine ⟨?_, Mv.refl (Sat.nil _)⟩
    refine congrArg Ending.returned (congrArg (Value.int .i64) ?_)
    first
    | (unfold passN; omega)
    | exact pass_mid t n l 100 100 100 (by omega) (by omega) (by omega) (by omega) (by omega) (by omega)
    | exact pass_mid t n l _ _ _ (by omega) (by omega) (by omega) (by omega) (by omega) (by omega)
set_option maxRecDepth 100000 in
theorem flag_any (b : Bool) (w : World) :
    Calls Try.prog 27 #[.bool b] w fun e w' => e = .returned (.int .i64 (if b then 1 else 0)) ∧ w' = w := by
  cases b
  all_goals
    go_enter Try.func27, Try.ntmps27
    go_wp2_with fail
    go_ret
    exact ⟨rfl, rfl⟩
end Go.Proofs.Ytnpoakabheeoeaa
namespace Go.Proofs.Ytnpoakabheeoeaa
open Go.RowKit

set_option maxRecDepth 100000 in
set_option maxHeartbeats 2000000 in
theorem fresh_any (x : SpotX) (count layer : Int) (w : World) (A : Option Addr) (n c : Nat) (hc : w.cell? ⟨x.d.lb, x.k * 5 + 1, none⟩ = some (.slice A n c)) (_hx : x.k ≤ 100000) (hn : n ≤ 1000000) (hct : 0 ≤ count ∧ count ≤ 100000) (hl : -1 ≤ layer ∧ layer ≤ 100000) :
    Calls Try.prog 24 #[x.v, .int .i64 count, .int .i64 layer] w fun e w' => e = .returned (.int .i64 (passN n count (layer + 1))) ∧ Mv w [] w' [] := by
  have C := Lib.hid fun W => passes_any n count (layer + 1) W ⟨by omega, by omega⟩ ⟨by omega, by omega⟩ ⟨by omega, by omega⟩
  have M := (mv_alloc w 67 x.cells).drop1
  have c1 := ((Below.refl w.heap.size w).alloc (Nat.le_refl _) (.cells x.cells 67)).cell (p := ⟨x.d.lb, x.k * 5 + 1, none⟩) (World.block_lt_of_cell? w _ hc)
  rw [hc] at c1
  have b0 := (Blk.new w 67 x.cells).cell 0
  unfold SpotX.v
  unfold SpotX.cells at M c1 b0
  have K := Lib.hid M
  clear M
  go_enter Try.func24, Try.ntmps24
  go_wp2_with (go_at_call 57; with_reducible refine (C.out _).mono ?_; rintro e w2 ⟨rfl, m2⟩; have K2 := Lib.hid m2; clear m2)
  go_ret
  exact ⟨rfl, K.out.trans K2.out⟩
theorem getT_any (tb lb n c : Nat) (k : Int) (w : World) (hc : w.cell? ⟨tb, 0, none⟩ = some (.slice (some ⟨lb, 0, none⟩) n c)) (_hn : n ≤ 100000) :
    Calls Try.prog 46 #[.pointer (some ⟨tb, 0, none⟩), .int .i64 k] w fun e w' => w' = w ∧ e = .returned (if k < 0 ∨ (n : Int) ≤ k then .tuple #[.pointer none, .bool false] else .tuple #[.pointer (some ⟨lb, k.toNat * 5, none⟩), .bool true]) := by
  by_cases h : k < 0 ∨ (n : Int) ≤ k
  · rw [if_pos h]
    go_enter Try.func46, Try.ntmps46
    go_wp2_with fail
    all_goals first
    | omega
    | (go_ret2; exact ⟨rfl, rfl⟩)
  · rw [if_neg h]
    obtain ⟨j, rfl⟩ : ∃ j : Nat, k = (j : Int) := ⟨k.toNat, by omega⟩
    have hj : j < n := by omega
    have d1 : decide ((j : Int) < 0) = false := by simp
    have d2 : decide ((n : Int) ≤ (j : Int)) = false := by simp; omega
    rw [Int.toNat_natCast]
    go_enter Try.func46, Try.ntmps46
    go_wp2_with fail
    all_goals first
    | omega
    | (go_ret2; exact ⟨rfl, rfl⟩)
end Go.Proofs.Ytnpoakabheeoeaa
namespace Go.Proofs.Ytnpoakabheeoeaa
open Go.RowKit

def setUpL : LevM → List LevM → Nat → Nat → List LevM
  | _, [], _, _ => []
  | B, L :: R, x, y => L.setN (x / 2) (y / 2) (leastM B (x / 2) (y / 2)) :: setUpL (L.setN (x / 2) (y / 2) (leastM B (x / 2) (y / 2))) R (x / 2) (y / 2)
/-- a tree, a leaf's number laid -/
def setT (T : List LevM) (k : Nat) (n : Int) : List LevM :=
  match T with
  | [] => []
  | L :: R => L.setN (k % L.w) (k / L.w) n :: setUpL (L.setN (k % L.w) (k / L.w) n) R (k % L.w) (k / L.w)
theorem setUpP_map (B : LevM) (R : List LvG) (x y : Nat) : (setUpP B R x y).map (·.2) = setUpL B (R.map (·.2)) x y := by
  induction R generalizing B x y with
  | nil => rfl
  | cons p R ih =>
    show _ :: _ = _ :: _
    rw [ih]
theorem setP_map (P : List LvG) (k : Nat) (n : Int) (p0 : LvG) (h : P[0]? = some p0) : (setP P (k % p0.2.w) (k / p0.2.w) n).map (·.2) = setT (P.map (·.2)) k n := by
  cases P with
  | nil => simp at h
  | cons p R =>
    simp at h
    subst h
    show _ :: _ = _ :: _
    rw [setUpP_map]
/-- the first layer that brings passes of a block -/
def frGo (count np : Int) : Nat → Nat → Nat
  | 0, n => n
  | f + 1, n => if passN np count ((n : Int) + 1) = 0 then frGo count np f (n + 1) else n
def frN (count : Nat) (np : Nat) : Nat := frGo count np count 0
def plantStep (count : Nat) (m : BandM) (k : Nat) : BandM :=
  match m.ss[k]? with
  | none => m
  | some s => { m with first := setT m.first k (frN count s.ps.length), zeros := setT m.zeros k (max (m.planes - s.pl) 0) }
def plantM (count : Nat) (m : BandM) : BandM := if m.set then m else (List.range m.ss.length).foldl (plantStep count) { m with set := true }

/-- a block's cells -/
theorem state_cells {w : World} {lb : Nat} {G : List StG} (h : Blk w lb 70 (G.flatMap StG.v).toArray) {k : Nat} {s : StG} (hs : G[k]? = some s) :
    w.cell? ⟨lb, k * 5, none⟩ = some (.int .i64 s.m.pl) ∧ w.cell? ⟨lb, k * 5 + 1, none⟩ = some s.vp ∧ w.cell? ⟨lb, k * 5 + 2, none⟩ = some s.vb ∧ w.cell? ⟨lb, k * 5 + 3, none⟩ = some (.int .i64 s.m.said) ∧ w.cell? ⟨lb, k * 5 + 4, none⟩ = some (.int .i64 s.m.lb) ∧ ∀ i, w.frozen? ⟨lb, i, none⟩ = false := by
  have g := fun j (hj : j < 5) => flat_get StG.v 5 StG.v_length G k s hs j hj
  have c := fun i => h.cell i
  simp only [List.getElem?_toArray] at c
  refine ⟨?_, ?_, ?_, ?_, ?_, fun i => h.frozen i⟩
  · rw [c]; exact g 0 (by omega)
  · rw [c]; exact g 1 (by omega)
  · rw [c]; exact g 2 (by omega)
  · rw [c]; exact g 3 (by omega)
  · rw [c]; exact g 4 (by omega)
theorem BandG.mem_band (b : BandG) (d : BandA) : bandB b d ∈ b.heap d := List.mem_cons_self
theorem BandG.mem_states (b : BandG) (d : BandA) : statesB b d ∈ b.heap d := List.mem_cons_of_mem _ List.mem_cons_self
theorem Mv.blkm {w0 w : World} {H0 H : List HB} (h : Mv w0 H0 w H) {x : HB} (hx : x ∈ H) : Blk w x.g x.t x.cs := h.sat.2 x hx
end Go.Proofs.Ytnpoakabheeoeaa
