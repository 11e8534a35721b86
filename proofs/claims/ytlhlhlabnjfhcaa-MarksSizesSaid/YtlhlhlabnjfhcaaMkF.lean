/- marks: COD is read: the way that is known. -/
import Derived.Test.YtlhlhlabnjfhcaaMkE
namespace Go.Proofs.Ytlhlhlabnjfhcaa
open Go.RowKit Go.Maps

/-- a reader stays what it is where a cell that is no byte is written -/
theorem Rdr.stored {w : World} {rb : Nat} {l : List UInt8} {e : Int} (h : Rdr w rb l e) {g k : Nat} {u0 : Value} (u : Value) (hne : g ≠ rb) (h0 : w.cell? ⟨g, k, none⟩ = some u0) (hu : ∀ c, u0 ≠ .int .u8 c) : Rdr (w.setCell ⟨g, k, none⟩ u) rb l e := by
  obtain ⟨A, c, h1, h2, h3, hl, h4⟩ := h
  refine ⟨A, c, h1.far (p := ⟨g, k, none⟩) (fun e => hne e.symm) u, h2, h3, hl, fun hn => ?_⟩
  obtain ⟨ad, rfl, hb, hc⟩ := h4 hn
  refine ⟨ad, rfl, hb, fun j x hx => ?_⟩
  have hx2 := hc j x hx
  rw [World.cell?_setCell_other]
  · exact hx2
  · intro he
    rw [← he, h0] at hx2
    obtain ⟨b, -, rfl⟩ : ∃ b ∈ l, (.int .u8 ((b : UInt8).toNat : Int)) = x := by
      have := List.mem_of_getElem? hx
      simpa [cellsB] using this
    injection hx2 with hx2
    exact hu _ hx2

theorem only_then {w w' w'' : World} {p g : Nat} (h : w.grownBy w' (some p)) (h2 : w'.grownBy w'' (some g)) (hg : w.heap.size ≤ g) : w.grownBy w'' (some p) :=
  ⟨h2.os.trans h.os, h2.tape.trans h.tape, h2.output.trans h.output, Nat.le_trans h.size h2.size, fun i hi hne => (h2.block i (Nat.lt_of_lt_of_le hi h.size) (by intro e; injection e with e; omega)).trans (h.block i hi hne)⟩

theorem take_app (a b : List UInt8) (k : Nat) (h : a.length = k) : (a ++ b).take k = a := by subst h; simp
theorem drop_app (a b : List UInt8) (k : Nat) (h : a.length = k) : (a ++ b).drop k = b := by subst h; simp
theorem getI_small (l : List UInt8) (n : Nat) (h : beN l = n) (hn : n < 9223372036854775808) : getI l = n := by
  unfold getI
  rw [h]
  exact IntWalk.i64_in _ (by omega)
theorem getI_put1 (n : Nat) (hn : n < 256) : getI (putB 1 (n : Int)) = n := by
  refine getI_small _ n ?_ (by omega)
  have e : ((n : Int) % 18446744073709551616).toNat = n := by omega
  simp [putB, putTo, List.range_succ, beN, e]
  omega
theorem getI_put2 (n : Nat) (hn : n < 65536) : getI (putB 2 (n : Int)) = n := by
  refine getI_small _ n ?_ (by omega)
  have e : ((n : Int) % 18446744073709551616).toNat = n := by omega
  simp [putB, putTo, List.range_succ, beN, e]
  omega
theorem getI_put4 (n : Nat) (hn : n < 4294967296) : getI (putB 4 (n : Int)) = n := by
  refine getI_small _ n ?_ (by omega)
  have e : ((n : Int) % 18446744073709551616).toNat = n := by omega
  simp [putB, putTo, List.range_succ, beN, e]
  omega
theorem getI_one (n : Nat) (hn : n < 256) : getI [UInt8.ofNat n] = n := by
  refine getI_small _ n ?_ (by omega)
  simp [beN]
  omega

/-- Get(1) -/
theorem get_one (rb n : Nat) (hn : n < 256) (l : List UInt8) (w : World) (hr : Rdr w rb (UInt8.ofNat n :: l) 0) (hl : l.length ≤ 1000000000) :
    Calls Try.prog 45 #[.pointer (some ⟨rb, 0, none⟩), .int .i64 1] w fun e w' => e = .returned (.int .i64 n) ∧ Rdr w' rb l 0 ∧ w.grownBy w' (some rb) := by
  have h := get_ok rb _ 1 w hr (by simp; omega) (by decide) (by decide) (by simp)
  have e : (UInt8.ofNat n :: l).take 1 = [UInt8.ofNat n] := rfl
  rw [e, getI_one n hn] at h
  exact h
/-- Get(k) of a field that Put has made -/
theorem get_put (rb k n : Nat) (h1 : 1 ≤ k) (h8 : k ≤ 4) (hn : getI (putB k (n : Int)) = n) (l : List UInt8) (w : World) (hr : Rdr w rb (putB k (n : Int) ++ l) 0) (hl : l.length ≤ 1000000000) :
    Calls Try.prog 45 #[.pointer (some ⟨rb, 0, none⟩), .int .i64 k] w fun e w' => e = .returned (.int .i64 n) ∧ Rdr w' rb l 0 ∧ w.grownBy w' (some rb) := by
  have h := get_ok rb _ k w hr (by simp [putB_length]; omega) (by omega) (by omega) (by simp [putB_length])
  have e1 : (putB k (n : Int) ++ l).take k = putB k n := take_app _ _ k (putB_length _ _)
  have e2 : (putB k (n : Int) ++ l).drop k = l := drop_app _ _ k (putB_length _ _)
  have e3 : getI (putB k (n : Int)) = n := hn
  rw [e1, e2, e3] at h
  exact h
theorem get_put2 (rb n : Nat) (hn : n < 65536) (l : List UInt8) (w : World) (hr : Rdr w rb (putB 2 (n : Int) ++ l) 0) (hl : l.length ≤ 1000000000) :
    Calls Try.prog 45 #[.pointer (some ⟨rb, 0, none⟩), .int .i64 2] w fun e w' => e = .returned (.int .i64 n) ∧ Rdr w' rb l 0 ∧ w.grownBy w' (some rb) :=
  get_put rb 2 n (by decide) (by decide) (getI_put2 n hn) l w hr hl
theorem get_put4 (rb n : Nat) (hn : n < 4294967296) (l : List UInt8) (w : World) (hr : Rdr w rb (putB 4 (n : Int) ++ l) 0) (hl : l.length ≤ 1000000000) :
    Calls Try.prog 45 #[.pointer (some ⟨rb, 0, none⟩), .int .i64 4] w fun e w' => e = .returned (.int .i64 n) ∧ Rdr w' rb l 0 ∧ w.grownBy w' (some rb) :=
  get_put rb 4 n (by decide) (by decide) (getI_put4 n hn) l w hr hl
end Go.Proofs.Ytlhlhlabnjfhcaa
