/- Tag trees: what they are. -/
import Derived.Test.YtnpoakabheeoeaaLib
namespace Go.Proofs.Ytnpoakabheeoeaa

structure NodeM where
  n : Int
  low : Int
  said : Bool
structure LevM where
  w : Nat
  h : Nat
  l : List NodeM
/-- levels, the leaves first: each is half as wide and high as the one beneath, the last has one node -/
def Dims : List LevM → Prop
  | [] => True
  | [L] => L.w = 1 ∧ L.h = 1 ∧ L.l.length = L.w * L.h
  | L :: M :: T => 1 ≤ L.w ∧ 1 ≤ L.h ∧ L.l.length = L.w * L.h ∧ M.w = (L.w + 1) / 2 ∧ M.h = (L.h + 1) / 2 ∧ Dims (M :: T)
theorem Dims.len {T : List LevM} (h : Dims T) {i : Nat} {L : LevM} (hL : T[i]? = some L) : L.l.length = L.w * L.h := by
  induction T generalizing i with
  | nil => simp at hL
  | cons L0 T ih =>
    cases T with
    | nil =>
      cases i with
      | zero => simp at hL; subst hL; exact h.2.2
      | succ i => simp at hL
    | cons M T =>
      cases i with
      | zero => simp at hL; subst hL; exact h.2.2.1
      | succ i => exact ih h.2.2.2.2.2 (by simpa using hL)
/-- a place, seen from level i -/
theorem Dims.at_ {T : List LevM} (h : Dims T) {L0 : LevM} {x y : Nat} (h0 : T[0]? = some L0) (hx : x < L0.w) (hy : y < L0.h) {i : Nat} {L : LevM} (hL : T[i]? = some L) : x / 2 ^ i < L.w ∧ y / 2 ^ i < L.h := by
  induction T generalizing i L0 x y with
  | nil => simp at hL
  | cons K T ih =>
    simp at h0
    subst h0
    cases i with
    | zero => simp at hL; subst hL; simpa using ⟨hx, hy⟩
    | succ i =>
      cases T with
      | nil => simp at hL
      | cons M T =>
        obtain ⟨-, -, -, hw, hh, hd⟩ := h
        have := ih (L0 := M) (x := x / 2) (y := y / 2) hd (by simp) (by omega) (by omega) (i := i) (by simpa using hL)
        rw [Nat.div_div_eq_div_mul, Nat.div_div_eq_div_mul] at this
        rw [Nat.pow_succ, Nat.mul_comm (2 ^ i) 2]
        exact this
theorem place_lt {x y w h : Nat} (hx : x < w) (hy : y < h) : y * w + x < w * h := by
  have : (y + 1) * w ≤ h * w := Nat.mul_le_mul_right w hy
  rw [Nat.add_mul, Nat.one_mul] at this
  rw [Nat.mul_comm w h]
  omega
end Go.Proofs.Ytnpoakabheeoeaa
