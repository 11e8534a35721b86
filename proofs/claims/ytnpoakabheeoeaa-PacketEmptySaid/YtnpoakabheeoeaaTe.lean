/- Tag trees of the program: the way down to a leaf. -/
import Derived.Test.YtnpoakabheeoeaaTd
namespace Go.Proofs.Ytnpoakabheeoeaa
open Go.RowKit

/-- the nodes over a place, the leaf first: pointers -/
def wayV (P : List LvG) (x y : Nat) : List Value := P.mapIdx fun i p => .pointer (some ⟨p.1, 3 * ((y / 2 ^ i) * p.2.w + x / 2 ^ i), none⟩)
theorem wayV_length (P : List LvG) (x y : Nat) : (wayV P x y).length = P.length := by simp [wayV]
theorem wayV_get (P : List LvG) (x y i : Nat) (p : LvG) (h : P[i]? = some p) : (wayV P x y)[i]? = some (.pointer (some ⟨p.1, 3 * ((y / 2 ^ i) * p.2.w + x / 2 ^ i), none⟩)) := by simp [wayV, h]
/-- how a tree's levels lie to each other -/
def PDims (P : List LvG) : Prop := Dims (P.map (·.2)) ∧ ∀ p ∈ P, 1 ≤ p.2.w ∧ p.2.w ≤ 64 ∧ 1 ≤ p.2.h ∧ p.2.h ≤ 64
theorem PDims.get {P : List LvG} (h : PDims P) {i : Nat} {p : LvG} (hp : P[i]? = some p) : p.2.l.length = p.2.w * p.2.h ∧ 1 ≤ p.2.w ∧ p.2.w ≤ 64 ∧ 1 ≤ p.2.h ∧ p.2.h ≤ 64 :=
  ⟨h.1.len (i := i) (by simp [hp]), h.2 p (List.mem_of_getElem? hp)⟩
theorem PDims.at_ {P : List LvG} (h : PDims P) {p0 : LvG} {x y : Nat} (h0 : P[0]? = some p0) (hx : x < p0.2.w) (hy : y < p0.2.h) {i : Nat} {p : LvG} (hp : P[i]? = some p) : x / 2 ^ i < p.2.w ∧ y / 2 ^ i < p.2.h :=
  h.1.at_ (L0 := p0.2) (by simp [h0]) hx hy (by simp [hp])
theorem infoPN : (Try.prog.info? 166).map (fun i => (i.zero, i.size, i.bytes)) = some (some (.pointer none), 1, 8) := by kernel_rfl

/-- a row's cell and what it says of the world -/
theorem RowH.get {e : TypeId} {size n c : Nat} {A : Option Addr} {xs : List Value} {H : List HB} {w : World} (h : RowH e size (.slice A n c) n xs H) (hs : Sat w H) (hn : 0 < n) :
    ∃ g, A = some ⟨g, 0, none⟩ ∧ (∀ i, i < n * size → w.cell? ⟨g, i, none⟩ = xs[i]?) ∧ ∀ i, w.frozen? ⟨g, i, none⟩ = false := by
  obtain ⟨g, cap, cur, hv, k1, k2, k3, k4, hH⟩ := h.form hn
  cases hv
  subst hH
  have hb : Blk w g e cur := hs.mem List.mem_cons_self
  refine ⟨g, rfl, fun i hi => ?_, fun i => hb.frozen i⟩
  rw [hb.cell i, ← k4, List.getElem?_take, if_pos hi, Array.getElem?_toList]

set_option maxRecDepth 100000 in
set_option maxHeartbeats 2000000 in
theorem way_none (tb : Nat) (P : List LvG) (k : Int) (W : World) (H : List HB) (h : TreeH tb P H) (hs : Sat W H) (hl : P.length ≤ 1000) (hk : ∀ p, P[0]? = some p → k < 0 ∨ (p.2.l.length : Int) ≤ k) :
    Calls Try.prog 79 #[.pointer (some ⟨tb, 0, none⟩), .int .i64 k] W fun e W' => e = .returned (.slice none 0 0) ∧ W = W' := by
  obtain ⟨v, Hl, rfl, hr⟩ := h
  obtain ⟨va, vc, rfl⟩ := hr.slice
  have c0 : W.cell? ⟨tb, 0, none⟩ = some (.slice va P.length vc) := (hs.at_ 0 rfl).cell 0
  by_cases hP : P = []
  · subst hP
    clear hr hs
    go_enter Try.func79, Try.ntmps79
    go_wp2_with fail
    go_ret
    exact ⟨rfl, rfl⟩
  · have hn : 0 < P.length := List.length_pos_iff.2 hP
    obtain ⟨p, hp⟩ : ∃ p, P[0]? = some p := ⟨_, List.getElem?_eq_getElem hn⟩
    have hkk := hk p hp
    obtain ⟨g, rfl, hc, -⟩ := hr.get (hs.right (A := [_])).left hn
    have c2 := hc 2 (by omega)
    rw [(levsV_get P 0 p hp).2.2] at c2
    have d0 : ((P.length : Int) == 0) = false := by simp; omega
    generalize P.length = n at *
    generalize p.2.l.length = m at *
    generalize p.1 = g0 at *
    have hn0 : (0 : Int) < (n : Int) := by omega
    clear hr hs hc hk hp
    by_cases h1 : k < 0
    · have d1 : decide (k < 0) = true := by simpa using h1
      clear hkk h1
      go_enter Try.func79, Try.ntmps79
      go_wp2_with fail
      go_ret
      exact ⟨rfl, rfl⟩
    · have d1 : decide (k < 0) = false := by simpa using h1
      have d2 : decide ((m : Int) ≤ k) = true := by simp; omega
      clear hkk h1
      go_enter Try.func79, Try.ntmps79
      go_wp2_with fail
      go_ret
      exact ⟨rfl, rfl⟩
end Go.Proofs.Ytnpoakabheeoeaa
