/- A picture's components in memory: one number of one of them is changed. -/
import Derived.Test.YtlhlhlabnjfhcaaLzB
import Derived.Laws.OwnMore
namespace Go.Proofs.Ytlhlhlabnjfhcaa
open Go.RowKit Go.Maps

theorem flat_set : ∀ (cs : List CompD) (dvs : List Value) (k : Nat) (c : CompD) (d : Value), dvs.length = cs.length → cs[k]? = some c → dvs[k]? = some d → ∀ (c' : CompD) (d' : Value) (j : Nat) (u : Value), j < 5 → compCells c' d' = (compCells c d).set j u →
    compFlat (cs.set k c') (dvs.set k d') = (compFlat cs dvs).set (k * 5 + j) u
  | [], _, k, _, _, _, h, _ => by simp at h
  | _ :: _, [], k, _, _, h, _, _ => by simp at h
  | c0 :: r, d0 :: s, 0, c, d, _, hc, hd => by
    intro c' d' j u hj he
    simp at hc hd
    subst hc
    subst hd
    have e1 : compFlat ((c0 :: r).set 0 c') ((d0 :: s).set 0 d') = compCells c' d' ++ compFlat r s := by simp [compFlat]
    have e2 : compFlat (c0 :: r) (d0 :: s) = compCells c0 d0 ++ compFlat r s := by simp [compFlat]
    rw [e1, e2, he, Nat.zero_mul, Nat.zero_add, List.set_append_left _ _ (by simpa [compCells] using hj)]
  | c0 :: r, d0 :: s, k + 1, c, d, hl, hc, hd => by
    intro c' d' j u hj he
    have ih := flat_set r s k c d (by simpa using hl) (by simpa using hc) (by simpa using hd) c' d' j u hj he
    have e1 : compFlat ((c0 :: r).set (k + 1) c') ((d0 :: s).set (k + 1) d') = compCells c0 d0 ++ compFlat (r.set k c') (s.set k d') := by simp [compFlat]
    have e2 : compFlat (c0 :: r) (d0 :: s) = compCells c0 d0 ++ compFlat r s := by simp [compFlat]
    have e3 : (compCells c0 d0).length = 5 := rfl
    rw [e1, e2, ih, List.set_append_right _ _ (by rw [e3]; omega), e3, show (k + 1) * 5 + j - 5 = k * 5 + j by omega]

/-- component k lies there; what a store into it leaves -/
theorem comps_at {w : World} {B n cap k : Nat} {va : Option Addr} {cs : List CompD} {c : CompD} (h : CompsOwn w B (.slice va n cap) cs) (hk : cs[k]? = some c) :
    ∃ g d, va = some ⟨g, 0, none⟩ ∧ B ≤ g ∧ g < w.heap.size ∧ n = cs.length ∧ w.ownsRow B 3 1 d c.data.length (c.data.map (Value.int .i64)) ∧
      (∀ j u, (compCells c d)[j]? = some u → w.cell? ⟨g, k * 5 + j, none⟩ = some u) ∧ (∀ j, w.frozen? ⟨g, j, none⟩ = false) ∧
      (∀ (c' : CompD) (d' : Value) (j : Nat) (u : Value), j < 5 → compCells c' d' = (compCells c d).set j u → w.ownsRow B 3 1 d' c'.data.length (c'.data.map (Value.int .i64)) → CompsOwn (w.setCell ⟨g, k * 5 + j, none⟩ u) B (.slice (some ⟨g, 0, none⟩) n cap) (cs.set k c')) ∧
      (∀ B' ga n' cap' cs', CompsOwn w B' (.slice (some ⟨ga, 0, none⟩) n' cap') cs' → ga ≠ g → ∀ j u, CompsOwn (w.setCell ⟨g, j, none⟩ u) B' (.slice (some ⟨ga, 0, none⟩) n' cap') cs') ∧
      (∀ B' v n' xs, w.ownsRow B' 5 1 v n' xs → ∀ j u, (w.setCell ⟨g, j, none⟩ u).ownsRow B' 5 1 v n' xs) ∧
      (∀ g' A, Blk w g' 33 A → g' ≠ g) := by
  obtain ⟨dvs, h1, h2, h3⟩ := h
  have hlt := (List.getElem?_eq_some_iff.1 hk).1
  have hd0 : dvs[k]? = some (dvs[k]'(by omega)) := List.getElem?_eq_getElem _
  generalize dvs[k]'(by omega) = d0 at hd0
  have hd := h3 k c d0 hk hd0
  obtain ⟨va', cap', e⟩ := owns_slice h2
  simp only [Value.slice.injEq] at e
  obtain ⟨rfl, rfl, rfl⟩ := e
  have hr := Rd.of_owns h2
  have h2' := h2
  obtain ⟨hl, h⟩ := h2'
  rcases h with ⟨e, -⟩ | ⟨g, cap', cur, hv, hb, hg, hnn, hc, hs, ht⟩
  · simp only [Value.slice.injEq] at e
    omega
  · simp only [Value.slice.injEq] at hv
    obtain ⟨rfl, -, rfl⟩ := hv
    refine ⟨g, d0, rfl, hb, (Array.getElem?_eq_some_iff.1 hg).1, rfl, hd, ?_, fun j => frozen_of_row w g j cur _ hg, ?_, ?_, ?_, ?_⟩
    · intro j u hu
      have hj : j < 5 := by
        have := (List.getElem?_eq_some_iff.1 hu).1
        simpa [compCells] using this
      have hf := flat_get cs dvs k c d0 hk hd0 j hj
      obtain ⟨a, cap2, e, -, -, k3⟩ := hr
      simp only [Value.slice.injEq] at e
      obtain ⟨rfl, -, -⟩ := e
      obtain ⟨b, o, e2, k4⟩ := k3 (k * 5 + j) u (hf.trans hu)
      simp only [Option.some.injEq, Addr.mk.injEq, and_true] at e2
      obtain ⟨rfl, rfl⟩ := e2
      simpa using k4
    · intro c' d' j u hj he ho'
      have st := h2.stored (k * 5 + j) u
      refine ⟨dvs.set k d', by simpa using h1, ?_, ?_⟩
      · rw [List.length_set, flat_set cs dvs k c d0 h1 hk hd0 c' d' j u hj he]
        exact st.1
      · intro i ci di hci hdi
        by_cases hik : k = i
        · subst hik
          rw [List.getElem?_set_self hlt] at hci
          rw [List.getElem?_set_self (by omega)] at hdi
          cases hci
          cases hdi
          exact owns_apart ho' h2 (by decide) st.2
        · rw [List.getElem?_set_ne hik] at hci
          rw [List.getElem?_set_ne hik] at hdi
          exact owns_apart (h3 i ci di hci hdi) h2 (by decide) st.2
    · intro B' ga n' cap2 cs' hother hne j u
      have st := h2.stored j u
      obtain ⟨dvs', k1, k2, k3⟩ := hother
      refine ⟨dvs', k1, World.ownsRow.kept k2 st.2 (.inr (by simpa [Value.ownBlock] using hne)), fun i ci di hci hdi => owns_apart (k3 i ci di hci hdi) h2 (by decide) st.2⟩
    · intro B' v n' xs ho' j u
      exact owns_apart ho' h2 (by decide) (h2.stored j u).2
    · intro g' A hA e
      exact own_blk_ne h2 hA (by decide) (by rw [e]; rfl)
end Go.Proofs.Ytlhlhlabnjfhcaa
