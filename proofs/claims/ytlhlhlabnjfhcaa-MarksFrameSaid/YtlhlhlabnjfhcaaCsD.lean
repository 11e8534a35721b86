/- MarksFrame: a picture's components are changed in memory: one number of the first, and the first once more behind. -/
import Derived.Test.YtlhlhlabnjfhcaaRsE
import Derived.Test.YtlhlhlabnjfhcaaHdE
import Derived.Laws.OwnMore
namespace Go.Proofs.Ytlhlhlabnjfhcaa
open Go.RowKit Go.Maps

theorem dx5_len (cs : List CompD) : (dx5 cs).length = cs.length := by cases cs <;> rfl
theorem dx5_flat : ∀ (cs : List CompD) (dvs : List Value), dvs.length = cs.length → 1 ≤ cs.length → compFlat (dx5 cs) dvs = (compFlat cs dvs).set 2 (.int .i64 5)
  | [], _, _, h => by simp at h
  | _ :: _, [], h, _ => by simp at h
  | c :: r, d :: s, _, _ => by simp [compFlat, dx5, compCells]
theorem dx5_data {cs : List CompD} {i : Nat} {c : CompD} (h : (dx5 cs)[i]? = some c) : ∃ c0, cs[i]? = some c0 ∧ c0.data = c.data := by
  match cs, i with
  | [], _ => simp [dx5] at h
  | c1 :: r, 0 =>
    simp [dx5] at h
    exact ⟨c1, by simp, by rw [← h]⟩
  | c1 :: r, i + 1 =>
    simp [dx5] at h
    exact ⟨c, by simpa using h, rfl⟩

/-- where the components lie, and the first one's cells -/
theorem comps_first {w : World} {B n cap : Nat} {va : Option Addr} {cs : List CompD} (h : CompsOwn w B (.slice va n cap) cs) (hn : 1 ≤ cs.length) :
    ∃ g c0 d0, va = some ⟨g, 0, none⟩ ∧ B ≤ g ∧ g < w.heap.size ∧ cs[0]? = some c0 ∧ (∀ j, w.frozen? ⟨g, j, none⟩ = false) ∧ (∀ j u, (compCells c0 d0)[j]? = some u → w.cell? ⟨g, j, none⟩ = some u) ∧ RdI w d0 c0.data := by
  obtain ⟨dvs, h1, h2, h3⟩ := h
  have hc0 : cs[0]? = some (cs[0]'(by omega)) := List.getElem?_eq_getElem _
  have hd0 : dvs[0]? = some (dvs[0]'(by omega)) := List.getElem?_eq_getElem _
  generalize cs[0]'(by omega) = c0 at hc0
  generalize dvs[0]'(by omega) = d0 at hd0
  have hd := h3 0 c0 d0 hc0 hd0
  have hr := Rd.of_owns h2
  obtain ⟨hl, h⟩ := h2
  rcases h with ⟨-, h0⟩ | ⟨g, cap', cur, hv, hb, hg, hnn, hc, hs, ht⟩
  · omega
  · simp only [Value.slice.injEq] at hv
    obtain ⟨rfl, rfl, rfl⟩ := hv
    refine ⟨g, c0, d0, rfl, hb, ?_, hc0, fun j => frozen_of_row w g j cur _ hg, fun j u hu => ?_, RdI.of_owns hd⟩
    · have := Array.getElem?_eq_some_iff.1 hg
      exact this.1
    · have hj : j < 5 := by
        have := (List.getElem?_eq_some_iff.1 hu).1
        simpa [compCells] using this
      have hf := flat_get cs dvs 0 c0 d0 hc0 hd0 j hj
      obtain ⟨a, cap2, e, -, -, k3⟩ := hr
      simp only [Value.slice.injEq] at e
      obtain ⟨rfl, -, -⟩ := e
      obtain ⟨b, o, e2, k4⟩ := k3 (0 * 5 + j) u (hf.trans hu)
      simp only [Option.some.injEq, Addr.mk.injEq, and_true] at e2
      obtain ⟨rfl, rfl⟩ := e2
      simpa using k4

theorem CompsOwn.setDx {w : World} {B g n cap : Nat} {cs : List CompD} (h : CompsOwn w B (.slice (some ⟨g, 0, none⟩) n cap) cs) (hn : 1 ≤ cs.length) :
    CompsOwn (w.setCell ⟨g, 2, none⟩ (.int .i64 5)) B (.slice (some ⟨g, 0, none⟩) n cap) (dx5 cs) ∧ w.grownBy (w.setCell ⟨g, 2, none⟩ (.int .i64 5)) (some g) := by
  obtain ⟨dvs, h1, h2, h3⟩ := h
  have hnn : n = cs.length := by
    obtain ⟨a, cap', e⟩ := owns_slice h2
    simp only [Value.slice.injEq] at e
    exact e.2.1
  subst hnn
  have st := h2.stored 2 (.int .i64 5)
  refine ⟨⟨dvs, by rw [dx5_len]; exact h1, by rw [dx5_len, dx5_flat cs dvs h1 hn]; exact st.1, ?_⟩, st.2⟩
  intro i c dv hc hd
  obtain ⟨c0, hc0, e⟩ := dx5_data hc
  have hh := owns_apart (h3 i c0 dv hc0 hd) h2 (by decide) st.2
  rw [e] at hh
  exact hh

theorem comps_open {w : World} {B n cap : Nat} {va : Option Addr} {cs : List CompD} {c0 : CompD} (h : CompsOwn w B (.slice va n cap) cs) (hc0 : cs[0]? = some c0) :
    ∃ g d0 dvs, va = some ⟨g, 0, none⟩ ∧ B ≤ g ∧ g < w.heap.size ∧ n = cs.length ∧ dvs.length = cs.length ∧ w.ownsRow B 45 5 (.slice (some ⟨g, 0, none⟩) cs.length cap) cs.length (compFlat cs dvs) ∧
      (∀ (i : Nat) c dv, cs[i]? = some c → dvs[i]? = some dv → w.ownsRow B 3 1 dv c.data.length (c.data.map (Value.int .i64))) ∧ w.ownsRow B 3 1 d0 c0.data.length (c0.data.map (Value.int .i64)) ∧
      w.cell? ⟨g, 0, none⟩ = some (.int .i64 c0.depth) ∧ w.cell? ⟨g, 1, none⟩ = some (.bool c0.signed) ∧ w.cell? ⟨g, 2, none⟩ = some (.int .i64 c0.dx) ∧ w.cell? ⟨g, 3, none⟩ = some (.int .i64 c0.dy) ∧ w.cell? ⟨g, 4, none⟩ = some d0 := by
  obtain ⟨dvs, h1, h2, h3⟩ := h
  have hlt := (List.getElem?_eq_some_iff.1 hc0).1
  have hd0 : dvs[0]? = some (dvs[0]'(by omega)) := List.getElem?_eq_getElem _
  generalize dvs[0]'(by omega) = d0 at hd0
  have hd := h3 0 c0 d0 hc0 hd0
  obtain ⟨va', cap', e⟩ := owns_slice h2
  simp only [Value.slice.injEq] at e
  obtain ⟨rfl, rfl, rfl⟩ := e
  have hr := Rd.of_owns h2
  have h2' := h2
  obtain ⟨hl, h⟩ := h2'
  rcases h with ⟨-, h0⟩ | ⟨g, cap', cur, hv, hb, hg, hnn, hc, hs, ht⟩
  · omega
  · simp only [Value.slice.injEq] at hv
    obtain ⟨rfl, -, rfl⟩ := hv
    have get : ∀ j u, (compCells c0 d0)[j]? = some u → w.cell? ⟨g, j, none⟩ = some u := by
      intro j u hu
      have hj : j < 5 := by
        have := (List.getElem?_eq_some_iff.1 hu).1
        simpa [compCells] using this
      have hf := flat_get cs dvs 0 c0 d0 hc0 hd0 j hj
      obtain ⟨a, cap2, e, -, -, k3⟩ := hr
      simp only [Value.slice.injEq] at e
      obtain ⟨rfl, -, -⟩ := e
      obtain ⟨b, o, e2, k4⟩ := k3 (0 * 5 + j) u (hf.trans hu)
      simp only [Option.some.injEq, Addr.mk.injEq, and_true] at e2
      obtain ⟨rfl, rfl⟩ := e2
      simpa using k4
    exact ⟨g, d0, dvs, rfl, hb, (Array.getElem?_eq_some_iff.1 hg).1, rfl, h1, h2, h3, hd, get 0 _ rfl, get 1 _ rfl, get 2 _ rfl, get 3 _ rfl, get 4 _ rfl⟩

theorem five_step (cs : List CompD) (c0 : CompD) (h : cs[0]? = some c0) (k : Nat) : (cs ++ List.replicate k c0)[0]? = some c0 := by
  have hlt := (List.getElem?_eq_some_iff.1 h).1
  rw [List.getElem?_append_left hlt]
  exact h
theorem five_is (cs : List CompD) (c0 : CompD) (h : cs[0]? = some c0) : five cs = cs ++ List.replicate (5 - cs.length) c0 := by
  unfold five
  congr 2
  match cs, h with
  | c :: r, h => simpa using h
end Go.Proofs.Ytlhlhlabnjfhcaa
