/- A copy of passes. -/
import Derived.Test.YtnpoakabheeoeaaPl
import Derived.WalkLawsBesides
namespace Go.Proofs.Ytnpoakabheeoeaa
open Go.RowKit

set_option maxRecDepth 100000 in
theorem cloneP_any (v : Value) (l : List (Int × Bool)) (w : World) (hv : PV w v l) (hn : l.length ≤ 1000000) :
    Calls Try.prog 72 #[v] w fun e w' => ∃ v' H', e = .returned v' ∧ RowP v' l H' ∧ Mv w [] w' H' := by
  obtain ⟨A, c, rfl, h1, h2, hr⟩ := hv
  have HV := Lib.hid hr
  have hq : ∀ W, (binOp .eql 43 (.slice A l.length c) (.slice none 0 0)).run Try.prog W = .ok (.bool A.isNone) W := fun W => Lib.run_eql_slice_nil W 43 108 A l.length c 0 0 Try.underlying43
  rcases A with _ | ad
  · have h0 : l.length = 0 := by
      rcases Nat.eq_zero_or_pos l.length with h | h
      · exact h
      · obtain ⟨_, h, _⟩ := hr.2 (by omega); cases h
    have hl : l = [] := List.eq_nil_of_length_eq_zero h0
    subst hl
    clear hr HV hn h1 h0
    simp only [List.length_nil] at hq ⊢
    go_enter Try.func72, Try.ntmps72
    go_wp2
    go_ret
    exact ⟨_, [], rfl, RowH.nil _ _, Mv.refl (Sat.nil w)⟩
  · have M0 := mv_alloc w 108 #[]
    have B0 : PV (w.alloc (.cells #[] 108)) (.slice (some ad) l.length c) l := ⟨some ad, c, rfl, h1, h2, (hr.alloc (Nat.le_refl _) _).more (by simp)⟩
    have R0 : RowP (.slice (some ⟨w.heap.size, 0, none⟩) 0 0) [] [⟨w.heap.size, 108, #[]⟩] := RowH.new 108 w.heap.size 0 #[] (by simp) (by decide)
    have K := Lib.hid (And.intro M0 (And.intro B0 R0))
    obtain ⟨n, hnn⟩ : ∃ n, l.length = n := ⟨_, rfl⟩
    have HN := Lib.hid hnn
    rw [hnn] at hq hn h1 K
    rw [hnn]
    clear hr HV M0 B0 R0 hnn
    go_enter Try.func72, Try.ntmps72
    go_wp2_with (at_builtin; go_must (refine wpList_appP rfl (.tmp 5) (.tmp 6) rfl _ _ [] l _ rfl rfl K.out.2.2 K.out.1.sat K.out.2.1 (by rw [HN.out]; simp; omega) ?_; intro v' w1 H1 hr1 m1; obtain ⟨a1, c1, rfl⟩ := hr1.slice; have K1 := Lib.hid (And.intro hr1 m1); clear hr1 m1))
    go_ret
    exact ⟨_, H1, rfl, by simpa using K1.out.1, K.out.1.trans K1.out.2⟩
end Go.Proofs.Ytnpoakabheeoeaa
