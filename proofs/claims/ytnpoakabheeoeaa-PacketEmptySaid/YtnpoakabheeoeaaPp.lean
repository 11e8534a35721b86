/- A band of which nothing is new: written; the law's example. -/
import Derived.Test.YtnpoakabheeoeaaPo
namespace Go.Proofs.Ytnpoakabheeoeaa
open Go.RowKit

def listB (g bb : Nat) : HB := ⟨g, 34, #[.pointer (some ⟨bb, 0, none⟩)]⟩
theorem enc_one (d : BandA) (m : BandM) (H0 : List HB) (g : Nat) (W : World) (style layer : Int) (count : Nat) (hB : BandR d m H0) (hs : Sat W (listB g d.bb :: H0)) (hct : count ≤ 100000) (hly : 0 ≤ layer ∧ layer ≤ 10000) (hno : ∀ s ∈ m.ss, passN s.ps.length count (layer + 1) ≤ s.said) :
    Calls Try.prog 11 #[.slice (some ⟨g, 0, none⟩) 1 1, .int .i64 style, .int .i64 (count : Int), .int .i64 layer] W fun e W' =>
      ∃ a c H1 m' H', e = .returned (.tuple #[.slice (some ⟨a, 0, none⟩) 1 c, .slice none 0 0]) ∧ RowB (.slice (some ⟨a, 0, none⟩) 1 c) [0] H1 ∧ W'.cell? ⟨a, 0, none⟩ = some (.int .u8 0) ∧ 1 ≤ c ∧ BandR d m' H' ∧ m'.ss = m.ss ∧ Mv W (listB g d.bb :: H0) W' (H1 ++ (listB g d.bb :: H')) := by
  have hL : ListH (.slice (some ⟨g, 0, none⟩) 1 1) [d] [listB g d.bb] := RowH.new (size := 1) _ g 1 #[.pointer (some ⟨d.bb, 0, none⟩)] rfl (by decide)
  refine (enc_none (some ⟨g, 0, none⟩) 1 [d] (fun _ => m) style layer count [listB g d.bb] H0 W (by simp) hL ⟨H0, [], by simp, hB, rfl⟩ hs hct hly (fun d' hd s h => ?_)).mono ?_
  · exact hno s h
  · rintro e W' ⟨v, H1, HB', rfl, h1, ⟨H2, H3, rfl, h2, rfl⟩, h3⟩
    obtain ⟨a, c, cur, rfl, hc, -⟩ := RowH.form h1 (by decide)
    have hcell := (RowH.cell h1 h3.sat.left rfl 0 (by decide)).1
    refine ⟨a, c, H1, _, H2, rfl, h1, by simpa [cellsB] using hcell, hc, h2, encM_ss count _ _ _, ?_⟩
    simpa using h3
theorem new_none (w h : Nat) (planes : Int) (count : Nat) (layer : Int) : ∀ s ∈ (newBandM w h planes).ss, passN s.ps.length count (layer + 1) ≤ s.said := by
  intro s hs
  rw [List.eq_of_mem_replicate hs]
  exact Int.le_of_eq (passN_zero _ _)
set_option maxRecDepth 100000 in
set_option maxHeartbeats 1000000 in
theorem known_any (w : World) : Calls Try.prog 7 #[] w fun e w' => e = .returned (.bool true) ∧ Mv w [] w' [] := by
  have NB := Lib.hid (band_new 1 1 5 w (by decide) (by decide) (by decide))
  have NN := Lib.hid (new_none 1 1 5 1 0)
  go_enter Try.func7, Try.ntmps7
  go_wp2_with (first | (go_at_call 12; refine NB.out.mono ?_; rintro e w1 ⟨d, H, rfl, -, hB, m1⟩; have K1 := Lib.hid (And.intro hB m1); clear hB m1) | (go_at_call 11; refine (enc_one d _ H _ _ 0 0 1 K1.out.1 (K1.out.2.alloc _ _).sat (by decide) (by decide) NN.out).mono ?_; rintro e w2 ⟨a, c, H1, m', H', rfl, -, c0, hc, -, -, m2⟩; have M2 := (K1.out.2.alloc _ _).trans m2; have K2 := Lib.hid M2; clear m2 M2))
  go_ret
  exact ⟨rfl, Mv.drop (A := H1 ++ (_ :: H')) (H := []) (by simpa using K2.out)⟩
end Go.Proofs.Ytnpoakabheeoeaa
