/- Tag trees of the program: New. -/
import Derived.Test.YtnpoakabheeoeaaMtb
import Derived.Deep.RegionLaw
namespace Go.Proofs.Ytnpoakabheeoeaa
open Go.RowKit

theorem levV_new (g w h : Nat) : levV (g, levNew w h) = [.int .i64 (w : Int), .int .i64 (h : Int), .slice (some ⟨g, 0, none⟩) (w * h) (w * h)] := by simp [levV, levNew]
theorem grid_new2 (w h : Nat) (W : World) (hw : w ≤ 64) (hh : h ≤ 64) :
    Calls Try.prog 65 #[.int .i64 (w : Int), .int .i64 (h : Int)] W fun e W' =>
      ∃ g, e = .returned (.agg #[.int .i64 (w : Int), .int .i64 (h : Int), .slice (some ⟨g, 0, none⟩) (w * h) (w * h)]) ∧ Mv W [] W' [levB (g, levNew w h)] := by
  refine (grid_new w h W hw hh).mono ?_
  rintro e W' ⟨g, rfl, m⟩
  exact ⟨g, by rw [levV_new], m⟩

theorem Mv.rot {w0 w : World} {H0 X Y : List HB} {a b : HB} (h : Mv w0 H0 w (a :: (b :: (X ++ Y)))) : Mv w0 H0 w (a :: (X ++ (Y ++ [b]))) :=
  h.sub (fun g => by simp only [cnt_append, cnt_cons, cnt_nil]; omega) (fun c hc => by simp only [List.mem_append, List.mem_cons, List.not_mem_nil, or_false] at hc ⊢; grind)
set_option maxRecDepth 100000 in
set_option maxHeartbeats 2000000 in
theorem tree_new (w h : Int) (W : World) :
    Calls Try.prog 32 #[.int .i64 w, .int .i64 h] W fun e W' => ∃ tb P H, e = .returned (.pointer (some ⟨tb, 0, none⟩)) ∧ P.map (·.2) = treeOf w h ∧ TreeH tb P H ∧ Mv W [] W' H := by
  by_cases hb : w < 1 ∨ h < 1 ∨ 64 < w ∨ 64 < h
  · have e0 : treeOf w h = [] := by unfold treeOf; rw [if_pos hb]
    rw [e0]
    have M := mv_alloc W 139 #[.slice none 0 0]
    have T0 : TreeH W.heap.size [] [⟨W.heap.size, 139, #[.slice none 0 0]⟩] := ⟨_, [], by simp, RowH.nil _ _⟩
    have K := Lib.hid (And.intro M T0)
    clear M T0
    by_cases h1 : w < 1
    · have d1 : decide (w < 1) = true := by simpa using h1
      clear hb h1
      go_enter Try.func32, Try.ntmps32
      go_wp2_with fail
      go_ret
      exact ⟨_, _, _, rfl, rfl, K.out.2, K.out.1⟩
    · have d1 : decide (w < 1) = false := by simpa using h1
      by_cases h2 : h < 1
      · have d2 : decide (h < 1) = true := by simpa using h2
        clear hb h1 h2
        go_enter Try.func32, Try.ntmps32
        go_wp2_with fail
        go_ret
        exact ⟨_, _, _, rfl, rfl, K.out.2, K.out.1⟩
      · have d2 : decide (h < 1) = false := by simpa using h2
        by_cases h3 : 64 < w
        · have d3 : decide (64 < w) = true := by simpa using h3
          clear hb h1 h2 h3
          go_enter Try.func32, Try.ntmps32
          go_wp2_with fail
          go_ret
          exact ⟨_, _, _, rfl, rfl, K.out.2, K.out.1⟩
        · have d3 : decide (64 < w) = false := by simpa using h3
          have d4 : decide (64 < h) = true := by simp; omega
          clear hb h1 h2 h3
          go_enter Try.func32, Try.ntmps32
          go_wp2_with fail
          go_ret
          exact ⟨_, _, _, rfl, rfl, K.out.2, K.out.1⟩
  · have d1 : decide (w < 1) = false := by simp; omega
    have d2 : decide (h < 1) = false := by simp; omega
    have d3 : decide (64 < w) = false := by simp; omega
    have d4 : decide (64 < h) = false := by simp; omega
    have e0 : treeOf w h = treeNew 7 w.toNat h.toNat := by unfold treeOf; rw [if_neg hb]
    rw [e0]
    obtain ⟨w, rfl⟩ := Int.eq_ofNat_of_zero_le (a := w) (by omega)
    obtain ⟨h, rfl⟩ := Int.eq_ofNat_of_zero_le (a := h) (by omega)
    simp only [Int.toNat_natCast]
    have hw1 : 1 ≤ w ∧ w ≤ 2 ^ 6 ∧ 1 ≤ h ∧ h ≤ 2 ^ 6 := by omega
    have M := mv_alloc W 139 #[.slice none 0 0]
    have K := Lib.hid M
    have KW := Lib.hid hw1
    clear M hb e0 hw1
    go_enter Try.func32, Try.ntmps32
    go_wp2_with fail
    go_loopg [0, 1] 7 (fun m s0 s1 wx => ∃ (f a b : Nat) (P : List LvG) (v : Value) (Hl : List HB), m = f + 1 ∧ f ≤ 6 ∧ s0 = .int .i64 (a : Int) ∧ s1 = .int .i64 (b : Int) ∧ 1 ≤ a ∧ a ≤ 2 ^ f ∧ 1 ≤ b ∧ b ≤ 2 ^ f ∧
      P.length + f = 6 ∧ P.map (·.2) ++ treeNew (f + 1) a b = treeNew 7 w h ∧ RowH 142 3 v P.length (levsV P) Hl ∧ Mv W [] wx (⟨W.heap.size, 139, #[v]⟩ :: (Hl ++ P.map levB)))
    case atStart => exact ⟨6, w, h, [], _, [], rfl, Nat.le_refl _, rfl, rfl, KW.out.1, KW.out.2.1, KW.out.2.2.1, KW.out.2.2.2, rfl, by simp, RowH.nil _ _, by simpa using K.out⟩
    case round =>
      obtain ⟨wa, rfl⟩ : ∃ wa : World, wa = wr := ⟨_, rfl⟩
      obtain ⟨f, a, b, P, v, Hl, rfl, hf, rfl, rfl, ha1, ha2, hb1, hb2, hP, hT, hr, m⟩ := hrel
      have h64 : 2 ^ f ≤ 64 := Nat.pow_le_pow_right (n := 2) (by decide) hf
      have c0 : wa.cell? ⟨W.heap.size, 0, none⟩ = some v := m.cell 0 rfl 0
      have ha64 : a ≤ 64 := by omega
      have hb64 : b ≤ 64 := by omega
      have G := Lib.hid fun V => grid_new2 a b V ha64 hb64
      obtain ⟨va, vc, rfl⟩ := hr.slice
      have KR := Lib.hid (And.intro hr (And.intro m (And.intro hT (And.intro ha2 (And.intro hb2 hP)))))
      clear hr m hT ha2 hb2 hP h64
      go_upto_region 4 with fail
      go_region_law (first
        | (go_simp; go_at_call 65; (with_reducible refine (G.out _).mono ?_); rintro e w1 ⟨g, rfl, m1⟩; have M1 := Mv.call (H := []) (Mv.drew KR.out.2.1) m1; have y0 : w1.cell? ⟨W.heap.size, 0, none⟩ = some (.slice va P.length vc) := M1.cell 1 rfl 0; have M2 := M1.alloc 142 (levV (g, levNew a b)).toArray; have y1 : (w1.alloc (.cells #[.int .i64 (a : Int), .int .i64 (b : Int), .slice (some ⟨g, 0, none⟩) (a * b) (a * b)] 142)).cell? ⟨W.heap.size, 0, none⟩ = some (.slice va P.length vc) := (by have := M2.cell 2 rfl 0; rw [levV_new] at this; exact this); have M3 := Mv.mv1 (A := [_, _, _]) (B := Hl) (R := P.map levB) M2; have K1 := Lib.hid (And.intro M3.sat.left M3); clear M1 M2 M3 m1)
        | ((with_reducible refine step_appG (o := ⟨some 33, _, _, _, _, _⟩) (wb := w1) (v := .slice va P.length vc) (P := P) (p := (g, levNew a b)) (H := Hl) rfl (.tmp 28) (.tmp 32) rfl ?_ ?_ KR.out.1 ?_ ?_ ?_ ?_); simp [Act.eval]; simp [Act.eval]; have := K1.out.1; rw [levV_new] at this; exact this; rw [levV_new]; have := KR.out.2.2.2.2.2; omega; intro v6 w6 H6 h6 m6; obtain ⟨a6, c6, rfl⟩ := h6.slice; have M6 := Mv.drop1 (Mv.mv1 (A := H6) (B := [_, _, _]) (Mv.call K1.out.2 (by rw [levV_new]; exact m6))); have M7 := Mv.mv1 (A := [_]) (B := [_]) M6; have y4 : w6.cell? ⟨W.heap.size, 0, none⟩ = some (.slice va P.length vc) := M7.cell 0 rfl 0; have y5 : w6.frozen? ⟨W.heap.size, 0, none⟩ = false := M7.frozen 0 rfl 0; have K6 := Lib.hid (And.intro h6 M7); clear h6 m6 M6 M7))
      all_goals
        have M8 := Mv.rot (X := H6) (Y := P.map levB) (K6.out.2.set 0 (.slice a6 (P.length + 1) c6))
        have hr6 : RowH 142 3 (.slice a6 (P.length + 1) c6) (P ++ [(g, levNew a b)]).length (levsV (P ++ [(g, levNew a b)])) H6 := by simpa using K6.out.1
        generalize w6.setCell ⟨W.heap.size, 0, none⟩ (.slice a6 (P.length + 1) c6) = w7 at M8 ⊢
        have K7 := Lib.hid (And.intro hr6 M8)
        clear M8 hr6 y0 y1 y4 y5 K6 K1 G c0
        go_wp2_with fail
        · go_ret
          have ea : a = 1 := by first | omega | (simp only [beq_iff_eq] at *; omega)
          have eb : b = 1 := by first | omega | (simp only [beq_iff_eq] at *; omega)
          subst ea eb
          refine ⟨_, P ++ [(g, levNew 1 1)], _, rfl, ?_, ⟨_, H6, by rw [List.map_append]; rfl, K7.out.1⟩, K7.out.2⟩
          have := KR.out.2.2.1
          simpa [treeNew] using this
        all_goals
          have hne : ¬ (a = 1 ∧ b = 1) := by first | omega | (simp only [beq_eq_false_iff_ne, ne_eq] at *; omega)
          obtain ⟨hr6, M8⟩ := K7.out
          obtain ⟨-, -, hT, ha2, hb2, hP⟩ := KR.out
          cases f with
          | zero => exact absurd (show a = 1 ∧ b = 1 by simp at ha2 hb2; omega) hne
          | succ f =>
            rw [Nat.pow_succ] at ha2 hb2
            go_roundg (f + 1)
            case measure => omega
            case rel =>
              refine ⟨f, (a + 1) / 2, (b + 1) / 2, P ++ [(g, levNew a b)], _, H6, rfl, by omega, by go_num, by go_num, by omega, by omega, by omega, by omega, by simp; omega, ?_, hr6, by rw [List.map_append]; exact M8⟩
              rw [← hT]
              have e : treeNew (f + 1 + 1) a b = levNew a b :: treeNew (f + 1) ((a + 1) / 2) ((b + 1) / 2) := by
                conv => lhs; unfold treeNew
                rw [if_neg hne]
              rw [e]
              simp
end Go.Proofs.Ytnpoakabheeoeaa
