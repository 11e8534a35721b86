/- The walk of the law SketchDraws. -/
import Derived.Test.YtblcplfgddgkoaaRfDraw
import Derived.Test.YtblcplfgddgkoaaRfSame
import Derived.Test.YtblcplfgddgkoaaRfNo
import Derived.Test.YtblcplfgddgkoaaRfSum
import Derived.Test.YtblcplfgddgkoaaSkKnown
import Derived.Test.YtblcplfgddgkoaaSkNo
namespace Go.Proofs.Ytblcplfgddgkoaa
open Go.RowKit

theorem drawCs_nn (x y ox oy depth kind : Int) (n : Nat) : ∀ (k : Nat) c, (drawCs x y ox oy depth kind n)[k]? = some c → ∀ (i : Nat) v, c.data[i]? = some v → 0 ≤ v := by
  intro k c hc i v hv
  unfold drawCs at hc
  simp only [List.getElem?_map] at hc
  obtain ⟨m, hm, rfl⟩ := Option.map_eq_some_iff.1 hc
  have hmem := List.mem_of_getElem? hv
  unfold drawC dataD at hmem
  simp only [List.mem_flatMap, List.mem_map] at hmem
  obtain ⟨j, -, i, -, rfl⟩ := hmem
  unfold pix
  exact Int.emod_nonneg _ (by have : (0:Int) < 2 ^ depth.toNat := Int.pow_pos (by omega); omega)

def VldB (x y ox oy comps depth kind : Int) : Prop :=
  ox < 0 ∨ oy < 0 ∨ x ≤ ox ∨ y ≤ oy ∨ 64 < x ∨ 64 < y ∨ ¬ (1 ≤ comps ∧ comps ≤ 4) ∨ ¬ (1 ≤ depth ∧ depth ≤ 16) ∨ ¬ (0 ≤ kind ∧ kind ≤ 4)

/-- what a drawing function answers: a picture of these numbers -/
def Drawn (f : FuncId) (x y ox oy comps depth kind X Y Ox Oy er : Int) (cs : List CompD) : Prop :=
  ∀ w, Calls Try.prog f #[.int .i64 x, .int .i64 y, .int .i64 ox, .int .i64 oy, .int .i64 comps, .int .i64 depth, .int .i64 kind] w fun e w' =>
    ∃ a cap, e = .returned (.tuple #[.agg #[.int .i64 X, .int .i64 Y, .int .i64 Ox, .int .i64 Oy, .slice a cs.length cap], .int .i64 er]) ∧ CompsRd w' (.slice a cs.length cap) cs ∧ Below w.heap.size w w'

theorem both_any (x y ox oy comps depth kind : Int) : ∃ (X Y Ox Oy er : Int) (cs : List CompD), (er = 0 ∨ er = 1) ∧ (∀ (k : Nat) c, cs[k]? = some c → ∀ (i : Nat) v, c.data[i]? = some v → 0 ≤ v) ∧
    Drawn 9 x y ox oy comps depth kind X Y Ox Oy er cs ∧ Drawn 10 x y ox oy comps depth kind X Y Ox Oy er cs := by
  by_cases hv : VldB x y ox oy comps depth kind
  · refine ⟨0, 0, 0, 0, 1, [], .inr rfl, by simp, fun w => ?_, fun w => ?_⟩
    · exact (draw_no x y ox oy comps depth kind w hv).mono fun e w' ⟨h, hb⟩ => ⟨none, 0, h, ⟨none, 0, rfl, by simp, by simp, by simp⟩, hb⟩
    · exact (rdraw_no x y ox oy comps depth kind w hv).mono fun e w' ⟨h, hb⟩ => ⟨none, 0, h, ⟨none, 0, rfl, by simp, by simp, by simp⟩, hb⟩
  · have h1 : 0 ≤ ox ∧ 0 ≤ oy ∧ ox < x ∧ oy < y ∧ x ≤ 64 ∧ y ≤ 64 ∧ 1 ≤ comps ∧ comps ≤ 4 ∧ 1 ≤ depth ∧ depth ≤ 16 ∧ 0 ≤ kind ∧ kind ≤ 4 := by unfold VldB at hv; omega
    obtain ⟨h1, h2, h3, h4, h5, h6, h7, h8, h9, h10, h11, h12⟩ := h1
    refine ⟨x, y, ox, oy, 0, drawCs x y ox oy depth kind comps.toNat, .inl rfl, drawCs_nn x y ox oy depth kind _, fun w => ?_, fun w => ?_⟩
    · refine (draw_ok x y ox oy comps depth kind w h1 h2 h3 h4 h5 h6 h7 h8 h9 h10 h11 h12).mono ?_
      rintro e w' ⟨v, rfl, ho, hb⟩
      have hr := CompsRd.of_owns ho
      obtain ⟨a, cap, rfl, h⟩ := hr
      exact ⟨a, cap, rfl, ⟨a, cap, rfl, h⟩, hb⟩
    · refine (rdraw_ok x y ox oy comps depth kind w h1 h2 h3 h4 h5 h6 h7 h8 h9 h10 h11 h12).mono ?_
      rintro e w' ⟨v, rfl, ho, hb⟩
      have hr := CompsRd.of_owns ho
      obtain ⟨a, cap, rfl, h⟩ := hr
      exact ⟨a, cap, rfl, ⟨a, cap, rfl, h⟩, hb⟩

set_option maxRecDepth 100000 in
set_option maxHeartbeats 4000000 in
theorem draws_any (x y ox oy comps depth kind : Int) (w : World) :
    Calls Try.prog 3 #[.int .i64 x, .int .i64 y, .int .i64 ox, .int .i64 oy, .int .i64 comps, .int .i64 depth, .int .i64 kind] w fun e w' => e = .returned (.bool true) ∧ Below w.heap.size w w' := by
  go_enter Try.func3, Try.ntmps3
  go_wp2_with fail
  refine (known_any _).mono ?_
  rintro e w0 ⟨rfl, hb0⟩
  go_wp2_with fail
  go_loopg [0, 1, 2, 3, 4, 5, 6, 15] 2 (fun g s0 s1 s2 s3 s4 s5 s6 s15 wx => ∃ (k : Nat) (x y ox oy comps depth kind : Int), k ≤ 2 ∧ g = 2 - k ∧ s0 = .int .i64 x ∧ s1 = .int .i64 y ∧ s2 = .int .i64 ox ∧ s3 = .int .i64 oy ∧ s4 = .int .i64 comps ∧ s5 = .int .i64 depth ∧ s6 = .int .i64 kind ∧ s15 = .int .i64 k ∧ Below w.heap.size w wx)
  case atStart => exact ⟨0, x, y, ox, oy, comps, depth, kind, by omega, rfl, rfl, rfl, rfl, rfl, rfl, rfl, rfl, rfl, hb0⟩
  case round =>
    obtain ⟨wa, rfl⟩ : ∃ wa : World, wa = wr := ⟨_, rfl⟩
    obtain ⟨k, x, y, ox, oy, comps, depth, kind, hk, rfl, rfl, rfl, rfl, rfl, rfl, rfl, rfl, rfl, hb⟩ := hrel
    by_cases hlt : k < 2
    · obtain ⟨X, Y, Ox, Oy, er, cs, her, hnn, hA, hB⟩ := both_any x y ox oy comps depth kind
      have HA := Lib.hid hA
      have HB := Lib.hid hB
      have HN := Lib.hid hnn
      have HE := Lib.hid her
      clear hA hB hnn her
      have hsz := hb.size
      go_wp2_with fail
      refine (HA.out _).mono ?_
      rintro e w1 ⟨a1, p1, rfl, hr1, hb1⟩
      have hz1 := hb1.size
      have HR1 := Lib.hid hr1
      clear hr1
      go_wp2_with fail
      refine (HB.out _).mono ?_
      rintro e w2 ⟨a2, p2, rfl, hr2, hb2⟩
      have hz2 : w1.heap.size < w2.heap.size := by have := hb2.size; simp at this; omega
      have HR2 := Lib.hid (And.intro (HR1.out.keep (((Below.refl _ _).alloc (Nat.le_refl _) _).trans (hb2.mono (by simp)))) hr2)
      obtain ⟨hc2, hf2⟩ := bcell hb2
      have hB2 : Below wa.heap.size wa w2 := (hb1.alloc hb1.size _).trans (hb2.mono (by simp; omega))
      clear hr2 hb1 hb2
      go_upto_region 8 with fail
      go_cut [67] (fun s67 wx => s67 = .bool false ∧ Below w2.heap.size w2 wx)
      case first =>
        have m0 : w2.cell? ⟨w1.heap.size, 0, none⟩ = some (.int .i64 X) := by rw [hc2 _ _ (by simp)]; simp
        have m1 : w2.cell? ⟨w1.heap.size, 1, none⟩ = some (.int .i64 Y) := by rw [hc2 _ _ (by simp)]; simp
        have m2 : w2.cell? ⟨w1.heap.size, 2, none⟩ = some (.int .i64 Ox) := by rw [hc2 _ _ (by simp)]; simp
        have m3 : w2.cell? ⟨w1.heap.size, 3, none⟩ = some (.int .i64 Oy) := by rw [hc2 _ _ (by simp)]; simp
        have m4 : w2.cell? ⟨w1.heap.size, 4, none⟩ = some (.slice a1 cs.length p1) := by rw [hc2 _ _ (by simp)]; simp
        clear hc2 hf2
        have hr2 := HR2.out
        have HK := Lib.hid (((Below.refl w2.heap.size w2).alloc (Nat.le_refl _) (.cells #[.int .i64 X, .int .i64 Y, .int .i64 Ox, .int .i64 Oy, .slice a2 cs.length p2] 25)))
        generalize hq : w2.alloc (.cells #[.int .i64 X, .int .i64 Y, .int .i64 Ox, .int .i64 Oy, .slice a2 cs.length p2] 25) = wq at *
        have HQ := Lib.hid HK.out
        have sq : w2.heap.size < wq.heap.size := by rw [← hq]; simp
        have q0 : wq.cell? ⟨w2.heap.size, 0, none⟩ = some (.int .i64 X) := by rw [← hq]; simp
        have q1 : wq.cell? ⟨w2.heap.size, 1, none⟩ = some (.int .i64 Y) := by rw [← hq]; simp
        have q2 : wq.cell? ⟨w2.heap.size, 2, none⟩ = some (.int .i64 Ox) := by rw [← hq]; simp
        have q3 : wq.cell? ⟨w2.heap.size, 3, none⟩ = some (.int .i64 Oy) := by rw [← hq]; simp
        have q4 : wq.cell? ⟨w2.heap.size, 4, none⟩ = some (.slice a2 cs.length p2) := by rw [← hq]; simp
        replace m0 := bcellC HK.out m0 hz2
        replace m1 := bcellC HK.out m1 hz2
        replace m2 := bcellC HK.out m2 hz2
        replace m3 := bcellC HK.out m3 hz2
        replace m4 := bcellC HK.out m4 hz2
        have hk1 := hr2.1.keep HK.out
        have hk2 := hr2.2.keep HK.out
        have HK1 := Lib.hid hk1
        have HK2 := Lib.hid hk2
        have sq1 : w1.heap.size < wq.heap.size := by omega
        clear hr2 hk1 hk2 hq
        rcases HE.out with rfl | rfl
        · go_region_held3 (fun w' => w'.cell? ⟨w1.heap.size, 0, none⟩ = some (.int .i64 X) ∧ w'.cell? ⟨w1.heap.size, 1, none⟩ = some (.int .i64 Y) ∧ w'.cell? ⟨w1.heap.size, 2, none⟩ = some (.int .i64 Ox) ∧ w'.cell? ⟨w1.heap.size, 3, none⟩ = some (.int .i64 Oy) ∧ w'.cell? ⟨w1.heap.size, 4, none⟩ = some (.slice a1 cs.length p1) ∧
            w'.cell? ⟨w2.heap.size, 0, none⟩ = some (.int .i64 X) ∧ w'.cell? ⟨w2.heap.size, 1, none⟩ = some (.int .i64 Y) ∧ w'.cell? ⟨w2.heap.size, 2, none⟩ = some (.int .i64 Ox) ∧ w'.cell? ⟨w2.heap.size, 3, none⟩ = some (.int .i64 Oy) ∧ w'.cell? ⟨w2.heap.size, 4, none⟩ = some (.slice a2 cs.length p2))
            (first | exact ⟨m0, m1, m2, m3, m4, q0, q1, q2, q3, q4⟩ | (refine (fun HB : Below wq.heap.size wq _ => ⟨bcellC HB m0 sq1, bcellC HB m1 sq1, bcellC HB m2 sq1, bcellC HB m3 sq1, bcellC HB m4 sq1, bcellC HB q0 sq, bcellC HB q1 sq, bcellC HB q2 sq, bcellC HB q3 sq, bcellC HB q4 sq⟩) ?_; repeat (first | exact HB7 | exact HB6 | exact HB5 | exact Below.refl _ _ | refine Below.drew ?_)))
            (first
              | (go_at_call 11; refine (rsame18 _ _ _ _ _ _ cs _ (HK1.out.keep (by repeat (first | exact Below.refl _ _ | refine Below.drew ?_))) (HK2.out.keep (by repeat (first | exact Below.refl _ _ | refine Below.drew ?_)))).mono ?_; rintro e w5 ⟨rfl, hb5⟩; have HB5 : Below wq.heap.size wq w5 := below_next hb5 (by repeat (first | exact Below.refl _ _ | refine Below.drew ?_)) (by first | omega | (simp; done) | (simp; omega)))
              | (go_at_call 12; refine (sum_any _ _ _ _ _ cs _ (HK1.out.keep HB5)).mono ?_; rintro e w6 ⟨rfl, hb6⟩; have HB6 : Below wq.heap.size wq w6 := below_next hb6 HB5 HB5.size)
              | (go_at_call 13; refine (rsum_any _ _ _ _ _ cs _ (HK2.out.keep HB6) HN.out).mono ?_; rintro e w7 ⟨rfl, hb7⟩; have HB7 : Below wq.heap.size wq w7 := below_next hb7 HB6 HB6.size))
          go_wp2_with fail
          go_meet
          exact ⟨rfl, HK.out.trans (HB7.mono (by omega))⟩
        · go_region_with (first
              | (go_at_call 11; refine (rsame18 _ _ _ _ _ _ cs _ (HK1.out.keep (by repeat (first | exact Below.refl _ _ | refine Below.drew ?_))) (HK2.out.keep (by repeat (first | exact Below.refl _ _ | refine Below.drew ?_)))).mono ?_; rintro e w5 ⟨rfl, hb5⟩; have HB5 : Below wq.heap.size wq w5 := below_next hb5 (by repeat (first | exact Below.refl _ _ | refine Below.drew ?_)) (by first | omega | (simp; done) | (simp; omega))))
          all_goals
            go_wp2_with fail
            go_meet
            exact ⟨rfl, HK.out.trans (HB5.mono (by omega))⟩
      obtain ⟨rfl, hb3⟩ := hcut
      have hBc : Below w.heap.size w wc := hb.trans ((hB2.mono (by omega)).trans (hb3.mono (by have := hB2.size; omega)))
      clear hc2 hf2 hB2 hb3 hb
      go_wp2_with (go_at_call 14; refine (lwithin _ _ _ (by omega) (by omega)).mono ?_; rintro e w' ⟨rfl, rfl⟩)
      go_roundg (2 - (k + 1))
      case measure => omega
      case rel => exact ⟨k + 1, _, _, _, _, _, _, _, by omega, rfl, rfl, rfl, rfl, rfl, rfl, rfl, rfl, by go_num, hBc⟩
    · obtain rfl : k = 2 := by omega
      go_wp2_with fail
      go_ret
      exact ⟨rfl, hb⟩
end Go.Proofs.Ytblcplfgddgkoaa
