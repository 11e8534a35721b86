/- The walk of the law SketchValid. -/
import Derived.Test.YtblcplfgddgkoaaRfCheck
import Derived.Test.YtblcplfgddgkoaaRfSum
import Derived.Test.YtblcplfgddgkoaaSkKnown
namespace Go.Proofs.Ytblcplfgddgkoaa
open Go.RowKit

theorem drawCs_ok (x y depth kind : Int) (n : Nat) (h5 : 1 ≤ x) (h6 : x ≤ 64) (h7 : 1 ≤ y) (h8 : y ≤ 64) (h9 : 1 ≤ depth) (h10 : depth ≤ 16) : ∀ (k : Nat) c, (drawCs x y 0 0 depth kind n)[k]? = some c →
    CompOk c ∧ c.signed = false ∧ (c.data.length : Int) = (ceilI x c.dx - ceilI 0 c.dx) * (ceilI y c.dy - ceilI 0 c.dy) ∧ ∀ (i : Nat) v, c.data[i]? = some v → 0 ≤ v ∧ v ≤ 2 ^ c.depth.toNat - 1 := by
  intro k c hc
  unfold drawCs at hc
  simp only [List.getElem?_map] at hc
  obtain ⟨m, hm, rfl⟩ := Option.map_eq_some_iff.1 hc
  have hst := stepOf_bd kind m
  have p := pow_bd depth h9 h10
  refine ⟨⟨h9, h10, ?_, ?_, ?_, ?_⟩, rfl, ?_, ?_⟩
  · show 1 ≤ stepOf kind m; omega
  · show stepOf kind m ≤ 4; omega
  · show 1 ≤ stepOf kind m; omega
  · show stepOf kind m ≤ 4; omega
  · show ((dataD kind depth m (wid x 0 (stepOf kind m)).toNat (wid y 0 (stepOf kind m)).toNat).length : Int) = (byI x (stepOf kind m) - byI 0 (stepOf kind m)) * (byI y (stepOf kind m) - byI 0 (stepOf kind m))
    have := dataTo_length kind depth m (wid x 0 (stepOf kind m)).toNat (wid y 0 (stepOf kind m)).toNat 0
    rw [dataTo_zero] at this
    rw [this]
    have w1 := byI_mono 0 x (stepOf kind m) (by omega) hst
    have w2 := byI_mono 0 y (stepOf kind m) (by omega) hst
    unfold wid
    rw [Nat.add_zero, Int.natCast_mul, Int.toNat_of_nonneg (by omega), Int.toNat_of_nonneg (by omega)]
  · intro i v hv
    have hmem := List.mem_of_getElem? hv
    unfold drawC dataD at hmem
    simp only [List.mem_flatMap, List.mem_map] at hmem
    obtain ⟨j, -, i, -, rfl⟩ := hmem
    show 0 ≤ pix kind depth m i j ∧ pix kind depth m i j ≤ 2 ^ depth.toNat - 1
    unfold pix
    have a := Int.emod_nonneg (sampleD kind depth m i j) (b := 2 ^ depth.toNat) (by omega)
    have b := Int.emod_lt_of_pos (sampleD kind depth m i j) (b := 2 ^ depth.toNat) (by omega)
    omega

theorem ceil64 (x : Int) (h1 : 1 ≤ x) (h2 : x ≤ 64) : ceilI x 64 = 1 := by unfold ceilI; omega

set_option maxRecDepth 100000 in
set_option maxHeartbeats 4000000 in
theorem valid_any (x y comps depth kind : Int) (w : World) :
    Calls Try.prog 4 #[.int .i64 x, .int .i64 y, .int .i64 comps, .int .i64 depth, .int .i64 kind] w fun e w' => e = .returned (.bool true) ∧ Below w.heap.size w w' := by
  go_enter Try.func4, Try.ntmps4
  go_wp2_with fail
  refine (known_any _).mono ?_
  rintro e w0 ⟨rfl, hb0⟩
  go_wp2_with (go_at_call 14; refine (lwithin _ _ _ (by omega) (by omega)).mono ?_; rintro e w' ⟨rfl, rfl⟩)
  obtain ⟨X, hX, x1, x2⟩ : ∃ X : Int, X = 1 + x % 30 ∧ 1 ≤ X ∧ X ≤ 30 := ⟨_, rfl, by omega, by omega⟩
  obtain ⟨Y, hY, y1, y2⟩ : ∃ Y : Int, Y = 1 + y % 30 ∧ 1 ≤ Y ∧ Y ≤ 30 := ⟨_, rfl, by omega, by omega⟩
  obtain ⟨C, hC, c1, c2⟩ : ∃ C : Int, C = 1 + comps % 4 ∧ 1 ≤ C ∧ C ≤ 4 := ⟨_, rfl, by omega, by omega⟩
  obtain ⟨D, hD, d1, d2⟩ : ∃ D : Int, D = 1 + depth % 16 ∧ 1 ≤ D ∧ D ≤ 16 := ⟨_, rfl, by omega, by omega⟩
  obtain ⟨K, hK, k1, k2⟩ : ∃ K : Int, K = kind % 5 ∧ 0 ≤ K ∧ K ≤ 4 := ⟨_, rfl, by omega, by omega⟩
  rw [← hX, ← hY, ← hC, ← hD, ← hK]
  clear hX hY hC hD hK
  refine (draw_ok X Y 0 0 C D K w0 (by omega) (by omega) (by omega) (by omega) (by omega) (by omega) (by omega) (by omega) (by omega) (by omega) (by omega) (by omega)).mono ?_
  rintro e w1 ⟨v, rfl, ho, hb⟩
  have hr := CompsRd.of_owns ho
  have hl : (drawCs X Y 0 0 D K C.toNat).length = C.toNat := by simp [drawCs]
  have hok := drawCs_ok X Y D K C.toNat x1 (by omega) y1 (by omega) d1 d2
  generalize drawCs X Y 0 0 D K C.toNat = cs at *
  have HOK := Lib.hid hok
  have HC := Lib.hid hr
  obtain ⟨a, cap, rfl, hl1, hl2, hrd⟩ := hr
  have hlen : ((cs.length : Int) == C) = true := by rw [beq_iff_eq]; omega
  have hn1 : 1 ≤ cs.length := by omega
  have hn2 : cs.length ≤ 4 := by omega
  clear hrd ho hok hl
  have hB := hb0.trans (hb.mono hb0.size)
  clear hb hb0
  go_wp2_with (go_at_call 15; refine (rcheck_ok X Y 0 0 _ cs 64 64 0 2 2 1 0 0 1 false false _ (HC.out.keep ((Below.refl _ _).alloc (Nat.le_refl _) _)) (fun a n c W hW => rframe_ok X Y 0 0 _ cs 64 64 0 2 2 1 0 0 1 false false W hW hn1 hn2 (fun k c hc => (HOK.out k c hc).1) (by omega) (by omega) (by omega) (by omega) (by omega) (by omega) (by omega) (by omega) (by omega) (by omega) (by rw [ceil64 X x1 (by omega), ceil64 Y y1 (by omega)]; omega) (by omega) (by omega) (by omega) (by omega) (by omega) (by omega) (by omega) (by omega) (by omega) (by omega) (by omega) (by omega) (by omega) (by omega)) (by omega) (by omega) (by omega) (by omega) (by omega) (by omega) HOK.out).mono ?_; rintro e w2 ⟨rfl, hb2⟩)
  go_ret
  exact ⟨rfl, (hB.alloc hB.size _).trans (hb2.mono (by simp; have := hB.size; omega))⟩
end Go.Proofs.Ytblcplfgddgkoaa
