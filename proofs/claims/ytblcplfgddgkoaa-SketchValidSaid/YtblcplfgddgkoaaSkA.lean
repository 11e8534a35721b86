/- The closures of sketch.sample, sketch.by, sketch.within, the law's within: what each answers. -/
import Derived.Test.YtblcplfgddgkoaaProg
import Derived.Test.YtblcplfgddgkoaaLib
import Derived.BigQuiet
import Derived.Deep.QuietTactic
import Derived.Deep.LoopGhost
import Derived.Deep.RegionWith
import Derived.Deep.DeepCutAuto
namespace Go.Proofs.Ytblcplfgddgkoaa
open Go.RowKit

theorem within16 (n a b : Int) (w : World) (h1 : a ≤ n) (h2 : n ≤ b) :
    Calls Try.prog 16 #[.int .i64 n, .int .i64 a, .int .i64 b] w fun e w' => e = .returned (.bool true) ∧ w = w' := by
  have h3 : decide (a ≤ n) = true := by simpa using h1
  have h4 : decide (n ≤ b) = true := by simpa using h2
  go_enter Try.func16, Try.ntmps16
  go_wp2
  go_ret
  exact ⟨rfl, rfl⟩

theorem within16_no (n a b : Int) (w : World) (h : ¬ (a ≤ n ∧ n ≤ b)) :
    Calls Try.prog 16 #[.int .i64 n, .int .i64 a, .int .i64 b] w fun e w' => e = .returned (.bool false) ∧ w = w' := by
  by_cases h1 : a ≤ n
  · have h3 : decide (a ≤ n) = true := by simpa using h1
    have h4 : decide (n ≤ b) = false := by simp; omega
    go_enter Try.func16, Try.ntmps16
    go_wp2
    go_ret
    exact ⟨rfl, rfl⟩
  · have h3 : decide (a ≤ n) = false := by simpa using h1
    go_enter Try.func16, Try.ntmps16
    go_wp2
    go_ret
    exact ⟨rfl, rfl⟩

def byI (n d : Int) : Int := (n + d - 1) / d

theorem by_any (n d : Int) (w : World) (h1 : 0 ≤ n) (h2 : n ≤ 1000) (h3 : 1 ≤ d) (h4 : d ≤ 1000) :
    Calls Try.prog 17 #[.int .i64 n, .int .i64 d] w fun e w' => e = .returned (.int .i64 (byI n d)) ∧ w = w' := by
  go_enter Try.func17, Try.ntmps17
  go_wp2
  go_ret
  exact ⟨rfl, rfl⟩

theorem lwithin (x n : Int) (w : World) (h3 : 1 ≤ n) (h4 : n ≤ 1000000) :
    Calls Try.prog 14 #[.int .i64 x, .int .i64 n] w fun e w' => e = .returned (.int .i64 (x % n)) ∧ w = w' := by
  obtain ⟨h5, h6⟩ := tmod_bd x n h3
  have E := Lib.hid (tmod_adj x n h3)
  go_enter Try.func14, Try.ntmps14
  go_wp2
  all_goals go_ret
  · exact ⟨by rw [← E.out, if_pos (by assumption)]; rfl, rfl⟩
  · exact ⟨by rw [← E.out, if_neg (by omega)]; rfl, rfl⟩

theorem sample1 (i j c : Int) (a : Addr) (w : World) (hc : w.cell? a = some (.int .i64 c)) (h1 : 0 ≤ c) (h2 : c ≤ 4) :
    Calls Try.prog 27 #[.int .i64 i, .int .i64 j, .pointer (some a)] w fun e w' => e = .returned (.int .i64 (7 + c)) ∧ w' = w.drewN 0 := by
  go_enter Try.func27, Try.ntmps27
  go_wp2
  go_ret
  exact ⟨rfl, rfl⟩

theorem sample2 (i j c : Int) (a : Addr) (w : World) (hc : w.cell? a = some (.int .i64 c)) (h1 : 0 ≤ c) (h2 : c ≤ 4) (h3 : 0 ≤ i) (h4 : i ≤ 64) (h5 : 0 ≤ j) (h6 : j ≤ 64) :
    Calls Try.prog 28 #[.int .i64 i, .int .i64 j, .pointer (some a)] w fun e w' => e = .returned (.int .i64 (i + 2 * j + 3 * c)) ∧ w' = w.drewN 0 := by
  go_enter Try.func28, Try.ntmps28
  go_wp2
  go_ret
  exact ⟨rfl, rfl⟩

theorem sample3 (i j c d : Int) (a b : Addr) (w : World) (hd : w.cell? b = some (.int .i64 d)) (hc : w.cell? a = some (.int .i64 c)) (h1 : 0 ≤ c) (h2 : c ≤ 4) (h3 : 0 ≤ i) (h4 : i ≤ 64) (h5 : 0 ≤ j) (h6 : j ≤ 64) (h7 : 1 ≤ d) (h8 : d ≤ 16) :
    Calls Try.prog 29 #[.int .i64 i, .int .i64 j, .pointer (some b), .pointer (some a)] w fun e w' => e = .returned (.int .i64 ((2 ^ d.toNat - 1) * ((i + j + c) % 2))) ∧ ∃ n, w' = w.drewN n := by
  have hp := pow_bd d h7 h8
  obtain ⟨hp1, hp2⟩ := hp
  have hm : 0 ≤ (2 ^ d.toNat - 1) * ((i + j + c) % 2) ∧ (2 ^ d.toNat - 1) * ((i + j + c) % 2) ≤ 65536 := by
    have : (i + j + c) % 2 = 0 ∨ (i + j + c) % 2 = 1 := by omega
    rcases this with h | h <;> rw [h] <;> omega
  obtain ⟨hm1, hm2⟩ := hm
  have e1 : wrap64 (2 ^ d.toNat) = 2 ^ d.toNat := IntWalk.wrap64_in _ ⟨by omega, by omega⟩
  go_enter Try.func29, Try.ntmps29
  go_wp2
  go_quiet (fail)
  go_wp2
  go_ret
  exact ⟨rfl, _, rfl⟩

theorem sample4 (i j c : Int) (a : Addr) (w : World) (hc : w.cell? a = some (.int .i64 c)) (h1 : 0 ≤ c) (h2 : c ≤ 4) (h3 : 0 ≤ i) (h4 : i ≤ 64) (h5 : 0 ≤ j) (h6 : j ≤ 64) :
    Calls Try.prog 30 #[.int .i64 i, .int .i64 j, .pointer (some a)] w fun e w' => e = .returned (.int .i64 ((1103515245 * (i + 64 * j + 4096 * c) + 12345) / 65536 % 65536)) ∧ w' = w.drewN 0 := by
  have e1 := and65535 ((1103515245 * (i + 64 * j + 4096 * c) + 12345) / 65536) (by omega) (by omega)
  have E := Lib.hid e1
  clear e1
  go_enter Try.func30, Try.ntmps30
  go_wp2
  go_ret
  exact ⟨by rw [E.out]; rfl, rfl⟩

def sampleD (kind depth c i j : Int) : Int :=
  if kind = 0 then 7 + c else if kind = 1 then i + 2 * j + 3 * c else if kind = 2 then (2 ^ depth.toNat - 1) * ((i + j + c) % 2)
  else (1103515245 * (i + 64 * j + 4096 * c) + 12345) / 65536 % 65536

def ClosOk (w : World) (B : Nat) (f : Value) (g : Int → Int → Int) : Prop := ∃ fn cap, f = .func (.func fn) #[] cap ∧ (∀ args w, (callFunc fn args).run Try.prog w = .ok (.enter fn args) w) ∧
  ∀ i j w2, 0 ≤ i → i ≤ 64 → 0 ≤ j → j ≤ 64 → (∀ k, B ≤ k → k < w.heap.size → w2.heap[k]? = w.heap[k]?) → Calls Try.prog fn (#[.int .i64 i, .int .i64 j] ++ cap) w2 fun e w3 => e = .returned (.int .i64 (g i j)) ∧ ∃ n, w3 = w2.drewN n

theorem sample_any (kind depth c : Int) (w : World) (h1 : 0 ≤ c) (h2 : c ≤ 4) (h7 : 1 ≤ depth) (h8 : depth ≤ 16) :
    Calls Try.prog 18 #[.int .i64 kind, .int .i64 depth, .int .i64 c] w fun e w' => ∃ f, e = .returned f ∧ ClosOk w' w.heap.size f (sampleD kind depth c) ∧ Below w.heap.size w w' := by
  have K : ∀ f, ClosOk ((w.alloc (.cells #[.int .i64 depth] 3)).alloc (.cells #[.int .i64 c] 3)) w.heap.size f (sampleD kind depth c) →
     (∃ f', Ending.returned f = .returned f' ∧ ClosOk ((w.alloc (.cells #[.int .i64 depth] 3)).alloc (.cells #[.int .i64 c] 3)) w.heap.size f' (sampleD kind depth c) ∧ Below w.heap.size w ((w.alloc (.cells #[.int .i64 depth] 3)).alloc (.cells #[.int .i64 c] 3))) :=
    fun f h => ⟨f, rfl, h, (((Below.refl _ _).alloc (Nat.le_refl _) _).alloc (by simp) _)⟩
  have C1 : ∀ w2 : World, (∀ k, w.heap.size ≤ k → k < ((w.alloc (.cells #[.int .i64 depth] 3)).alloc (.cells #[.int .i64 c] 3)).heap.size → w2.heap[k]? = ((w.alloc (.cells #[.int .i64 depth] 3)).alloc (.cells #[.int .i64 c] 3)).heap[k]?) → w2.cell? ⟨w.heap.size + 1, 0, none⟩ = some (.int .i64 c) := by
    intro w2 hb
    rw [World.cell?_of_block (hb _ (by simp) (by simp; try omega))]
    simp [go_sem]
  have C2 : ∀ w2 : World, (∀ k, w.heap.size ≤ k → k < ((w.alloc (.cells #[.int .i64 depth] 3)).alloc (.cells #[.int .i64 c] 3)).heap.size → w2.heap[k]? = ((w.alloc (.cells #[.int .i64 depth] 3)).alloc (.cells #[.int .i64 c] 3)).heap[k]?) → w2.cell? ⟨w.heap.size, 0, none⟩ = some (.int .i64 depth) := by
    intro w2 hb
    rw [World.cell?_of_block (hb _ (by simp) (by simp; try omega))]
    simp [go_sem]
  by_cases k0 : kind = 0
  · have L := K (.func (.func 27) #[] #[.pointer (some ⟨w.heap.size + 1, 0, none⟩)]) ⟨27, _, rfl, fun args w => by go_simp, fun i j w2 _ _ _ _ hb => (sample1 i j c _ w2 (C1 w2 hb) h1 h2).mono (by rintro e w3 ⟨rfl, rfl⟩; exact ⟨by simp [sampleD, k0], _, rfl⟩)⟩
    have L := Lib.hid L
    clear C1 C2 K
    subst k0
    go_enter Try.func18, Try.ntmps18
    go_wp2
    go_ret
    exact L.out
  by_cases k1 : kind = 1
  · have L := K (.func (.func 28) #[] #[.pointer (some ⟨w.heap.size + 1, 0, none⟩)]) ⟨28, _, rfl, fun args w => by go_simp, fun i j w2 a1 a2 a3 a4 hb => (sample2 i j c _ w2 (C1 w2 hb) h1 h2 a1 a2 a3 a4).mono (by rintro e w3 ⟨rfl, rfl⟩; exact ⟨by simp [sampleD, k1], _, rfl⟩)⟩
    have L := Lib.hid L
    clear C1 C2 K
    subst k1
    go_enter Try.func18, Try.ntmps18
    go_wp2
    go_ret
    exact L.out
  by_cases k2 : kind = 2
  · have L := K (.func (.func 29) #[] #[.pointer (some ⟨w.heap.size, 0, none⟩), .pointer (some ⟨w.heap.size + 1, 0, none⟩)]) ⟨29, _, rfl, fun args w => by go_simp, fun i j w2 a1 a2 a3 a4 hb => (sample3 i j c depth _ _ w2 (C2 w2 hb) (C1 w2 hb) h1 h2 a1 a2 a3 a4 h7 h8).mono (by rintro e w3 ⟨rfl, hn⟩; exact ⟨by simp [sampleD, k2], hn⟩)⟩
    have L := Lib.hid L
    clear C1 C2 K
    subst k2
    go_enter Try.func18, Try.ntmps18
    go_wp2
    go_ret
    exact L.out
  · have L := K (.func (.func 30) #[] #[.pointer (some ⟨w.heap.size + 1, 0, none⟩)]) ⟨30, _, rfl, fun args w => by go_simp, fun i j w2 a1 a2 a3 a4 hb => (sample4 i j c _ w2 (C1 w2 hb) h1 h2 a1 a2 a3 a4).mono (by rintro e w3 ⟨rfl, rfl⟩; exact ⟨by simp [sampleD, k0, k1, k2], _, rfl⟩)⟩
    have L := Lib.hid L
    clear C1 C2 K
    have b0 : (kind == 0) = false := by simpa using k0
    have b1 : (kind == 1) = false := by simpa using k1
    have b2 : (kind == 2) = false := by simpa using k2
    go_enter Try.func18, Try.ntmps18
    go_wp2
    go_ret
    exact L.out
end Go.Proofs.Ytblcplfgddgkoaa
