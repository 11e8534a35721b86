/- The walk of the law BoxesLong. -/
import Derived.Test.YthmdgbplfdofiaaBxK
import Derived.BigQuiet
import Derived.Deep.QuietTactic
namespace Go.Proofs.Ythmdgbplfdofiaa
open Go.RowKit

theorem own_lit (w : World) (arr : Array Value) (e : TypeId) (n g : Nat) {base : Nat} (hn : arr.size = n) (hg : g = w.heap.size) (hb : base ≤ w.heap.size) (hm : n ≤ maxLen) :
    (w.alloc (.cells arr e)).ownsRow base e 1 (.slice (some ⟨g, 0, none⟩) n n) n arr.toList := by
  subst hg
  exact ⟨by simp [hn], .inr ⟨w.heap.size, n, arr, rfl, hb, heap_alloc_new w _, Nat.le_refl _, hm, by omega, by rw [Nat.mul_one, ← hn, ← Array.length_toList, List.take_length]⟩⟩

theorem own_at {g n c k : Nat} (h : (Value.slice (some ⟨g, 0, none⟩) n c).ownBlock = some k) : g ≤ k := by
  simp [Value.ownBlock] at h
  omega

theorem BoxesOwn.first {w : World} {B : Nat} {v : Value} {b : BoxD} {bs : List BoxD} (h : BoxesOwn w B v (b :: bs)) :
    ∃ g c a2 c2, v = .slice (some ⟨g, 0, none⟩) (bs.length + 1) c ∧ bs.length + 1 ≤ c ∧ w.cell? ⟨g, 0, none⟩ = some (strV b.kind) ∧ w.cell? ⟨g, 1, none⟩ = some (.slice a2 b.data.length c2) ∧ BV w (.slice a2 b.data.length c2) b.data := by
  obtain ⟨dvs, hd, ho, hs⟩ := h
  match dvs, hd with
  | dv :: dvs, hd =>
    have h0 := hs 0 b dv rfl rfl
    obtain ⟨a2, c2, rfl⟩ := owns_slice h0
    obtain ⟨a, c, hv, hn, -, hr⟩ := Rd.of_owns ho
    obtain ⟨g, cap, hv2, -, -⟩ := ho.form (by simp)
    have k0 := ho.cells (g := g) (by rw [hv2]; rfl) 0 (strV b.kind) rfl
    have k1 := ho.cells (g := g) (by rw [hv2]; rfl) 1 (.slice a2 b.data.length c2) rfl
    rw [hv] at hv2
    injection hv2 with e1 e2 e3
    subst e1 e3
    exact ⟨g, c, a2, c2, by simpa using hv, by simpa using hn, k0, k1, BV.of_owns h0⟩

theorem long_cells (d : List UInt8) (h : d.length ≤ 200) : ([Value.int .u8 0, .int .u8 0, .int .u8 0, .int .u8 1, .int .u8 97, .int .u8 98, .int .u8 99, .int .u8 100] ++ [.int .u8 0, .int .u8 0, .int .u8 0, .int .u8 0, .int .u8 0, .int .u8 0, .int .u8 (((d.length : Int) + 16) / 256), .int .u8 ((d.length : Int) + 16)]) ++ cellsB d = cellsB ([0, 0, 0, 1] ++ (abcd ++ (len8 (d.length + 16) ++ d))) := by
  simp [cellsB, abcd, len8]
  omega

set_option maxRecDepth 100000 in
set_option maxHeartbeats 1000000 in
theorem long_any (v : Value) (d : List UInt8) (way : Int) (w : World) (hv : BV w v d) :
    Calls Try.prog 3 #[v, .int .i64 way] w fun e w' => e = .returned (.bool true) ∧ Below w.heap.size w w' := by
  obtain ⟨i0, hi, hz0, hz1, hz2⟩ := info_parts infoU8
  have HV := Lib.hid hv
  obtain ⟨A, c, rfl, q1, q2, q3⟩ := hv
  have HV3 := Lib.hid q3
  clear q3
  unfold maxLen at q2
  by_cases hbig : 200 < d.length
  · have d1 : decide ((200 : Int) < (d.length : Int)) = true := by simp; omega
    go_enter Try.func3, Try.ntmps3
    go_wp2_with fail
    refine (known_any _).mono ?_
    rintro e w1 ⟨rfl, hb1⟩
    go_wp2_with fail
    go_ret
    exact ⟨rfl, hb1⟩
  have d1 : decide ((200 : Int) < (d.length : Int)) = false := by simp; omega
  go_enter Try.func3, Try.ntmps3
  go_wp2_with fail
  refine (known_any _).mono ?_
  rintro e w1 ⟨rfl, hb1⟩
  go_wp2_with fail
  refine (lwithin way 2 _ (by omega) (by omega)).mono ?_
  rintro e w' ⟨rfl, rfl⟩
  have hw : way % 2 = 0 ∨ way % 2 = 1 := by omega
  rcases hw with hw | hw
  · rw [hw]
    have HW := Lib.hid hw
    clear hw
    have hA1 := HV.out.keep (hb1.alloc hb1.size (.cells #[.int .u8 0, .int .u8 0, .int .u8 0, .int .u8 0, .int .u8 97, .int .u8 98, .int .u8 99, .int .u8 100] 5))
    obtain ⟨A', c', e', g1, g2, g3⟩ := hA1
    injection e' with e1 e2 e3
    subst e1 e3
    have G3 := Lib.hid g3
    clear g3 e2
    go_wp2_with (at_builtin; go_must (refine wpList_append_any _ rfl (.tmp 32) (.tmp 33) 22 rfl w1.heap.size 5 i0 (.int .u8 0) 1 1 Try.underlying22 hi hz0 hz1 hz2 rfl (by decide) _ _ _ rfl (own_lit w1 _ _ 8 _ rfl rfl (Nat.le_refl _) (by decide)) _ A d.length c (cellsB d) rfl G3.out (cellsB_one d) (by unfold maxLen; omega) (by omega) (by simp) ?_; intro v' w2 hown hgr hat; obtain ⟨a1, c1, rfl⟩ := owns_slice hown))
    have hB2 : Below w.heap.size w w2 := (hb1.alloc hb1.size _).trans ((below_grown hgr (by simp) (fun k hk => own_at hk)).mono hb1.size)
    have hbv : BV w2 (.slice a1 (8 + d.length) c1) ([0, 0, 0, 0] ++ (abcd ++ d)) := by
      have e : 8 + d.length = ([0, 0, 0, 0] ++ (abcd ++ d)).length := by simp [abcd]; omega
      rw [e] at hown ⊢
      exact BV.of_owns hown
    refine (read_ok _ ([0, 0, 0, 0] ++ (abcd ++ d)) [⟨abcd, d⟩] (fun i => if i = 0 then [0, 0, 0, 0] ++ (abcd ++ d) else []) _ hbv (by simp [abcd]; omega) rfl (fun i b h => ?_) (by simp) rfl (by simp)).mono ?_
    · match i, h with
      | 0, h => simp at h; subst h; exact ⟨by simp, one_zero d (by omega)⟩
    rintro e w3 ⟨v3, rfl, ho3, hb3⟩
    obtain ⟨g, c3, a4, c4, rfl, hc3, k0, k1, k2⟩ := ho3.first
    have hB3 : Below w.heap.size w w3 := hB2.trans (hb3.mono hB2.size)
    have cv1 : ∀ m, (convert 22 9 (.slice a4 d.length c4)).run Try.prog (w3.drewN m) = .ok (.string ⟨d.toArray⟩) (w3.drewN m) := fun m => conv_string (w := w3.drewN m) (k2.keep (drewN_below _ _ _))
    have cv2 : ∀ m, (convert 22 9 (.slice A d.length c)).run Try.prog (w3.drewN m) = .ok (.string ⟨d.toArray⟩) (w3.drewN m) := fun m => conv_string (w := w3.drewN m) (HV.out.keep (hB3.trans (drewN_below _ _ _)))
    simp only [strV, abcd] at k0
    clear k2 ho3 hbv hown
    go_wp2_with fail
    go_quiet (fail)
    go_wp2_with fail
    go_ret
    exact ⟨rfl, hB3.trans (drewN_below _ _ _)⟩
  · rw [hw]
    have HW := Lib.hid hw
    clear hw
    go_wp2_with (first
      | (at_builtin; refine wpList_append_own _ rfl (.tmp 23) (.tmp 29) 22 rfl w1.heap.size 5 i0 (.int .u8 0) 1 1 Try.underlying22 hi hz0 hz1 hz2 rfl (by decide) _ 8 [.int .u8 0, .int .u8 0, .int .u8 0, .int .u8 1, .int .u8 97, .int .u8 98, .int .u8 99, .int .u8 100] rfl ((own_lit w1 #[.int .u8 0, .int .u8 0, .int .u8 0, .int .u8 1, .int .u8 97, .int .u8 98, .int .u8 99, .int .u8 100] _ 8 _ rfl rfl (Nat.le_refl _) (by decide)).alloc _) ⟨w1.heap.size + 1, 0, none⟩ 8 8 _ rfl rfl (news_block2 w1 _ _ _) (by simp [Value.oneCell']) (by unfold maxLen; omega) (by omega) (by simp; omega) ?_; intro v' w2 hown hgr hat; obtain ⟨a1, c1, rfl⟩ := owns_slice hown; have hB2 : Below w.heap.size w w2 := ((hb1.alloc hb1.size _).alloc (by simp; have := hb1.size; omega) _).trans ((below_grown hgr (by simp; omega) (fun k hk => own_at hk)).mono hb1.size); have hS2 := hB2.size)
      | (at_builtin; go_must (refine wpList_append_any _ rfl (.tmp 32) (.tmp 33) 22 rfl w1.heap.size 5 i0 (.int .u8 0) 1 1 Try.underlying22 hi hz0 hz1 hz2 rfl (by decide) _ 16 _ rfl hown w.heap.size A d.length c (cellsB d) rfl (HV3.out.below hB2) (cellsB_one d) (by unfold maxLen; omega) (by omega) (by have := hgr.size; simp at this; omega) ?_; intro v'' w3 hown3 hgr3 hat3; obtain ⟨a2, c2, rfl⟩ := owns_slice hown3)))
    have hB3 : Below w.heap.size w w3 := hB2.trans ((below_grown hgr3 (by have := hgr.size; simp at this; omega) (fun k hk => (hown.lt k hk).1)).mono hb1.size)
    have hbv : BV w3 (.slice a2 (16 + d.length) c2) ([0, 0, 0, 1] ++ (abcd ++ (len8 (d.length + 16) ++ d))) := by
      have e : 16 + d.length = ([0, 0, 0, 1] ++ (abcd ++ (len8 (d.length + 16) ++ d))).length := by simp [abcd, len8]; omega
      rw [long_cells d (by omega)] at hown3
      rw [show 8 + 8 + d.length = ([0, 0, 0, 1] ++ (abcd ++ (len8 (d.length + 16) ++ d))).length from e] at hown3
      rw [e]
      exact BV.of_owns hown3
    refine (read_ok _ ([0, 0, 0, 1] ++ (abcd ++ (len8 (d.length + 16) ++ d))) [⟨abcd, d⟩] (fun i => if i = 0 then [0, 0, 0, 1] ++ (abcd ++ (len8 (d.length + 16) ++ d)) else []) _ hbv (by simp [abcd, len8]; omega) rfl (fun i b h => ?_) (by simp) rfl (by simp)).mono ?_
    · match i, h with
      | 0, h => simp at h; subst h; exact ⟨by simp, one_big d (by omega)⟩
    rintro e w4 ⟨v4, rfl, ho4, hb4⟩
    obtain ⟨g, c3, a4, c4, rfl, hc3, k0, k1, k2⟩ := ho4.first
    have hB4 : Below w.heap.size w w4 := hB3.trans (hb4.mono hB3.size)
    have cv1 : ∀ m, (convert 22 9 (.slice a4 d.length c4)).run Try.prog (w4.drewN m) = .ok (.string ⟨d.toArray⟩) (w4.drewN m) := fun m => conv_string (w := w4.drewN m) (k2.keep (drewN_below _ _ _))
    have cv2 : ∀ m, (convert 22 9 (.slice A d.length c)).run Try.prog (w4.drewN m) = .ok (.string ⟨d.toArray⟩) (w4.drewN m) := fun m => conv_string (w := w4.drewN m) (HV.out.keep (hB4.trans (drewN_below _ _ _)))
    simp only [strV, abcd] at k0
    clear k2 ho4 hbv hown3 hown
    go_wp2_with fail
    go_quiet (fail)
    go_wp2_with fail
    go_ret
    exact ⟨rfl, hB4.trans (drewN_below _ _ _)⟩
end Go.Proofs.Ythmdgbplfdofiaa
