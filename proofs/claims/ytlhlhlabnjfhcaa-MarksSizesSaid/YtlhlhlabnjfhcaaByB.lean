/- wavelet/bytes: Take, Get. -/
import Derived.Test.YtlhlhlabnjfhcaaByA
namespace Go.Proofs.Ytlhlhlabnjfhcaa
open Go.RowKit

theorem Rdr.mk_cut {w : World} {rb : Nat} {l : List UInt8} {e : Int} {A A' : Option Addr} {c c' k : Nat} (h0 : Blk w rb 83 #[.slice A l.length c, .int .i64 e]) (h1 : l.length ≤ c) (h2 : c ≤ maxLen)
    (h3 : Reads w rb 1 A l.length (cellsB l)) (hk : k ≤ l.length) (hA : A' = if c = k then A else Option.map (fun x => x.add k) A) (hc : c' = c - k) :
    Rdr (w.setCell ⟨rb, 0, none⟩ (.slice A' (l.length - k) c')) rb (l.drop k) e := by
  subst hA hc
  refine ⟨(if c = k then A else Option.map (fun x => x.add k) A), c - k, ?_, ?_, ?_, ?_⟩
  · have := h0.set_ 0 (.slice (if c = k then A else Option.map (fun x => x.add k) A) (l.length - k) (c - k))
    rw [List.length_drop]
    simpa using this
  · rw [List.length_drop]; omega
  · omega
  · have := h3.cut (k := k) (cap := c) hk h1
    rw [Nat.mul_one] at this
    rw [List.length_drop, cellsB_drop]
    exact this.setCell (p := ⟨rb, 0, none⟩) (Nat.le_refl _) _

def takeE (er n : Int) : Int := failE er (if n < 0 then 1 else 8)
theorem takeE_neg {n : Int} (h : n < 0) (er : Int) : takeE er n = failE er 1 := by unfold takeE; rw [if_pos h]
theorem takeE_pos {n : Int} (h : ¬ n < 0) (er : Int) : takeE er n = failE er 8 := by unfold takeE; rw [if_neg h]
theorem failE_ne (er c : Int) (hc : c ≠ 0) : (failE er c != 0) = true := by unfold failE; split <;> simp_all

theorem take_bad (rb : Nat) (l : List UInt8) (er n : Int) (w : World) (hr : Rdr w rb l er) (hl : l.length ≤ 140737488355328) (h : er ≠ 0 ∨ n < 0 ∨ (l.length : Int) < n) :
    Calls Try.prog 63 #[.pointer (some ⟨rb, 0, none⟩), .int .i64 n] w fun e w' => e = .returned (.slice none 0 0) ∧
      Rdr w' rb l (takeE er n) ∧ w.grownBy w' (some rb) := by
  have HR := Lib.hid hr
  obtain ⟨A, c, h0, h1, h2, h3⟩ := hr
  have c0 := h0.cell 0
  have c1 := h0.cell 1
  simp at c0 c1
  go_enter Try.func63, Try.ntmps63
  go_wp2_with fail
  · refine (fail_any rb l er 1 _ HR.out).mono ?_
    rintro e w1 ⟨rfl, hr1, hg⟩
    have HR1 := Lib.hid hr1
    obtain ⟨A1, c1', k0, -⟩ := hr1
    have g0 := k0.cell 0
    have g1 := k0.cell 1
    simp at g0 g1
    have hn : n < 0 := by assumption
    have d1 : decide ((l.length : Int) < n) = false := by simp; omega
    have d2 := failE_ne er 1 (by decide)
    have E1 := Lib.hid (takeE_neg hn er)
    generalize failE er 1 = v at *
    clear c0 c1 h
    go_wp2_with fail
    go_ret
    exact ⟨rfl, by rw [E1.out]; exact HR1.out, hg⟩
  · refine (fail_any rb l er 8 _ HR.out).mono ?_
    rintro e w1 ⟨rfl, hr1, hg⟩
    have HR1 := Lib.hid hr1
    obtain ⟨A1, c1', k0, -⟩ := hr1
    have g0 := k0.cell 0
    have g1 := k0.cell 1
    simp at g0 g1
    have hn : ¬ n < 0 := by omega
    have d2 := failE_ne er 8 (by decide)
    have E1 := Lib.hid (takeE_pos hn er)
    generalize failE er 8 = v at *
    clear c0 c1 h
    go_wp2_with fail
    go_ret
    exact ⟨rfl, by rw [E1.out]; exact HR1.out, hg⟩
  · have he : er ≠ 0 := by
      have hx : (er != 0) = true := by assumption
      simpa using hx
    go_ret
    exact ⟨rfl, by unfold takeE; rw [failE_bad he]; exact HR.out, World.grownBy.refl _ _⟩

theorem take_ok (rb : Nat) (l : List UInt8) (n : Nat) (w : World) (hr : Rdr w rb l 0) (hl : l.length ≤ 140737488355328) (hn : n ≤ l.length) :
    Calls Try.prog 63 #[.pointer (some ⟨rb, 0, none⟩), .int .i64 n] w fun e w' => ∃ v, e = .returned v ∧ w'.ownsRow w.heap.size 5 1 v n (cellsB (l.take n)) ∧
      Rdr w' rb (l.drop n) 0 ∧ w.grownBy w' (some rb) := by
  obtain ⟨A, c, h0, h1, h2, h3⟩ := hr
  have c0 := h0.cell 0
  have c1 := h0.cell 1
  simp at c0 c1
  have hM := h2
  unfold maxLen at h2
  have d0 : decide ((n : Int) < 0) = false := by simp
  have d1 : decide (l.length < n) = false := by simp; omega
  go_enter Try.func63, Try.ntmps63
  go_wp2_with fail
  have hlt := h0.lt
  refine (cloneB A n c (cellsB (l.take n)) _ (by rw [cellsB_take]; exact (h3.take hn).more (by omega)) (cellsB_one _) (by omega)).mono ?_
  rintro e w1 ⟨v1, rfl, ho, hb⟩
  have k0 := h0.below hb hlt
  have k3 := h3.below (hb.mono (by omega))
  have g0 := k0.cell 0
  have g1 := k0.frozen 0
  simp at g0
  obtain ⟨a1, p1, rfl⟩ := owns_slice ho
  have K0 := Lib.hid k0
  have h2' := hM
  have hg : w.grownBy w1 (some rb) := only_of_below hb _
  clear c0 c1 k0 h0
  go_wp2_with fail
  all_goals go_ret
  · exact ⟨_, rfl, ownsRow_setCell_below ho (by simpa using hlt) _, Rdr.mk_cut K0.out h1 h2' k3 hn (by rw [if_pos (by assumption)]) (by omega), only_setCell hg (.inl rfl) _⟩
  · exact ⟨_, rfl, ownsRow_setCell_below ho (by simpa using hlt) _, Rdr.mk_cut K0.out h1 h2' k3 hn (by rw [if_neg (by assumption)]) rfl, only_setCell hg (.inl rfl) _⟩
end Go.Proofs.Ytlhlhlabnjfhcaa
