/- slices.Clone of bytes; wavelet/bytes: fits, New, Left, Fail. -/
import Derived.Test.YtlhlhlabnjfhcaaProg
import Derived.Test.YtlhlhlabnjfhcaaWords
namespace Go.Proofs.Ytlhlhlabnjfhcaa
open Go.RowKit

theorem infoU8 : (Try.prog.info? 5).map (fun i => (i.zero, i.size, i.bytes)) = some (some (.int .u8 0), 1, 1) := by kernel_rfl

theorem own_empty (w : World) (e : TypeId) (size : Nat) {base : Nat} (hb : base ≤ w.heap.size) : (w.alloc (.cells #[] e)).ownsRow base e size (.slice (some ⟨w.heap.size, 0, none⟩) 0 0) 0 [] :=
  ⟨by simp, .inr ⟨w.heap.size, 0, #[], rfl, hb, heap_alloc_new w _, Nat.le_refl _, by simp, by simp, by simp⟩⟩

theorem cloneB (A : Option Addr) (n c : Nat) (xs : List Value) (w : World) (hr : Reads w w.heap.size 1 A n xs) (h1 : ∀ u ∈ xs, u.oneCell' = true) (hn : n ≤ 140737488355328) :
    Calls Try.prog 38 #[.slice A n c] w fun e w' => ∃ v, e = .returned v ∧ w'.ownsRow w.heap.size 5 1 v n xs ∧ Below w.heap.size w w' := by
  obtain ⟨i0, hi, hz0, hz1, hz2⟩ := info_parts infoU8
  have hq : ∀ W, (binOp .eql 25 (.slice A n c) (.slice none 0 0)).run Try.prog W = .ok (.bool A.isNone) W := fun W => Lib.run_eql_slice_nil W 25 5 A n c 0 0 Try.underlying25
  rcases A with _ | ad
  · have h0 : n = 0 := by
      rcases Nat.eq_zero_or_pos n with h | h
      · exact h
      · obtain ⟨_, h, _⟩ := hr.2 h; cases h
    subst h0
    have hx : xs = [] := List.eq_nil_of_length_eq_zero (by simpa using hr.1)
    subst hx
    go_enter Try.func38, Try.ntmps38
    go_wp2
    go_ret
    exact ⟨_, rfl, World.ownsRow_nil _ _ _ _, Below.refl _ _⟩
  · go_enter Try.func38, Try.ntmps38
    go_wp2_with (at_builtin; go_must (refine wpList_append_any _ rfl (.tmp 5) (.tmp 6) 25 rfl w.heap.size 5 i0 (.int .u8 0) 1 1 Try.underlying25 hi hz0 hz1 hz2 rfl (by decide) (.slice (some ⟨w.heap.size, 0, none⟩) 0 0) 0 [] rfl (own_empty w 5 1 (Nat.le_refl _)) w.heap.size (some ad) n c xs rfl (hr.alloc (Nat.le_refl _) _) h1 (by unfold maxLen; omega) (by omega) (by simp) ?_; intro v' w1 hown hgr hat; obtain ⟨a1, c1, rfl⟩ := owns_slice hown))
    go_ret
    exact ⟨_, rfl, by simpa using hown, ((Below.refl _ _).alloc (Nat.le_refl _) _).trans (below_grown hgr (by simp) (fun k hk => by simp [Value.ownBlock] at hk; omega))⟩

/-- the reader in block rb: what is left, what was wrong -/
def Rdr (w : World) (rb : Nat) (l : List UInt8) (e : Int) : Prop :=
  ∃ A c, Blk w rb 83 #[.slice A l.length c, .int .i64 e] ∧ l.length ≤ c ∧ c ≤ maxLen ∧ Reads w rb 1 A l.length (cellsB l)

theorem Rdr.lt {w : World} {rb : Nat} {l : List UInt8} {e : Int} (h : Rdr w rb l e) : rb < w.heap.size := by
  obtain ⟨A, c, h, -⟩ := h
  exact h.lt
theorem Rdr.below {w w' : World} {rb B : Nat} {l : List UInt8} {e : Int} (h : Rdr w rb l e) (hb : Below B w w') (hB : rb < B) : Rdr w' rb l e := by
  obtain ⟨A, c, h0, h1, h2, h3⟩ := h
  exact ⟨A, c, h0.below hb hB, h1, h2, h3.below (hb.mono (by omega))⟩
theorem Rdr.keep {w w' : World} {rb : Nat} {l : List UInt8} {e : Int} (h : Rdr w rb l e) (hb : Below w.heap.size w w') : Rdr w' rb l e := h.below hb h.lt
theorem Rdr.drewN {w : World} {rb : Nat} {l : List UInt8} {e : Int} (h : Rdr w rb l e) (n : Nat) : Rdr (w.drewN n) rb l e := h

theorem fits_any (n : Int) (w : World) : Calls Try.prog 61 #[.int .i64 n] w fun e w' => e = .returned (.bool (decide (1 ≤ n) && decide (n ≤ 8))) ∧ w = w' := by
  by_cases h1 : 1 ≤ n
  · have h3 : decide (1 ≤ n) = true := by simpa using h1
    go_enter Try.func61, Try.ntmps61
    go_wp2
    go_ret
    exact ⟨by rw [h3]; rfl, rfl⟩
  · have h3 : decide (1 ≤ n) = false := by simpa using h1
    go_enter Try.func61, Try.ntmps61
    go_wp2
    go_ret
    exact ⟨rfl, rfl⟩

theorem new_any (v : Value) (l : List UInt8) (w : World) (hv : BV w v l) (hl : l.length ≤ 140737488355328) :
    Calls Try.prog 26 #[v] w fun e w' => ∃ rb, e = .returned (.pointer (some ⟨rb, 0, none⟩)) ∧ w.heap.size ≤ rb ∧ Rdr w' rb l 0 ∧ Below w.heap.size w w' := by
  obtain ⟨A, c, rfl, h1, h2, h3⟩ := hv
  go_enter Try.func26, Try.ntmps26
  go_wp2_with fail
  refine (cloneB A l.length c (cellsB l) _ h3 (cellsB_one l) hl).mono ?_
  rintro e w1 ⟨v1, rfl, ho, hb⟩
  obtain ⟨A1, c1, rfl, g1, g2, g3⟩ := BV.of_owns ho
  go_wp2_with fail
  go_ret
  exact ⟨_, rfl, hb.size, ⟨A1, c1, Blk.new _ _ _, g1, g2, g3.alloc (Nat.le_refl _) _⟩, hb.alloc hb.size _⟩

/-- how many bytes a reader says that are left; what was wrong first -/
def leftI (er : Int) (n : Nat) : Int := if er = 0 then n else 0
def failE (er c : Int) : Int := if er = 0 then c else er
theorem leftI_ok (n : Nat) : leftI 0 n = n := rfl
theorem leftI_bad {er : Int} (h : er ≠ 0) (n : Nat) : leftI er n = 0 := by unfold leftI; rw [if_neg h]
theorem failE_ok (c : Int) : failE 0 c = c := rfl
theorem failE_bad {er : Int} (h : er ≠ 0) (c : Int) : failE er c = er := by unfold failE; rw [if_neg h]

theorem left_any (rb : Nat) (l : List UInt8) (er : Int) (w : World) (hr : Rdr w rb l er) :
    Calls Try.prog 28 #[.pointer (some ⟨rb, 0, none⟩)] w fun e w' => e = .returned (.int .i64 (leftI er l.length)) ∧ w = w' := by
  obtain ⟨A, c, h0, h1, h2, h3⟩ := hr
  have c0 := h0.cell 0
  have c1 := h0.cell 1
  simp at c0 c1
  by_cases he : er = 0
  · subst he
    go_enter Try.func28, Try.ntmps28
    go_wp2
    go_ret
    exact ⟨rfl, rfl⟩
  · have h4 : (er != 0) = true := by simpa using he
    go_enter Try.func28, Try.ntmps28
    go_wp2
    go_ret
    exact ⟨by rw [leftI_bad he]; rfl, rfl⟩

theorem Rdr.setErr {w : World} {rb : Nat} {l : List UInt8} {e : Int} (h : Rdr w rb l e) (c : Int) : Rdr (w.setCell ⟨rb, 1, none⟩ (.int .i64 c)) rb l c := by
  obtain ⟨A, cp, h0, h1, h2, h3⟩ := h
  exact ⟨A, cp, by simpa using h0.set_ 1 (.int .i64 c), h1, h2, h3.setCell (p := ⟨rb, 1, none⟩) (Nat.le_refl _) _⟩

theorem fail_any (rb : Nat) (l : List UInt8) (er c : Int) (w : World) (hr : Rdr w rb l er) :
    Calls Try.prog 62 #[.pointer (some ⟨rb, 0, none⟩), .int .i64 c] w fun e w' => e = .returned (.tuple #[]) ∧ Rdr w' rb l (failE er c) ∧ w.grownBy w' (some rb) := by
  have HR := Lib.hid hr
  obtain ⟨A, cp, h0, h1, h2, h3⟩ := hr
  have c0 := h0.cell 0
  have c1 := h0.cell 1
  have f1 := h0.frozen 1
  simp at c0 c1
  by_cases he : er = 0
  · subst he
    go_enter Try.func62, Try.ntmps62
    go_wp2
    go_end0
    exact ⟨rfl, HR.out.setErr c, only_setCell (World.grownBy.refl _ _) (.inl rfl) _⟩
  · have h4 : (er == 0) = false := by simpa using he
    go_enter Try.func62, Try.ntmps62
    go_wp2
    go_end0
    exact ⟨rfl, by rw [failE_bad he]; exact HR.out, World.grownBy.refl _ _⟩
end Go.Proofs.Ytlhlhlabnjfhcaa
