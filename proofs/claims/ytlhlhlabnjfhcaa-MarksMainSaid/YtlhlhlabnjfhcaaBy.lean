/- slices.Clone of bytes; wavelet/bytes: fits, New, Left, Fail. wavelet/bytes: Take, Get. wavelet/bytes: Get. wavelet/bytes: Put. -/
import Derived.Test.YtlhlhlabnjfhcaaProg
import Derived.Test.YtlhlhlabnjfhcaaWords
import Derived.Laws.Bits64b
namespace Go.Proofs.Ytlhlhlabnjfhcaa
open Go.RowKit

theorem infoU8 : (Try.prog.info? 5).map (fun i => (i.zero, i.size, i.bytes)) = some (some (.int .u8 0), 1, 1) := by kernel_rfl

theorem own_empty (w : World) (e : TypeId) (size : Nat) {base : Nat} (hb : base ≤ w.heap.size) : (w.alloc (.cells #[] e)).ownsRow base e size (.slice (some ⟨w.heap.size, 0, none⟩) 0 0) 0 [] :=
  ⟨by simp, .inr ⟨w.heap.size, 0, #[], rfl, hb, heap_alloc_new w _, Nat.le_refl _, by simp, by simp, by simp⟩⟩

theorem cloneB (A : Option Addr) (n c : Nat) (xs : List Value) (w : World) (hr : Reads w w.heap.size 1 A n xs) (h1 : ∀ u ∈ xs, u.oneCell' = true) (hn : n ≤ 140737488355328) :
    Calls Try.prog 38 #[.slice A n c] w fun e w' => ∃ v, e = .returned v ∧ w'.ownsRow w.heap.size 5 1 v n xs ∧ Below w.heap.size w w' := by
  obtain ⟨i0, hi, hz0, hz1, hz2⟩ := info_parts infoU8
  have hq : ∀ W, (binOp .eql 25 (.slice A n c) (.slice none 0 0)).run Try.prog W = .ok (.bool A.isNone) W := fun W => Lib.run_eql_slice_nil W 25 5 A n c 0 0 Try.underlying25
  rcases A with _ | ad
  · have h0 : n = 0 := by
      rcases Nat.eq_zero_or_pos n with h | h
      · exact h
      · obtain ⟨_, h, _⟩ := hr.2 h; cases h
    subst h0
    have hx : xs = [] := List.eq_nil_of_length_eq_zero (by simpa using hr.1)
    subst hx
    go_enter Try.func38, Try.ntmps38
    go_wp2
    go_ret
    exact ⟨_, rfl, World.ownsRow_nil _ _ _ _, Below.refl _ _⟩
  · go_enter Try.func38, Try.ntmps38
    go_wp2_with (at_builtin; go_must (refine wpList_append_any _ rfl (.tmp 5) (.tmp 6) 25 rfl w.heap.size 5 i0 (.int .u8 0) 1 1 Try.underlying25 hi hz0 hz1 hz2 rfl (by decide) (.slice (some ⟨w.heap.size, 0, none⟩) 0 0) 0 [] rfl (own_empty w 5 1 (Nat.le_refl _)) w.heap.size (some ad) n c xs rfl (hr.alloc (Nat.le_refl _) _) h1 (by unfold maxLen; omega) (by omega) (by simp) ?_; intro v' w1 hown hgr hat; obtain ⟨a1, c1, rfl⟩ := owns_slice hown))
    go_ret
    exact ⟨_, rfl, by simpa using hown, ((Below.refl _ _).alloc (Nat.le_refl _) _).trans (below_grown hgr (by simp) (fun k hk => by simp [Value.ownBlock] at hk; omega))⟩

/-- the reader in block rb: what is left, what was wrong -/
def Rdr (w : World) (rb : Nat) (l : List UInt8) (e : Int) : Prop :=
  ∃ A c, Blk w rb 83 #[.slice A l.length c, .int .i64 e] ∧ l.length ≤ c ∧ c ≤ maxLen ∧ Reads w rb 1 A l.length (cellsB l)

theorem Rdr.lt {w : World} {rb : Nat} {l : List UInt8} {e : Int} (h : Rdr w rb l e) : rb < w.heap.size := by
  obtain ⟨A, c, h, -⟩ := h
  exact h.lt
theorem Rdr.below {w w' : World} {rb B : Nat} {l : List UInt8} {e : Int} (h : Rdr w rb l e) (hb : Below B w w') (hB : rb < B) : Rdr w' rb l e := by
  obtain ⟨A, c, h0, h1, h2, h3⟩ := h
  exact ⟨A, c, h0.below hb hB, h1, h2, h3.below (hb.mono (by omega))⟩
theorem Rdr.keep {w w' : World} {rb : Nat} {l : List UInt8} {e : Int} (h : Rdr w rb l e) (hb : Below w.heap.size w w') : Rdr w' rb l e := h.below hb h.lt
theorem Rdr.drewN {w : World} {rb : Nat} {l : List UInt8} {e : Int} (h : Rdr w rb l e) (n : Nat) : Rdr (w.drewN n) rb l e := h

theorem fits_any (n : Int) (w : World) : Calls Try.prog 61 #[.int .i64 n] w fun e w' => e = .returned (.bool (decide (1 ≤ n) && decide (n ≤ 8))) ∧ w = w' := by
  by_cases h1 : 1 ≤ n
  · have h3 : decide (1 ≤ n) = true := by simpa using h1
    go_enter Try.func61, Try.ntmps61
    go_wp2
    go_ret
    exact ⟨by rw [h3]; rfl, rfl⟩
  · have h3 : decide (1 ≤ n) = false := by simpa using h1
    go_enter Try.func61, Try.ntmps61
    go_wp2
    go_ret
    exact ⟨rfl, rfl⟩

theorem new_any (v : Value) (l : List UInt8) (w : World) (hv : BV w v l) (hl : l.length ≤ 140737488355328) :
    Calls Try.prog 26 #[v] w fun e w' => ∃ rb, e = .returned (.pointer (some ⟨rb, 0, none⟩)) ∧ w.heap.size ≤ rb ∧ Rdr w' rb l 0 ∧ Below w.heap.size w w' := by
  obtain ⟨A, c, rfl, h1, h2, h3⟩ := hv
  go_enter Try.func26, Try.ntmps26
  go_wp2_with fail
  refine (cloneB A l.length c (cellsB l) _ h3 (cellsB_one l) hl).mono ?_
  rintro e w1 ⟨v1, rfl, ho, hb⟩
  obtain ⟨A1, c1, rfl, g1, g2, g3⟩ := BV.of_owns ho
  go_wp2_with fail
  go_ret
  exact ⟨_, rfl, hb.size, ⟨A1, c1, Blk.new _ _ _, g1, g2, g3.alloc (Nat.le_refl _) _⟩, hb.alloc hb.size _⟩

/-- how many bytes a reader says that are left; what was wrong first -/
def leftI (er : Int) (n : Nat) : Int := if er = 0 then n else 0
def failE (er c : Int) : Int := if er = 0 then c else er
theorem leftI_ok (n : Nat) : leftI 0 n = n := rfl
theorem leftI_bad {er : Int} (h : er ≠ 0) (n : Nat) : leftI er n = 0 := by unfold leftI; rw [if_neg h]
theorem failE_ok (c : Int) : failE 0 c = c := rfl
theorem failE_bad {er : Int} (h : er ≠ 0) (c : Int) : failE er c = er := by unfold failE; rw [if_neg h]

theorem left_any (rb : Nat) (l : List UInt8) (er : Int) (w : World) (hr : Rdr w rb l er) :
    Calls Try.prog 28 #[.pointer (some ⟨rb, 0, none⟩)] w fun e w' => e = .returned (.int .i64 (leftI er l.length)) ∧ w = w' := by
  obtain ⟨A, c, h0, h1, h2, h3⟩ := hr
  have c0 := h0.cell 0
  have c1 := h0.cell 1
  simp at c0 c1
  by_cases he : er = 0
  · subst he
    go_enter Try.func28, Try.ntmps28
    go_wp2
    go_ret
    exact ⟨rfl, rfl⟩
  · have h4 : (er != 0) = true := by simpa using he
    go_enter Try.func28, Try.ntmps28
    go_wp2
    go_ret
    exact ⟨by rw [leftI_bad he]; rfl, rfl⟩

theorem Rdr.setErr {w : World} {rb : Nat} {l : List UInt8} {e : Int} (h : Rdr w rb l e) (c : Int) : Rdr (w.setCell ⟨rb, 1, none⟩ (.int .i64 c)) rb l c := by
  obtain ⟨A, cp, h0, h1, h2, h3⟩ := h
  exact ⟨A, cp, by simpa using h0.set_ 1 (.int .i64 c), h1, h2, h3.setCell (p := ⟨rb, 1, none⟩) (Nat.le_refl _) _⟩

theorem fail_any (rb : Nat) (l : List UInt8) (er c : Int) (w : World) (hr : Rdr w rb l er) :
    Calls Try.prog 62 #[.pointer (some ⟨rb, 0, none⟩), .int .i64 c] w fun e w' => e = .returned (.tuple #[]) ∧ Rdr w' rb l (failE er c) ∧ w.grownBy w' (some rb) := by
  have HR := Lib.hid hr
  obtain ⟨A, cp, h0, h1, h2, h3⟩ := hr
  have c0 := h0.cell 0
  have c1 := h0.cell 1
  have f1 := h0.frozen 1
  simp at c0 c1
  by_cases he : er = 0
  · subst he
    go_enter Try.func62, Try.ntmps62
    go_wp2
    go_end0
    exact ⟨rfl, HR.out.setErr c, only_setCell (World.grownBy.refl _ _) (.inl rfl) _⟩
  · have h4 : (er == 0) = false := by simpa using he
    go_enter Try.func62, Try.ntmps62
    go_wp2
    go_end0
    exact ⟨rfl, by rw [failE_bad he]; exact HR.out, World.grownBy.refl _ _⟩
end Go.Proofs.Ytlhlhlabnjfhcaa
namespace Go.Proofs.Ytlhlhlabnjfhcaa
open Go.RowKit

theorem Rdr.mk_cut {w : World} {rb : Nat} {l : List UInt8} {e : Int} {A A' : Option Addr} {c c' k : Nat} (h0 : Blk w rb 83 #[.slice A l.length c, .int .i64 e]) (h1 : l.length ≤ c) (h2 : c ≤ maxLen)
    (h3 : Reads w rb 1 A l.length (cellsB l)) (hk : k ≤ l.length) (hA : A' = if c = k then A else Option.map (fun x => x.add k) A) (hc : c' = c - k) :
    Rdr (w.setCell ⟨rb, 0, none⟩ (.slice A' (l.length - k) c')) rb (l.drop k) e := by
  subst hA hc
  refine ⟨(if c = k then A else Option.map (fun x => x.add k) A), c - k, ?_, ?_, ?_, ?_⟩
  · have := h0.set_ 0 (.slice (if c = k then A else Option.map (fun x => x.add k) A) (l.length - k) (c - k))
    rw [List.length_drop]
    simpa using this
  · rw [List.length_drop]; omega
  · omega
  · have := h3.cut (k := k) (cap := c) hk h1
    rw [Nat.mul_one] at this
    rw [List.length_drop, cellsB_drop]
    exact this.setCell (p := ⟨rb, 0, none⟩) (Nat.le_refl _) _

def takeE (er n : Int) : Int := failE er (if n < 0 then 1 else 8)
theorem takeE_neg {n : Int} (h : n < 0) (er : Int) : takeE er n = failE er 1 := by unfold takeE; rw [if_pos h]
theorem takeE_pos {n : Int} (h : ¬ n < 0) (er : Int) : takeE er n = failE er 8 := by unfold takeE; rw [if_neg h]
theorem failE_ne (er c : Int) (hc : c ≠ 0) : (failE er c != 0) = true := by unfold failE; split <;> simp_all

theorem take_bad (rb : Nat) (l : List UInt8) (er n : Int) (w : World) (hr : Rdr w rb l er) (hl : l.length ≤ 140737488355328) (h : er ≠ 0 ∨ n < 0 ∨ (l.length : Int) < n) :
    Calls Try.prog 63 #[.pointer (some ⟨rb, 0, none⟩), .int .i64 n] w fun e w' => e = .returned (.slice none 0 0) ∧
      Rdr w' rb l (takeE er n) ∧ w.grownBy w' (some rb) := by
  have HR := Lib.hid hr
  obtain ⟨A, c, h0, h1, h2, h3⟩ := hr
  have c0 := h0.cell 0
  have c1 := h0.cell 1
  simp at c0 c1
  go_enter Try.func63, Try.ntmps63
  go_wp2_with fail
  · refine (fail_any rb l er 1 _ HR.out).mono ?_
    rintro e w1 ⟨rfl, hr1, hg⟩
    have HR1 := Lib.hid hr1
    obtain ⟨A1, c1', k0, -⟩ := hr1
    have g0 := k0.cell 0
    have g1 := k0.cell 1
    simp at g0 g1
    have hn : n < 0 := by assumption
    have d1 : decide ((l.length : Int) < n) = false := by simp; omega
    have d2 := failE_ne er 1 (by decide)
    have E1 := Lib.hid (takeE_neg hn er)
    generalize failE er 1 = v at *
    clear c0 c1 h
    go_wp2_with fail
    go_ret
    exact ⟨rfl, by rw [E1.out]; exact HR1.out, hg⟩
  · refine (fail_any rb l er 8 _ HR.out).mono ?_
    rintro e w1 ⟨rfl, hr1, hg⟩
    have HR1 := Lib.hid hr1
    obtain ⟨A1, c1', k0, -⟩ := hr1
    have g0 := k0.cell 0
    have g1 := k0.cell 1
    simp at g0 g1
    have hn : ¬ n < 0 := by omega
    have d2 := failE_ne er 8 (by decide)
    have E1 := Lib.hid (takeE_pos hn er)
    generalize failE er 8 = v at *
    clear c0 c1 h
    go_wp2_with fail
    go_ret
    exact ⟨rfl, by rw [E1.out]; exact HR1.out, hg⟩
  · have he : er ≠ 0 := by
      have hx : (er != 0) = true := by assumption
      simpa using hx
    go_ret
    exact ⟨rfl, by unfold takeE; rw [failE_bad he]; exact HR.out, World.grownBy.refl _ _⟩

theorem take_ok (rb : Nat) (l : List UInt8) (n : Nat) (w : World) (hr : Rdr w rb l 0) (hl : l.length ≤ 140737488355328) (hn : n ≤ l.length) :
    Calls Try.prog 63 #[.pointer (some ⟨rb, 0, none⟩), .int .i64 n] w fun e w' => ∃ v, e = .returned v ∧ w'.ownsRow w.heap.size 5 1 v n (cellsB (l.take n)) ∧
      Rdr w' rb (l.drop n) 0 ∧ w.grownBy w' (some rb) := by
  obtain ⟨A, c, h0, h1, h2, h3⟩ := hr
  have c0 := h0.cell 0
  have c1 := h0.cell 1
  simp at c0 c1
  have hM := h2
  unfold maxLen at h2
  have d0 : decide ((n : Int) < 0) = false := by simp
  have d1 : decide (l.length < n) = false := by simp; omega
  go_enter Try.func63, Try.ntmps63
  go_wp2_with fail
  have hlt := h0.lt
  refine (cloneB A n c (cellsB (l.take n)) _ (by rw [cellsB_take]; exact (h3.take hn).more (by omega)) (cellsB_one _) (by omega)).mono ?_
  rintro e w1 ⟨v1, rfl, ho, hb⟩
  have k0 := h0.below hb hlt
  have k3 := h3.below (hb.mono (by omega))
  have g0 := k0.cell 0
  have g1 := k0.frozen 0
  simp at g0
  obtain ⟨a1, p1, rfl⟩ := owns_slice ho
  have K0 := Lib.hid k0
  have h2' := hM
  have hg : w.grownBy w1 (some rb) := only_of_below hb _
  clear c0 c1 k0 h0
  go_wp2_with fail
  all_goals go_ret
  · exact ⟨_, rfl, ownsRow_setCell_below ho (by simpa using hlt) _, Rdr.mk_cut K0.out h1 h2' k3 hn (by rw [if_pos (by assumption)]) (by omega), only_setCell hg (.inl rfl) _⟩
  · exact ⟨_, rfl, ownsRow_setCell_below ho (by simpa using hlt) _, Rdr.mk_cut K0.out h1 h2' k3 hn (by rw [if_neg (by assumption)]) rfl, only_setCell hg (.inl rfl) _⟩
end Go.Proofs.Ytlhlhlabnjfhcaa
namespace Go.Proofs.Ytlhlhlabnjfhcaa
open Go.RowKit

/-- bytes as a number, the first one the most significant -/
def beN (l : List UInt8) : Nat := l.foldl (fun u c => u * 256 + c.toNat) 0

theorem beN_snoc (l : List UInt8) (c : UInt8) : beN (l ++ [c]) = beN l * 256 + c.toNat := by simp [beN]
theorem beN_lt_go : ∀ (l : List UInt8) (u : Nat), l.foldl (fun u c => u * 256 + c.toNat) u < (u + 1) * 256 ^ l.length
  | [], u => by simp
  | c :: l, u => by
    have h := beN_lt_go l (u * 256 + c.toNat)
    have hc := c.toNat_lt
    rw [List.foldl_cons, List.length_cons, Nat.pow_succ, ← Nat.mul_assoc, Nat.mul_right_comm]
    exact Nat.lt_of_lt_of_le h (Nat.mul_le_mul_right _ (by omega))
theorem beN_lt (l : List UInt8) : beN l < 256 ^ l.length := by simpa [beN] using beN_lt_go l 0
theorem beN_lt8 (l : List UInt8) (k : Nat) (h : l.length ≤ k) : beN l < 256 ^ k := Nat.lt_of_lt_of_le (beN_lt l) (Nat.pow_le_pow_right (by decide) h)

/-- what Get answers -/
def getI (l : List UInt8) : Int := IntKind.i64.wrap (beN l : Int)

theorem wrapEq (x : Int) : IntKind.i64.wrap x = wrap64 x := IntWalk.i64_left x
theorem ret_int {k : IntKind} {a b : Int} (h : a = b) : Ending.returned (.int k a) = .returned (.int k b) := by rw [h]
theorem getI_eq (l : List UInt8) : wrap64 (beN l : Int) = getI l := by unfold getI; exact (wrapEq _).symm

theorem or_byte (u : Nat) (c : UInt8) : u * 256 ||| c.toNat = u * 256 + c.toNat := by
  have := c.toNat_lt
  rw [show u * 256 = 256 * u from Nat.mul_comm _ _]
  exact (Nat.two_pow_add_eq_or_of_lt (i := 8) (by simpa using this) u).symm

theorem or_u64 (u : Nat) (c : UInt8) (h : u < 256 ^ 7) : bits .or .u64 ((u : Int) * 256) (c.toNat : Int) = ((u * 256 + c.toNat : Nat) : Int) := by
  have := c.toNat_lt
  have e := bits_or_u64_nat (u * 256) c.toNat (by omega) (by omega)
  rw [or_byte] at e
  rw [← e]
  simp

theorem get_ok (rb : Nat) (l : List UInt8) (k : Nat) (w : World) (hr : Rdr w rb l 0) (hl : l.length ≤ 140737488355328) (h1 : 1 ≤ k) (h8 : k ≤ 8) (hk : k ≤ l.length) :
    Calls Try.prog 45 #[.pointer (some ⟨rb, 0, none⟩), .int .i64 k] w fun e w' => e = .returned (.int .i64 (getI (l.take k))) ∧ Rdr w' rb (l.drop k) 0 ∧ w.grownBy w' (some rb) := by
  have d1 : (decide (1 ≤ (k : Int)) && decide ((k : Int) ≤ 8)) = true := by simp; omega
  have HR := Lib.hid hr
  clear hr
  go_enter Try.func45, Try.ntmps45
  go_wp2_with fail
  refine (fits_any _ _).mono ?_
  rintro e w' ⟨rfl, rfl⟩
  rw [d1]
  go_wp2_with fail
  refine (take_ok rb l k _ HR.out hl hk).mono ?_
  rintro e w1 ⟨v, rfl, ho, hr1, hg⟩
  have hlen : (l.take k).length = k := by rw [List.length_take]; omega
  obtain ⟨m, hm⟩ : ∃ m, m = l.take k := ⟨_, rfl⟩
  rw [← hm] at hlen ho
  have HM := Lib.hid hm
  clear hm
  have hv := BV.of_owns (l := m) (by rw [hlen]; exact ho)
  obtain ⟨A, c, rfl, g1, g2, g3⟩ := hv
  have HR1 := Lib.hid hr1
  have G3 := Lib.hid g3
  clear ho hr1 g3
  rw [hlen] at g1 ⊢
  go_wp2_with fail
  have HL := Lib.hid hlen
  clear hlen
  unfold maxLen at g2
  go_loopg [5, 17] k (fun g s5 s17 wx => ∃ j : Nat, j ≤ k ∧ g = k - j ∧ s17 = .int .i64 j ∧ s5 = .int .u64 (beN (m.take j) : Nat) ∧ w1 = wx)
  case atStart => exact ⟨0, Nat.zero_le _, rfl, rfl, rfl, rfl⟩
  case round =>
    obtain ⟨j, hj, rfl, rfl, rfl, rfl⟩ := hrel
    by_cases hjl : j < k
    · obtain ⟨x, hx⟩ : ∃ x, m[j]? = some x := ⟨_, List.getElem?_eq_getElem (by rw [HL.out]; exact hjl)⟩
      obtain ⟨ad, rfl, -, hc⟩ := G3.out.cell hx
      have hu := beN_lt8 (m.take j) 7 (by rw [List.length_take]; omega)
      have hx8 := x.toNat_lt
      have hsn : beN (m.take (j + 1)) = beN (m.take j) * 256 + x.toNat := by rw [List.take_add_one, hx]; exact beN_snoc _ _
      have HS := Lib.hid hsn
      generalize beN (m.take j) = u at *
      clear hx hsn
      have HO := Lib.hid (or_u64 u x hu)
      go_wp2_with fail
      go_roundg (k - (j + 1))
      case measure => omega
      case rel => exact ⟨j + 1, by omega, rfl, by go_num, by rw [HS.out, HO.out], rfl⟩
    · obtain rfl : j = k := by omega
      go_wp2_with fail
      go_ret
      have e : m.take j = m := List.take_of_length_le (by rw [HL.out]; exact Nat.le_refl _)
      refine ⟨?_, HR1.out, hg⟩
      rw [← HM.out]
      exact ret_int (by rw [e]; exact getI_eq m)

theorem get_bad (rb : Nat) (l : List UInt8) (er : Int) (k : Nat) (w : World) (hr : Rdr w rb l er) (hl : l.length ≤ 140737488355328) (h1 : 1 ≤ k) (h8 : k ≤ 8) (hk : er ≠ 0 ∨ l.length < k) :
    Calls Try.prog 45 #[.pointer (some ⟨rb, 0, none⟩), .int .i64 k] w fun e w' => e = .returned (.int .i64 0) ∧ Rdr w' rb l (failE er 8) ∧ w.grownBy w' (some rb) := by
  have d1 : (decide (1 ≤ (k : Int)) && decide ((k : Int) ≤ 8)) = true := by simp; omega
  have HR := Lib.hid hr
  clear hr
  have HK := Lib.hid hk
  clear hk
  go_enter Try.func45, Try.ntmps45
  go_wp2_with fail
  refine (fits_any _ _).mono ?_
  rintro e w' ⟨rfl, rfl⟩
  rw [d1]
  go_wp2_with fail
  refine (take_bad rb l er k _ HR.out hl (by rcases HK.out with h | h; exact .inl h; exact .inr (.inr (by omega)))).mono ?_
  rintro e w1 ⟨rfl, hr1, hg⟩
  rw [takeE_pos (by omega)] at hr1
  have HR1 := Lib.hid hr1
  clear hr1
  go_wp2_with fail
  go_loopg [5, 17] 0 (fun g s5 s17 wx => s17 = .int .i64 0 ∧ s5 = .int .u64 0 ∧ w1 = wx)
  case atStart => exact ⟨rfl, rfl, rfl⟩
  case round =>
    obtain ⟨rfl, rfl, rfl⟩ := hrel
    go_wp2_with fail
    go_ret
    exact ⟨rfl, HR1.out, hg⟩
end Go.Proofs.Ytlhlhlabnjfhcaa
namespace Go.Proofs.Ytlhlhlabnjfhcaa
open Go.RowKit

/-- the first i bytes of a field of k bytes -/
def putTo (k : Nat) (n : Int) (i : Nat) : List UInt8 := (List.range i).map fun t => UInt8.ofNat ((n % 18446744073709551616).toNat / 256 ^ (k - 1 - t))
def putB (k : Nat) (n : Int) : List UInt8 := putTo k n k
theorem putTo_length (k : Nat) (n : Int) (i : Nat) : (putTo k n i).length = i := by simp [putTo]
theorem putB_length (k : Nat) (n : Int) : (putB k n).length = k := putTo_length k n k
theorem putTo_succ (k : Nat) (n : Int) (i : Nat) : putTo k n (i + 1) = putTo k n i ++ [UInt8.ofNat ((n % 18446744073709551616).toNat / 256 ^ (k - 1 - i))] := by
  simp [putTo, List.range_succ]

theorem byte_eq (n : Int) (m : Nat) : IntKind.u64.wrap n / 2 ^ (8 * m) % 256 = ((UInt8.ofNat ((n % 18446744073709551616).toNat / 256 ^ m)).toNat : Int) := by
  rw [IntKind.wrap_u64]
  have h0 : 0 ≤ n % 18446744073709551616 := Int.emod_nonneg _ (by decide)
  obtain ⟨u, hu⟩ := Int.eq_ofNat_of_zero_le h0
  have e : (2 : Int) ^ (8 * m) = ((256 ^ m : Nat) : Int) := by
    rw [show (256 : Nat) = 2 ^ 8 from rfl, ← Nat.pow_mul]
    simp
  rw [hu, UInt8.toNat_ofNat', Int.toNat_natCast, e, Int.natCast_emod, Int.natCast_ediv]
  rfl

theorem put_any (v : Value) (l : List UInt8) (k : Nat) (n : Int) (w : World) (hv : BV w v l) (h1 : 1 ≤ k) (h8 : k ≤ 8) (hl : l.length ≤ 70368744177664) :
    Calls Try.prog 55 #[v, .int .i64 k, .int .i64 n] w fun e w' => ∃ v', e = .returned v' ∧ w'.ownsRow w.heap.size 5 1 v' (l.length + k) (cellsB (l ++ putB k n)) ∧ Below w.heap.size w w' := by
  obtain ⟨A, c, rfl, g1, g2, g3⟩ := hv
  have d1 : (decide (1 ≤ (k : Int)) && decide ((k : Int) ≤ 8)) = true := by simp; omega
  obtain ⟨i0, hi, hz0, hz1, hz2⟩ := info_parts infoU8
  go_enter Try.func55, Try.ntmps55
  go_wp2_with fail
  refine (cloneB A l.length c (cellsB l) _ g3 (cellsB_one l) (by omega)).mono ?_
  rintro e w1 ⟨v1, rfl, ho, hb⟩
  obtain ⟨a1, c1, rfl⟩ := owns_slice ho
  go_wp2_with fail
  refine (fits_any _ _).mono ?_
  rintro e w' ⟨rfl, rfl⟩
  rw [d1]
  go_wp2_with fail
  go_loopg [7, 8] k (fun g s7 s8 wx => ∃ i : Nat, i ≤ k ∧ g = k - i ∧ s8 = .int .i64 ((k : Int) - 1 - i) ∧ wx.ownsRow w.heap.size 5 1 s7 (l.length + i) (cellsB (l ++ putTo k n i)) ∧ Below w.heap.size w wx)
  case atStart => exact ⟨0, Nat.zero_le _, rfl, by go_num, by simpa [putTo] using ho, hb⟩
  case round =>
    obtain ⟨wa, rfl⟩ : ∃ wa : World, wa = wr := ⟨_, rfl⟩
    obtain ⟨i, hik, rfl, rfl, ho2, hb2⟩ := hrel
    obtain ⟨a2, c2, rfl⟩ := owns_slice ho2
    by_cases hlt : i < k
    · have d2 : decide ((i : Int) ≤ (k : Int) - 1) = true := by simp; omega
      have HB := Lib.hid (byte_eq n (k - 1 - i))
      go_wp2_with (at_builtin; go_must (refine wpList_append_own _ rfl _ _ 25 rfl w.heap.size 5 i0 (.int .u8 0) 1 1 Try.underlying25 hi hz0 hz1 hz2 rfl (by decide) _ _ _ rfl (ho2.alloc _) ⟨wa.heap.size, 0, none⟩ 1 1 [.int .u8 (IntKind.u64.wrap n / 2 ^ (8 * (k - 1 - i)) % 256)] rfl rfl (news_block _ _ _) (by simp [Value.oneCell']) (by unfold maxLen; omega) (by omega) (by have := hb2.size; simp; omega) ?_; intro v' w7 hown7 hg7 hn7; obtain ⟨a7, p7, rfl⟩ := owns_slice hown7))
      go_roundg (k - (i + 1))
      case measure => omega
      case rel =>
        refine ⟨i + 1, hlt, rfl, by go_num, ?_, ((hb2.alloc hb2.size _).trans (below_grown hg7 (by have := hb2.size; simp; omega) (fun j hj => (ho2.lt j hj).1)))⟩
        rw [putTo_succ, ← List.append_assoc, cellsB_append, ← Nat.add_assoc]
        have e : cellsB [UInt8.ofNat ((n % 18446744073709551616).toNat / 256 ^ (k - 1 - i))] = [.int .u8 (IntKind.u64.wrap n / 2 ^ (8 * (k - 1 - i)) % 256)] := by rw [HB.out]; rfl
        rw [e]
        exact hown7
    · obtain rfl : i = k := by omega
      have d2 : decide ((i : Int) ≤ (i : Int) - 1) = false := by simp; omega
      have hr := Reads.of_own ho2
      go_wp2_with fail
      refine (cloneB a2 (l.length + i) c2 _ _ hr (cellsB_one _) (by omega)).mono ?_
      rintro e w3 ⟨v3, rfl, ho3, hb3⟩
      obtain ⟨a3, c3, rfl⟩ := owns_slice ho3
      go_wp2_with fail
      go_ret
      exact ⟨_, rfl, owns_base ho3 hb2.size, hb2.trans (hb3.mono hb2.size)⟩
end Go.Proofs.Ytlhlhlabnjfhcaa
