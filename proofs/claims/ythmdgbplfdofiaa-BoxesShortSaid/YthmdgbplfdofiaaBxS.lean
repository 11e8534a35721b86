/- The document's Put; the walk of the law BoxesShort. -/
import Derived.Test.YthmdgbplfdofiaaBxM
import Derived.Lib.AppendStr
namespace Go.Proofs.Ythmdgbplfdofiaa
open Go.RowKit

/-- the document's Put behind bytes of the call's own -/
theorem rput_own (v : Value) (l : List UInt8) (k : Nat) (n : Int) (w : World) {base : Nat} (hv : w.ownsRow base 5 1 v l.length (cellsB l)) (hbase : base ≤ w.heap.size) (h1 : 1 ≤ k) (h8 : k ≤ 8) (hl : l.length ≤ 70368744177664) :
    Calls Try.prog 10 #[v, .int .i64 k, .int .i64 n] w fun e w' => ∃ v', e = .returned v' ∧ w'.ownsRow base 5 1 v' (l.length + k) (cellsB (l ++ putB k n)) ∧ Below base w w' := by
  obtain ⟨a0, c0, rfl⟩ := owns_slice hv
  have d1 : decide ((k : Int) < 1) = false := by simp; omega
  have d2 : decide ((8 : Int) < (k : Int)) = false := by simp; omega
  obtain ⟨i0, hi, hz0, hz1, hz2⟩ := info_parts infoU8
  go_enter Try.func10, Try.ntmps10
  go_wp2_with fail
  go_loopg [0, 7] k (fun g s0 s7 wx => ∃ i : Nat, i ≤ k ∧ g = k - i ∧ s7 = .int .i64 ((k : Int) - 1 - i) ∧ wx.ownsRow base 5 1 s0 (l.length + i) (cellsB (l ++ putTo k n i)) ∧ Below base w wx)
  case atStart => exact ⟨0, Nat.zero_le _, rfl, by go_num, by simpa [putTo] using hv, Below.refl _ _⟩
  case round =>
    obtain ⟨wa, rfl⟩ : ∃ wa : World, wa = wr := ⟨_, rfl⟩
    obtain ⟨i, hik, rfl, rfl, ho2, hb2⟩ := hrel
    obtain ⟨a2, c2, rfl⟩ := owns_slice ho2
    have hsz := hb2.size
    by_cases hlt : i < k
    · have d3 : decide ((i : Int) ≤ (k : Int) - 1) = true := by simp; omega
      have HB := Lib.hid (byte_eq n (k - 1 - i))
      go_wp2_with (at_builtin; go_must (refine wpList_append_own _ rfl _ _ 22 rfl base 5 i0 (.int .u8 0) 1 1 Try.underlying22 hi hz0 hz1 hz2 rfl (by decide) _ _ _ rfl (ho2.alloc _) ⟨wa.heap.size, 0, none⟩ 1 1 [.int .u8 (IntKind.u64.wrap n / 2 ^ (8 * (k - 1 - i)) % 256)] rfl rfl (news_block _ _ _) (by simp [Value.oneCell']) (by unfold maxLen; omega) (by omega) (by simp; omega) ?_; intro v' w7 hown7 hg7 hn7; obtain ⟨a7, p7, rfl⟩ := owns_slice hown7))
      go_roundg (k - (i + 1))
      case measure => omega
      case rel =>
        refine ⟨i + 1, hlt, rfl, by go_num, ?_, ((hb2.alloc (by omega) _).trans (below_grown hg7 (by simp; omega) (fun j hj => (ho2.lt j hj).1)))⟩
        rw [putTo_succ, ← List.append_assoc, cellsB_append, ← Nat.add_assoc]
        have e : cellsB [UInt8.ofNat ((n % 18446744073709551616).toNat / 256 ^ (k - 1 - i))] = [.int .u8 (IntKind.u64.wrap n / 2 ^ (8 * (k - 1 - i)) % 256)] := by rw [HB.out]; rfl
        rw [e]
        exact hown7
    · obtain rfl : i = k := by omega
      have d3 : decide ((i : Int) ≤ (i : Int) - 1) = false := by simp; omega
      go_wp2_with fail
      go_ret
      exact ⟨_, rfl, ho2, hb2⟩

theorem put8_val (n : Nat) (h : n < 65536) : putB 8 (n : Int) = len8 n := by
  have e : ((n : Int) % 18446744073709551616).toNat = n := by omega
  have e0 : n / 256 / 256 = 0 := by omega
  simp only [putB, putTo, List.range_succ, e, len8]
  simp
  refine ⟨?_, ?_, ?_, ?_, ?_, ?_⟩ <;> (rw [Nat.div_eq_of_lt (by omega)]; try rfl)

theorem one_total (l : List UInt8) (hl : l.length ≤ 1000000) (h0 : 0 < l.length) : (∃ b l', OneOk l b l' ∧ l'.length < l.length) ∨ ∃ er, er ≠ 0 ∧ OneErr l er := by
  by_cases h8 : l.length < 8
  · exact .inr ⟨8, by decide, one_err_cut8 l h8⟩
  have hb4 := getI4 (l.take 4) (by simp; omega)
  have hd8 : ((l.drop 4).drop 4).length = l.length - 8 := by simp
  by_cases hz : getI (l.take 4) = 0
  · refine .inl ⟨⟨(l.drop 4).take 4, ((l.drop 4).drop 4).take (l.length - 8)⟩, ((l.drop 4).drop 4).drop (l.length - 8), fun rb w hr => ?_, by simp; omega⟩
    have h := one_zero_ok rb l w hr (by omega) (by omega) hz (l.length - 8) (by omega)
    have e : (((l.drop 4).drop 4).take (l.length - 8)).length = l.length - 8 := by simp
    simp only [e]
    exact h
  by_cases h1 : getI (l.take 4) = 1
  · by_cases h16 : l.length < 16
    · exact .inr ⟨8, by decide, fun rb w hr => one_big_cut16 rb l w hr (by omega) (by omega) h16 h1⟩
    generalize hn : getI (((l.drop 4).drop 4).take 8) = n
    by_cases c1 : n < 0
    · exact .inr ⟨8, by decide, fun rb w hr => one_big_neg rb l w hr (by omega) (by omega) h1 n hn c1⟩
    by_cases c2 : n < 16
    · exact .inr ⟨15, by decide, fun rb w hr => one_big_box rb l w hr (by omega) (by omega) h1 n hn (by omega) c2⟩
    by_cases c3 : (l.length : Int) < n
    · exact .inr ⟨8, by decide, fun rb w hr => one_big_cut rb l w hr (by omega) (by omega) h1 n hn (by omega) c3⟩
    refine .inl ⟨⟨(l.drop 4).take 4, (((l.drop 4).drop 4).drop 8).take (n - 16).toNat⟩, (((l.drop 4).drop 4).drop 8).drop (n - 16).toNat, fun rb w hr => ?_, by simp; omega⟩
    have h := one_big_ok rb l w hr (by omega) (by omega) h1 n hn (by omega) (n - 16).toNat (by omega) (by omega)
    have e : ((((l.drop 4).drop 4).drop 8).take (n - 16).toNat).length = (n - 16).toNat := by simp; omega
    simp only [e]
    exact h
  generalize hn : getI (l.take 4) = n at *
  by_cases c2 : n < 8
  · exact .inr ⟨15, by decide, fun rb w hr => one_plain_box rb l w hr (by omega) (by omega) n hn hz h1 hb4.1 c2⟩
  by_cases c3 : (l.length : Int) < n
  · exact .inr ⟨8, by decide, fun rb w hr => one_plain_cut rb l w hr (by omega) (by omega) n hn (by omega) c3⟩
  refine .inl ⟨⟨(l.drop 4).take 4, ((l.drop 4).drop 4).take (n - 8).toNat⟩, ((l.drop 4).drop 4).drop (n - 8).toNat, fun rb w hr => ?_, by simp; omega⟩
  have h := one_plain_ok rb l w hr (by omega) (by omega) n hn (by omega) (n - 8).toNat (by omega) (by omega)
  have e : (((l.drop 4).drop 4).take (n - 8).toNat).length = (n - 8).toNat := by simp; omega
  simp only [e]
  exact h

theorem steps_total : ∀ (k : Nat) (l : List UInt8), l.length ≤ k → l.length ≤ 1000000 → ∃ (bs : List BoxD) (rest : Nat → List UInt8), rest 0 = l ∧ Steps bs rest ∧ bs.length ≤ l.length ∧
    (rest bs.length = [] ∨ ∃ er, er ≠ 0 ∧ 0 < (rest bs.length).length ∧ OneErr (rest bs.length) er)
  | 0, l, hk, _ => ⟨[], fun _ => l, rfl, fun i b h => by simp at h, by simp, .inl (show l = [] from List.eq_nil_of_length_eq_zero (by omega))⟩
  | k + 1, l, hk, hl => by
    by_cases h0 : 0 < l.length
    · rcases one_total l hl h0 with ⟨b, l', hok, hlt⟩ | ⟨er, hne, herr⟩
      · obtain ⟨bs, rest, hr0, hst, hbl, hend⟩ := steps_total k l' (by omega) (by omega)
        refine ⟨b :: bs, fun i => match i with | 0 => l | i + 1 => rest i, rfl, fun i b' hb => ?_, by simp; omega, hend⟩
        match i, hb with
        | 0, hb => simp at hb; subst hb; exact ⟨h0, by simpa [hr0] using hok⟩
        | i + 1, hb => exact hst i b' (by simpa using hb)
      · exact ⟨[], fun _ => l, rfl, fun i b h => by simp at h, by simp, .inr ⟨er, hne, h0, herr⟩⟩
    · exact ⟨[], fun _ => l, rfl, fun i b h => by simp at h, by simp, .inl (show l = [] from List.eq_nil_of_length_eq_zero (by omega))⟩

/-- any bytes are read, or refused -/
theorem read_total (v : Value) (l : List UInt8) (w : World) (hv : BV w v l) (hl : l.length ≤ 1000000) :
    Calls Try.prog 8 #[v] w fun e w' => ∃ v' er, e = .returned (.tuple #[v', .int .i64 er]) ∧ Below w.heap.size w w' := by
  obtain ⟨bs, rest, h0, hst, hbl, hend⟩ := steps_total l.length l (Nat.le_refl _) hl
  rcases hend with hend | ⟨er, hne, hpos, herr⟩
  · by_cases h100 : bs.length ≤ 100
    · exact (read_ok v l bs rest w hv (by omega) h0 hst (by omega) hend h100).mono fun e w' ⟨v', h, _, hb⟩ => ⟨v', 0, h, hb⟩
    · exact (read_many v l bs rest w hv (by omega) h0 hst (by omega) hend (by omega)).mono fun e w' ⟨h, hb⟩ => ⟨_, _, h, hb⟩
  · exact (read_err v l bs rest w hv (by omega) h0 hst (by omega) er hpos herr hne).mono fun e w' ⟨h, hb⟩ => ⟨_, _, h, hb⟩

/-- bytes whose first box is refused, or is the whole -/
theorem read_first_err (v : Value) (l : List UInt8) (w : World) (hv : BV w v l) (hl : l.length ≤ 1000000) (h0 : 0 < l.length) (er : Int) (he : OneErr l er) (hne : er ≠ 0) :
    Calls Try.prog 8 #[v] w fun e w' => ∃ v', e = .returned (.tuple #[v', .int .i64 er]) ∧ Below w.heap.size w w' :=
  (read_err v l [] (fun _ => l) w hv (by omega) rfl (fun i b h => by simp at h) (by simp) er h0 he hne).mono fun e w' ⟨h, hb⟩ => ⟨_, h, hb⟩
theorem read_one (v : Value) (l : List UInt8) (b : BoxD) (w : World) (hv : BV w v l) (hl : l.length ≤ 1000000) (h0 : 0 < l.length) (hok : OneOk l b []) :
    Calls Try.prog 8 #[v] w fun e w' => ∃ v', e = .returned (.tuple #[v', .int .i64 0]) ∧ Below w.heap.size w w' :=
  (read_ok v l [b] (fun i => match i with | 0 => l | _ + 1 => []) w hv (by omega) rfl (fun i b' h => by
    match i, h with
    | 0, h => simp at h; subst h; exact ⟨h0, hok⟩) (by simp) rfl (by simp)).mono fun e w' ⟨v', h, _, hb⟩ => ⟨v', h, hb⟩

/-- the law's bytes, plain and long -/
def shortL (n : Nat) (d : List UInt8) : List UInt8 := putB 4 (n : Int) ++ (abcd ++ d)
def longL (n : Nat) (d : List UInt8) : List UInt8 := putB 4 1 ++ (abcd ++ (len8 n ++ d))
theorem shortL_len (n : Nat) (d : List UInt8) : (shortL n d).length = 8 + d.length := by simp [shortL, putB_length, abcd]; omega
theorem longL_len (n : Nat) (d : List UInt8) : (longL n d).length = 16 + d.length := by simp [longL, putB_length, abcd, len8]; omega
theorem shortL_take (n : Nat) (d : List UInt8) (h : n < 4294967296) : getI ((shortL n d).take 4) = n := by
  unfold shortL
  rw [take_app _ _ 4 (putB_length _ _)]
  exact put4_val n h
theorem longL_take (n : Nat) (d : List UInt8) : getI ((longL n d).take 4) = 1 := by
  unfold longL
  rw [take_app _ _ 4 (putB_length _ _)]
  exact put4_val 1 (by decide)
theorem longL_take8 (n : Nat) (d : List UInt8) (h : n < 65536) : getI ((((longL n d).drop 4).drop 4).take 8) = n := by
  unfold longL
  rw [drop_app _ _ 4 (putB_length _ _), drop_app _ _ 4 rfl, take_app _ _ 8 rfl]
  exact len8_val n h

theorem short_box (n : Nat) (d : List UInt8) (hd : d.length ≤ 1000) (h2 : 2 ≤ n) (h : n < 8) : OneErr (shortL n d) 15 := fun rb w hr =>
  one_plain_box rb _ w hr (by rw [shortL_len]; omega) (by rw [shortL_len]; omega) n (shortL_take n d (by omega)) (by omega) (by omega) (by omega) (by omega)
theorem short_cut (n : Nat) (d : List UInt8) (hd : d.length ≤ 1000) (hn : n < 65536) (h : 8 + d.length < n) : OneErr (shortL n d) 8 := fun rb w hr =>
  one_plain_cut rb _ w hr (by rw [shortL_len]; omega) (by rw [shortL_len]; omega) n (shortL_take n d (by omega)) (by omega) (by rw [shortL_len]; omega)
theorem short_ok (n : Nat) (d : List UInt8) (hd : d.length ≤ 1000) (h : n = 8 + d.length) : OneOk (shortL n d) ⟨abcd, d⟩ [] := by
  have := one_plain ⟨abcd, d⟩ [] rfl (by simp; omega) (by simp)
  have e : encBox ⟨abcd, d⟩ ++ [] = shortL n d := by subst h; simp [encBox, shortL]
  rwa [e] at this
theorem long_box (n : Nat) (d : List UInt8) (hd : d.length ≤ 1000) (h : n < 16) : OneErr (longL n d) 15 := fun rb w hr =>
  one_big_box rb _ w hr (by rw [longL_len]; omega) (by rw [longL_len]; omega) (longL_take n d) n (longL_take8 n d (by omega)) (by omega) (by omega)
theorem long_cut (n : Nat) (d : List UInt8) (hd : d.length ≤ 1000) (hn : n < 65536) (h : 16 + d.length < n) : OneErr (longL n d) 8 := fun rb w hr =>
  one_big_cut rb _ w hr (by rw [longL_len]; omega) (by rw [longL_len]; omega) (longL_take n d) n (longL_take8 n d (by omega)) (by omega) (by rw [longL_len]; omega)
theorem long_ok (n : Nat) (d : List UInt8) (hd : d.length ≤ 1000) (h : n = 16 + d.length) : OneOk (longL n d) ⟨abcd, d⟩ [] := by
  have := one_big d (by omega)
  have e1 : putB 4 1 = [0, 0, 0, 1] := by decide
  have e : [0, 0, 0, 1] ++ (abcd ++ (len8 (d.length + 16) ++ d)) = longL n d := by subst h; unfold longL; rw [e1, Nat.add_comm]
  rwa [e] at this
end Go.Proofs.Ythmdgbplfdofiaa
