/- marks: a segment's length and bytes. -/
import Derived.Test.YtlhlhlabnjfhcaaMkB
namespace Go.Proofs.Ytlhlhlabnjfhcaa
open Go.RowKit Go.Maps

def bodyF (l : List UInt8) : Option (List UInt8 × List UInt8) :=
  if l.length < 2 ∨ getI (l.take 2) < 2 ∨ (l.length : Int) < getI (l.take 2) then none
  else some ((l.drop 2).take (getI (l.take 2) - 2).toNat, (l.drop 2).drop (getI (l.take 2) - 2).toNat)

theorem getI2 (l : List UInt8) (h : l.length ≤ 2) : 0 ≤ getI l ∧ getI l < 65536 := by
  have := beN_lt8 l 2 h
  unfold getI
  have e : IntKind.i64.wrap (beN l : Int) = (beN l : Int) := by rw [wrapEq]; unfold wrap64; omega
  rw [e]
  omega

set_option maxRecDepth 100000 in
theorem body_bad (pb rb : Nat) (cs : Array Value) (l : List UInt8) (w : World) (hp : Blk w pb 66 cs) (h0 : cs[0]? = some (.pointer (some ⟨rb, 0, none⟩))) (hr : Rdr w rb l 0) (hl : l.length ≤ 1000000000) (hb : bodyF l = none) :
    Calls Try.prog 46 #[.pointer (some ⟨pb, 0, none⟩)] w fun e w' => ∃ v, e = .returned (.tuple #[v, .bool false]) ∧ w.grownBy w' (some rb) := by
  have c0 := (hp.cell 0).trans h0
  have hr' := hr
  obtain ⟨A, c, hb0, -⟩ := hr'
  have hne : pb ≠ rb := hp.ne_ hb0 (by decide)
  clear hb0
  have hc : l.length < 2 ∨ (2 ≤ l.length ∧ (getI (l.take 2) < 2 ∨ (l.length : Int) < getI (l.take 2))) := by
    unfold bodyF at hb
    split at hb
    · omega
    · cases hb
  have HR := Lib.hid hr
  clear hr hb
  have hg2 := getI2 (l.take 2) (by rw [List.length_take]; omega)
  rcases hc with hc | ⟨hc, hc2⟩
  · go_enter Try.func46, Try.ntmps46
    go_wp2_with fail
    refine (get_bad rb l 0 2 _ HR.out (by omega) (by decide) (by decide) (.inr hc)).mono ?_
    rintro e w1 ⟨rfl, -, hg1⟩
    go_wp2_with fail
    go_ret2
    exact ⟨_, rfl, hg1⟩
  · generalize hn : getI (l.take 2) = n at hg2 hc2
    by_cases h2 : n < 2
    · have d1 : decide (n < 2) = true := by simpa using h2
      go_enter Try.func46, Try.ntmps46
      go_wp2_with fail
      refine (get_ok rb l 2 _ HR.out (by omega) (by decide) (by decide) hc).mono ?_
      rw [hn]
      rintro e w1 ⟨rfl, -, hg1⟩
      clear hc2 h2
      go_wp2_with fail
      go_ret2
      exact ⟨_, rfl, hg1⟩
    · have d1 : decide (n < 2) = false := by simpa using h2
      have d2 : ((0 : Int) == n - 2) = false := by simp; omega
      go_enter Try.func46, Try.ntmps46
      go_wp2_with fail
      refine (get_ok rb l 2 _ HR.out (by omega) (by decide) (by decide) hc).mono ?_
      rw [hn]
      rintro e w1 ⟨rfl, hr1, hg1⟩
      have c1 := ((hp.grown hg1 (by simpa using hne)).cell 0).trans h0
      have HR1 := Lib.hid hr1
      clear hr1
      go_wp2_with fail
      refine (take_bad rb _ 0 (n - 2) _ HR1.out (by simp; omega) (.inr (.inr (by simp; omega)))).mono ?_
      rintro e w2 ⟨rfl, -, hg2'⟩
      go_wp2_with fail
      go_ret2
      exact ⟨_, rfl, hg1.trans hg2'⟩

set_option maxRecDepth 100000 in
theorem body_ok (pb rb : Nat) (cs : Array Value) (l b l' : List UInt8) (w : World) (hp : Blk w pb 66 cs) (h0 : cs[0]? = some (.pointer (some ⟨rb, 0, none⟩))) (hr : Rdr w rb l 0) (hl : l.length ≤ 1000000000) (hb : bodyF l = some (b, l')) :
    Calls Try.prog 46 #[.pointer (some ⟨pb, 0, none⟩)] w fun e w' => ∃ v, e = .returned (.tuple #[v, .bool true]) ∧ OB w' v b ∧ Rdr w' rb l' 0 ∧ w.grownBy w' (some rb) := by
  have c0 := (hp.cell 0).trans h0
  have hr' := hr
  obtain ⟨A, c, hb0, -⟩ := hr'
  have hne : pb ≠ rb := hp.ne_ hb0 (by decide)
  clear hb0
  unfold bodyF at hb
  split at hb
  · cases hb
  rename_i hc
  simp only [not_or] at hc
  simp only [Option.some.injEq, Prod.mk.injEq] at hb
  obtain ⟨rfl, rfl⟩ := hb
  have HR := Lib.hid hr
  clear hr
  have hg2 := getI2 (l.take 2) (by rw [List.length_take]; omega)
  generalize hn : getI (l.take 2) = n at hg2 hc ⊢
  obtain ⟨q, hq1, hq2⟩ : ∃ q : Nat, (q : Int) ≤ n - 2 ∧ n - 2 ≤ (q : Int) := ⟨(n - 2).toNat, by omega, by omega⟩
  have hq3 : (n - 2).toNat = q := by omega
  rw [hq3]
  have d1 : decide (n < 2) = false := by simp; omega
  have d2 : ((q : Int) == n - 2) = true := by simp; omega
  have d3 : n - 2 = (q : Int) := by omega
  have HD := Lib.hid d3
  clear d3 hq3
  go_enter Try.func46, Try.ntmps46
  go_wp2_with fail
  refine (get_ok rb l 2 _ HR.out (by omega) (by decide) (by decide) (by omega)).mono ?_
  rw [hn]
  rintro e w1 ⟨rfl, hr1, hg1⟩
  have c1 := ((hp.grown hg1 (by simpa using hne)).cell 0).trans h0
  have HR1 := Lib.hid hr1
  clear hr1
  go_wp2_with fail
  rw [HD.out]
  refine (take_ok rb _ q _ HR1.out (by simp; omega) (by simp; omega)).mono ?_
  rintro e w2 ⟨v, rfl, ho2, hr2, hg2'⟩
  obtain ⟨a2, c2, rfl⟩ := owns_slice ho2
  have HR2 := Lib.hid hr2
  have HO2 := Lib.hid ho2
  clear hr2 ho2
  go_wp2_with fail
  go_ret2
  refine ⟨_, rfl, ?_, HR2.out, hg1.trans hg2'⟩
  have e : ((l.drop 2).take q).length = q := by simp; omega
  exact OB.of (B := w1.heap.size) (by rw [e]; exact HO2.out)
end Go.Proofs.Ytlhlhlabnjfhcaa
