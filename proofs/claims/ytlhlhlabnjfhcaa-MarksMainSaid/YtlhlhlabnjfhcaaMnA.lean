/- marks: flag, put. -/
import Derived.Test.YtlhlhlabnjfhcaaFmC
import Derived.Test.YtlhlhlabnjfhcaaBy
import Derived.Test.YtlhlhlabnjfhcaaMk
namespace Go.Proofs.Ytlhlhlabnjfhcaa
open Go.RowKit

def flagI (b : Bool) (n : Int) : Int := if b then n else 0

theorem flag_any (b : Bool) (n : Int) (w : World) : Calls Try.prog 56 #[.bool b, .int .i64 n] w fun e w' => e = .returned (.int .i64 (flagI b n)) ∧ w = w' := by
  unfold flagI
  cases b
  all_goals
    go_enter Try.func56, Try.ntmps56
    go_wp2_with fail
    go_ret
    exact ⟨rfl, rfl⟩

def putsB (k : Nat) (ns : List Int) : List UInt8 := ns.flatMap (putB k)
theorem putsB_length (k : Nat) (ns : List Int) : (putsB k ns).length = k * ns.length := by
  induction ns with
  | nil => rfl
  | cons n ns ih =>
    have : putsB k (n :: ns) = putB k n ++ putsB k ns := rfl
    rw [this, List.length_append, putB_length, ih, List.length_cons, Nat.mul_add, Nat.mul_one, Nat.add_comm]
theorem putsB_snoc (k : Nat) (ns : List Int) (n : Int) : putsB k (ns ++ [n]) = putsB k ns ++ putB k n := by simp [putsB]

set_option maxRecDepth 100000 in
set_option maxHeartbeats 1000000 in
theorem puts_any (v nv : Value) (l : List UInt8) (k : Nat) (ns : List Int) (w : World) (hv : BV w v l) (hn : RdI w nv ns) (h1 : 1 ≤ k) (h8 : k ≤ 8) (hl : l.length ≤ 1000000) (hnl : ns.length ≤ 100000) (hne : ns ≠ []) :
    Calls Try.prog 33 #[v, .int .i64 k, nv] w fun e w' => ∃ v', e = .returned v' ∧ w'.ownsRow w.heap.size 5 1 v' (l ++ putsB k ns).length (cellsB (l ++ putsB k ns)) ∧ Below w.heap.size w w' := by
  have HN := Lib.hid hn
  have P := Lib.hid put_any
  obtain ⟨na, nc, rfl, -⟩ := hn
  have hpos : 0 < ns.length := List.length_pos_iff.2 hne
  have hv0 := hv
  obtain ⟨va, vc, rfl, -⟩ := hv0
  go_enter Try.func33, Try.ntmps33
  go_wp2_with fail
  go_loopg [0, 8, 11] ns.length (fun g s0 s8 s11 wx => ∃ j : Nat, j ≤ ns.length ∧ g = ns.length - j ∧ s11 = .int .i64 j ∧ BV wx s0 (l ++ putsB k (ns.take j)) ∧ (0 < j → wx.ownsRow w.heap.size 5 1 s0 (l ++ putsB k (ns.take j)).length (cellsB (l ++ putsB k (ns.take j)))) ∧ Below w.heap.size w wx)
  case atStart => exact ⟨0, Nat.zero_le _, rfl, rfl, by simpa [putsB] using hv, by omega, Below.refl _ _⟩
  case round =>
    obtain ⟨wy, rfl⟩ : ∃ wy : World, wy = wr := ⟨_, rfl⟩
    obtain ⟨j, hj, rfl, rfl, hbv, hown, hB⟩ := hrel
    by_cases hjl : j < ns.length
    · obtain ⟨x, hx⟩ : ∃ x, ns[j]? = some x := ⟨_, List.getElem?_eq_getElem hjl⟩
      obtain ⟨_, _, he, -, -, q⟩ := HN.out.keep hB
      cases he
      obtain ⟨b, o, rfl, c0⟩ := q j x hx
      have hlt : decide ((j : Int) < (ns.length : Int)) = true := by simp; omega
      have hlen : (l ++ putsB k (ns.take j)).length ≤ 70368744177664 := by
        rw [List.length_append, putsB_length, List.length_take]
        have : k * min j ns.length ≤ 8 * 100000 := Nat.mul_le_mul h8 (by omega)
        omega
      have e1 : ns.take (j + 1) = ns.take j ++ [x] := by rw [List.take_add_one, hx]; rfl
      have e2 : l ++ putsB k (ns.take (j + 1)) = (l ++ putsB k (ns.take j)) ++ putB k x := by rw [e1, putsB_snoc, List.append_assoc]
      clear hown e1
      generalize l ++ putsB k (ns.take j) = L at *
      have PP := Lib.hid (P.out _ L k x wy hbv h1 h8 hlen)
      have HH := Lib.hid (And.intro hB e2)
      have hbv0 := hbv
      obtain ⟨sa, sc, rfl, -⟩ := hbv0
      clear hbv hB e2 q
      go_wp2_with (go_at_call 55; refine PP.out.mono ?_; rintro e w1 ⟨v1, rfl, ho1, hB1⟩)
      go_roundg (ns.length - (j + 1))
      case measure => omega
      case rel =>
        obtain ⟨hB, e2⟩ := HH.out
        have e3 : (L ++ putB k x).length = L.length + k := by rw [List.length_append, putB_length]
        rw [← e3] at ho1
        refine ⟨j + 1, by omega, rfl, by go_num, ?_, fun _ => ?_, hB.trans (hB1.mono hB.size)⟩
        · rw [e2]; exact BV.of_owns ho1
        · rw [e2]; exact owns_base ho1 hB.size
    · obtain rfl : j = ns.length := by omega
      have hlt : decide (((ns.length : Nat) : Int) < (ns.length : Int)) = false := by simp
      have ho := hown hpos
      rw [List.take_length] at ho
      rw [List.take_length] at hbv
      clear hown
      generalize hL : l ++ putsB k ns = L at *
      have HH := Lib.hid (And.intro ho hB)
      replace hL := Lib.hid hL
      obtain ⟨sa, sc, rfl, -⟩ := hbv
      clear hB ho
      go_wp2_with fail
      go_ret
      exact ⟨.slice sa L.length sc, rfl, by rw [hL.out]; exact HH.out.1, HH.out.2⟩

theorem lit_own (w : World) (arr : Array Value) (e : TypeId) (n g : Nat) {base : Nat} (hn : arr.size = n) (hg : g = w.heap.size) (hb : base ≤ w.heap.size) (hm : n ≤ maxLen) :
    (w.alloc (.cells arr e)).ownsRow base e 1 (.slice (some ⟨g, 0, none⟩) n n) n arr.toList := by
  subst hg
  exact ⟨by simp [hn], .inr ⟨w.heap.size, n, arr, rfl, hb, heap_alloc_new w _, Nat.le_refl _, hm, by omega, by rw [Nat.mul_one, ← hn, ← Array.length_toList, List.take_length]⟩⟩
theorem RdI.lit (w : World) (ns : List Int) (hm : ns.length ≤ maxLen) : RdI (w.alloc (.cells (ns.map (Value.int .i64)).toArray 3)) (.slice (some ⟨w.heap.size, 0, none⟩) ns.length ns.length) ns :=
  RdI.of_owns (lit_own w (ns.map (Value.int .i64)).toArray 3 ns.length w.heap.size (by simp) rfl (Nat.le_refl _) hm)

def segB (m : Int) (x : List UInt8) : List UInt8 := putsB 2 [m, x.length + 2] ++ x

set_option maxRecDepth 100000 in
set_option maxHeartbeats 1000000 in
theorem seg_any (v bv : Value) (l bl : List UInt8) (m : Int) (w : World) (hv : BV w v l) (hb : BV w bv bl) (hl : l.length ≤ 100000) (hbl : bl.length ≤ 100000) :
    Calls Try.prog 34 #[v, .int .i64 m, bv] w fun e w' => ∃ v', e = .returned v' ∧ w'.ownsRow w.heap.size 5 1 v' (l ++ segB m bl).length (cellsB (l ++ segB m bl)) ∧ Below w.heap.size w w' := by
  have HV := Lib.hid hv
  have HB := Lib.hid hb
  obtain ⟨va, vc, rfl, -⟩ := hv
  obtain ⟨ba, bc, rfl, -⟩ := hb
  obtain ⟨i0, hi, hz0, hz1, hz2⟩ := info_parts infoU8
  have hb0 : Below w.heap.size w (w.alloc (.cells #[.int .i64 m, .int .i64 (bl.length + 2)] 3)) := (Below.refl _ _).alloc (Nat.le_refl _) _
  have hn0 : RdI (w.alloc (.cells #[.int .i64 m, .int .i64 (bl.length + 2)] 3)) (.slice (some ⟨w.heap.size, 0, none⟩) 2 2) [m, bl.length + 2] := RdI.lit w [m, bl.length + 2] (by simp [maxLen])
  have hs0 : (w.alloc (.cells #[.int .i64 m, .int .i64 (bl.length + 2)] 3)).heap.size = w.heap.size + 1 := by simp
  have P := Lib.hid (puts_any (.slice va l.length vc) _ l 2 [m, bl.length + 2] _ (HV.out.keep hb0) hn0 (by decide) (by decide) (by omega) (by simp) (by simp))
  have HB0 := Lib.hid hb0
  go_enter Try.func34, Try.ntmps34
  clear hn0
  go_wp2_with (go_at_call 33; fail)
  generalize w.alloc (.cells #[.int .i64 m, .int .i64 (bl.length + 2)] 3) = w0 at *
  refine P.out.mono ?_
  rintro e w1 ⟨v1, rfl, ho1, hB1⟩
  have hw1 := HB0.out.trans (hB1.mono HB0.out.size)
  obtain ⟨_, _, he, g1, g2, g3⟩ := HB.out.keep hw1
  cases he
  have hsz1 := hB1.size
  have hlen : (l ++ putsB 2 [m, (bl.length : Int) + 2]).length ≤ 100004 := by rw [List.length_append, putsB_length]; simp; omega
  have es : l ++ segB m bl = (l ++ putsB 2 [m, (bl.length : Int) + 2]) ++ bl := by unfold segB; rw [List.append_assoc]
  have ES := Lib.hid es
  generalize l ++ putsB 2 [m, (bl.length : Int) + 2] = L at *
  obtain ⟨a1, c1, rfl⟩ := owns_slice ho1
  have HO1 := Lib.hid ho1
  have G3 := Lib.hid g3
  have HW1 := Lib.hid hw1
  clear ho1 g3 hw1 es hb0 P hB1
  go_wp2_with (at_builtin; go_must (refine wpList_append_any _ rfl (.tmp 13) (.tmp 14) 25 rfl w0.heap.size 5 i0 (.int .u8 0) 1 1 Try.underlying25 hi hz0 hz1 hz2 rfl (by decide) (.slice a1 L.length c1) L.length (cellsB L) rfl HO1.out w1.heap.size ba bl.length bc (cellsB bl) rfl G3.out (cellsB_one bl) (by unfold maxLen; omega) (by omega) hsz1 ?_; intro v7 w7 hown7 hg7 hat7; obtain ⟨a7, p7, rfl⟩ := owns_slice hown7))
  go_ret
  have e7 : cellsB L ++ cellsB bl = cellsB (L ++ bl) := by simp [cellsB]
  have e8 : L.length + bl.length = (L ++ bl).length := by simp
  rw [e7, e8] at hown7
  refine ⟨.slice a7 (L.length + bl.length) p7, rfl, ?_, ?_⟩
  · rw [ES.out, e8]
    exact owns_base hown7 (by omega)
  · exact HW1.out.trans (below_grown hg7 HW1.out.size (by intro k hk; have := (HO1.out.lt k hk).1; omega))
end Go.Proofs.Ytlhlhlabnjfhcaa
