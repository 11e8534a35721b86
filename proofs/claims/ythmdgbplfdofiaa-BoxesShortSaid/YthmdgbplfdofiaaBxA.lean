/- slices.Grow, slices.Concat of bytes; wavelet/boxes: put. -/
import Derived.Test.YthmdgbplfdofiaaByD
import Derived.Lib.AppendZerosOnto
import Derived.Lib.ConvBytes
import Derived.Laws.IdiomStrings
namespace Go.Proofs.Ythmdgbplfdofiaa
open Go.RowKit

theorem wpList_append_run {P : Program} {ops : Array Oper} {rest : List Oper} {o : Oper} {a : Act} {w : World} {Q : Exit → Act → World → Prop} (hgd : o.guard = none) (s x : Operand) (t1 t2 : TypeId)
    (ho : o.op = .call { callee := .builtin .append, args := #[s, x], argTypes := #[t1, t2] }) (vs vx : Value) (hs : a.eval s = vs) (hx : a.eval x = vx) (v' : Value) (w' : World)
    (hrun : (Builtin.append_ #[t1, t2] o.type #[vs, vx]).run P w = .ok v' w') (h : wpList P ops Q rest (a.put o.dst v') w') : wpList P ops Q (o :: rest) a w :=
  wpList_plain hgd fun _ hK => by
    unfold Oper.wp execOp
    simp only [ho, resolve, invoke, builtin, Sem.run_bind, Sem.run_pure, Result.andThen_ok, List.map_toArray, List.map_cons, List.map_nil, hs, hx, hrun]
    exact hK _ _ h

theorem zeroCells_size (z : Value) (n : Nat) : (Builtin.zeroCells #[z] n).size = n := by simp [Builtin.zeroCells]

theorem grow_nil (n : Nat) (w : World) (hn : n ≤ 70368744177664) :
    Calls Try.prog 21 #[.slice none 0 0, .int .i64 n] w fun e w' => ∃ v, e = .returned v ∧ w'.ownsRow w.heap.size 5 1 v 0 [] ∧ Below w.heap.size w w' := by
  obtain ⟨i0, hi, hz0, hz1, hz2⟩ := info_parts infoU8
  have d0 : decide ((n : Int) < 0) = false := by simp
  rcases Nat.eq_zero_or_pos n with h0 | h0
  · subst h0
    go_enter Try.func21, Try.ntmps21
    go_wp2
    go_ret
    exact ⟨_, rfl, World.ownsRow_nil _ _ _ _, Below.refl _ _⟩
  · have hap : ∀ W ty, (Builtin.append_ #[22, 3] ty #[.slice none 0 0, .int .i64 n]).run Try.prog W =
        .ok (.slice (some ⟨W.heap.size, 0, none⟩) n (grownCap W n 0 5)) (W.drew.alloc (.cells (Builtin.zeroCells #[.int .u8 0] n ++ Builtin.zeroCells #[.int .u8 0] (grownCap W n 0 5 - n)) 5)) := by
      intro W ty
      have h := Lib.run_append_grow_zeros (P := Try.prog) W 22 3 ty 5 i0 (.int .u8 0) .i64 .i64 Try.underlying22 Try.underlying3 hi hz0 none 0 0 [] (by simp [Builtin.firstCells]) n h0 (by omega) (by omega) (by omega) (by rw [hz2]; omega) (by rw [hz2, Nat.zero_add, Nat.mul_one]; unfold Builtin.nextslicecap; split <;> simp at * <;> omega)
      simpa [Value.cells] using h
    have d1 : decide ((0 : Int) < (n : Int)) = true := by simp; omega
    go_enter Try.func21, Try.ntmps21
    go_wp2_with (at_builtin; go_must (refine wpList_append_run rfl (.tmp 20) (.tmp 21) 22 3 rfl _ _ rfl rfl _ _ (hap _ _) ?_))
    go_ret
    have hge : n ≤ grownCap w n 0 5 := grownCap_ge w n 0 _
    exact ⟨_, rfl, World.ownsRow_made w _ _ (Nat.le_refl _) (grownCap_le_maxLen w n 0 _ (by unfold maxLen; omega)) (by simp only [Array.size_append, zeroCells_size]; omega), ((Below.refl _ _).alloc (Nat.le_refl _) _).drew⟩

/-- what slices of bytes read as, one behind another -/
def RowsB (w : World) (vs : List Value) (ls : List (List UInt8)) : Prop := vs.length = ls.length ∧ ∀ (i : Nat) v l, vs[i]? = some v → ls[i]? = some l → BV w v l

def sumLen (ls : List (List UInt8)) : Nat := (ls.flatten).length
def flatTo (ls : List (List UInt8)) (i : Nat) : List UInt8 := (ls.take i).flatten
theorem flatTo_succ (ls : List (List UInt8)) (i : Nat) (l : List UInt8) (h : ls[i]? = some l) : flatTo ls (i + 1) = flatTo ls i ++ l := by
  unfold flatTo
  rw [List.take_add_one, h]; simp
theorem flatTo_len (ls : List (List UInt8)) (i : Nat) : (flatTo ls i).length ≤ sumLen ls := by
  unfold sumLen flatTo
  have h : ls = ls.take i ++ ls.drop i := (List.take_append_drop i ls).symm
  conv => rhs; rw [h]
  rw [List.flatten_append, List.length_append]
  omega
theorem flatTo_all (ls : List (List UInt8)) (n : Nat) (h : ls.length = n) : flatTo ls n = ls.flatten := by
  unfold flatTo
  rw [List.take_of_length_le (by omega)]

set_option maxHeartbeats 1000000 in
theorem concat_any (A : Option Addr) (n c : Nat) (vs : List Value) (ls : List (List UInt8)) (w : World) (hr : Reads w w.heap.size 1 A n vs) (hv : RowsB w vs ls) (hl : sumLen ls ≤ 70368744177664) (hn : n ≤ 70368744177664) :
    Calls Try.prog 16 #[.slice A n c] w fun e w' => ∃ v, e = .returned v ∧ w'.ownsRow w.heap.size 5 1 v ls.flatten.length (cellsB ls.flatten) ∧ Below w.heap.size w w' := by
  obtain ⟨i0, hi, hz0, hz1, hz2⟩ := info_parts infoU8
  have hvn : vs.length = n := by have := hr.1; omega
  have hln : ls.length = n := by rw [← hv.1]; exact hvn
  have HR := Lib.hid hr
  have HV := Lib.hid hv
  have HN := Lib.hid (And.intro hvn hln)
  clear hr hv hvn hln
  go_enter Try.func16, Try.ntmps16
  go_wp2_with fail
  go_loopg [3, 11] n (fun g s3 s11 wx => ∃ i : Nat, i ≤ n ∧ g = n - i ∧ s11 = .int .i64 i ∧ s3 = .int .i64 ((flatTo ls i).length : Nat) ∧ w = wx)
  case atStart => exact ⟨0, Nat.zero_le _, rfl, rfl, rfl, rfl⟩
  case round =>
    obtain ⟨i, hi2, rfl, rfl, rfl, rfl⟩ := hrel
    have hb1 := flatTo_len ls i
    by_cases hlt : i < n
    · obtain ⟨ad, v, rfl, hab, hx, hc⟩ := HR.out.at_ hlt
      obtain ⟨l, hlx⟩ : ∃ l, ls[i]? = some l := ⟨_, List.getElem?_eq_getElem (by rw [HN.out.2]; exact hlt)⟩
      obtain ⟨a1, c1, rfl, g1, g2, g3⟩ := HV.out.2 i v l hx hlx
      have hb2 := flatTo_len ls (i + 1)
      have hs := flatTo_succ ls i l hlx
      rw [hs, List.length_append] at hb2
      have HS := Lib.hid hs
      clear hx hlx hs g3
      go_wp2_with fail
      go_roundg (n - (i + 1))
      case measure => omega
      case rel => exact ⟨i + 1, by omega, rfl, by go_num, by rw [HS.out, List.length_append]; go_num, rfl⟩
    · obtain rfl : i = n := by omega
      go_wp2_with fail
      refine (grow_nil _ _ (by omega)).mono ?_
      rintro e w1 ⟨v1, rfl, ho, hb⟩
      obtain ⟨a1, c1, rfl⟩ := owns_slice ho
      go_wp2_with fail
      go_loopg [6, 27] i (fun g s6 s27 wx => ∃ k : Nat, k ≤ i ∧ g = i - k ∧ s27 = .int .i64 k ∧ wx.ownsRow w.heap.size 5 1 s6 (flatTo ls k).length (cellsB (flatTo ls k)) ∧ Below w.heap.size w wx)
      case atStart => exact ⟨0, Nat.zero_le _, rfl, rfl, by simpa [cellsB, flatTo] using ho, hb⟩
      case round =>
        obtain ⟨wa, rfl⟩ : ∃ wa : World, wa = wr := ⟨_, rfl⟩
        obtain ⟨k, hk, rfl, rfl, ho2, hb2⟩ := hrel
        obtain ⟨a2, c2, rfl⟩ := owns_slice ho2
        by_cases hlt : k < i
        · obtain ⟨ad, v, rfl, hab, hx, hc⟩ := HR.out.at_ hlt
          obtain ⟨l, hlx⟩ : ∃ l, ls[k]? = some l := ⟨_, List.getElem?_eq_getElem (by rw [HN.out.2]; exact hlt)⟩
          obtain ⟨a3, c3, rfl, g1, g2, g3⟩ := HV.out.2 k v l hx hlx
          have hb4 := flatTo_len ls (k + 1)
          have hs := flatTo_succ ls k l hlx
          rw [hs, List.length_append] at hb4
          have HS := Lib.hid hs
          have hc2 := (hb2.cell (p := ad.add k) (by rw [block_of_add]; exact hab)).trans hc
          have g4 := g3.below hb2
          clear hx hlx hs g3 hc
          have hsz := hb2.size
          go_wp2_with (at_builtin; go_must (refine wpList_append_any _ rfl (.tmp 31) (.tmp 32) 22 rfl w.heap.size 5 i0 (.int .u8 0) 1 1 Try.underlying22 hi hz0 hz1 hz2 rfl (by decide) _ _ _ rfl ho2 w.heap.size a3 l.length c3 (cellsB l) rfl g4 (cellsB_one l) (by unfold maxLen; omega) (by omega) hsz ?_; intro v7 w7 hown7 hg7 hat7; obtain ⟨a7, p7, rfl⟩ := owns_slice hown7))
          go_roundg (i - (k + 1))
          case measure => omega
          case rel =>
            refine ⟨k + 1, by omega, rfl, by go_num, ?_, hb2.trans (below_grown hg7 hsz (fun j hj => (ho2.lt j hj).1))⟩
            rw [HS.out, List.length_append, cellsB_append]
            exact hown7
        · obtain rfl : k = i := by omega
          have e := Lib.hid (flatTo_all ls k HN.out.2)
          go_wp2_with fail
          go_ret
          exact ⟨_, rfl, by rw [← e.out]; exact ho2, hb2⟩

def cellsI (ns : List Int) : List Value := ns.map (Value.int .i64)

/-- the bytes l, and the first i numbers behind them -/
def putL (l : List UInt8) (k : Nat) (ns : List Int) (i : Nat) : List UInt8 := l ++ (ns.take i).flatMap (putB k)
theorem putL_zero (l : List UInt8) (k : Nat) (ns : List Int) : putL l k ns 0 = l := by simp [putL]
theorem putL_succ (l : List UInt8) (k : Nat) (ns : List Int) (i : Nat) (x : Int) (h : ns[i]? = some x) : putL l k ns (i + 1) = putL l k ns i ++ putB k x := by
  unfold putL
  rw [List.take_add_one, h]; simp
theorem putL_all (l : List UInt8) (k : Nat) (ns : List Int) : putL l k ns ns.length = l ++ ns.flatMap (putB k) := by unfold putL; rw [List.take_length]
theorem flat_put_len (ns : List Int) (k : Nat) : (ns.flatMap (putB k)).length = ns.length * k := by
  induction ns with
  | nil => simp
  | cons n ns ih => rw [List.flatMap_cons, List.length_append, ih, putB_length, List.length_cons, Nat.succ_mul]; omega

theorem putL_len (l : List UInt8) (k : Nat) (ns : List Int) (i : Nat) (h8 : k ≤ 8) : (putL l k ns i).length ≤ l.length + 8 * ns.length := by
  unfold putL
  rw [List.length_append, flat_put_len, List.length_take]
  have := Nat.mul_le_mul (show min i ns.length ≤ ns.length by omega) h8
  omega

/-- the bytes behind others: a slice of the call's own, unless nothing was put -/
theorem boxput_any (v : Value) (l : List UInt8) (k : Nat) (A : Option Addr) (c : Nat) (ns : List Int) (w : World) (hv : BV w v l) (h1 : 1 ≤ k) (h8 : k ≤ 8) (hr : Reads w w.heap.size 1 A ns.length (cellsI ns)) (hl : l.length + 8 * ns.length ≤ 70368744177664) :
    Calls Try.prog 15 #[v, .int .i64 k, .slice A ns.length c] w fun e w' => ∃ v', e = .returned v' ∧ BV w' v' (l ++ ns.flatMap (putB k)) ∧ (ns ≠ [] → w'.ownsRow w.heap.size 5 1 v' (l ++ ns.flatMap (putB k)).length (cellsB (l ++ ns.flatMap (putB k)))) ∧ Below w.heap.size w w' := by
  have HR := Lib.hid hr
  clear hr
  obtain ⟨A0, c0, rfl, q1, q2, q3⟩ := hv
  have hv0 : BV w (.slice A0 l.length c0) l := ⟨A0, c0, rfl, q1, q2, q3⟩
  have HV := Lib.hid hv0
  clear hv0
  go_enter Try.func15, Try.ntmps15
  go_wp2_with fail
  go_loopg [0, 11] ns.length (fun g s0 s11 wx => ∃ i : Nat, i ≤ ns.length ∧ g = ns.length - i ∧ s11 = .int .i64 i ∧ BV wx s0 (putL l k ns i) ∧ (0 < i → wx.ownsRow w.heap.size 5 1 s0 (putL l k ns i).length (cellsB (putL l k ns i))) ∧ Below w.heap.size w wx)
  case atStart => exact ⟨0, Nat.zero_le _, rfl, rfl, by rw [putL_zero]; exact HV.out, fun h => absurd h (Nat.lt_irrefl _), Below.refl _ _⟩
  case round =>
    obtain ⟨wa, rfl⟩ : ∃ wa : World, wa = wr := ⟨_, rfl⟩
    obtain ⟨i, hi, rfl, rfl, hbv, hown, hb⟩ := hrel
    have HB := Lib.hid hbv
    have HO := Lib.hid hown
    obtain ⟨a1, c1, rfl, g1, g2, g3⟩ := hbv
    clear hown g3
    by_cases hlt : i < ns.length
    · obtain ⟨ad, u, rfl, hab, hx, hc⟩ := HR.out.at_ hlt
      obtain ⟨x, hxx⟩ : ∃ x, ns[i]? = some x := ⟨_, List.getElem?_eq_getElem hlt⟩
      have hu : u = .int .i64 x := by simp [cellsI, hxx] at hx; exact hx.symm
      subst hu
      have hc2 := (hb.cell (p := ad.add i) (by rw [block_of_add]; exact hab)).trans hc
      have hlen := putL_len l k ns i h8
      have HS := Lib.hid (putL_succ l k ns i x hxx)
      clear hx hxx hc
      go_wp2_with fail
      refine (put_any _ _ k x _ HB.out h1 h8 (by omega)).mono ?_
      rintro e w2 ⟨v2, rfl, ho2, hb2⟩
      obtain ⟨a2, c2, rfl⟩ := owns_slice ho2
      go_wp2_with fail
      go_roundg (ns.length - (i + 1))
      case measure => omega
      case rel =>
        have ho3 : w2.ownsRow w.heap.size 5 1 (.slice a2 ((putL l k ns i).length + k) c2) (putL l k ns (i + 1)).length (cellsB (putL l k ns (i + 1))) := by
          rw [HS.out, List.length_append, putB_length]
          exact owns_base ho2 hb.size
        exact ⟨i + 1, by omega, rfl, by go_num, BV.of_owns ho3, fun _ => ho3, hb.trans (hb2.mono hb.size)⟩
    · obtain rfl : i = ns.length := by omega
      have HB2 := HB.out
      have HO2 := HO.out
      have HB3 := Lib.hid HB2
      have HO3 := Lib.hid HO2
      clear HB2 HO2
      go_wp2_with fail
      go_ret
      exact ⟨_, rfl, by rw [← putL_all]; exact HB3.out, fun hne => by rw [← putL_all]; exact HO3.out (List.length_pos_iff.2 hne), hb⟩
end Go.Proofs.Ythmdgbplfdofiaa
