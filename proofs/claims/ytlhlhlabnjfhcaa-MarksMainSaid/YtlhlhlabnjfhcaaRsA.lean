/- waveletref17: bit, Put of chapter 1's, segment. -/
import Derived.Test.YtlhlhlabnjfhcaaLwA
import Derived.OwnWalk
namespace Go.Proofs.Ytlhlhlabnjfhcaa
open Go.RowKit

/-- a row of the call's own has become another one: only its own block was written -/
def Ext (w : World) (v : Value) (w' : World) (v' : Value) : Prop := w.grownBy w' v.ownBlock ∧ (v'.ownBlock = v.ownBlock ∨ ∀ g, v'.ownBlock = some g → w.heap.size ≤ g)
section
variable {w w1 w2 : World} {v v1 v2 : Value}
theorem Ext.refl (w : World) (v : Value) : Ext w v w v := ⟨World.grownBy.refl _ _, .inl rfl⟩
theorem Ext.trans (h1 : Ext w v w1 v1) (h2 : Ext w1 v1 w2 v2) : Ext w v w2 v2 := by
  obtain ⟨g1, c1⟩ := h1
  obtain ⟨g2, c2⟩ := h2
  have hs := g1.size
  refine ⟨⟨g2.os.trans g1.os, g2.tape.trans g1.tape, g2.output.trans g1.output, Nat.le_trans g1.size g2.size, fun i hi hne => ?_⟩, ?_⟩
  · have hne2 : some i ≠ v1.ownBlock := by
      rcases c1 with c1 | c1
      · rw [c1]
        exact hne
      · intro e
        have := c1 i e.symm
        omega
    exact (g2.block i (by omega) hne2).trans (g1.block i hi hne)
  · rcases c2 with c2 | c2
    · rcases c1 with c1 | c1
      · left
        rw [c2, c1]
      · right
        intro g hg
        rw [c2] at hg
        exact c1 g hg
    · right
      intro g hg
      have := c2 g hg
      omega
theorem Ext.below_ (h : Below w.heap.size w w1) (v : Value) : Ext w v w1 v := ⟨only_of_below h _, .inl rfl⟩
theorem Ext.alloc_ (w : World) (v : Value) (o : Obj) : Ext w v (w.alloc o) v := Ext.below_ ((Below.refl _ _).alloc (Nat.le_refl _) _) v
theorem Ext.below {base : Nat} {e : TypeId} {size n : Nat} {xs : List Value} (h : Ext w v w1 v1) (ho : w.ownsRow base e size v n xs) (hb : base ≤ w.heap.size) : Below base w w1 :=
  below_grown h.1 hb fun j hj => (ho.lt j hj).1
/-- a row of another block stays -/
theorem Ext.keep {base : Nat} {e : TypeId} {size n : Nat} {x : Value} {xs : List Value} (h : Ext w v w1 v1) (hx : w.ownsRow base e size x n xs) (hne : ∀ g, v.ownBlock = some g → x.ownBlock ≠ some g) : w1.ownsRow base e size x n xs := by
  refine World.ownsRow.kept hx h.1 ?_
  cases hv : v.ownBlock with
  | none =>
    cases hx2 : x.ownBlock with
    | none => exact .inl rfl
    | some g => exact .inr (by simp)
  | some g => exact .inr (hne g hv)
theorem Ext.sep {base : Nat} {e : TypeId} {size n : Nat} {x : Value} {xs : List Value} (h : Ext w v w1 v1) (hx : w.ownsRow base e size x n xs) (hne : ∀ g, v.ownBlock = some g → x.ownBlock ≠ some g) : ∀ g, v1.ownBlock = some g → x.ownBlock ≠ some g := by
  intro g hg hxg
  have hlt := (hx.lt g hxg).2
  rcases h.2 with c | c
  · rw [c] at hg
    exact hne g hg hxg
  · have := c g hg
    omega
end

theorem wpList_appE {w : World} {ops : Array Oper} {rest : List Oper} {o : Oper} {a : Act} {Q : Exit → Act → World → Prop} (hgd : o.guard = none) (s x : Operand)
    (ho : o.op = .call { callee := .builtin .append, args := #[s, x], argTypes := #[25, 25] })
    (base : Nat) (v : Value) (l r : List UInt8) (hs : a.eval s = v) (hown : w.ownsRow base 5 1 v l.length (cellsB l)) (u : Value) (hx : a.eval x = u) (hu : BV w u r)
    (hl : l.length + r.length ≤ 1000000) (hbase : base ≤ w.heap.size)
    (h : ∀ v' w', w'.ownsRow base 5 1 v' (l ++ r).length (cellsB (l ++ r)) → Ext w v w' v' → wpList Try.prog ops Q rest (a.put o.dst v') w') : wpList Try.prog ops Q (o :: rest) a w := by
  obtain ⟨A, c, rfl, h1, h2, h3⟩ := hu
  obtain ⟨i0, hti, hz0, hz1, hz2⟩ := info_parts infoU8
  refine wpList_append_any w hgd s x 25 ho base 5 i0 (.int .u8 0) 1 1 Try.underlying25 hti hz0 hz1 hz2 rfl (by decide) v l.length (cellsB l) hs hown w.heap.size A r.length c (cellsB r) hx h3 (cellsB_one r) (by unfold maxLen; omega) (by omega) hbase ?_
  intro v' w' h4 h5 h6
  refine h v' w' ?_ ⟨h5, h6.imp id fun e g hg => ?_⟩
  · rw [List.length_append, cellsB_append]
    exact h4
  · rw [e] at hg
    injection hg with hg
    omega
theorem BV.ofn {w : World} {base : Nat} {v : Value} {n : Nat} {l : List UInt8} (h : w.ownsRow base 5 1 v n (cellsB l)) (hl : l.length = n) : BV w v l := by
  subst hl
  exact BV.of_owns h
theorem owns_isSlice {w : World} {B : Nat} {e : TypeId} {size : Nat} {v : Value} {n : Nat} {xs : List Value} (h : w.ownsRow B e size v n xs) : ∃ a m cap, v = .slice a m cap := by
  obtain ⟨a, c, h⟩ := owns_slice h
  exact ⟨a, n, c, h⟩
theorem BV.one (w : World) (x : UInt8) (g : Nat) (hg : g = w.heap.size) : BV (w.alloc (.cells #[.int .u8 (x.toNat : Int)] 5)) (.slice (some ⟨g, 0, none⟩) 1 1) [x] :=
  BV.of_owns (B := 0) (e := 5) (own_lit w #[.int .u8 (x.toNat : Int)] 5 1 g rfl hg (Nat.zero_le _) (by decide))

set_option maxRecDepth 100000 in
theorem rbit_any (b : Bool) (w : World) : Calls Try.prog 43 #[.bool b] w fun e w' => e = .returned (.int .i64 (flagI b 1)) ∧ w = w' := by
  unfold flagI
  cases b
  all_goals
    go_enter Try.func43, Try.ntmps43
    go_wp2_with fail
    go_ret
    exact ⟨rfl, rfl⟩

set_option maxRecDepth 100000 in
set_option maxHeartbeats 1000000 in
theorem rput_any (v : Value) (l : List UInt8) (k : Nat) (n : Int) (w : World) (base : Nat) (hown : w.ownsRow base 5 1 v l.length (cellsB l)) (hbase : base ≤ w.heap.size) (h1 : 1 ≤ k) (h8 : k ≤ 8) (hl : l.length ≤ 900000) :
    Calls Try.prog 22 #[v, .int .i64 k, .int .i64 n] w fun e w' => ∃ v', e = .returned v' ∧ w'.ownsRow base 5 1 v' (l ++ putB k n).length (cellsB (l ++ putB k n)) ∧ Ext w v w' v' := by
  obtain ⟨L0, hL0⟩ : ∃ n, l.length = n := ⟨_, rfl⟩
  rw [hL0] at hown hl
  have HL0 := Lib.hid hL0
  have hrow := hown
  obtain ⟨a, c, rfl⟩ := owns_slice hown
  have d1 : decide ((k : Int) < 1) = false := by simp; omega
  have d2 : decide ((8 : Int) < (k : Int)) = false := by simp; omega
  have HO := Lib.hid hown
  clear hown hrow hL0
  go_enter Try.func22, Try.ntmps22
  go_wp2_with fail
  go_loopg [0, 7] k (fun g s0 s7 wx => ∃ i : Nat, i ≤ k ∧ g = k - i ∧ s7 = .int .i64 ((k : Int) - 1 - i) ∧ wx.ownsRow base 5 1 s0 (L0 + i) (cellsB (l ++ putTo k n i)) ∧ Ext w (.slice a L0 c) wx s0)
  case atStart => exact ⟨0, Nat.zero_le _, rfl, by go_num, by simpa [putTo] using HO.out, Ext.refl _ _⟩
  case round =>
    obtain ⟨wa, rfl⟩ : ∃ wa : World, wa = wr := ⟨_, rfl⟩
    obtain ⟨i, hik, rfl, rfl, ho2, he2⟩ := hrel
    obtain ⟨a2, c2, rfl⟩ := owns_slice ho2
    by_cases hlt : i < k
    · have d3 : decide ((0 : Int) ≤ (k : Int) - 1 - i) = true := by simp; omega
      have HB := Lib.hid (byte_eq n (k - 1 - i))
      obtain ⟨q, hq⟩ : ∃ q, k - 1 - i = q := ⟨_, rfl⟩
      have hq2 : (k : Int) - 1 - i = (q : Int) := by omega
      rw [hq] at HB
      rw [hq2] at d3
      simp only [hq2]
      have hq3 : q ≤ 7 := by omega
      have HQ := Lib.hid (And.intro hq hq2)
      clear hq hq2
      have hb2 := he2.1.size
      obtain ⟨b8, hb8⟩ : ∃ b8 : UInt8, b8 = UInt8.ofNat ((n % 18446744073709551616).toNat / 256 ^ q) := ⟨_, rfl⟩
      have hv8 : IntKind.u64.wrap n / 2 ^ (8 * q) % 256 = (b8.toNat : Int) := by rw [hb8]; exact HB.out
      have e1 : l ++ putTo k n (i + 1) = (l ++ putTo k n i) ++ [b8] := by rw [putTo_succ, HQ.out.1, ← hb8, List.append_assoc]
      have hl1 : (l ++ putTo k n i).length = L0 + i := by rw [List.length_append, putTo_length, HL0.out]
      generalize l ++ putTo k n i = L at *
      have HO2 : Hid (wa.ownsRow base 5 1 (.slice a2 (L0 + i) c2) L.length (cellsB L)) := Lib.hid (by rw [hl1]; exact ho2)
      have HE2 := Lib.hid he2
      have HE := Lib.hid e1
      have HL1 := Lib.hid hl1
      clear ho2 he2 HB hb8 e1 hl1
      go_wp2_with (at_builtin; go_must (refine wpList_appE rfl (.tmp 21) (.tmp 29) rfl base _ L [b8] rfl (World.ownsRow.alloc HO2.out _) _ rfl (BV.one wa b8 _ rfl) (by rw [HL1.out]; simp; omega) (by simp; omega) ?_; intro v8 w8 ho8 he8; rw [← HE.out] at ho8; obtain ⟨a8, n8, c8, rfl⟩ := owns_isSlice ho8; have H8 := Lib.hid (And.intro ho8 he8); clear ho8 he8))
      go_roundg (k - (i + 1))
      case measure => omega
      case rel =>
        refine ⟨i + 1, hlt, rfl, ?_, ?_, (HE2.out.trans (Ext.alloc_ _ _ _)).trans H8.out.2⟩
        · have := HQ.out.2
          have h9 : (q : Int) - 1 = (k : Int) - 1 - ((i + 1 : Nat) : Int) := by omega
          first | rw [h9] | go_num
        · have hl : (l ++ putTo k n (i + 1)).length = L0 + (i + 1) := by rw [List.length_append, putTo_length, HL0.out]
          rw [← hl]
          exact H8.out.1
    · obtain rfl : i = k := by omega
      have d3 : decide ((0 : Int) ≤ (i : Int) - 1 - i) = false := by simp; omega
      go_wp2_with fail
      go_ret
      refine ⟨_, rfl, ?_, he2⟩
      rw [List.length_append, putB_length, HL0.out]
      exact ho2

theorem segB_split (mk : Int) (r : List UInt8) : segB mk r = putB 2 mk ++ (putB 2 (r.length + 2) ++ r) := by simp [segB, putsB]
set_option maxRecDepth 100000 in
set_option maxHeartbeats 1000000 in
theorem rseg_any (v u : Value) (l r : List UInt8) (mk : Int) (w : World) (base ub : Nat) (hown : w.ownsRow base 5 1 v l.length (cellsB l)) (hbase : base ≤ w.heap.size) (hu : w.ownsRow ub 5 1 u r.length (cellsB r)) (hne : ∀ g, v.ownBlock = some g → u.ownBlock ≠ some g) (hl : l.length ≤ 800000) (hr : r.length ≤ 60000) :
    Calls Try.prog 21 #[v, .int .i64 mk, u] w fun e w' => ∃ v', e = .returned v' ∧ w'.ownsRow base 5 1 v' (l ++ segB mk r).length (cellsB (l ++ segB mk r)) ∧ Ext w v w' v' := by
  have P1 := Lib.hid (rput_any v l 2 mk w base hown hbase (by decide) (by decide) (by omega))
  have P2 := Lib.hid (fun v1 w1 h1 hb => rput_any v1 (l ++ putB 2 mk) 2 ((r.length : Int) + 2) w1 base h1 hb (by decide) (by decide) (by rw [List.length_append, putB_length]; omega))
  have HU := Lib.hid (And.intro hu hne)
  have e1 : l ++ segB mk r = ((l ++ putB 2 mk) ++ putB 2 ((r.length : Int) + 2)) ++ r := by rw [segB_split]; simp
  rw [e1]
  obtain ⟨L1, hL1⟩ : ∃ L, l ++ putB 2 mk = L := ⟨_, rfl⟩
  rw [hL1] at P2 ⊢
  obtain ⟨R, hR⟩ : ∃ n, r.length = n := ⟨_, rfl⟩
  have hl1 : L1.length ≤ 800002 := by rw [← hL1, List.length_append, putB_length]; omega
  have P1' : Hid (Calls Try.prog 22 #[v, .int .i64 2, .int .i64 mk] w fun e w' => ∃ v', e = .returned v' ∧ w'.ownsRow base 5 1 v' L1.length (cellsB L1) ∧ Ext w v w' v') := Lib.hid (by rw [← hL1]; exact P1.out)
  obtain ⟨L2, hL2⟩ : ∃ L, L1 ++ putB 2 ((r.length : Int) + 2) = L := ⟨_, rfl⟩
  have P2' : Hid (∀ v1 w1, w1.ownsRow base 5 1 v1 L1.length (cellsB L1) → base ≤ w1.heap.size → Calls Try.prog 22 #[v1, .int .i64 2, .int .i64 ((R : Int) + 2)] w1 fun e w' => ∃ v', e = .returned v' ∧ w'.ownsRow base 5 1 v' L2.length (cellsB L2) ∧ Ext w1 v1 w' v') := Lib.hid (by
    intro v1 w1 h1 h2
    have := P2.out v1 w1 h1 h2
    rw [hL2] at this
    rw [← hR]
    exact this)
  have hl2 : L2.length ≤ 800004 := by rw [← hL2, List.length_append, putB_length]; omega
  rw [hL2]
  have hrR : R ≤ 60000 := by omega
  obtain ⟨va, vn, vc, rfl⟩ := owns_isSlice hown
  obtain ⟨ua, uc, rfl⟩ := owns_slice hu
  have HR := Lib.hid hR
  have HU2 : Hid (w.ownsRow ub 5 1 (.slice ua R uc) R (cellsB r) ∧ ∀ g, (Value.slice va vn vc).ownBlock = some g → (Value.slice ua R uc).ownBlock ≠ some g) := Lib.hid (by rw [← hR]; exact HU.out)
  rw [hR]
  clear hL1 hL2 P1 P2 e1 hu hne hown hR
  go_enter Try.func21, Try.ntmps21
  have hw51 : IntKind.i64.wrap ((R : Int) + 2) = (R : Int) + 2 := IntWalk.i64_in _ (by omega)
  go_wp2_with (first | (go_at_call 22; refine (P2'.out _ _ HO1.out.1 (Nat.le_trans hbase HO1.out.2.1.size)).mono ?_; rintro e w2 ⟨v2, rfl, ho2, he2⟩; obtain ⟨a2, n2, c2, rfl⟩ := owns_isSlice ho2; have HO2 := Lib.hid (And.intro ho2 he2); clear ho2 he2) | (go_at_call 22; refine P1'.out.mono ?_; rintro e w1 ⟨v1, rfl, ho1, he1⟩; obtain ⟨a1, n1, c1, rfl⟩ := owns_isSlice ho1; have HO1 := Lib.hid (And.intro ho1 he1); clear ho1 he1) | (at_builtin; go_must (refine wpList_appE rfl (.tmp 13) (.tmp 14) rfl base _ L2 r rfl HO2.out.1 (.slice ua R uc) rfl (BV.ofn (HO2.out.2.keep (HO1.out.2.keep HU2.out.1 HU2.out.2) (HO1.out.2.sep HU2.out.1 HU2.out.2)) HR.out) (by rw [HR.out]; omega) (Nat.le_trans hbase (Nat.le_trans HO1.out.2.1.size HO2.out.2.1.size)) ?_; intro v3 w3 ho3 he3; obtain ⟨a3, n3, c3, rfl⟩ := owns_isSlice ho3; have HO3 := Lib.hid (And.intro ho3 he3); clear ho3 he3)))
  go_ret
  exact ⟨_, rfl, HO3.out.1, (HO1.out.2.trans HO2.out.2).trans HO3.out.2⟩
end Go.Proofs.Ytlhlhlabnjfhcaa
