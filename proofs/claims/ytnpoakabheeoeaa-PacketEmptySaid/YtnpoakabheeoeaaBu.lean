/- Bits of packets' heads: the writer's bytes; the program's reader. -/
import Derived.Test.YtnpoakabheeoeaaBv
import Derived.Deep.QuietTactic
import Derived.BigQuiet
namespace Go.Proofs.Ytnpoakabheeoeaa
open Go.RowKit

set_option maxRecDepth 100000 in
set_option maxHeartbeats 1000000 in
theorem bytes_any (wb : Nat) (bs : List Bool) (w : World) (H : List HB) (h : WrB wb bs H) (hs : Sat w H) (hl : bs.length ≤ 70000000) :
    Calls Try.prog 28 #[.pointer (some ⟨wb, 0, none⟩)] w fun e w' => ∃ v' Hn, e = .returned v' ∧ RowB v' (wout (wbits bs)) Hn ∧ Mv w H w' (Hn ++ H) := by
  obtain ⟨v, Hr, rfl, hr⟩ := h
  have i3 := (wbits_inv bs).2.2
  unfold wout
  generalize (wbits bs).1 = l at *
  generalize (wbits bs).2 = r at *
  have hll : l.length ≤ 70000000 := by omega
  clear i3 hl
  have c0 : w.cell? ⟨wb, 0, none⟩ = some v := (hs.at_ 0 rfl).cell 0
  have C1 := Lib.hid (clone_any v l w (hr.bv (hs.right (A := [_]))) (by omega))
  have K0 := Lib.hid (And.intro hr hs)
  obtain ⟨va, vc, rfl⟩ := hr.slice
  clear hr hs
  obtain ⟨out, hout⟩ : ∃ o, (if l.getLast? = some 255 then l ++ [0] else l) = o := ⟨_, rfl⟩
  rw [hout]
  have HO := Lib.hid hout
  obtain ⟨q, hq⟩ : ∃ q, l.getLastD 0 = q := ⟨_, rfl⟩
  have HQ := Lib.hid hq
  have LA := Lib.hid fun w3 c0 hs => last_any wb (.slice va l.length vc) l Hr w3 c0 K0.out.1 hs (by omega)
  rw [hq] at LA
  clear hq hout
  go_enter Try.func28, Try.ntmps28
  go_upto_region 2 with (go_at_call 31; refine C1.out.mono ?_; rintro e w3 ⟨v3, H3, rfl, h3, m3⟩; have K3 := Lib.hid (And.intro h3 (Mv.call (H := []) (Mv.refl K0.out.2) m3)); clear h3 m3)
  have c3 : w3.cell? ⟨wb, 0, none⟩ = some (.slice va l.length vc) := (Mv.mv1 (A := H3) (B := _ :: Hr) (R := []) (by simpa using K3.out.2)).cell 0 rfl 0
  have L3 := Lib.hid (LA.out w3 c3 ((Mv.sub K3.out.2 (fun g => by simp only [cnt_append, cnt_cons]; omega) (fun b hb => by simp [hb])).sat))
  clear LA C1 c0
  by_cases h255 : q = 255
  · have d0 : ((q.toNat : Int) == 255) = true := by rw [h255]; rfl
    have e1 : Hid (out = l ++ [0]) := Lib.hid (by rw [← HO.out, if_pos (of_eq_true (getLast_255 (HQ.out.trans h255)))])
    go_upto_region 3 with (go_at_call 59; refine L3.out.mono ?_; rintro e w4 ⟨rfl, k, rfl⟩)
    obtain ⟨a3, n3, rfl⟩ := K3.out.1.slice
    have M4 := (K3.out.2.drewN k).alloc 5 #[.int .u8 ((0 : UInt8).toNat : Int)]
    have A4 := Lib.hid (bv_one (w3.drewN k) 0 w3.heap.size rfl)
    have S4 : Hid (Sat ((w3.drewN k).alloc (.cells #[.int .u8 ((0 : UInt8).toNat : Int)] 5)) H3) := Lib.hid (Mv.sub M4 (fun g => by simp only [cnt_append, cnt_cons]; omega) (fun b hb => by simp [hb])).sat
    have M4' := Lib.hid M4
    clear M4 L3
    go_upto_region 4 with (at_builtin; go_must (refine wpList_appB rfl (.tmp 15) (.tmp 16) rfl _ _ l [0] H3 rfl rfl K3.out.1 S4.out A4.out (by simp; omega) ?_; intro v5 w5 H5 hr5 m5; obtain ⟨a5, c5, rfl⟩ := hr5.slice; have K5 := Lib.hid (And.intro hr5 (Mv.call (Mv.mv1 (A := [_]) (B := H3) (R := _) M4'.out) m5)); clear hr5 m5))
    have C5 := Lib.hid (clone_any _ (l ++ [0]) w5 (K5.out.1.bv K5.out.2.sat.left) (by simp; omega))
    simp only [List.length_append, List.length_cons, List.length_nil, Nat.zero_add] at C5
    go_wp2_with (go_at_call 31; refine C5.out.mono ?_; rintro e w6 ⟨v6, H6, rfl, h6, m6⟩; have K6 := Lib.hid (And.intro h6 (Mv.call (H := []) (K5.out.2) m6)); clear h6 m6)
    go_ret
    exact ⟨_, H6, rfl, by rw [e1.out]; exact K6.out.1, Mv.drop2 (B := [_]) (Mv.drop2 (B := H5) K6.out.2)⟩
  · have d0 : ((q.toNat : Int) == 255) = false := by
      have : q.toNat ≠ 255 := fun e => h255 (UInt8.toNat_inj.1 (by rw [e]; rfl))
      exact beq_eq_false_iff_ne.2 (by omega)
    have e1 : Hid (out = l) := Lib.hid (by rw [← HO.out, if_neg (of_eq_false (getLast_no255 (fun e => h255 (HQ.out.symm.trans e))))])
    go_upto_region 4 with (go_at_call 59; refine L3.out.mono ?_; rintro e w4 ⟨rfl, k, rfl⟩)
    obtain ⟨a3, n3, rfl⟩ := K3.out.1.slice
    have C5 := Lib.hid (clone_any _ l (w3.drewN k) (K3.out.1.bv (K3.out.2.drewN k).sat.left) (by omega))
    go_wp2_with (go_at_call 31; refine C5.out.mono ?_; rintro e w6 ⟨v6, H6, rfl, h6, m6⟩; have K6 := Lib.hid (And.intro h6 (Mv.call (H := []) (K3.out.2.drewN k) m6)); clear h6 m6)
    go_ret
    exact ⟨_, H6, rfl, by rw [e1.out]; exact K6.out.1, Mv.drop2 (B := H3) K6.out.2⟩

/-! ### the reader -/
/-- how far a reader is: how many bytes were begun, how many bits of the last one are left, whether one was bad -/
structure RdM where
  begun : Nat
  left : Nat
  bad : Bool
def rdNew : RdM := ⟨0, 0, false⟩
/-- the byte in front of a place -/
def prevB (l : List UInt8) (k : Nat) : UInt8 := if k = 0 then 0 else l.getD (k - 1) 0
def rdNext (l : List UInt8) (s : RdM) : RdM :=
  if s.left = 0 then (if prevB l s.begun = 255 then ⟨s.begun + 1, 7, s.bad || decide (128 ≤ (l.getD s.begun 0).toNat)⟩ else ⟨s.begun + 1, 8, s.bad⟩) else s
def rdBit (l : List UInt8) (s : RdM) : Nat × RdM :=
  let t := rdNext l s
  ((prevB l t.begun).toNat / 2 ^ (t.left - 1) % 2, ⟨t.begun, t.left - 1, t.bad⟩)
def rdBits (l : List UInt8) : Nat → Nat → RdM → Nat × RdM
  | 0, n, s => (n, s)
  | k + 1, n, s => rdBits l k (2 * n + (rdBit l s).1) (rdBit l s).2
def ReadH (rb : Nat) (l : List UInt8) (s : RdM) (H : List HB) : Prop := ∃ v Hr, H = ⟨rb, 180, #[v, .int .i64 (s.begun : Int), .int .i64 (s.left : Int), .bool s.bad]⟩ :: Hr ∧ RowB v l Hr

set_option maxRecDepth 100000 in
theorem at_any (rb : Nat) (l : List UInt8) (v : Value) (Hr : List HB) (k : Int) (w : World) (c0 : w.cell? ⟨rb, 0, none⟩ = some v) (hr : RowB v l Hr) (hs : Sat w Hr) (hl : l.length ≤ 100000000) :
    Calls Try.prog 93 #[.pointer (some ⟨rb, 0, none⟩), .int .i64 k] w fun e w' => e = .returned (.int .u8 ((if k < 0 then 0 else (l.getD k.toNat 0) : UInt8).toNat : Int)) ∧ w = w' := by
  obtain ⟨va, vc, rfl⟩ := hr.slice
  by_cases hk : k < 0
  · have d1 : decide (k < 0) = true := by simpa using hk
    rw [if_pos hk]
    clear hk
    go_enter Try.func93, Try.ntmps93
    go_wp2_with fail
    go_ret
    exact ⟨rfl, rfl⟩
  · have d1 : decide (k < 0) = false := by simpa using hk
    obtain ⟨k, rfl⟩ := Int.eq_ofNat_of_zero_le (a := k) (by omega)
    rw [if_neg hk, Int.toNat_natCast]
    by_cases hlt : k < l.length
    · have d2 : decide ((l.length : Int) ≤ (k : Int)) = false := by simp; omega
      obtain ⟨g, cap, cur, e, -⟩ := RowH.form hr (by omega)
      obtain rfl : va = some ⟨g, 0, none⟩ := by cases e; rfl
      have c1 := (RowH.cell hr hs rfl k (by omega)).1
      rw [cellsB_get l k (l.getD k 0) (by rw [List.getElem?_eq_getElem hlt]; simp [List.getD, List.getElem?_eq_getElem hlt])] at c1
      have hk2 : (k : Int) < (l.length : Int) := by omega
      generalize l.getD k 0 = q at *
      generalize l.length = n at *
      clear hk hr hs
      go_enter Try.func93, Try.ntmps93
      go_wp2_with fail
      go_ret
      exact ⟨rfl, rfl⟩
    · have d2 : decide ((l.length : Int) ≤ (k : Int)) = true := by simp; omega
      have e0 : l.getD k 0 = 0 := by rw [List.getD_eq_getElem?_getD, List.getElem?_eq_none (by omega)]; rfl
      rw [e0]
      generalize l.length = n at *
      clear hk hr hs
      go_enter Try.func93, Try.ntmps93
      go_wp2_with fail
      go_ret
      exact ⟨rfl, rfl⟩
end Go.Proofs.Ytnpoakabheeoeaa
