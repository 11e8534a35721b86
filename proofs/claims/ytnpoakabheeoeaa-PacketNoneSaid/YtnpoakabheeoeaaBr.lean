/- Bits of packets' heads: the program's reader reads. -/
import Derived.Test.YtnpoakabheeoeaaMba
namespace Go.Proofs.Ytnpoakabheeoeaa
open Go.RowKit

theorem at_prev (l : List UInt8) (k : Nat) : (if (k : Int) - 1 < 0 then 0 else (l.getD ((k : Int) - 1).toNat 0) : UInt8) = prevB l k := by
  unfold prevB
  by_cases h : k = 0
  · subst h; rfl
  · rw [if_neg (by omega), if_neg h, show ((k : Int) - 1).toNat = k - 1 from by omega]
theorem at_here (l : List UInt8) (k : Nat) : (if (k : Int) < 0 then 0 else (l.getD (k : Int).toNat 0) : UInt8) = l.getD k 0 := by
  rw [if_neg (by omega), Int.toNat_natCast]
theorem ret_int {k : IntKind} {a b : Int} (h : a = b) : Ending.returned (.int k a) = .returned (.int k b) := by rw [h]
theorem bit_val (q : UInt8) (k : Nat) : bits .and .i64 ((q.toNat : Int) / 2 ^ k) 1 = ((q.toNat / 2 ^ k % 2 : Nat) : Int) := by
  rw [i64_and1]
  push_cast
  rfl

theorem bit_valw (q : UInt8) (k : Nat) : bits .and .i64 (wrap64 ((q.toNat : Int) / 2 ^ k)) 1 = ((q.toNat / 2 ^ k % 2 : Nat) : Int) := by
  have h1 := q.toNat_lt
  have h2 : (q.toNat : Int) / 2 ^ k = ((q.toNat / 2 ^ k : Nat) : Int) := by push_cast; rfl
  have h3 : q.toNat / 2 ^ k ≤ q.toNat := Nat.div_le_self _ _
  have h4 : wrap64 ((q.toNat : Int) / 2 ^ k) = (q.toNat : Int) / 2 ^ k := by
    rw [h2]
    generalize q.toNat / 2 ^ k = z at h3
    rw [← IntWalk.i64_left, IntWalk.i64_in _ (by omega)]
  rw [h4, bit_val]

theorem new_reader (v : Value) (l : List UInt8) (w : World) (hv : BV w v l) (hl : l.length ≤ 100000000) : Calls Try.prog 73 #[v] w fun e w' => ∃ rb H', e = .returned (.pointer (some ⟨rb, 0, none⟩)) ∧ ReadH rb l rdNew H' ∧ Mv w [] w' H' := by
  have C := Lib.hid (clone_any v l w hv hl)
  obtain ⟨a, c, rfl, -⟩ := hv
  go_enter Try.func73, Try.ntmps73
  go_wp2_with (go_at_call 31; refine C.out.mono ?_; rintro e w2 ⟨v2, H2, rfl, h2, m2⟩; obtain ⟨a2, c2, rfl⟩ := h2.slice; have K2 := Lib.hid (And.intro h2 m2); clear h2 m2)
  go_ret
  exact ⟨_, _, rfl, ⟨_, H2, rfl, K2.out.1⟩, K2.out.2.alloc _ _⟩

set_option maxRecDepth 100000 in
set_option maxHeartbeats 2000000 in
theorem bit_rd (rb : Nat) (l : List UInt8) (s : RdM) (w : World) (H : List HB) (h : ReadH rb l s H) (hs : Sat w H) (hl : l.length ≤ 90000000) (hb : s.begun ≤ 90000000) (h8 : s.left ≤ 8) :
    Calls Try.prog 74 #[.pointer (some ⟨rb, 0, none⟩)] w fun e w' => e = .returned (.int .i64 ((rdBit l s).1 : Int)) ∧ ∃ H', ReadH rb l (rdBit l s).2 H' ∧ Mv w H w' H' := by
  obtain ⟨bg, lf, bd⟩ := s
  obtain ⟨v, Hr, rfl, hr⟩ := h
  simp only at hb h8 ⊢
  obtain ⟨va, vc, rfl⟩ := hr.slice
  obtain ⟨n, hn⟩ : ∃ n, l.length = n := ⟨_, rfl⟩
  rw [hn] at hr hs hl ⊢
  have KR := Lib.hid hr
  have HN := Lib.hid hn
  have hll : l.length ≤ 90000000 := by omega
  have M0 : Mv w _ w (⟨rb, 180, #[.slice va n vc, .int .i64 (bg : Int), .int .i64 (lf : Int), .bool bd]⟩ :: Hr) := Mv.refl hs
  have K := Lib.hid M0
  clear M0
  clear hr hs hn
  by_cases h0 : lf = 0
  case neg =>
    have e1 : Hid (rdBit l ⟨bg, lf, bd⟩ = ((prevB l bg).toNat / 2 ^ (lf - 1) % 2, ⟨bg, lf - 1, bd⟩)) := Lib.hid (by simp only [rdBit, rdNext, h0, if_false])
    have d0 : ((lf : Int) == 0) = false := by simpa using h0
    have d1 : IntKind.i64.wrap ((lf : Int) - 1) = ((lf - 1 : Nat) : Int) := by rw [IntWalk.i64_in _ (by omega)]; omega
    have hq : lf - 1 ≤ 7 := by omega
    have c0 : w.cell? ⟨rb, 0, none⟩ = some (.slice va n vc) := K.out.cell 0 rfl 0
    have c1 : w.cell? ⟨rb, 1, none⟩ = some (.int .i64 (bg : Int)) := K.out.cell 0 rfl 1
    have c2 : w.cell? ⟨rb, 2, none⟩ = some (.int .i64 (lf : Int)) := K.out.cell 0 rfl 2
    have f2 : w.frozen? ⟨rb, 2, none⟩ = false := K.out.frozen 0 rfl 2
    go_enter Try.func74, Try.ntmps74
    go_upto_region 8 with fail
    obtain ⟨wz, hwz⟩ : ∃ wz, wz = w.setCell ⟨rb, 2, none⟩ (.int .i64 (((lf - 1 : Nat) : Int) : Int)) := ⟨_, rfl⟩
    have MZ : Mv w _ (w.setCell ⟨rb, 2, none⟩ (.int .i64 (((lf - 1 : Nat) : Int) : Int))) (⟨rb, 180, #[.slice va n vc, .int .i64 (bg), .int .i64 (((lf - 1 : Nat) : Int) : Int), .bool bd]⟩ :: Hr) := K.out.set 2 (.int .i64 (((lf - 1 : Nat) : Int) : Int))
    rw [← hwz] at MZ
    simp only [← hwz]
    clear c0 c1 c2 f2 hwz
    have c1 : wz.cell? ⟨rb, 1, none⟩ = some (.int .i64 (bg : Int)) := MZ.cell 0 rfl 1
    have c2 : wz.cell? ⟨rb, 2, none⟩ = some (.int .i64 (((lf - 1 : Nat) : Int) : Int)) := MZ.cell 0 rfl 2
    have AT0 := fun k => at_any rb l (.slice va n vc) Hr ((bg : Int) - 1) (wz.drewN k) ((MZ.drewN k).cell 0 rfl 0) KR.out ((MZ.drewN k).sat.right (A := [_])) (by omega)
    have ap : (if ((bg : Int) - 1) < 0 then 0 else (l.getD (((bg : Int) - 1)).toNat 0) : UInt8) = prevB l (bg) := at_prev l bg
    obtain ⟨pq, hpq⟩ : ∃ q, prevB l (bg) = q := ⟨_, rfl⟩
    simp only [ap, hpq] at AT0
    have HPQ := Lib.hid hpq
    have AT := Lib.hid AT0
    clear AT0 ap hpq
    have KZ := Lib.hid MZ
    clear MZ
    go_quiet (first | (go_at_call 93; exact Calls.quiet_of ((AT.out _).mono fun e w' h => ⟨h.1, 0, h.2.symm⟩)))
    go_wp2_with fail
    go_ret
    rw [e1.out]
    refine ⟨?_, _, ⟨_, Hr, rfl, KR.out⟩, KZ.out.drewN _⟩
    simp only [HPQ.out]
    refine ret_int ?_
    exact bit_valw pq (lf - 1)

  case pos =>
    subst h0
    have c0 : w.cell? ⟨rb, 0, none⟩ = some (.slice va n vc) := K.out.cell 0 rfl 0
    have c1 : w.cell? ⟨rb, 1, none⟩ = some (.int .i64 (bg : Int)) := K.out.cell 0 rfl 1
    have c2 : w.cell? ⟨rb, 2, none⟩ = some (.int .i64 (0 : Int)) := K.out.cell 0 rfl 2
    have f2 : w.frozen? ⟨rb, 2, none⟩ = false := K.out.frozen 0 rfl 2
    obtain ⟨wa, hwa⟩ : ∃ wa, wa = w.setCell ⟨rb, 2, none⟩ (.int .i64 (8 : Int)) := ⟨_, rfl⟩
    have MA : Mv w _ (w.setCell ⟨rb, 2, none⟩ (.int .i64 (8 : Int))) (⟨rb, 180, #[.slice va n vc, .int .i64 (bg : Int), .int .i64 8, .bool bd]⟩ :: Hr) := K.out.set 2 (.int .i64 (8 : Int))
    rw [← hwa] at MA
    go_enter Try.func74, Try.ntmps74
    go_upto_region 3 with fail
    simp only [← hwa]
    clear c0 c1 c2 f2 hwa K
    have c1 : wa.cell? ⟨rb, 1, none⟩ = some (.int .i64 (bg : Int)) := MA.cell 0 rfl 1
    have AT := Lib.hid (at_any rb l (.slice va n vc) Hr ((bg : Int) - 1) wa (MA.cell 0 rfl 0) KR.out (MA.sat.right (A := [_])) (by omega))
    rw [at_prev] at AT
    obtain ⟨q, hq⟩ : ∃ q, prevB l bg = q := ⟨_, rfl⟩
    rw [hq] at AT
    have HQ := Lib.hid hq
    have KA := Lib.hid MA
    clear MA hq
    by_cases h255 : q = 255
    case pos =>
      have d0 : ((q.toNat : Int) == 255) = true := by rw [h255]; rfl
      go_upto_region 4 with (go_at_call 93; refine AT.out.mono ?_; rintro e w' ⟨rfl, rfl⟩)
      have c2 : wa.cell? ⟨rb, 2, none⟩ = some (.int .i64 8) := KA.out.cell 0 rfl 2
      have f2 : wa.frozen? ⟨rb, 2, none⟩ = false := KA.out.frozen 0 rfl 2
      obtain ⟨wb, hwb⟩ : ∃ wb, wb = wa.setCell ⟨rb, 2, none⟩ (.int .i64 7) := ⟨_, rfl⟩
      have MB : Mv w _ (wa.setCell ⟨rb, 2, none⟩ (.int .i64 7)) (⟨rb, 180, #[.slice va n vc, .int .i64 (bg : Int), .int .i64 7, .bool bd]⟩ :: Hr) := KA.out.set 2 (.int .i64 7)
      rw [← hwb] at MB
      go_upto_region 5 with fail
      simp only [← hwb]
      clear c1 c2 f2 hwb AT KA d0
      have c1 : wb.cell? ⟨rb, 1, none⟩ = some (.int .i64 (bg : Int)) := MB.cell 0 rfl 1
      have c3 : wb.cell? ⟨rb, 3, none⟩ = some (.bool bd) := MB.cell 0 rfl 3
      have f3 : wb.frozen? ⟨rb, 3, none⟩ = false := MB.frozen 0 rfl 3
      have AT := Lib.hid (at_any rb l (.slice va n vc) Hr (bg : Int) wb (MB.cell 0 rfl 0) KR.out (MB.sat.right (A := [_])) (by omega))
      rw [at_here] at AT
      obtain ⟨q2, hq2⟩ : ∃ q, l.getD bg 0 = q := ⟨_, rfl⟩
      rw [hq2] at AT
      have HQ2 := Lib.hid hq2
      clear hq2
      obtain ⟨bd2, hbd2⟩ : ∃ b, (bd || decide (128 ≤ q2.toNat)) = b := ⟨_, rfl⟩
      obtain ⟨wc, hwc⟩ : ∃ wc, wc = wb.setCell ⟨rb, 3, none⟩ (.bool bd2) := ⟨_, rfl⟩
      have MC : Mv w _ (wb.setCell ⟨rb, 3, none⟩ (.bool bd2)) (⟨rb, 180, #[.slice va n vc, .int .i64 (bg : Int), .int .i64 7, .bool bd2]⟩ :: Hr) := MB.set 3 (.bool bd2)
      rw [← hwc] at MC
      have KB := Lib.hid (And.intro MC (And.intro hbd2 hwc))
      have hbq : bd = true ∨ (bd = false ∧ decide ((128 : Int) ≤ (q2.toNat : Int)) = bd2) := by
        cases bd with
        | true => exact .inl rfl
        | false => right; refine ⟨rfl, ?_⟩; rw [← hbd2]; simp only [Bool.false_or, decide_eq_decide]; omega
      clear MB MC hwc
      have e1 : Hid (rdBit l ⟨bg, 0, bd⟩ = ((prevB l (bg + 1)).toNat / 2 ^ 6 % 2, ⟨bg + 1, 6, bd2⟩)) := Lib.hid (by simp only [rdBit, rdNext, if_true, HQ.out, h255, HQ2.out, hbd2])
      clear h255
      rcases hbq with rfl | ⟨rfl, hbq⟩
      · obtain rfl : bd2 = true := by rw [← hbd2]; rfl
        clear hbd2
        go_upto_region 6 with fail
        simp only [← KB.out.2.2]
        have c1 : wc.cell? ⟨rb, 1, none⟩ = some (.int .i64 (bg : Int)) := KB.out.1.cell 0 rfl 1
        have f1 : wc.frozen? ⟨rb, 1, none⟩ = false := KB.out.1.frozen 0 rfl 1
        go_upto_region 7 with fail
        obtain ⟨wd, hwd⟩ : ∃ wd, wd = wc.setCell ⟨rb, 1, none⟩ (.int .i64 ((bg : Int) + 1)) := ⟨_, rfl⟩
        have MD : Mv w _ (wc.setCell ⟨rb, 1, none⟩ (.int .i64 ((bg : Int) + 1))) (⟨rb, 180, #[.slice va n vc, .int .i64 ((bg : Int) + 1), .int .i64 (7), .bool true]⟩ :: Hr) := KB.out.1.set 1 (.int .i64 ((bg : Int) + 1))
        rw [← hwd] at MD
        simp only [← hwd]
        have K := Lib.hid MD
        clear c1 f1 hwd MD KB
        have c0 : wd.cell? ⟨rb, 0, none⟩ = some (.slice va n vc) := K.out.cell 0 rfl 0
        have c1 : wd.cell? ⟨rb, 1, none⟩ = some (.int .i64 ((bg : Int) + 1 : Int)) := K.out.cell 0 rfl 1
        have c2 : wd.cell? ⟨rb, 2, none⟩ = some (.int .i64 (7 : Int)) := K.out.cell 0 rfl 2
        have f2 : wd.frozen? ⟨rb, 2, none⟩ = false := K.out.frozen 0 rfl 2
        go_upto_region 8 with fail
        obtain ⟨wz, hwz⟩ : ∃ wz, wz = wd.setCell ⟨rb, 2, none⟩ (.int .i64 (6 : Int)) := ⟨_, rfl⟩
        have MZ : Mv w _ (wd.setCell ⟨rb, 2, none⟩ (.int .i64 (6 : Int))) (⟨rb, 180, #[.slice va n vc, .int .i64 (((bg : Int) + 1)), .int .i64 (6 : Int), .bool true]⟩ :: Hr) := K.out.set 2 (.int .i64 (6 : Int))
        rw [← hwz] at MZ
        simp only [← hwz]
        clear c0 c1 c2 f2 hwz
        have c1 : wz.cell? ⟨rb, 1, none⟩ = some (.int .i64 (((bg : Int) + 1) : Int)) := MZ.cell 0 rfl 1
        have c2 : wz.cell? ⟨rb, 2, none⟩ = some (.int .i64 (6 : Int)) := MZ.cell 0 rfl 2
        have AT0 := fun k => at_any rb l (.slice va n vc) Hr (bg : Int) (wz.drewN k) ((MZ.drewN k).cell 0 rfl 0) KR.out ((MZ.drewN k).sat.right (A := [_])) (by omega)
        have ap : (if (bg : Int) < 0 then 0 else (l.getD ((bg : Int)).toNat 0) : UInt8) = prevB l (bg + 1) := by rw [at_here]; simp [prevB]
        obtain ⟨pq, hpq⟩ : ∃ q, prevB l (bg + 1) = q := ⟨_, rfl⟩
        simp only [ap, hpq] at AT0
        have HPQ := Lib.hid hpq
        have AT := Lib.hid AT0
        clear AT0 ap hpq
        have KZ := Lib.hid MZ
        clear MZ
        go_quiet (first | (go_at_call 93; exact Calls.quiet_of ((AT.out _).mono fun e w' h => ⟨h.1, 0, h.2.symm⟩)))
        go_wp2_with fail
        go_ret
        rw [e1.out]
        refine ⟨?_, _, ⟨.slice va n vc, Hr, by simp, KR.out⟩, KZ.out.drewN _⟩
        simp only [HPQ.out]
        have bv := bit_valw pq 6
        rw [show (2 : Int) ^ 6 = 64 from by decide] at bv
        refine ret_int ?_
        exact bv

      · clear hbd2
        go_upto_region 6 with (go_at_call 93; refine AT.out.mono ?_; rintro e w' ⟨rfl, rfl⟩)
        simp only [← KB.out.2.2]
        have c1 : wc.cell? ⟨rb, 1, none⟩ = some (.int .i64 (bg : Int)) := KB.out.1.cell 0 rfl 1
        have f1 : wc.frozen? ⟨rb, 1, none⟩ = false := KB.out.1.frozen 0 rfl 1
        go_upto_region 7 with fail
        obtain ⟨wd, hwd⟩ : ∃ wd, wd = wc.setCell ⟨rb, 1, none⟩ (.int .i64 ((bg : Int) + 1)) := ⟨_, rfl⟩
        have MD : Mv w _ (wc.setCell ⟨rb, 1, none⟩ (.int .i64 ((bg : Int) + 1))) (⟨rb, 180, #[.slice va n vc, .int .i64 ((bg : Int) + 1), .int .i64 (7), .bool bd2]⟩ :: Hr) := KB.out.1.set 1 (.int .i64 ((bg : Int) + 1))
        rw [← hwd] at MD
        simp only [← hwd]
        have K := Lib.hid MD
        clear c1 f1 hwd MD KB
        have c0 : wd.cell? ⟨rb, 0, none⟩ = some (.slice va n vc) := K.out.cell 0 rfl 0
        have c1 : wd.cell? ⟨rb, 1, none⟩ = some (.int .i64 ((bg : Int) + 1 : Int)) := K.out.cell 0 rfl 1
        have c2 : wd.cell? ⟨rb, 2, none⟩ = some (.int .i64 (7 : Int)) := K.out.cell 0 rfl 2
        have f2 : wd.frozen? ⟨rb, 2, none⟩ = false := K.out.frozen 0 rfl 2
        go_upto_region 8 with fail
        obtain ⟨wz, hwz⟩ : ∃ wz, wz = wd.setCell ⟨rb, 2, none⟩ (.int .i64 (6 : Int)) := ⟨_, rfl⟩
        have MZ : Mv w _ (wd.setCell ⟨rb, 2, none⟩ (.int .i64 (6 : Int))) (⟨rb, 180, #[.slice va n vc, .int .i64 (((bg : Int) + 1)), .int .i64 (6 : Int), .bool bd2]⟩ :: Hr) := K.out.set 2 (.int .i64 (6 : Int))
        rw [← hwz] at MZ
        simp only [← hwz]
        clear c0 c1 c2 f2 hwz
        have c1 : wz.cell? ⟨rb, 1, none⟩ = some (.int .i64 (((bg : Int) + 1) : Int)) := MZ.cell 0 rfl 1
        have c2 : wz.cell? ⟨rb, 2, none⟩ = some (.int .i64 (6 : Int)) := MZ.cell 0 rfl 2
        have AT0 := fun k => at_any rb l (.slice va n vc) Hr (bg : Int) (wz.drewN k) ((MZ.drewN k).cell 0 rfl 0) KR.out ((MZ.drewN k).sat.right (A := [_])) (by omega)
        have ap : (if (bg : Int) < 0 then 0 else (l.getD ((bg : Int)).toNat 0) : UInt8) = prevB l (bg + 1) := by rw [at_here]; simp [prevB]
        obtain ⟨pq, hpq⟩ : ∃ q, prevB l (bg + 1) = q := ⟨_, rfl⟩
        simp only [ap, hpq] at AT0
        have HPQ := Lib.hid hpq
        have AT := Lib.hid AT0
        clear AT0 ap hpq
        have KZ := Lib.hid MZ
        clear MZ
        go_quiet (first | (go_at_call 93; exact Calls.quiet_of ((AT.out _).mono fun e w' h => ⟨h.1, 0, h.2.symm⟩)))
        go_wp2_with fail
        go_ret
        rw [e1.out]
        refine ⟨?_, _, ⟨.slice va n vc, Hr, by simp, KR.out⟩, KZ.out.drewN _⟩
        simp only [HPQ.out]
        have bv := bit_valw pq 6
        rw [show (2 : Int) ^ 6 = 64 from by decide] at bv
        refine ret_int ?_
        exact bv

    case neg =>
      have d0 : ((q.toNat : Int) == 255) = false := by
        have : q.toNat ≠ 255 := fun e => h255 (UInt8.toNat_inj.1 (by rw [e]; rfl))
        exact beq_eq_false_iff_ne.2 (by omega)
      have e1 : Hid (rdBit l ⟨bg, 0, bd⟩ = ((prevB l (bg + 1)).toNat / 2 ^ 7 % 2, ⟨bg + 1, 7, bd⟩)) := Lib.hid (by simp only [rdBit, rdNext, if_true, HQ.out, h255, if_false])
      clear h255
      go_upto_region 6 with (go_at_call 93; refine AT.out.mono ?_; rintro e w' ⟨rfl, rfl⟩)
      have KB := Lib.hid (And.intro KA.out trivial)
      have c1 : wa.cell? ⟨rb, 1, none⟩ = some (.int .i64 (bg : Int)) := KB.out.1.cell 0 rfl 1
      have f1 : wa.frozen? ⟨rb, 1, none⟩ = false := KB.out.1.frozen 0 rfl 1
      go_upto_region 7 with fail
      obtain ⟨wd, hwd⟩ : ∃ wd, wd = wa.setCell ⟨rb, 1, none⟩ (.int .i64 ((bg : Int) + 1)) := ⟨_, rfl⟩
      have MD : Mv w _ (wa.setCell ⟨rb, 1, none⟩ (.int .i64 ((bg : Int) + 1))) (⟨rb, 180, #[.slice va n vc, .int .i64 ((bg : Int) + 1), .int .i64 (8), .bool bd]⟩ :: Hr) := KB.out.1.set 1 (.int .i64 ((bg : Int) + 1))
      rw [← hwd] at MD
      simp only [← hwd]
      have K := Lib.hid MD
      clear c1 f1 hwd MD KB
      have c0 : wd.cell? ⟨rb, 0, none⟩ = some (.slice va n vc) := K.out.cell 0 rfl 0
      have c1 : wd.cell? ⟨rb, 1, none⟩ = some (.int .i64 ((bg : Int) + 1 : Int)) := K.out.cell 0 rfl 1
      have c2 : wd.cell? ⟨rb, 2, none⟩ = some (.int .i64 (8 : Int)) := K.out.cell 0 rfl 2
      have f2 : wd.frozen? ⟨rb, 2, none⟩ = false := K.out.frozen 0 rfl 2
      go_upto_region 8 with fail
      obtain ⟨wz, hwz⟩ : ∃ wz, wz = wd.setCell ⟨rb, 2, none⟩ (.int .i64 (7 : Int)) := ⟨_, rfl⟩
      have MZ : Mv w _ (wd.setCell ⟨rb, 2, none⟩ (.int .i64 (7 : Int))) (⟨rb, 180, #[.slice va n vc, .int .i64 (((bg : Int) + 1)), .int .i64 (7 : Int), .bool bd]⟩ :: Hr) := K.out.set 2 (.int .i64 (7 : Int))
      rw [← hwz] at MZ
      simp only [← hwz]
      clear c0 c1 c2 f2 hwz
      have c1 : wz.cell? ⟨rb, 1, none⟩ = some (.int .i64 (((bg : Int) + 1) : Int)) := MZ.cell 0 rfl 1
      have c2 : wz.cell? ⟨rb, 2, none⟩ = some (.int .i64 (7 : Int)) := MZ.cell 0 rfl 2
      have AT0 := fun k => at_any rb l (.slice va n vc) Hr (bg : Int) (wz.drewN k) ((MZ.drewN k).cell 0 rfl 0) KR.out ((MZ.drewN k).sat.right (A := [_])) (by omega)
      have ap : (if (bg : Int) < 0 then 0 else (l.getD ((bg : Int)).toNat 0) : UInt8) = prevB l (bg + 1) := by rw [at_here]; simp [prevB]
      obtain ⟨pq, hpq⟩ : ∃ q, prevB l (bg + 1) = q := ⟨_, rfl⟩
      simp only [ap, hpq] at AT0
      have HPQ := Lib.hid hpq
      have AT := Lib.hid AT0
      clear AT0 ap hpq
      have KZ := Lib.hid MZ
      clear MZ
      go_quiet (first | (go_at_call 93; exact Calls.quiet_of ((AT.out _).mono fun e w' h => ⟨h.1, 0, h.2.symm⟩)))
      go_wp2_with fail
      go_ret
      rw [e1.out]
      refine ⟨?_, _, ⟨.slice va n vc, Hr, by simp, KR.out⟩, KZ.out.drewN _⟩
      simp only [HPQ.out]
      have bv := bit_valw pq 7
      rw [show (2 : Int) ^ 7 = 128 from by decide] at bv
      refine ret_int ?_
      exact bv

end Go.Proofs.Ytnpoakabheeoeaa
