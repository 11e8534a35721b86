/- waveletref4: a byte goes out, with a carry. -/
import Derived.Test.YtnpoakabheeoeaaQb
namespace Go.Proofs.Ytnpoakabheeoeaa
open Go.RowKit
set_option maxRecDepth 100000 in
set_option maxHeartbeats 2000000 in
theorem out_cf (eg : Nat) (e : EncM) (w : World) (H : List HB) (h : MqR eg e H) (hs : Sat w H) (hb : e.b ≠ []) (hl : e.b.length ≤ 90000000) (hc : e.c ≤ 1000000000000) (hq : e.b.getLastD 0 = 254) (hcc : 134217728 ≤ e.c) :
    Calls Try.prog 71 #[.pointer (some ⟨eg, 0, none⟩)] w fun e0 w' => e0 = .returned (.tuple #[]) ∧ ∃ H', MqR eg (outE e) H' ∧ Mv w H w' H' := by
  obtain ⟨a, cc, ct, b⟩ := e
  simp only at hb hl hc hq hcc
  have EO : outE ⟨a, cc, ct, b⟩ = ⟨a, (cc - 134217728) % 2 ^ 20, 7, b.dropLast ++ [b.getLastD 0 + 1] ++ [UInt8.ofNat ((cc - 134217728) / 2 ^ 20)]⟩ := by
    have h1 : b.getLastD 0 ≠ 255 ∧ 134217728 ≤ cc := ⟨by rw [hq]; decide, hcc⟩
    have h2 : (b.dropLast ++ [b.getLastD 0 + 1]).getLastD 0 = b.getLastD 0 + 1 := by simp
    unfold outE carryE putE
    rw [if_pos h1]
    simp only [h2]
    rw [if_pos (by rw [hq]; rfl)]
  rw [EO]
  obtain ⟨vb, Hb, rfl, hr⟩ := h
  simp only at hr
  have hb0 : 0 < b.length := List.length_pos_iff.2 hb
  obtain ⟨g, cp, rfl, -, -⟩ := hr.last (hs.right (A := [_])) hb0
  have M0 := Mv.refl hs
  obtain ⟨n, hn⟩ : ∃ n, b.length = n := ⟨_, rfl⟩
  have hn0 : 0 < n := by omega
  have hnl : n ≤ 90000000 := by omega
  rw [hn] at hr M0 ⊢
  simp only at M0
  have c0 : w.cell? ⟨eg, 3, none⟩ = some (.slice (some ⟨g, 0, none⟩) n cp) := M0.cell 0 rfl 3
  have c1 : w.cell? ⟨eg, 1, none⟩ = some (.int .i64 (cc : Int)) := M0.cell 0 rfl 1
  obtain ⟨k1, k2⟩ := hr.at_last (hs.right (A := [_])) hn hn0
  have f1 : w.frozen? ⟨eg, 1, none⟩ = false := M0.frozen 0 rfl 1
  have d2 : (n : Int) - 1 = ((n - 1 : Nat) : Int) := by omega
  have d3 : (((n - 1 : Nat) : Int)) < (n : Int) := by omega
  obtain ⟨q, hqq⟩ : ∃ q, b.getLastD 0 = q := ⟨_, rfl⟩
  rw [hqq] at k1 hq
  have h255 : q ≠ 255 := by rw [hq]; decide
  have hq254 : q = 254 := hq
  have q0 := u8_ne255b h255
  have q9 := u8_ne255 h255
  have q1 := (u8_inc q h255).symm
  have ql : (q.toNat : Int) < 255 := by have := (q + 1).toNat_lt; omega
  have d5 : decide ((134217728 : Int) ≤ (cc : Int)) = true := by simp; omega
  have cw : (cc : Int) - 134217728 = ((cc - 134217728 : Nat) : Int) := by omega
  have cl : cc - 134217728 ≤ 1000000000000 := by omega
  obtain ⟨c1', hc1'⟩ : ∃ c1', cc - 134217728 = c1' := ⟨_, rfl⟩
  rw [hc1'] at cw cl ⊢
  rw [hqq]
  obtain ⟨H1, j1, j2⟩ := RowB.set_last (by rw [hn]; exact hr) (hs.right (A := [_])) (by omega) (q + 1)
  rw [hn] at j1 j2
  have M1 := Mv.call (R := [encB eg a cc ct (.slice (some ⟨g, 0, none⟩) n cp)]) (M0.sub (H1 := Hb ++ [encB eg a cc ct (.slice (some ⟨g, 0, none⟩) n cp)]) (fun g => by simp only [cnt_append, cnt_cons, cnt_nil]; omega) (fun c hc => by simp only [List.mem_append, List.mem_cons] at hc ⊢; grind)) j2
  have M2 : Mv w _ _ (encB eg a cc ct (.slice (some ⟨g, 0, none⟩) n cp) :: H1) := M1.sub (fun g => by simp only [cnt_append, cnt_cons, cnt_nil]; omega) (fun c hc => by simp only [List.mem_append, List.mem_cons] at hc ⊢; grind)
  have g1 := M2.cell 0 rfl 1
  have g2 := M2.frozen 0 rfl 1
  have M3 := M2.set 1 (.int .i64 (c1' : Int))
  obtain ⟨q', hq'⟩ : ∃ q', q + 1 = q' := ⟨_, rfl⟩
  rw [hq'] at M1 M2 M3 g1 g2 q1 j1 ⊢
  obtain ⟨b1, hb1⟩ : ∃ b1, b.dropLast ++ [q'] = b1 := ⟨_, rfl⟩
  rw [hb1] at j1 ⊢
  have hn1 : b1.length = n := by rw [← hb1, List.length_append, List.length_dropLast, List.length_singleton]; omega
  have hl1 : b1.getLastD 0 = q' := by rw [← hb1]; simp
  obtain ⟨x, hx⟩ : ∃ x, UInt8.ofNat (c1' / 2 ^ 20) = x := ⟨_, rfl⟩
  have hx8 := shr20 c1'
  have hm := mask20 c1' (by omega)
  rw [hx] at hx8 ⊢
  obtain ⟨kk1, kk2⟩ := j1.at_last (M3.sat.right (A := [_])) hn1 hn0
  rw [hl1] at kk1
  have y0 := M3.cell 0 rfl 3
  have y1 := M3.cell 0 rfl 1
  have K := Lib.hid (And.intro j1 (And.intro M3 hn1))

  obtain ⟨w1, hw1⟩ : ∃ w1, w1 = (w.setCell ⟨g, n - 1, none⟩ (.int .u8 (q'.toNat : Int))).setCell ⟨eg, 1, none⟩ (.int .i64 (c1' : Int)) := ⟨_, rfl⟩
  rw [← hw1] at kk1 kk2 y0 y1 K
  have HW := Lib.hid hw1
  clear hn hr M0 hs hb hl hb0 hq EO j1 j2 M1 M2 M3 hb1 hn1 hl1 hx hqq hc1' hcc h255 hw1
  have q2 : ((q'.toNat : Int) == 255) = true := by rw [← q1, hq254]; rfl
  clear hq254 hq'
  go_enter Try.func71, Try.ntmps71
  have Q1 := Lib.hid q1
  have CW := Lib.hid cw
  clear q1 cw
  go_upto_region 2 with fail
  have q1 := Q1.out
  go_upto_region 3 with fail
  clear q1
  have cw := CW.out
  go_upto_region 4 with fail
  clear cw
  rw [← HW.out]
  clear HW c0 c1 k1 k2 f1 g1 g2
  go_upto_region 5 with fail
  have M1' := K.out.2.1.alloc 5 #[.int .u8 (x.toNat : Int)]
  have y7 := M1'.cell 1 rfl 3
  have A1 : Hid (BV (w1.alloc (.cells #[.int .u8 (x.toNat : Int)] 5)).drew (.slice (some ⟨w1.heap.size, 0, none⟩) 1 1) [x]) := Lib.hid (bv_one w1 x _ rfl)
  have K1 := Lib.hid (Mv.behind M1'.drew)
  clear M1'
  go_region_law (first
    | ((with_reducible refine step_appB (o := ⟨some 61, _, _, _, _, _⟩) (v := .slice (some ⟨g, 0, none⟩) n cp) (u := .slice (some ⟨w1.heap.size, 0, none⟩) 1 1) (l := b1) (r := [x]) (H := H1) rfl (.tmp 53) (.tmp 60) rfl ?_ ?_ K.out.1 K1.out.sat.left A1.out ?_ ?_); simp [Act.eval]; simp [Act.eval]; (rw [K.out.2.2]; simp; omega); intro v6 w6 H6 hr6 m6; obtain ⟨a6, c6, rfl⟩ := hr6.slice; have M6 := Mv.second (Mv.call K1.out m6); have y3 := M6.cell 0 rfl 3; have y1 := M6.cell 0 rfl 1; have z3 := M6.frozen 0 rfl 3; have K6 := Lib.hid (And.intro hr6 M6); clear hr6 m6 M6))
  all_goals
    have M7 := K6.out.2.set 3 (.slice a6 (b1.length + 1) c6)
    obtain ⟨w7, hw7⟩ : ∃ w7, w7 = w6.setCell ⟨eg, 3, none⟩ (.slice a6 (b1.length + 1) c6) := ⟨_, rfl⟩
    rw [← hw7] at M7 ⊢
    have e1 := M7.cell 0 rfl 1
    have f1 := M7.frozen 0 rfl 1
    have e2 := M7.cell 0 rfl 2
    have f2 := M7.frozen 0 rfl 2
    have K7 := Lib.hid M7
    clear hw7 M7 y1 y3 z3
    go_wp2_with fail
    have M9 := (K7.out.set 1 (.int .i64 ((c1' % 2 ^ 20 : Nat) : Int))).set 2 (.int .i64 7)
    have h6 := K6.out.1
    simp only [List.length_append, List.length_cons, List.length_nil, Nat.zero_add] at h6
    exact bodyPost_ret (results_none rfl _ _ _) rfl ⟨rfl, _, ⟨_, H6, rfl, h6⟩, M9⟩
set_option maxRecDepth 100000 in
set_option maxHeartbeats 2000000 in
theorem out_cn (eg : Nat) (e : EncM) (w : World) (H : List HB) (h : MqR eg e H) (hs : Sat w H) (hb : e.b ≠ []) (hl : e.b.length ≤ 90000000) (hc : e.c ≤ 1000000000000) (hq : e.b.getLastD 0 ≠ 255) (hq2 : e.b.getLastD 0 ≠ 254) (hcc : 134217728 ≤ e.c) :
    Calls Try.prog 71 #[.pointer (some ⟨eg, 0, none⟩)] w fun e0 w' => e0 = .returned (.tuple #[]) ∧ ∃ H', MqR eg (outE e) H' ∧ Mv w H w' H' := by
  obtain ⟨a, cc, ct, b⟩ := e
  simp only at hb hl hc hq hcc hq2
  have EO : outE ⟨a, cc, ct, b⟩ = ⟨a, (cc - 134217728) % 2 ^ 19, 8, b.dropLast ++ [b.getLastD 0 + 1] ++ [UInt8.ofNat ((cc - 134217728) / 2 ^ 19)]⟩ := by
    have h1 : b.getLastD 0 ≠ 255 ∧ 134217728 ≤ cc := ⟨hq, hcc⟩
    have h2 : (b.dropLast ++ [b.getLastD 0 + 1]).getLastD 0 = b.getLastD 0 + 1 := by simp
    unfold outE carryE putE
    rw [if_pos h1]
    simp only [h2]
    rw [if_neg (fun k => hq2 (by have := congrArg (fun x => x - 1) k; simpa using this))]
  rw [EO]
  obtain ⟨vb, Hb, rfl, hr⟩ := h
  simp only at hr
  have hb0 : 0 < b.length := List.length_pos_iff.2 hb
  obtain ⟨g, cp, rfl, -, -⟩ := hr.last (hs.right (A := [_])) hb0
  have M0 := Mv.refl hs
  obtain ⟨n, hn⟩ : ∃ n, b.length = n := ⟨_, rfl⟩
  have hn0 : 0 < n := by omega
  have hnl : n ≤ 90000000 := by omega
  rw [hn] at hr M0 ⊢
  simp only at M0
  have c0 : w.cell? ⟨eg, 3, none⟩ = some (.slice (some ⟨g, 0, none⟩) n cp) := M0.cell 0 rfl 3
  have c1 : w.cell? ⟨eg, 1, none⟩ = some (.int .i64 (cc : Int)) := M0.cell 0 rfl 1
  obtain ⟨k1, k2⟩ := hr.at_last (hs.right (A := [_])) hn hn0
  have f1 : w.frozen? ⟨eg, 1, none⟩ = false := M0.frozen 0 rfl 1
  have d2 : (n : Int) - 1 = ((n - 1 : Nat) : Int) := by omega
  have d3 : (((n - 1 : Nat) : Int)) < (n : Int) := by omega
  obtain ⟨q, hqq⟩ : ∃ q, b.getLastD 0 = q := ⟨_, rfl⟩
  rw [hqq] at k1 hq hq2
  have h255 : q ≠ 255 := hq
  have hq3 : q ≠ 254 := hq2
  have q0 := u8_ne255b h255
  have q9 := u8_ne255 h255
  have q1 := (u8_inc q h255).symm
  have ql : (q.toNat : Int) < 255 := by have := (q + 1).toNat_lt; omega
  have d5 : decide ((134217728 : Int) ≤ (cc : Int)) = true := by simp; omega
  have cw : (cc : Int) - 134217728 = ((cc - 134217728 : Nat) : Int) := by omega
  have cl : cc - 134217728 ≤ 1000000000000 := by omega
  obtain ⟨c1', hc1'⟩ : ∃ c1', cc - 134217728 = c1' := ⟨_, rfl⟩
  rw [hc1'] at cw cl ⊢
  rw [hqq]
  obtain ⟨H1, j1, j2⟩ := RowB.set_last (by rw [hn]; exact hr) (hs.right (A := [_])) (by omega) (q + 1)
  rw [hn] at j1 j2
  have M1 := Mv.call (R := [encB eg a cc ct (.slice (some ⟨g, 0, none⟩) n cp)]) (M0.sub (H1 := Hb ++ [encB eg a cc ct (.slice (some ⟨g, 0, none⟩) n cp)]) (fun g => by simp only [cnt_append, cnt_cons, cnt_nil]; omega) (fun c hc => by simp only [List.mem_append, List.mem_cons] at hc ⊢; grind)) j2
  have M2 : Mv w _ _ (encB eg a cc ct (.slice (some ⟨g, 0, none⟩) n cp) :: H1) := M1.sub (fun g => by simp only [cnt_append, cnt_cons, cnt_nil]; omega) (fun c hc => by simp only [List.mem_append, List.mem_cons] at hc ⊢; grind)
  have g1 := M2.cell 0 rfl 1
  have g2 := M2.frozen 0 rfl 1
  have M3 := M2.set 1 (.int .i64 (c1' : Int))
  obtain ⟨q', hq'⟩ : ∃ q', q + 1 = q' := ⟨_, rfl⟩
  rw [hq'] at M1 M2 M3 g1 g2 q1 j1 ⊢
  obtain ⟨b1, hb1⟩ : ∃ b1, b.dropLast ++ [q'] = b1 := ⟨_, rfl⟩
  rw [hb1] at j1 ⊢
  have hn1 : b1.length = n := by rw [← hb1, List.length_append, List.length_dropLast, List.length_singleton]; omega
  have hl1 : b1.getLastD 0 = q' := by rw [← hb1]; simp
  obtain ⟨x, hx⟩ : ∃ x, UInt8.ofNat (c1' / 2 ^ 19) = x := ⟨_, rfl⟩
  have hx8 := shr19 c1'
  have hm := mask19 c1' (by omega)
  rw [hx] at hx8 ⊢
  obtain ⟨kk1, kk2⟩ := j1.at_last (M3.sat.right (A := [_])) hn1 hn0
  rw [hl1] at kk1
  have y0 := M3.cell 0 rfl 3
  have y1 := M3.cell 0 rfl 1
  have K := Lib.hid (And.intro j1 (And.intro M3 hn1))

  obtain ⟨w1, hw1⟩ : ∃ w1, w1 = (w.setCell ⟨g, n - 1, none⟩ (.int .u8 (q'.toNat : Int))).setCell ⟨eg, 1, none⟩ (.int .i64 (c1' : Int)) := ⟨_, rfl⟩
  rw [← hw1] at kk1 kk2 y0 y1 K
  have HW := Lib.hid hw1
  clear hn hr M0 hs hb hl hb0 hq EO j1 j2 M1 M2 M3 hb1 hn1 hl1 hx hqq hq2 hc1' hcc h255 hw1
  have h255' : q' ≠ 255 := fun e => hq3 (by rw [← hq'] at e; have := congrArg (fun x => x - 1) e; simpa using this)
  have q2 := u8_ne255b h255'
  have q3 := u8_ne255 h255'
  clear h255'
  clear hq3 hq'
  go_enter Try.func71, Try.ntmps71
  have Q1 := Lib.hid q1
  have CW := Lib.hid cw
  clear q1 cw
  go_upto_region 2 with fail
  have q1 := Q1.out
  go_upto_region 3 with fail
  clear q1
  have cw := CW.out
  go_upto_region 4 with fail
  clear cw
  rw [← HW.out]
  clear HW c0 c1 k1 k2 f1 g1 g2
  go_upto_region 8 with fail
  have M1' := K.out.2.1.alloc 5 #[.int .u8 (x.toNat : Int)]
  have y7 := M1'.cell 1 rfl 3
  have A1 : Hid (BV (w1.alloc (.cells #[.int .u8 (x.toNat : Int)] 5)).drew (.slice (some ⟨w1.heap.size, 0, none⟩) 1 1) [x]) := Lib.hid (bv_one w1 x _ rfl)
  have K1 := Lib.hid (Mv.behind M1'.drew)
  clear M1'
  go_region_law (first
    | ((with_reducible refine step_appB (o := ⟨some 87, _, _, _, _, _⟩) (v := .slice (some ⟨g, 0, none⟩) n cp) (u := .slice (some ⟨w1.heap.size, 0, none⟩) 1 1) (l := b1) (r := [x]) (H := H1) rfl (.tmp 79) (.tmp 86) rfl ?_ ?_ K.out.1 K1.out.sat.left A1.out ?_ ?_); simp [Act.eval]; simp [Act.eval]; (rw [K.out.2.2]; simp; omega); intro v6 w6 H6 hr6 m6; obtain ⟨a6, c6, rfl⟩ := hr6.slice; have M6 := Mv.second (Mv.call K1.out m6); have y3 := M6.cell 0 rfl 3; have y1 := M6.cell 0 rfl 1; have z3 := M6.frozen 0 rfl 3; have K6 := Lib.hid (And.intro hr6 M6); clear hr6 m6 M6))
  all_goals
    have M7 := K6.out.2.set 3 (.slice a6 (b1.length + 1) c6)
    obtain ⟨w7, hw7⟩ : ∃ w7, w7 = w6.setCell ⟨eg, 3, none⟩ (.slice a6 (b1.length + 1) c6) := ⟨_, rfl⟩
    rw [← hw7] at M7 ⊢
    have e1 := M7.cell 0 rfl 1
    have f1 := M7.frozen 0 rfl 1
    have e2 := M7.cell 0 rfl 2
    have f2 := M7.frozen 0 rfl 2
    have K7 := Lib.hid M7
    clear hw7 M7 y1 y3 z3
    go_wp2_with fail
    have M9 := (K7.out.set 1 (.int .i64 ((c1' % 2 ^ 19 : Nat) : Int))).set 2 (.int .i64 8)
    have h6 := K6.out.1
    simp only [List.length_append, List.length_cons, List.length_nil, Nat.zero_add] at h6
    exact bodyPost_end (results_none rfl _ _ _) rfl ⟨rfl, _, ⟨_, H6, rfl, h6⟩, M9⟩
theorem out_any (eg : Nat) (e : EncM) (w : World) (H : List HB) (h : MqR eg e H) (hs : Sat w H) (hb : e.b ≠ []) (hl : e.b.length ≤ 90000000) (hc : e.c ≤ 1000000000000) :
    Calls Try.prog 71 #[.pointer (some ⟨eg, 0, none⟩)] w fun e0 w' => e0 = .returned (.tuple #[]) ∧ ∃ H', MqR eg (outE e) H' ∧ Mv w H w' H' := by
  by_cases h1 : e.b.getLastD 0 = 255
  · exact out_f eg e w H h hs hb hl hc h1
  · by_cases h2 : e.c < 134217728
    · exact out_n eg e w H h hs hb hl hc h1 h2
    · by_cases h3 : e.b.getLastD 0 = 254
      · exact out_cf eg e w H h hs hb hl hc h3 (by omega)
      · exact out_cn eg e w H h hs hb hl hc h1 h3 (by omega)
end Go.Proofs.Ytnpoakabheeoeaa
