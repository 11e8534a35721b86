/- waveletref4: the arithmetic coder, over heaplets: new, a byte goes out. -/
import Derived.Test.YtnpoakabheeoeaaQa
import Derived.Test.YtnpoakabheeoeaaMqs
import Derived.Test.YtnpoakabheeoeaaMba
import Derived.Deep.RegionLaw
namespace Go.Proofs.Ytnpoakabheeoeaa
open Go.RowKit

theorem wpList_build_to {P : Program} {ops : Array Oper} {rest : List Oper} {o : Oper} {a : Act} {w : World} {Q : Exit → Act → World → Prop} (hg : o.guard = none) (t : TypeId) (parts : Array (Nat × Operand)) (ho : o.op = .build t parts) (cells : Array Value)
    (hf : P.built t (parts.map fun (i, x) => (i, a.eval x)).toList = some cells) (h : wpList P ops Q rest (a.put o.dst (.agg cells)) w) : wpList P ops Q (o :: rest) a w :=
  wpList_build hg t parts ho (by rw [hf]; rfl) (by rw [hf]; exact h)
theorem Mv.behind {w0 w : World} {H0 B : List HB} {x y : HB} (h : Mv w0 H0 w (x :: y :: B)) : Mv w0 H0 w (B ++ [x, y]) :=
  h.sub (fun g => by simp only [cnt_append, cnt_cons, cnt_nil]; omega) (fun c hc => by simp only [List.mem_append, List.mem_cons] at hc ⊢; grind)
theorem Mv.second {w0 w : World} {H0 A : List HB} {x y : HB} (h : Mv w0 H0 w (A ++ [x, y])) : Mv w0 H0 w (y :: A) :=
  h.sub (fun g => by simp only [cnt_append, cnt_cons, cnt_nil]; omega) (fun c hc => by simp only [List.mem_append, List.mem_cons] at hc ⊢; grind)
/-- an encoder in block eg -/
def encB (eg a c ct : Nat) (v : Value) : HB := ⟨eg, 148, #[.int .i64 (a : Int), .int .i64 (c : Int), .int .i64 (ct : Int), v]⟩
def MqR (eg : Nat) (e : EncM) (H : List HB) : Prop := ∃ vb Hb, H = encB eg e.a e.c e.ct vb :: Hb ∧ RowB vb e.b Hb
set_option maxRecDepth 100000 in
theorem new_enc (w : World) : Calls Try.prog 38 #[] w fun e w' => ∃ eg H, e = .returned (.pointer (some ⟨eg, 0, none⟩)) ∧ MqR eg encNew H ∧ Mv w [] w' H := by
  have M := (mv_alloc w 5 #[.int .u8 0]).alloc 148 #[.int .i64 32768, .int .i64 0, .int .i64 12, .slice (some ⟨w.heap.size, 0, none⟩) 1 1]
  rw [World.size_alloc] at M
  have K := Lib.hid M
  clear M
  go_enter Try.func38, Try.ntmps38
  go_wp2_with fail
  go_ret
  exact ⟨_, _, rfl, ⟨_, _, rfl, RowB.lit w.heap.size [0] 1 rfl (by decide)⟩, K.out⟩

theorem u8_of_nat (n : Nat) : (n : Int) % 256 = ((UInt8.ofNat n).toNat : Int) := by
  rw [UInt8.toNat_ofNat']
  omega
theorem byte_shr (c d : Nat) : IntKind.u8.wrap ((c : Int) / (d : Int)) = ((UInt8.ofNat (c / d)).toNat : Int) := by
  rw [IntKind.wrap_u8, ← u8_of_nat, Int.natCast_ediv]
theorem mask_nat (i c : Nat) (hi : i ≤ 63) (hc : c < 9223372036854775808) : bits .and .i64 (c : Int) ((2 : Int) ^ i - 1) = ((c % 2 ^ i : Nat) : Int) := by
  rw [and_mask i hi c (by omega) (by omega)]
  push_cast
  rfl
theorem mask20 (c : Nat) (hc : c < 9223372036854775808) : bits .and .i64 (c : Int) 1048575 = ((c % 2 ^ 20 : Nat) : Int) := mask_nat 20 c (by decide) hc
theorem mask19 (c : Nat) (hc : c < 9223372036854775808) : bits .and .i64 (c : Int) 524287 = ((c % 2 ^ 19 : Nat) : Int) := mask_nat 19 c (by decide) hc
theorem shr20 (c : Nat) : IntKind.u8.wrap ((c : Int) / 1048576) = ((UInt8.ofNat (c / 2 ^ 20)).toNat : Int) := byte_shr c (2 ^ 20)
theorem shr19 (c : Nat) : IntKind.u8.wrap ((c : Int) / 524288) = ((UInt8.ofNat (c / 2 ^ 19)).toNat : Int) := byte_shr c (2 ^ 19)
theorem u8_ne255 {q : UInt8} (h : q ≠ 255) : ¬ ((q.toNat : Int) = 255) := fun e => h (UInt8.toNat_inj.1 (show q.toNat = 255 by omega))
theorem u8_ne255b {q : UInt8} (h : q ≠ 255) : ((q.toNat : Int) == 255) = false := beq_eq_false_iff_ne.2 (u8_ne255 h)
theorem u8_inc (q : UInt8) (h : q ≠ 255) : ((q + 1).toNat : Int) = (q.toNat : Int) + 1 := by
  have h1 : q.toNat ≠ 255 := fun e => h (UInt8.toNat_inj.1 (by rw [e]; rfl))
  have h2 := q.toNat_lt
  rw [UInt8.toNat_add]
  have : (1 : UInt8).toNat = 1 := rfl
  rw [this]
  omega
set_option maxRecDepth 100000 in
set_option maxHeartbeats 2000000 in
theorem out_f (eg : Nat) (e : EncM) (w : World) (H : List HB) (h : MqR eg e H) (hs : Sat w H) (hb : e.b ≠ []) (hl : e.b.length ≤ 90000000) (hc : e.c ≤ 1000000000000) (hq : e.b.getLastD 0 = 255) :
    Calls Try.prog 71 #[.pointer (some ⟨eg, 0, none⟩)] w fun e0 w' => e0 = .returned (.tuple #[]) ∧ ∃ H', MqR eg (outE e) H' ∧ Mv w H w' H' := by
  obtain ⟨a, cc, ct, b⟩ := e
  simp only at hb hl hc hq
  have EO : outE ⟨a, cc, ct, b⟩ = ⟨a, cc % 2 ^ 20, 7, b ++ [UInt8.ofNat (cc / 2 ^ 20)]⟩ := by
    unfold outE carryE putE
    simp only [hq, ne_eq, not_true_eq_false, false_and, if_false, if_true]
  rw [EO]
  obtain ⟨vb, Hb, rfl, hr⟩ := h
  simp only at hr
  have hb0 : 0 < b.length := List.length_pos_iff.2 hb
  obtain ⟨g, cp, rfl, -, -⟩ := hr.last (hs.right (A := [_])) hb0
  have M0 := Mv.refl hs
  obtain ⟨n, hn⟩ : ∃ n, b.length = n := ⟨_, rfl⟩
  have hn0 : 0 < n := by omega
  have hnl : n ≤ 90000000 := by omega
  rw [hn] at hr M0 ⊢
  simp only at M0
  have c0 : w.cell? ⟨eg, 3, none⟩ = some (.slice (some ⟨g, 0, none⟩) n cp) := M0.cell 0 rfl 3
  have c1 : w.cell? ⟨eg, 1, none⟩ = some (.int .i64 (cc : Int)) := M0.cell 0 rfl 1
  obtain ⟨k1, k2⟩ := hr.at_last (hs.right (A := [_])) hn hn0
  have f1 : w.frozen? ⟨eg, 1, none⟩ = false := M0.frozen 0 rfl 1
  have d2 : (n : Int) - 1 = ((n - 1 : Nat) : Int) := by omega
  have d3 : (((n - 1 : Nat) : Int)) < (n : Int) := by omega
  rw [hq] at k1
  obtain ⟨x, hx⟩ : ∃ x, UInt8.ofNat (cc / 2 ^ 20) = x := ⟨_, rfl⟩
  have hx8 := shr20 cc
  have hm := mask20 cc (by omega)
  rw [hx] at hx8 ⊢
  have K := Lib.hid (And.intro hr (And.intro M0 hn))
  clear hn hr M0 hs hb hl hb0 hq EO hx
  go_enter Try.func71, Try.ntmps71
  go_upto_region 5 with fail
  have M1' := K.out.2.1.alloc 5 #[.int .u8 (x.toNat : Int)]
  have y7 := M1'.cell 1 rfl 3
  have A1 : Hid (BV (w.alloc (.cells #[.int .u8 (x.toNat : Int)] 5)).drew (.slice (some ⟨w.heap.size, 0, none⟩) 1 1) [x]) := Lib.hid (bv_one w x _ rfl)
  have K1 := Lib.hid (Mv.behind M1'.drew)
  clear M1'
  go_region_law (first
    | ((with_reducible refine step_appB (o := ⟨some 61, _, _, _, _, _⟩) (v := .slice (some ⟨g, 0, none⟩) n cp) (u := .slice (some ⟨w.heap.size, 0, none⟩) 1 1) (l := b) (r := [x]) (H := Hb) rfl (.tmp 53) (.tmp 60) rfl ?_ ?_ K.out.1 K1.out.sat.left A1.out ?_ ?_); simp [Act.eval]; simp [Act.eval]; (rw [K.out.2.2]; simp; omega); intro v6 w6 H6 hr6 m6; obtain ⟨a6, c6, rfl⟩ := hr6.slice; have M6 := Mv.second (Mv.call K1.out m6); have y3 := M6.cell 0 rfl 3; have y1 := M6.cell 0 rfl 1; have z3 := M6.frozen 0 rfl 3; have K6 := Lib.hid (And.intro hr6 M6); clear hr6 m6 M6))
  all_goals
    have M7 := K6.out.2.set 3 (.slice a6 (b.length + 1) c6)
    obtain ⟨w7, hw7⟩ : ∃ w7, w7 = w6.setCell ⟨eg, 3, none⟩ (.slice a6 (b.length + 1) c6) := ⟨_, rfl⟩
    rw [← hw7] at M7 ⊢
    have e1 := M7.cell 0 rfl 1
    have f1 := M7.frozen 0 rfl 1
    have e2 := M7.cell 0 rfl 2
    have f2 := M7.frozen 0 rfl 2
    have K7 := Lib.hid M7
    clear hw7 M7 y1 y3 z3
    go_wp2_with fail
    have M9 := (K7.out.set 1 (.int .i64 ((cc % 2 ^ 20 : Nat) : Int))).set 2 (.int .i64 7)
    have h6 := K6.out.1
    simp only [List.length_append, List.length_cons, List.length_nil, Nat.zero_add] at h6
    exact bodyPost_ret (results_none rfl _ _ _) rfl ⟨rfl, _, ⟨_, H6, rfl, h6⟩, M9⟩
set_option maxRecDepth 100000 in
set_option maxHeartbeats 2000000 in
theorem out_n (eg : Nat) (e : EncM) (w : World) (H : List HB) (h : MqR eg e H) (hs : Sat w H) (hb : e.b ≠ []) (hl : e.b.length ≤ 90000000) (hc : e.c ≤ 1000000000000) (hq : e.b.getLastD 0 ≠ 255) (hcc : e.c < 134217728) :
    Calls Try.prog 71 #[.pointer (some ⟨eg, 0, none⟩)] w fun e0 w' => e0 = .returned (.tuple #[]) ∧ ∃ H', MqR eg (outE e) H' ∧ Mv w H w' H' := by
  obtain ⟨a, cc, ct, b⟩ := e
  simp only at hb hl hc hq hcc
  have EO : outE ⟨a, cc, ct, b⟩ = ⟨a, cc % 2 ^ 19, 8, b ++ [UInt8.ofNat (cc / 2 ^ 19)]⟩ := by
    have h1 : ¬ (b.getLastD 0 ≠ 255 ∧ 134217728 ≤ cc) := fun k => by omega
    unfold outE carryE putE
    rw [if_neg h1, if_neg hq]
  rw [EO]
  obtain ⟨vb, Hb, rfl, hr⟩ := h
  simp only at hr
  have hb0 : 0 < b.length := List.length_pos_iff.2 hb
  obtain ⟨g, cp, rfl, -, -⟩ := hr.last (hs.right (A := [_])) hb0
  have M0 := Mv.refl hs
  obtain ⟨n, hn⟩ : ∃ n, b.length = n := ⟨_, rfl⟩
  have hn0 : 0 < n := by omega
  have hnl : n ≤ 90000000 := by omega
  rw [hn] at hr M0 ⊢
  simp only at M0
  have c0 : w.cell? ⟨eg, 3, none⟩ = some (.slice (some ⟨g, 0, none⟩) n cp) := M0.cell 0 rfl 3
  have c1 : w.cell? ⟨eg, 1, none⟩ = some (.int .i64 (cc : Int)) := M0.cell 0 rfl 1
  obtain ⟨k1, k2⟩ := hr.at_last (hs.right (A := [_])) hn hn0
  have f1 : w.frozen? ⟨eg, 1, none⟩ = false := M0.frozen 0 rfl 1
  have d2 : (n : Int) - 1 = ((n - 1 : Nat) : Int) := by omega
  have d3 : (((n - 1 : Nat) : Int)) < (n : Int) := by omega
  obtain ⟨q, hqq⟩ : ∃ q, b.getLastD 0 = q := ⟨_, rfl⟩
  rw [hqq] at k1 hq
  have h255 : q ≠ 255 := hq
  have q0 := u8_ne255b h255
  have q9 := u8_ne255 h255
  have d5 : decide ((134217728 : Int) ≤ (cc : Int)) = false := by simp; omega
  obtain ⟨x, hx⟩ : ∃ x, UInt8.ofNat (cc / 2 ^ 19) = x := ⟨_, rfl⟩
  have hx8 := shr19 cc
  have hm := mask19 cc (by omega)
  rw [hx] at hx8 ⊢
  have K := Lib.hid (And.intro hr (And.intro M0 hn))
  clear hn hr M0 hs hb hl hb0 hq EO hx hqq hcc h255
  go_enter Try.func71, Try.ntmps71
  go_upto_region 8 with fail
  have M1' := K.out.2.1.alloc 5 #[.int .u8 (x.toNat : Int)]
  have y7 := M1'.cell 1 rfl 3
  have A1 : Hid (BV (w.alloc (.cells #[.int .u8 (x.toNat : Int)] 5)).drew (.slice (some ⟨w.heap.size, 0, none⟩) 1 1) [x]) := Lib.hid (bv_one w x _ rfl)
  have K1 := Lib.hid (Mv.behind M1'.drew)
  clear M1'
  go_region_law (first
    | ((with_reducible refine step_appB (o := ⟨some 87, _, _, _, _, _⟩) (v := .slice (some ⟨g, 0, none⟩) n cp) (u := .slice (some ⟨w.heap.size, 0, none⟩) 1 1) (l := b) (r := [x]) (H := Hb) rfl (.tmp 79) (.tmp 86) rfl ?_ ?_ K.out.1 K1.out.sat.left A1.out ?_ ?_); simp [Act.eval]; simp [Act.eval]; (rw [K.out.2.2]; simp; omega); intro v6 w6 H6 hr6 m6; obtain ⟨a6, c6, rfl⟩ := hr6.slice; have M6 := Mv.second (Mv.call K1.out m6); have y3 := M6.cell 0 rfl 3; have y1 := M6.cell 0 rfl 1; have z3 := M6.frozen 0 rfl 3; have K6 := Lib.hid (And.intro hr6 M6); clear hr6 m6 M6))
  all_goals
    have M7 := K6.out.2.set 3 (.slice a6 (b.length + 1) c6)
    obtain ⟨w7, hw7⟩ : ∃ w7, w7 = w6.setCell ⟨eg, 3, none⟩ (.slice a6 (b.length + 1) c6) := ⟨_, rfl⟩
    rw [← hw7] at M7 ⊢
    have e1 := M7.cell 0 rfl 1
    have f1 := M7.frozen 0 rfl 1
    have e2 := M7.cell 0 rfl 2
    have f2 := M7.frozen 0 rfl 2
    have K7 := Lib.hid M7
    clear hw7 M7 y1 y3 z3
    go_wp2_with fail
    have M9 := (K7.out.set 1 (.int .i64 ((cc % 2 ^ 19 : Nat) : Int))).set 2 (.int .i64 8)
    have h6 := K6.out.1
    simp only [List.length_append, List.length_cons, List.length_nil, Nat.zero_add] at h6
    exact bodyPost_end (results_none rfl _ _ _) rfl ⟨rfl, _, ⟨_, H6, rfl, h6⟩, M9⟩
end Go.Proofs.Ytnpoakabheeoeaa
