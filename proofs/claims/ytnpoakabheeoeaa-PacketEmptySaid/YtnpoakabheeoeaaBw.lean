/- Bits of packets' heads: the program's writer, over heaplets. -/
import Derived.Test.YtnpoakabheeoeaaSb
import Derived.Test.YtnpoakabheeoeaaBtA
import Derived.Laws.Bits128
import Derived.Laws.BitsAllLaws
import Derived.Deep.RegionHeld
namespace Go.Proofs.Ytnpoakabheeoeaa
open Go.RowKit

theorem i64_and1 (n : Int) : bits .and .i64 n 1 = n % 2 := by
  have h1 : (BitVec.ofInt 64 1).toNat = 2 ^ 1 - 1 := by decide
  have key : (BitVec.ofInt 64 n &&& BitVec.ofInt 64 1).toNat = (n % ((2 ^ 64 : Nat) : Int)).toNat % 2 ^ 1 := by
    rw [BitVec.toNat_and, BitVec.toNat_ofInt, h1, Nat.and_two_pow_sub_one_eq_mod]
  show IntKind.i64.wrap ((BitVec.ofInt 64 n &&& BitVec.ofInt 64 1).toNat : Nat) = n % 2
  rw [key, IntKind.wrap_i64]
  omega
theorem shl_u8 : ∀ k, k < 8 → ((1 : UInt8) <<< UInt8.ofNat k).toNat = 2 ^ k := by decide
theorem byte_bit (x : UInt8) (b : Int) (k : Nat) (hk : k < 8) : bits .or .u8 (x.toNat : Int) (bits .and .i64 b 1 % 256 * 2 ^ k % 256) = ((x ||| (if decide (b % 2 = 1) = true then (1 : UInt8) <<< UInt8.ofNat k else 0)).toNat : Int) := by
  rw [i64_and1]
  have hx := x.toNat_lt
  rcases (show b % 2 = 0 ∨ b % 2 = 1 by omega) with h | h
  · rw [h]
    have := u8_or_nat x.toNat 0 (by omega) (by omega)
    simpa using this
  · rw [h]
    have h2 : (2 : Nat) ^ k < 256 := Nat.pow_lt_pow_right (by decide) hk
    have e : (1 : Int) % 256 * 2 ^ k % 256 = ((2 ^ k : Nat) : Int) := by
      have e0 : (2 : Int) ^ k = ((2 ^ k : Nat) : Int) := by simp
      rw [show (1 : Int) % 256 = 1 from rfl, Int.one_mul, e0]
      exact Int.emod_eq_of_lt (Int.natCast_nonneg _) (by omega)
    rw [e, u8_or_nat x.toNat (2 ^ k) (by omega) h2, if_pos (by simp), UInt8.toNat_or, shl_u8 k hk]

theorem getLast_255 {l : List UInt8} (h : l.getLastD 0 = 255) : (l.getLast? = some 255) = True := by
  rw [List.getLastD_eq_getLast?] at h
  cases hl : l.getLast? with
  | none => rw [hl] at h; simp at h
  | some x => rw [hl] at h; simpa using h
theorem getLast_no255 {l : List UInt8} (h : ¬ l.getLastD 0 = 255) : (l.getLast? = some 255) = False := by
  rw [List.getLastD_eq_getLast?] at h
  simp only [eq_iff_iff, iff_false]
  intro e
  rw [e] at h
  exact h rfl

set_option maxRecDepth 100000 in
theorem last_any (g : Nat) (v : Value) (l : List UInt8) (Hr : List HB) (w : World) (c0 : w.cell? ⟨g, 0, none⟩ = some v) (hr : RowB v l Hr) (hs : Sat w Hr) (hl : l.length ≤ 100000000) :
    Calls Try.prog 59 #[.pointer (some ⟨g, 0, none⟩)] w fun e w' => e = .returned (.int .u8 ((l.getLastD 0).toNat : Int)) ∧ ∃ n, w' = w.drewN n := by
  by_cases h0 : l.length = 0
  · have hl0 : l = [] := List.eq_nil_of_length_eq_zero h0
    subst hl0
    obtain ⟨a, c, rfl⟩ := hr.slice
    have HO := Lib.hid (And.intro hr hs)
    clear hr hs
    go_enter Try.func59, Try.ntmps59
    go_wp2_with fail
    go_ret
    exact ⟨rfl, 0, rfl⟩
  · obtain ⟨g2, c, rfl, hc, -⟩ := hr.last hs (by omega)
    have HO := Lib.hid (And.intro hr hs)
    clear hr hs
    obtain ⟨n, hn⟩ : ∃ n, l.length = n := ⟨_, rfl⟩
    rw [hn] at c0 hc h0 hl
    simp only [hn] at HO
    have d1 : ((n : Int) == 0) = false := by simpa using h0
    have d2 : (n : Int) - 1 = ((n - 1 : Nat) : Int) := by omega
    have d3 : (((n - 1 : Nat) : Int)) < (n : Int) := by omega
    generalize (l.getLastD 0) = lst at *
    go_enter Try.func59, Try.ntmps59
    go_upto_region 4 with fail
    go_region
    all_goals
      go_wp2_with fail
      go_ret
      exact ⟨rfl, 1, rfl⟩

/-- the writer in block wb: its bytes and its room -/
def WrH (wb : Nat) (l : List UInt8) (r : Nat) (H : List HB) : Prop := ∃ v Hr, H = ⟨wb, 130, #[v, .int .i64 (r : Int)]⟩ :: Hr ∧ RowB v l Hr

set_option maxRecDepth 100000 in
theorem put_any (wb : Nat) (l : List UInt8) (r : Nat) (c : UInt8) (w : World) (H : List HB) (h : WrH wb l r H) (hs : Sat w H) (hl : l.length ≤ 90000000) :
    Calls Try.prog 82 #[.pointer (some ⟨wb, 0, none⟩), .int .u8 (c.toNat : Int)] w fun e w' => e = .returned (.tuple #[]) ∧ ∃ H', WrH wb (l ++ [c]) r H' ∧ Mv w H w' H' := by
  obtain ⟨v, Hr, rfl, hr⟩ := h
  obtain ⟨va, vc, rfl⟩ := hr.slice
  have c0 : w.cell? ⟨wb, 0, none⟩ = some (.slice va l.length vc) := (hs.at_ 0 rfl).cell 0
  have M0 := (Mv.refl hs).alloc 5 #[.int .u8 (c.toNat : Int)]
  have H0 := Lib.hid (And.intro hr M0)
  clear hr hs M0
  go_enter Try.func82, Try.ntmps82
  go_wp2_with (at_builtin; refine wpList_appB rfl (.tmp 8) (.tmp 10) rfl _ _ l [c] Hr rfl rfl H0.out.1 ((H0.out.2.sat.right (A := [_, _]))) (bv_one w c _ rfl) (by simp; omega) ?_; intro v8 w8 H8 hr8 m8; obtain ⟨a8, c8, rfl⟩ := hr8.slice; have M8 := Mv.call (Mv.mv1 (A := [_, _]) (B := Hr) (R := []) (by simpa using H0.out.2)) m8; have y0 := (M8.mv1 (A := H8) (B := [_, _]) (R := [])).cell 1 rfl 0; have yf := (M8.mv1 (A := H8) (B := [_, _]) (R := [])).frozen 1 rfl 0; have K8 := Lib.hid (And.intro hr8 M8); clear hr8 M8 m8; rw [List.length_append, List.length_cons, List.length_nil, Nat.zero_add] at *)
  go_end0
  obtain ⟨hr8, M8⟩ := K8.out
  have M9 := ((M8.mv1 (A := H8) (B := [_, _]) (R := [])).drop1.set 0 (.slice a8 (l.length + 1) c8))
  refine ⟨rfl, _, ⟨_, H8, rfl, ?_⟩, by simpa using M9⟩
  simpa using hr8

set_option maxRecDepth 100000 in
set_option maxHeartbeats 2000000 in
theorem bit_wr (wb : Nat) (l : List UInt8) (r : Nat) (b : Int) (w : World) (H : List HB) (h : WrH wb l r H) (hs : Sat w H) (hl : l.length ≤ 80000000) (hr8 : r ≤ 8) (h1 : r ≠ 0 → l ≠ []) :
    Calls Try.prog 58 #[.pointer (some ⟨wb, 0, none⟩), .int .i64 b] w fun e w' => e = .returned (.tuple #[]) ∧ ∃ H', WrH wb (wbit (l, r) (decide (b % 2 = 1))).1 (wbit (l, r) (decide (b % 2 = 1))).2 H' ∧ Mv w H w' H' := by
  by_cases h0 : r = 0
  case neg =>
    obtain ⟨v, Hr, rfl, hr⟩ := h
    have hl0 : 0 < l.length := List.length_pos_iff.2 (h1 h0)
    have hr1 : 1 ≤ r := by omega
    obtain ⟨g, c, rfl, -, -⟩ := hr.last (hs.right (A := [_])) hl0
    have M0 := Mv.refl hs
    obtain ⟨n, hn⟩ : ∃ n, l.length = n := ⟨_, rfl⟩
    have hn0 : 0 < n := by omega
    have hnl : n ≤ 80000000 := by omega
    rw [hn] at hr M0 ⊢
    clear hs hl hl0 h1
    have c0 : w.cell? ⟨wb, 0, none⟩ = some (.slice (some ⟨g, 0, none⟩) n c) := M0.cell 0 rfl 0
    have c1 : w.cell? ⟨wb, 1, none⟩ = some (.int .i64 (r : Int)) := M0.cell 0 rfl 1
    have f1 : w.frozen? ⟨wb, 1, none⟩ = false := M0.frozen 0 rfl 1
    have d1 : IntKind.i64.wrap ((r : Int) - 1) = ((r - 1 : Nat) : Int) := by rw [IntWalk.i64_in _ (by omega)]; omega
    have d2 : (n : Int) - 1 = ((n - 1 : Nat) : Int) := by omega
    have d3 : (((n - 1 : Nat) : Int)) < (n : Int) := by omega
    obtain ⟨lst, hlst⟩ : ∃ x, (l).getLastD 0 = x := ⟨_, rfl⟩
    have M2 := M0.set 1 (.int .i64 ((r - 1 : Nat) : Int))
    obtain ⟨k1, k2⟩ := hr.at_last (M2.sat.right (A := [_])) hn hn0
    rw [hlst] at k1
    have K := Lib.hid (And.intro hr (And.intro M2 (And.intro hn hlst)))
    clear hn hlst hr M2 M0
    have d0 : ((r : Int) == 0) = false := by simpa using h0
    go_enter Try.func58, Try.ntmps58
    go_upto_region 6 with fail
    obtain ⟨w2, hw2⟩ : ∃ w2, w2 = w.setCell ⟨wb, 1, none⟩ (.int .i64 ((r - 1 : Nat) : Int)) := ⟨_, rfl⟩
    obtain ⟨hr, M2, hn, hlst⟩ := K.out
    rw [← hw2] at M2 k1 k2
    have e0 : w2.cell? ⟨wb, 0, none⟩ = some (.slice (some ⟨g, 0, none⟩) n c) := M2.cell 0 rfl 0
    have e1 : w2.cell? ⟨wb, 1, none⟩ = some (.int .i64 ((r - 1 : Nat) : Int)) := M2.cell 0 rfl 1
    simp only [← hw2]
    have K2 := Lib.hid (And.intro hr (And.intro M2 (And.intro hn hlst)))
    clear K c0 c1 f1 hw2 d1 hr M2 hn hlst
    go_region
    all_goals
      go_wp2_with fail
      go_end0
      obtain ⟨hr, M2, hn, hlst⟩ := K2.out
      rw [byte_bit lst b (r - 1) (by omega)]
      obtain ⟨H', j1, j2⟩ := RowB.set_last (by rw [hn]; exact hr) (M2.sat.right (A := [_])) (by omega) (lst ||| (if decide (b % 2 = 1) = true then (1 : UInt8) <<< UInt8.ofNat (r - 1) else 0))
      rw [hn] at j1 j2
      have M3 := Mv.call (Mv.mv1 (A := [_]) (B := Hr) (R := []) (by simpa using M2)) j2
      have M4 := (Mv.mv1 (A := H') (B := [_]) (R := []) M3).drew
      have e : wbit (l, r) (decide (b % 2 = 1)) = ((l).dropLast ++ [lst ||| (if decide (b % 2 = 1) = true then (1 : UInt8) <<< UInt8.ofNat (r - 1) else 0)], r - 1) := by
        simp only [wbit, h0, if_false, hlst]
      rw [e]
      refine ⟨rfl, _, ⟨_, H', rfl, j1⟩, ?_⟩
      simpa using M4
  case pos =>
    subst h0
    have HH := Lib.hid (And.intro h hs)
    obtain ⟨v, Hr, rfl, hr⟩ := h
    obtain ⟨va, vc, rfl⟩ := hr.slice
    have M1 := (Mv.refl hs).set 1 (.int .i64 8)
    have c1 : w.cell? ⟨wb, 1, none⟩ = some (.int .i64 0) := (hs.at_ 0 rfl).cell 1
    have f1 : w.frozen? ⟨wb, 1, none⟩ = false := (hs.at_ 0 rfl).frozen 1
    obtain ⟨w1, hw1⟩ : ∃ w1, w1 = w.setCell ⟨wb, 1, none⟩ (.int .i64 8) := ⟨_, rfl⟩
    rw [← hw1] at M1
    have LA := Lib.hid (last_any wb _ l Hr w1 (M1.cell 0 rfl 0) hr (M1.sat.right (A := [_])) (by omega))
    have K1 := Lib.hid (And.intro hr M1)
    clear hr hs M1
    go_enter Try.func58, Try.ntmps58
    go_upto_region 2 with fail
    simp only [← hw1]
    clear hw1 HH c1 f1
    have PU : Hid (∀ (r : Nat) (w : World) (H : List HB), WrH wb l r H → Sat w H → Calls Try.prog 82 #[.pointer (some ⟨wb, 0, none⟩), .int .u8 0] w fun e w' => e = .returned (.tuple #[]) ∧ ∃ H', WrH wb (l ++ [0]) r H' ∧ Mv w H w' H') := Lib.hid (fun r w H h hs => put_any wb l r 0 w H h hs (by omega))
    obtain ⟨q, hq⟩ : ∃ q, l.getLastD 0 = q := ⟨_, rfl⟩
    rw [hq] at LA
    have HQ := Lib.hid hq
    clear hq
    by_cases h255 : q = 255
    case' pos => have d0 : ((q.toNat : Int) == 255) = true := by rw [h255]; rfl
    case' neg => have d0 : ((q.toNat : Int) == 255) = false := by
                  have : q.toNat ≠ 255 := fun e => h255 (UInt8.toNat_inj.1 (by rw [e]; rfl))
                  exact beq_eq_false_iff_ne.2 (by omega)
    case pos =>
      go_upto_region 4 with (go_at_call 59; refine LA.out.mono ?_; rintro e w' ⟨rfl, k, rfl⟩; have f1 : (w1.drewN k).frozen? ⟨wb, 1, none⟩ = false := (K1.out.2.drewN k).frozen 0 rfl 1; have c1 : (w1.drewN k).cell? ⟨wb, 1, none⟩ = some (.int .i64 8) := (K1.out.2.drewN k).cell 0 rfl 1)
      obtain ⟨w2, hw2⟩ : ∃ w2, w2 = (w1.drewN k).setCell ⟨wb, 1, none⟩ (.int .i64 7) := ⟨_, rfl⟩
      simp only [← hw2]
      have M2 := (K1.out.2.drewN k).set 1 (.int .i64 7)
      rw [← hw2] at M2
      have K2 : Hid (RowB (.slice va l.length vc) l Hr ∧ Mv w _ w2 (⟨wb, 130, #[.slice va l.length vc, .int .i64 ((7 : Nat) : Int)]⟩ :: Hr)) := Lib.hid (And.intro K1.out.1 M2)
      clear hw2 c1 f1 M2 LA
      go_upto_region 5 with (go_at_call 82; refine (PU.out 7 w2 _ ⟨_, _, rfl, K2.out.1⟩ K2.out.2.sat).mono ?_; rintro e w3 ⟨rfl, H3, h3, m3⟩; have K3 := Lib.hid (And.intro h3 (K2.out.2.trans m3)); clear h3 m3 K2 K1)
      obtain ⟨h3, M3⟩ := K3.out
      clear K3
      obtain ⟨v3, Hr, rfl, hr⟩ := h3
      have hl0 : 0 < (l ++ [0]).length := by simp
      obtain ⟨g, c, rfl, -, -⟩ := hr.last (M3.sat.right (A := [_])) hl0
      obtain ⟨n, hn⟩ : ∃ n, (l ++ [0]).length = n := ⟨_, rfl⟩
      have hn0 : 0 < n := by omega
      have hnl : n ≤ 80000001 := by have : (l ++ [0]).length = l.length + 1 := by simp
                                    omega
      rw [hn] at hr M3
      have hr1 : 1 ≤ 7 := by omega
      have c0 : w3.cell? ⟨wb, 0, none⟩ = some (.slice (some ⟨g, 0, none⟩) n c) := M3.cell 0 rfl 0
      have c1 : w3.cell? ⟨wb, 1, none⟩ = some (.int .i64 (7 : Int)) := M3.cell 0 rfl 1
      have f1 : w3.frozen? ⟨wb, 1, none⟩ = false := M3.frozen 0 rfl 1
      have d1 : IntKind.i64.wrap ((7 : Int) - 1) = 6 := by rw [IntWalk.i64_in _ (by omega)]; omega
      have d2 : (n : Int) - 1 = ((n - 1 : Nat) : Int) := by omega
      have d3 : (((n - 1 : Nat) : Int)) < (n : Int) := by omega
      obtain ⟨lst, hlst⟩ : ∃ x, ((l ++ [0])).getLastD 0 = x := ⟨_, rfl⟩
      have M2 := M3.set 1 (.int .i64 6)
      obtain ⟨k1, k2⟩ := hr.at_last (M2.sat.right (A := [_])) hn hn0
      rw [hlst] at k1
      have K := Lib.hid (And.intro hr (And.intro M2 (And.intro hn hlst)))
      clear hn hlst hr M2 M3
      go_upto_region 6 with fail
      obtain ⟨w2, hw2⟩ : ∃ w2, w2 = w3.setCell ⟨wb, 1, none⟩ (.int .i64 6) := ⟨_, rfl⟩
      obtain ⟨hr, M2, hn, hlst⟩ := K.out
      rw [← hw2] at M2 k1 k2
      have e0 : w2.cell? ⟨wb, 0, none⟩ = some (.slice (some ⟨g, 0, none⟩) n c) := M2.cell 0 rfl 0
      have e1 : w2.cell? ⟨wb, 1, none⟩ = some (.int .i64 6) := M2.cell 0 rfl 1
      simp only [← hw2]
      have K2 := Lib.hid (And.intro hr (And.intro M2 (And.intro hn hlst)))
      clear K c0 c1 f1 hw2 d1 hr M2 hn hlst
      go_region
      all_goals
        go_wp2_with fail
        go_end0
        obtain ⟨hr, M2, hn, hlst⟩ := K2.out
        have bb := byte_bit lst b 6 (by decide)
        rw [show (2 : Int) ^ 6 = 64 from by decide] at bb
        rw [bb]
        obtain ⟨H', j1, j2⟩ := RowB.set_last (by rw [hn]; exact hr) (M2.sat.right (A := [_])) (by omega) (lst ||| (if decide (b % 2 = 1) = true then (1 : UInt8) <<< UInt8.ofNat 6 else 0))
        rw [hn] at j1 j2
        have M3 := Mv.call (Mv.mv1 (A := [_]) (B := Hr) (R := []) (by simpa using M2)) j2
        have M4 := (Mv.mv1 (A := H') (B := [_]) (R := []) M3).drew
        have e : wbit (l, 0) (decide (b % 2 = 1)) = (((l ++ [0])).dropLast ++ [lst ||| (if decide (b % 2 = 1) = true then (1 : UInt8) <<< UInt8.ofNat 6 else 0)], 6) := by
          simp only [wbit, if_true, getLast_255 (HQ.out.trans h255), hlst]
        rw [e]
        refine ⟨rfl, _, ⟨_, H', rfl, j1⟩, ?_⟩
        simpa using M4
    case neg =>
      go_upto_region 4 with (go_at_call 59; refine LA.out.mono ?_; rintro e w' ⟨rfl, k, rfl⟩)
      have M2 := (K1.out.2.drewN k)
      have K2 : Hid (RowB (.slice va l.length vc) l Hr ∧ Mv w _ (w1.drewN k) (⟨wb, 130, #[.slice va l.length vc, .int .i64 ((8 : Nat) : Int)]⟩ :: Hr)) := Lib.hid (And.intro K1.out.1 M2)
      clear M2 LA
      go_upto_region 5 with (go_at_call 82; refine (PU.out 8 (w1.drewN k) _ ⟨_, _, rfl, K2.out.1⟩ K2.out.2.sat).mono ?_; rintro e w3 ⟨rfl, H3, h3, m3⟩; have K3 := Lib.hid (And.intro h3 (K2.out.2.trans m3)); clear h3 m3 K2 K1)
      obtain ⟨h3, M3⟩ := K3.out
      clear K3
      obtain ⟨v3, Hr, rfl, hr⟩ := h3
      have hl0 : 0 < (l ++ [0]).length := by simp
      obtain ⟨g, c, rfl, -, -⟩ := hr.last (M3.sat.right (A := [_])) hl0
      obtain ⟨n, hn⟩ : ∃ n, (l ++ [0]).length = n := ⟨_, rfl⟩
      have hn0 : 0 < n := by omega
      have hnl : n ≤ 80000001 := by have : (l ++ [0]).length = l.length + 1 := by simp
                                    omega
      rw [hn] at hr M3
      have hr1 : 1 ≤ 8 := by omega
      have c0 : w3.cell? ⟨wb, 0, none⟩ = some (.slice (some ⟨g, 0, none⟩) n c) := M3.cell 0 rfl 0
      have c1 : w3.cell? ⟨wb, 1, none⟩ = some (.int .i64 (8 : Int)) := M3.cell 0 rfl 1
      have f1 : w3.frozen? ⟨wb, 1, none⟩ = false := M3.frozen 0 rfl 1
      have d1 : IntKind.i64.wrap ((8 : Int) - 1) = 7 := by rw [IntWalk.i64_in _ (by omega)]; omega
      have d2 : (n : Int) - 1 = ((n - 1 : Nat) : Int) := by omega
      have d3 : (((n - 1 : Nat) : Int)) < (n : Int) := by omega
      obtain ⟨lst, hlst⟩ : ∃ x, ((l ++ [0])).getLastD 0 = x := ⟨_, rfl⟩
      have M2 := M3.set 1 (.int .i64 7)
      obtain ⟨k1, k2⟩ := hr.at_last (M2.sat.right (A := [_])) hn hn0
      rw [hlst] at k1
      have K := Lib.hid (And.intro hr (And.intro M2 (And.intro hn hlst)))
      clear hn hlst hr M2 M3
      go_upto_region 6 with fail
      obtain ⟨w2, hw2⟩ : ∃ w2, w2 = w3.setCell ⟨wb, 1, none⟩ (.int .i64 7) := ⟨_, rfl⟩
      obtain ⟨hr, M2, hn, hlst⟩ := K.out
      rw [← hw2] at M2 k1 k2
      have e0 : w2.cell? ⟨wb, 0, none⟩ = some (.slice (some ⟨g, 0, none⟩) n c) := M2.cell 0 rfl 0
      have e1 : w2.cell? ⟨wb, 1, none⟩ = some (.int .i64 7) := M2.cell 0 rfl 1
      simp only [← hw2]
      have K2 := Lib.hid (And.intro hr (And.intro M2 (And.intro hn hlst)))
      clear K c0 c1 f1 hw2 d1 hr M2 hn hlst
      go_region
      all_goals
        go_wp2_with fail
        go_end0
        obtain ⟨hr, M2, hn, hlst⟩ := K2.out
        have bb := byte_bit lst b 7 (by decide)
        rw [show (2 : Int) ^ 7 = 128 from by decide] at bb
        rw [bb]
        obtain ⟨H', j1, j2⟩ := RowB.set_last (by rw [hn]; exact hr) (M2.sat.right (A := [_])) (by omega) (lst ||| (if decide (b % 2 = 1) = true then (1 : UInt8) <<< UInt8.ofNat 7 else 0))
        rw [hn] at j1 j2
        have M3 := Mv.call (Mv.mv1 (A := [_]) (B := Hr) (R := []) (by simpa using M2)) j2
        have M4 := (Mv.mv1 (A := H') (B := [_]) (R := []) M3).drew
        have e : wbit (l, 0) (decide (b % 2 = 1)) = (((l ++ [0])).dropLast ++ [lst ||| (if decide (b % 2 = 1) = true then (1 : UInt8) <<< UInt8.ofNat 7 else 0)], 7) := by
          simp only [wbit, if_true, getLast_no255 (fun e => h255 (HQ.out.symm.trans e)), if_false, hlst]
        rw [e]
        refine ⟨rfl, _, ⟨_, H', rfl, j1⟩, ?_⟩
        simpa using M4

end Go.Proofs.Ytnpoakabheeoeaa
