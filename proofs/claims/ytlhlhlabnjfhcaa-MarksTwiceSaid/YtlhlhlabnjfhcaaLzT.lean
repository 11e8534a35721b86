/- MarksTwice: the law's walk. -/
import Derived.Test.YtlhlhlabnjfhcaaLwA
import Derived.Test.YtlhlhlabnjfhcaaHdC
import Derived.Test.YtlhlhlabnjfhcaaLzU
import Derived.OwnWalk
import Derived.Deep.AppendLies
namespace Go.Proofs.Ytlhlhlabnjfhcaa
open Go.RowKit Go.Maps

theorem BV.of_owns' {w : World} {base : Nat} {v : Value} {n : Nat} {l : List UInt8} (h : w.ownsRow base 5 1 v n (cellsB l)) (hl : l.length = n) : BV w v l := by
  subst hl
  exact BV.of_owns h
def seven (w : World) (T U : TypeId) (a0 a1 a2 a3 a4 a5 a6 : Array Value) : World :=
  ((((((w.alloc (.cells a0 T)).alloc (.cells a1 T)).alloc (.cells a2 T)).alloc (.cells a3 T)).alloc (.cells a4 T)).alloc (.cells a5 T)).alloc (.cells a6 U)
theorem Blk.at_ (w : World) (T : TypeId) (a : Array Value) (g : Nat) (h : w.heap.size = g) : Blk (w.alloc (.cells a T)) g T a := by
  subst h
  exact Blk.new _ _ _
theorem seven_blk (w : World) (T U : TypeId) (a0 a1 a2 a3 a4 a5 a6 : Array Value) :
    Blk (seven w T U a0 a1 a2 a3 a4 a5 a6) w.heap.size T a0 ∧ Blk (seven w T U a0 a1 a2 a3 a4 a5 a6) (w.heap.size + 1) T a1 ∧ Blk (seven w T U a0 a1 a2 a3 a4 a5 a6) (w.heap.size + 1 + 1) T a2 ∧ Blk (seven w T U a0 a1 a2 a3 a4 a5 a6) (w.heap.size + 1 + 1 + 1) T a3 ∧ Blk (seven w T U a0 a1 a2 a3 a4 a5 a6) (w.heap.size + 1 + 1 + 1 + 1) T a4 ∧ Blk (seven w T U a0 a1 a2 a3 a4 a5 a6) (w.heap.size + 1 + 1 + 1 + 1 + 1) T a5 ∧ Blk (seven w T U a0 a1 a2 a3 a4 a5 a6) (w.heap.size + 1 + 1 + 1 + 1 + 1 + 1) U a6 ∧ Below w.heap.size w (seven w T U a0 a1 a2 a3 a4 a5 a6) := by
  unfold seven
  refine ⟨((((((Blk.new _ _ _).alloc _).alloc _).alloc _).alloc _).alloc _).alloc _, (((((Blk.at_ _ _ _ _ (by simp)).alloc _).alloc _).alloc _).alloc _).alloc _, ((((Blk.at_ _ _ _ _ (by simp)).alloc _).alloc _).alloc _).alloc _, (((Blk.at_ _ _ _ _ (by simp)).alloc _).alloc _).alloc _, ((Blk.at_ _ _ _ _ (by simp)).alloc _).alloc _, (Blk.at_ _ _ _ _ (by simp)).alloc _, Blk.at_ _ _ _ _ (by simp), ?_⟩
  exact (((((((Below.refl _ _).alloc (Nat.le_refl _) _).alloc (by simp) _).alloc (by simp; omega) _).alloc (by simp; omega) _).alloc (by simp; omega) _).alloc (by simp; omega) _).alloc (by simp; omega) _
theorem sameCs_bare (m : ImgD) : SameCs (bareM m).cs m.cs := by
  refine ⟨List.length_map _, fun k c d h1 h2 => ?_⟩
  have h1' : (m.cs.map CompD.bare)[k]? = some c := h1
  rw [List.getElem?_map, h2] at h1'
  simp only [Option.map_some, Option.some.injEq] at h1'
  subst h1'
  simp [sameC, CompD.bare]
/-- the parts of MarksTwice -/
def partsOf (S C Q : List UInt8) : Nat → List (List UInt8)
  | 0 => [S, Q, C]
  | 1 => [S, C]
  | 2 => [S, Q]
  | 3 => [S, C, Q, C]
  | 4 => [S, Q, C, Q]
  | _ => [S]
theorem parts_twice {m : ImgD} {p : ParD} {M : List UInt8} {n lv cod qcd N : Nat} (hM : mainM m p [] = M) (hc : CodFit p) (hn : m.cs.length = n) (hlv : p.lv = (lv : Int)) (h1 : 42 + 3 * n = cod) (h2 : cod + 15 + lv = qcd) (hN : M.length = N) :
    (M.drop 0).take (cod - 0) = frontM m p ∧ (M.drop cod).take (qcd - cod) = segB 65362 (codM p) ∧ (M.drop qcd).take (N - qcd) = segB 65372 (qcdM m p) := by
  have e := mainM_front m p []
  rw [List.append_nil, hM, List.append_nil] at e
  have l1 : (frontM m p).length = cod := by rw [frontM_length, hn, h1]
  have l2 : (segB 65362 (codM p)).length = qcd - cod := by rw [segB_length, codM_length p hc.1.1]; omega
  have l3 : (frontM m p ++ segB 65362 (codM p)).length = qcd := by rw [List.length_append, l1, l2]; omega
  refine ⟨?_, ?_, ?_⟩
  · rw [e, List.drop_zero, Nat.sub_zero]
    exact take_app _ _ _ l1
  · rw [e, drop_app _ _ _ l1]
    exact take_app _ _ _ l2
  · rw [e, ← List.append_assoc, drop_app _ _ _ l3]
    have l4 : (segB 65372 (qcdM m p)).length = N - qcd := by
      rw [← hN, e, ← List.append_assoc, List.length_append, l3]
      omega
    rw [← l4, List.take_length]

set_option maxRecDepth 100000 in
set_option maxHeartbeats 4000000 in
theorem twice_law (f : FormD) (ns : Value) (nl : List Int) (q : Int) (w : World) (hn : RdI w ns nl) :
    Calls Try.prog 10 #[.agg (formA f ns), .int .i64 q] w fun e w' => e = .returned (.bool true) ∧ Below w.heap.size w w' := by
  have HN := Lib.hid hn
  obtain ⟨na, nc, rfl, -⟩ := hn
  have KN := Lib.hid known_any
  have WI := Lib.hid fun W => lwithin q 6 W (by decide) (by decide)
  obtain ⟨t, ht⟩ := Int.eq_ofNat_of_zero_le (Int.emod_nonneg q (show (6 : Int) ≠ 0 by decide))
  have ht2 := Int.emod_lt_of_pos q (show (0 : Int) < 6 by decide)
  rw [ht] at WI ht2
  have ht3 : t < 6 := by omega
  clear ht ht2
  unfold formA
  go_enter Try.func10, Try.ntmps10
  go_upto_region 1 with fail
  obtain ⟨wA, hwA⟩ : ∃ wA, wA = w.alloc (.cells (formA f (.slice na nl.length nc)) 24) := ⟨_, rfl⟩
  have hh : Blk wA w.heap.size 24 (formA f (.slice na nl.length nc)) := by rw [hwA]; exact Blk.new _ _ _
  have hBA : Below w.heap.size w wA := by rw [hwA]; exact (Below.refl _ _).alloc (Nat.le_refl _) _
  have hsA : w.heap.size < wA.heap.size := by rw [hwA]; simp
  unfold formA at hwA
  simp only [← hwA]
  clear hwA
  have HH := Lib.hid (And.intro hh hBA)
  clear hh hBA
  go_upto_region 3 with (go_at_call 11; refine (KN.out _).mono ?_; rintro e w1 ⟨rfl, hB1⟩)
  have hh1 := HH.out.1.below hB1 hsA
  have hw1 := HH.out.2.trans (hB1.mono HH.out.2.size)
  have HG : Hid (w1.heap[w.heap.size]? = some (.cells (formA f (.slice na nl.length nc)) 24 (0, 0))) := hh1
  have HD := Lib.hid (head_any1 f (.slice na nl.length nc) nl (.slice none 0 0) w1 (HN.out.keep hw1) ⟨_, _, _, rfl⟩)
  have HW1 := Lib.hid hw1
  clear hh1 hw1 hB1 HH hsA KN HN
  go_step
  refine wpList_load_row rfl 24 (.tmp 2) rfl w.heap.size rfl 24 (formA f (.slice na nl.length nc)) (0, 0) _ HG.out Try.underlying24 rfl (by kernel_rfl) ?_
  go_upto_region 4 with (go_at_call 12; refine HD.out.mono ?_; rintro e w2 ⟨m, p, va, vc, A, hA, hE, rfl, hco, hok, hb2⟩; have hA1 := hA.1; have hst := store_head hA; have HHD := Lib.hid (And.intro hA (And.intro hE (And.intro hco (And.intro hok hb2)))); clear hA hE hco hok hb2)
  obtain ⟨hA, hE, hco, hok, hb2⟩ := HHD.out
  obtain ⟨w3, hw3⟩ : ∃ w3, w3 = newHead w2 A := ⟨_, rfl⟩
  have hb3 : Blk w3 w2.heap.size 33 A := by rw [hw3]; exact newHead_blk w2 hA
  have hb23 : Below w2.heap.size w2 w3 := by rw [hw3]; exact newHead_below w2 A
  have hco3 := hco.keep hb23
  have hW3 := HW1.out.trans ((hb2.trans (hb23.mono hb2.size)).mono HW1.out.size)
  simp only [← hw3]
  clear hw3
  have HG3 : Hid (w3.heap[w2.heap.size]? = some (.cells A 33 (0, 0))) := hb3
  have MA := main_any m (.slice va m.cs.length vc) p (.slice none 0 0) [] w3 (CompsRd.of_owns hco3) (BV.nil _) (by decide) (frame_ok hok) hok.n4 (depth_ok hok) hok.par
  rw [hE] at MA
  have HM := Lib.hid MA
  have HB3 := Lib.hid hb3
  have HW3 := Lib.hid hW3
  have HML := Lib.hid (main_small hok [] (by decide))
  have HOK := Lib.hid (And.intro hok hco3)
  have HEE := Lib.hid hE
  have sg := hb3.lt
  clear hA hco hb2 hb3 hb23 hco3 hW3 MA HHD hst HW1 HG HD
  go_step
  refine wpList_load_row rfl 33 (.tmp 5) rfl w2.heap.size rfl 33 A (0, 0) _ HG3.out Try.underlying33 rfl (by rw [hA1]; kernel_rfl) ?_
  go_upto_region 5 with (go_at_call 18; go_loud (refine HM.out.mono ?_; rintro e w4 ⟨v4, rfl, ho4, hb4⟩; obtain ⟨M, hM⟩ : ∃ M, mainM m p [] = M := ⟨_, rfl⟩; rw [hM] at ho4; have HMM := Lib.hid hM; clear hM; obtain ⟨N, hN⟩ : ∃ N, M.length = N := ⟨_, rfl⟩; rw [hN] at ho4; have HN := Lib.hid hN; clear hN; have hnp : 0 < N := (by rw [← HN.out, ← HMM.out]; exact (List.getElem?_eq_some_iff.1 (mainM_head m p []).1).1); obtain ⟨g4, c4, rfl, hg4, -⟩ := ho4.form hnp))
  have hb4' := HB3.out.below hb4 sg
  have hW4 := HW3.out.trans (hb4.mono HW3.out.size)
  rw [← hE] at hb4'
  have cc4 : w4.cell? ⟨w2.heap.size, 4, none⟩ = some (.slice va m.cs.length vc) := hb4'.cell 4
  have c7 : w4.cell? ⟨w2.heap.size, 7, none⟩ = some (.int .i64 p.lv) := hb4'.cell 7
  obtain ⟨lv, hlv⟩ : ∃ lv : Nat, p.lv = lv := Int.eq_ofNat_of_zero_le HOK.out.1.par.fit.1.1
  rw [hlv] at c7
  have hlv2 := HOK.out.1.par.fit.1.2
  rw [hlv] at hlv2
  obtain ⟨n, hn⟩ : ∃ n, m.cs.length = n := ⟨_, rfl⟩
  rw [hn] at cc4
  have hn4 := HOK.out.1.n4
  rw [hn] at hn4
  have HNN := Lib.hid (And.intro hn hlv)
  have HO4 := Lib.hid ho4
  have HW4 := Lib.hid hW4
  have HB4 := Lib.hid hb4
  clear hb4' hW4 ho4 hb4 hn hlv HM HW3 hE hok hA1 HG3
  go_upto_region 7 with fail
  have hN : N = 42 + 3 * n + 15 + lv + (4 + (2 + 3 * lv)) := by
    have h1 := mainM_front m p []
    rw [List.append_nil, HMM.out, List.append_nil] at h1
    rw [← HN.out, h1]
    have h2 := HOK.out.1.par.fit
    have h3 : p.lv.toNat = lv := by rw [HNN.out.2]; simp
    simp only [List.length_append, frontM_length, segB_length, codM_length p h2.1.1, qcdM_length, HNN.out.1, h3]
    omega
  have e9 : 42 + 3 * (n : Int) = ((42 + 3 * n : Nat) : Int) := by simp
  simp only [e9]
  obtain ⟨cod, hcod⟩ : ∃ cod : Nat, 42 + 3 * n = cod := ⟨_, rfl⟩
  rw [hcod] at hN
  simp only [hcod]
  have e10 : (cod : Int) + 15 + (lv : Int) = ((cod + 15 + lv : Nat) : Int) := by simp
  simp only [e10]
  obtain ⟨qcd, hqcd⟩ : ∃ qcd : Nat, cod + 15 + lv = qcd := ⟨_, rfl⟩
  rw [hqcd] at hN
  simp only [hqcd]
  have hq1 : cod + 15 ≤ qcd := by omega
  have hq2 : qcd + 6 ≤ N := by omega
  have hq3 : N ≤ c4 := (slice_cap HO4.out).1
  have HCQ := Lib.hid (And.intro hcod (And.intro hqcd hN))
  clear e9 e10 hcod hqcd c7 cc4 hlv2 hN
  have z1 : (cod : Int) ≤ (c4 : Int) := by omega
  have z2 : (cod : Int) ≤ (qcd : Int) := by omega
  have z3 : (qcd : Int) ≤ (c4 : Int) := by omega
  have z4 : (qcd : Int) ≤ (N : Int) := by omega
  have z5 : (N : Int) ≤ (c4 : Int) := by omega
  have z6 : (cod : Int) ≤ (N : Int) := by omega
  have x1 : (c4 = cod) = False := by simp; omega
  have x2 : (c4 = qcd) = False := by simp; omega
  have x3 : ((qcd : Int) - (cod : Int)).toNat = qcd - cod := by omega
  have x4 : ((N : Int) - (qcd : Int)).toNat = N - qcd := by omega
  go_region
  obtain ⟨w5, hw5⟩ : ∃ w5, w5 = (w4.alloc (.cells #[.int .u8 255, .int .u8 144] 5)).drew := ⟨_, rfl⟩
  have hb45 : Below w4.heap.size w4 w5 := by rw [hw5]; exact ((Below.refl _ _).alloc (Nat.le_refl _) _).drew
  have hE5 : BV w5 (.slice (some ⟨w4.heap.size, 0, none⟩) 2 2) [255, 144] := by rw [hw5]; exact BV.two w4 255 144 _ rfl
  have hbm : BV w5 (.slice (some ⟨g4, 0, none⟩) N c4) M := (BV.of_owns' HO4.out HN.out).keep hb45
  have hS5 := hbm.mid 0 cod (by omega) (by omega)
  have hC5 := hbm.mid cod qcd (by omega) (by omega)
  have hQ5 := hbm.mid qcd N (by omega) (by omega)
  obtain ⟨p1, p2, p3⟩ := parts_twice HMM.out HOK.out.1.par.fit HNN.out.1 HNN.out.2 HCQ.out.1 HCQ.out.2.1 HN.out
  rw [p1] at hS5
  rw [p2] at hC5
  rw [p3] at hQ5
  simp only [Nat.sub_zero, Nat.zero_add] at hS5 hC5 hQ5
  simp only [← hw5]
  have HP5 := Lib.hid (And.intro hS5 (And.intro hC5 (And.intro hQ5 (And.intro hE5 hb45))))
  clear hw5 hb45 hE5 hbm hS5 hC5 hQ5 p1 p2 p3 z1 z2 z3 z4 z5 z6 x1 x2 x3 x4
  go_wp2_with (go_at_call 15; refine (WI.out _).mono ?_; rintro e w' ⟨rfl, rfl⟩)
  obtain ⟨vS, hvS⟩ : ∃ v, v = Value.slice (some ⟨g4, 0, none⟩) cod c4 := ⟨_, rfl⟩
  obtain ⟨vC, hvC⟩ : ∃ v, v = Value.slice (some ⟨g4, cod, none⟩) (qcd - cod) (c4 - cod) := ⟨_, rfl⟩
  obtain ⟨vQ, hvQ⟩ : ∃ v, v = Value.slice (some ⟨g4, qcd, none⟩) (N - qcd) (c4 - qcd) := ⟨_, rfl⟩
  simp only [← hvS, ← hvC, ← hvQ] at HP5 ⊢
  clear hvS hvC hvQ
  obtain ⟨w6, hw6⟩ : ∃ w6, w6 = seven w5 25 54 #[vS, vQ, vC] #[vS, vC] #[vS, vQ] #[vS, vC, vQ, vC] #[vS, vQ, vC, vQ] #[vS] #[.slice (some ⟨w5.heap.size, 0, none⟩) 3 3, .slice (some ⟨w5.heap.size + 1, 0, none⟩) 2 2, .slice (some ⟨w5.heap.size + 1 + 1, 0, none⟩) 2 2, .slice (some ⟨w5.heap.size + 1 + 1 + 1, 0, none⟩) 4 4, .slice (some ⟨w5.heap.size + 1 + 1 + 1 + 1, 0, none⟩) 4 4, .slice (some ⟨w5.heap.size + 1 + 1 + 1 + 1 + 1, 0, none⟩) 1 1] := ⟨_, rfl⟩
  have hb7 := seven_blk w5 25 54 #[vS, vQ, vC] #[vS, vC] #[vS, vQ] #[vS, vC, vQ, vC] #[vS, vQ, vC, vQ] #[vS] #[.slice (some ⟨w5.heap.size, 0, none⟩) 3 3, .slice (some ⟨w5.heap.size + 1, 0, none⟩) 2 2, .slice (some ⟨w5.heap.size + 1 + 1, 0, none⟩) 2 2, .slice (some ⟨w5.heap.size + 1 + 1 + 1, 0, none⟩) 4 4, .slice (some ⟨w5.heap.size + 1 + 1 + 1 + 1, 0, none⟩) 4 4, .slice (some ⟨w5.heap.size + 1 + 1 + 1 + 1 + 1, 0, none⟩) 1 1]
  rw [← hw6] at hb7
  unfold seven at hw6
  simp only [← hw6]
  clear hw6
  obtain ⟨b0, b1, b2, b3, b4, b5, b6, hb56⟩ := hb7
  have hS6 := HP5.out.1.keep hb56
  have hC6 := HP5.out.2.1.keep hb56
  have hQ6 := HP5.out.2.2.1.keep hb56
  obtain ⟨bk, vs, ps, hvp, hv4, hcl, hbk, hrow, hps⟩ : ∃ bk, ∃ (vs : List Value) (ps : List (List UInt8)), vs.length = ps.length ∧ vs.length ≤ 4 ∧ w6.cell? ⟨w5.heap.size + 1 + 1 + 1 + 1 + 1 + 1, t, none⟩ = some (.slice (some ⟨bk, 0, none⟩) vs.length vs.length) ∧ bk < w6.heap.size ∧ (∀ (i : Nat) v l, vs[i]? = some v → ps[i]? = some l → w6.cell? ⟨bk, i, none⟩ = some v ∧ BV w6 v l) ∧ partsOf (frontM m p) (segB 65362 (codM p)) (segB 65372 (qcdM m p)) t = ps := by
    have ht : t = 0 ∨ t = 1 ∨ t = 2 ∨ t = 3 ∨ t = 4 ∨ t = 5 := by omega
    rcases ht with rfl | rfl | rfl | rfl | rfl | rfl
    · exact ⟨_, [vS, vQ, vC], _, rfl, by simp, b6.cell 0, b0.lt, by rintro (_ | _ | _ | i) v l h1 h2 <;> simp [partsOf] at h1 h2 <;> subst h1 h2 <;> first | exact ⟨b0.cell 0, hS6⟩ | exact ⟨b0.cell 1, hQ6⟩ | exact ⟨b0.cell 2, hC6⟩, rfl⟩
    · exact ⟨_, [vS, vC], _, rfl, by simp, b6.cell 1, b1.lt, by rintro (_ | _ | i) v l h1 h2 <;> simp [partsOf] at h1 h2 <;> subst h1 h2 <;> first | exact ⟨b1.cell 0, hS6⟩ | exact ⟨b1.cell 1, hC6⟩, rfl⟩
    · exact ⟨_, [vS, vQ], _, rfl, by simp, b6.cell 2, b2.lt, by rintro (_ | _ | i) v l h1 h2 <;> simp [partsOf] at h1 h2 <;> subst h1 h2 <;> first | exact ⟨b2.cell 0, hS6⟩ | exact ⟨b2.cell 1, hQ6⟩, rfl⟩
    · exact ⟨_, [vS, vC, vQ, vC], _, rfl, by simp, b6.cell 3, b3.lt, by rintro (_ | _ | _ | _ | i) v l h1 h2 <;> simp [partsOf] at h1 h2 <;> subst h1 h2 <;> first | exact ⟨b3.cell 0, hS6⟩ | exact ⟨b3.cell 1, hC6⟩ | exact ⟨b3.cell 2, hQ6⟩ | exact ⟨b3.cell 3, hC6⟩, rfl⟩
    · exact ⟨_, [vS, vQ, vC, vQ], _, rfl, by simp, b6.cell 4, b4.lt, by rintro (_ | _ | _ | _ | i) v l h1 h2 <;> simp [partsOf] at h1 h2 <;> subst h1 h2 <;> first | exact ⟨b4.cell 0, hS6⟩ | exact ⟨b4.cell 1, hQ6⟩ | exact ⟨b4.cell 2, hC6⟩ | exact ⟨b4.cell 3, hQ6⟩, rfl⟩
    · exact ⟨_, [vS], _, rfl, by simp, b6.cell 5, b5.lt, by rintro (_ | i) v l h1 h2 <;> simp [partsOf] at h1 h2 <;> subst h1 h2 <;> first | exact ⟨b5.cell 0, hS6⟩, rfl⟩
  have sl := b6.lt
  have HR := Lib.hid (And.intro hrow hps)
  have HB56 := Lib.hid hb56
  clear hrow hps b0 b1 b2 b3 b4 b5 b6 hS6 hC6 hQ6 hb56
  have hw6' : Below w.heap.size w w6 := HW4.out.trans ((HP5.out.2.2.2.2.mono HW4.out.size).trans (HB56.out.mono (Nat.le_trans HW4.out.size HP5.out.2.2.2.2.size)))
  have hs := sizOk_of HOK.out.1
  have hcf := HOK.out.1.par.fit
  have h2n : m.cs.length < 20000 := by have := HOK.out.1.n4; omega
  have T0 := twice_0 hs h2n hcf (frame_ok HOK.out.1)
  have TK : t ≠ 0 → ∃ h2 l2, All (ps.flatten ++ [255, 144]) 10 h2 l2 := by
    intro h0
    rw [← HR.out.2]
    have ht : t = 1 ∨ t = 2 ∨ t = 3 ∨ t = 4 ∨ t = 5 := by omega
    rcases ht with rfl | rfl | rfl | rfl | rfl
    · simpa [partsOf] using twice_1 hs h2n hcf
    · simpa [partsOf] using twice_2 hs h2n hcf
    · simpa [partsOf] using twice_3 hs h2n hcf [255, 144]
    · simpa [partsOf] using twice_4 hs h2n hcf [255, 144]
    · simpa [partsOf] using twice_5 hs h2n
  have TZ : t = 0 → All (ps.flatten ++ [255, 144]) 0 (headOf m p []) [] ∧ ps.flatten.length = N := by
    intro h0
    rw [← HR.out.2, h0]
    refine ⟨by simpa [partsOf] using T0, ?_⟩
    have h1 := mainM_front m p []
    rw [List.append_nil, HMM.out, List.append_nil] at h1
    rw [← HN.out, h1]
    simp [partsOf]
    omega
  have hlen : ps.flatten.length ≤ 4000 := by
    have h3 : p.lv.toNat ≤ 256 := by have := hcf.1; omega
    have q1 := frontM_length m p
    have q2 : (segB 65362 (codM p)).length = 4 + (11 + p.lv.toNat) := by rw [segB_length, codM_length p hcf.1.1]
    have q3 : (segB 65372 (qcdM m p)).length = 4 + (2 + 3 * p.lv.toNat) := by rw [segB_length, qcdM_length]
    have q4 := HOK.out.1.n4
    rw [← HR.out.2]
    have ht : t = 0 ∨ t = 1 ∨ t = 2 ∨ t = 3 ∨ t = 4 ∨ t = 5 := by omega
    rcases ht with rfl | rfl | rfl | rfl | rfl | rfl <;> simp [partsOf] <;> omega
  have HT := Lib.hid (And.intro TK TZ)
  have HW6 := Lib.hid hw6'
  have HE6 := Lib.hid (HP5.out.2.2.2.1.keep HB56.out)
  have zt : (t : Int) < 6 := by omega
  have HVP := Lib.hid hvp
  clear hw6' hs hcf h2n T0 TK TZ hvp
  obtain ⟨gl, hgl⟩ : ∃ gl, w5.heap.size + 1 + 1 + 1 + 1 + 1 + 1 = gl := ⟨_, rfl⟩
  rw [hgl] at hcl sl
  simp only [hgl]
  clear hgl
  obtain ⟨cnt, hcnt⟩ : ∃ cnt, vs.length = cnt := ⟨_, rfl⟩
  rw [hcnt] at hcl hv4 HVP
  have HCN := Lib.hid hcnt
  clear hcnt
  go_loopg [15, 16] cnt (fun g s15 s16 wx => ∃ i : Nat, i ≤ cnt ∧ g = cnt - i ∧ s16 = .int .i64 i ∧ wx.ownsRow w6.heap.size 5 1 s15 (ps.take i).flatten.length (cellsB (ps.take i).flatten) ∧ Below w6.heap.size w6 wx)
  case atStart => exact ⟨0, Nat.zero_le _, rfl, rfl, World.ownsRow_nil _ _ _ _, Below.refl _ _⟩
  case round =>
    obtain ⟨wy, rfl⟩ : ∃ wy : World, wy = wr := ⟨_, rfl⟩
    obtain ⟨i, hi, rfl, rfl, hown, hB⟩ := hrel
    obtain ⟨L, hL⟩ : ∃ L, (ps.take i).flatten = L := ⟨_, rfl⟩
    rw [hL] at hown
    have HL := Lib.hid hL
    clear hL
    obtain ⟨nL, hnL⟩ : ∃ n, L.length = n := ⟨_, rfl⟩
    rw [hnL] at hown
    have HNL := Lib.hid hnL
    clear hnL
    obtain ⟨xa, xc, rfl⟩ := owns_slice hown
    have c1 : wy.cell? ⟨gl, t, none⟩ = some (.slice (some ⟨bk, 0, none⟩) cnt cnt) := bcellC hB hcl sl
    by_cases hin : i < cnt
    · have d1 : decide ((i : Int) < (cnt : Int)) = true := by simp; omega
      obtain ⟨v, hv⟩ : ∃ v, vs[i]? = some v := ⟨_, List.getElem?_eq_getElem (by rw [HCN.out]; exact hin)⟩
      obtain ⟨l, hl⟩ : ∃ l, ps[i]? = some l := ⟨_, List.getElem?_eq_getElem (by rw [← HVP.out]; exact hin)⟩
      obtain ⟨q1, q2⟩ := HR.out.1 i v l hv hl
      have c2 : wy.cell? ⟨bk, i, none⟩ = some v := bcellC hB q1 hbk
      have q3 := q2.keep hB
      obtain ⟨ya, yc, rfl, -⟩ := q2
      have e1 : (ps.take (i + 1)).flatten = L ++ l := by rw [← HL.out, List.take_add_one, hl]; simp
      have e2 : L.length + l.length ≤ 1000000 := by
        have : (ps.take (i + 1)).flatten.length ≤ ps.flatten.length := by
          conv => rhs; rw [← List.take_append_drop (i + 1) ps, List.flatten_append, List.length_append]
          omega
        rw [e1, List.length_append] at this
        omega
      have HO : Hid (wy.ownsRow w6.heap.size 5 1 (.slice xa nL xc) L.length (cellsB L)) := Lib.hid (by rw [HNL.out]; exact hown)
      have HB := Lib.hid hB
      have HV := Lib.hid q3
      have HE1 := Lib.hid e1
      clear hown hB q1 q3 e1 hv hl
      go_wp2_with (at_builtin; go_must (refine wpList_app rfl (.tmp 83) (.tmp 90) rfl w6.heap.size _ L l rfl HO.out _ rfl HV.out e2 HB.out.size ?_; intro v8 w8 ho8 hb8 hg8; rw [← HE1.out] at ho8; obtain ⟨L8, hL8⟩ : ∃ L, (ps.take (i + 1)).flatten = L := ⟨_, rfl⟩; rw [hL8] at ho8; have HL8 := Lib.hid hL8; clear hL8; obtain ⟨n8, hn8⟩ : ∃ n, L8.length = n := ⟨_, rfl⟩; rw [hn8] at ho8; have HN8 := Lib.hid hn8; clear hn8; obtain ⟨a8, c8, rfl⟩ := owns_slice ho8; have HO8 := Lib.hid (And.intro ho8 hb8); clear ho8 hb8 hg8))
      go_roundg (cnt - (i + 1))
      case measure => omega
      case rel => exact ⟨i + 1, by omega, rfl, by go_num, by rw [HL8.out, HN8.out]; exact HO8.out.1, HB.out.trans HO8.out.2⟩
    · obtain rfl : i = cnt := by omega
      have d1 : decide ((i : Int) < (i : Int)) = false := by simp
      have hLf : ps.flatten = L := by rw [← HL.out, List.take_of_length_le (by rw [← HVP.out]; exact Nat.le_refl _)]
      have hNL2 : nL ≤ 4000 := by rw [← HNL.out, ← hLf]; exact hlen
      have HO : Hid (wy.ownsRow w6.heap.size 5 1 (.slice xa nL xc) L.length (cellsB L)) := Lib.hid (by rw [HNL.out]; exact hown)
      have HB := Lib.hid hB
      have HE := Lib.hid (HE6.out.keep hB)
      have HLF := Lib.hid hLf
      clear hown hB hLf HE6
      by_cases ht0 : t = 0
      · subst ht0
        obtain ⟨ha, hl0⟩ := HT.out.2 rfl
        rw [HLF.out] at ha hl0
        have hnN : nL = N := by rw [← HNL.out]; exact hl0
        subst hnN
        have hk0 : (((0 : Nat) : Int) == 0) = true := rfl
        have hb36 : Below w3.heap.size w3 w6 := HB4.out.trans ((HP5.out.2.2.2.2.mono HB4.out.size).trans (HB56.out.mono (Nat.le_trans HB4.out.size HP5.out.2.2.2.2.size)))
        have hh6 := HB3.out.below hb36 sg
        have hco6 := HOK.out.2.keep hb36
        have H6 := Lib.hid (And.intro hh6 hco6)
        have hsz36 : w3.heap.size ≤ w6.heap.size := hb36.size
        have PO : Hid (∀ W v, BV W v (L ++ [255, 144]) → Calls Try.prog 16 #[v] W fun e w' => ∃ A cv mv, Head1 A ∧ headA (bareM m) cv p mv = A ∧ e = .returned (.tuple #[.agg A, .int .i64 (nL : Int), .int .i64 0]) ∧ CompsRd w' cv (bareM m).cs ∧ BV w' mv [] ∧ Below W.heap.size W w') := Lib.hid fun W v hb => by
          have h := parse_ok1 v (L ++ [255, 144]) [] (headOf m p []) W hb (by rw [List.length_append, HNL.out]; simp; omega) ha
          have hn9 : (((L ++ [255, 144]).length : Int) - ((([] : List UInt8).length : Nat) : Int) - 2) = (nL : Int) := by rw [List.length_append, HNL.out]; simp
          rw [hn9] at h
          exact h
        clear ha hb36 hh6 hco6
        go_upto_region 17 with (first | (at_builtin; go_must (refine wpList_app rfl (.tmp 93) (.tmp 94) rfl w6.heap.size _ L [255, 144] rfl HO.out _ rfl HE.out (by rw [HNL.out]; simp; omega) HB.out.size ?_; intro v8 w8 ho8 hb8 hg8; have HBV8 := Lib.hid (BV.of_owns ho8); obtain ⟨n8, hn8⟩ : ∃ n, (L ++ [255, 144]).length = n := ⟨_, rfl⟩; rw [hn8] at ho8; have HN8 := Lib.hid hn8; clear hn8; obtain ⟨a8, c8, rfl⟩ := owns_slice ho8; have HB8 := Lib.hid hb8; clear ho8 hb8 hg8)) | (go_at_call 16; refine (PO.out _ _ HBV8.out).mono ?_; rintro e wb ⟨A1, cv, mv, hA1, hE1, rfl, hcr, hmv, hB10⟩; have hA1' := hA1.1; have hst1 := store_head hA1; have HP1 := Lib.hid (And.intro hA1 (And.intro hE1 (And.intro hcr (And.intro hmv hB10)))); clear hA1 hE1 hcr hmv hB10))
        obtain ⟨hA1, hE1, hcr, hmv, hB10⟩ := HP1.out
        obtain ⟨w9, hw9⟩ : ∃ w9, w9 = newHead wb A1 := ⟨_, rfl⟩
        have hb9 : Blk w9 wb.heap.size 33 A1 := by rw [hw9]; exact newHead_blk wb hA1
        have hbb9 : Below wb.heap.size wb w9 := by rw [hw9]; exact newHead_below wb A1
        simp only [← hw9]
        clear hw9 hst1
        have hb69 : Below w6.heap.size w6 w9 := (HB.out.trans HB8.out).trans ((hB10.trans (hbb9.mono hB10.size)).mono (HB.out.trans HB8.out).size)
        have hh9 := H6.out.1.below hb69 (by omega)
        have hco9 := CompsRd.of_owns (H6.out.2.keep hb69)
        have hcr9 := hcr.keep hbb9
        have hmv9 := hmv.keep hbb9
        obtain ⟨ra, rc, rfl, -⟩ := hcr
        obtain ⟨ka, kc, rfl, -⟩ := hmv
        have SM := same_any (bareM m) m (.slice ra (bareM m).cs.length rc) (.slice va m.cs.length vc) p p (.slice ka ([] : List UInt8).length kc) (.slice none 0 0) [] [] w9 hcr9 hco9 hmv9 (BV.nil _) (by have := HOK.out.1.n4; rw [show (bareM m).cs.length = m.cs.length from List.length_map _]; omega) (by decide)
        have hsc := sameCs_bare m
        have HSM : Hid (Calls Try.prog 17 #[.agg (headA (bareM m) (.slice ra (bareM m).cs.length rc) p (.slice ka ([] : List UInt8).length kc)), .agg (headA m (.slice va m.cs.length vc) p (.slice none 0 0))] w9 fun e w' => e = .returned (.bool true) ∧ Below w9.heap.size w9 w') := Lib.hid (SM.mono fun e w' h => by
          obtain ⟨r, h1, h2, h3⟩ := h
          have h4 : r = true := h2.2 ⟨hsc, rfl, rfl, rfl, rfl, rfl, rfl⟩
          subst h4
          exact ⟨h1, h3⟩)
        rw [← hE1] at hb9
        rw [← HEE.out] at hh9
        have HB9 := Lib.hid hb69
        have hnk : m.cs.length ≤ 4 := HOK.out.1.n4
        obtain ⟨nb, hnb⟩ : ∃ nb, (bareM m).cs.length = nb := ⟨_, rfl⟩
        rw [hnb] at HSM hb9
        obtain ⟨nm, hnm⟩ : ∃ nm, m.cs.length = nm := ⟨_, rfl⟩
        rw [hnm] at HSM hh9
        unfold headA at HSM hb9 hh9
        have H9 := Lib.hid (And.intro hb9 hh9)
        clear hb9 hh9 hb69 hbb9 hB10 hcr9 hmv9 hco9 SM hsc hE1 hA1 hnb hnm HP1
        refine wp_piece (twice_r17 _ wb.heap.size w2.heap.size nL c4 (some ⟨g4, 0, none⟩) w9 _ _ _ _ _ _ _ _ _ _ _ _ _ _ _ _ _ _ _ _ _ _ _ _ _ _ _ _ _ _ _ _ _ _ _ _ _ _ _ _ _ _ _ _ _ _ _ _ _ _ _ _ _ _ _ _ _ _ _ _ _ _ _ _ _ _ _ _ _ _ _ _ _ _ _ _ _ _ _ _ _ _ _ _ _ _ _ _ _ _ _ _ _ _ _ _ _ _ _ _ _ _ _ _ _ _ _ _ _ _ _ _ _ _ _ _ _ _ _ _ _ _ _ _ _ _ _ _ _ _ _ _ _ _ _ _ _ _ _ _ _ _ _ _ _ _ _ _ _ _ _ _ H9.out.1 H9.out.2 HSM.out ?_)
        rintro _ _ _ _ _ _ _ _ _ _ _ _ _ w10 hB10
        go_wp2_with fail
        go_ret
        have h1 := HW6.out.trans (HB9.out.mono HW6.out.size)
        exact ⟨rfl, h1.trans (hB10.mono h1.size)⟩
      · have hk0 : ((t : Int) == 0) = false := by simpa using ht0
        obtain ⟨h2, l2, ha⟩ := HT.out.1 ht0
        rw [HLF.out] at ha
        have PE := Lib.hid (fun W v hb => parse_err1 v (L ++ [255, 144]) l2 10 h2 W hb (by rw [List.length_append, HNL.out]; simp; omega) ha (by decide))
        clear ha
        go_wp2_with (first | (at_builtin; go_must (refine wpList_app rfl (.tmp 93) (.tmp 94) rfl w6.heap.size _ L [255, 144] rfl HO.out _ rfl HE.out (by rw [HNL.out]; simp; omega) HB.out.size ?_; intro v8 w8 ho8 hb8 hg8; have HBV8 := Lib.hid (BV.of_owns ho8); obtain ⟨n8, hn8⟩ : ∃ n, (L ++ [255, 144]).length = n := ⟨_, rfl⟩; rw [hn8] at ho8; have HN8 := Lib.hid hn8; clear hn8; obtain ⟨a8, c8, rfl⟩ := owns_slice ho8; have HB8 := Lib.hid hb8; clear ho8 hb8 hg8)) | (go_at_call 16; refine (PE.out _ _ HBV8.out).mono ?_; rintro e wb ⟨A1, hA1, rfl, hB10⟩; have hA1' := hA1.1; have hst1 := store_head hA1; have HB10 := Lib.hid (hB10.trans ((newHead_below wb A1).mono hB10.size)); clear hB10))
        go_ret
        have h1 := HW6.out.trans ((HB.out.trans HB8.out).mono HW6.out.size)
        exact ⟨rfl, h1.trans (HB10.out.mono h1.size)⟩
end Go.Proofs.Ytlhlhlabnjfhcaa
