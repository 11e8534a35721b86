/- PacketNone: a coded block's copies, as its law needs them. PacketNone: the walk. -/
import Derived.Test.YtnpoakabheeoeaaMrl
import Derived.Test.YtnpoakabheeoeaaRak
import Derived.Test.YtnpoakabheeoeaaPq
namespace Go.Proofs.Ytnpoakabheeoeaa
open Go.RowKit

def noneX (xb : Nat) (P : Int) (pv bv : Value) (Hp Hb : List HB) : List HB := blQ xb P pv bv :: (Hp ++ Hb)
theorem noneX_cells {w0 W : World} {H0 H Hp Hb : List HB} {xb : Nat} {P : Int} {pv bv : Value} (m : Mv w0 H0 W (H ++ noneX xb P pv bv Hp Hb)) :
    W.cell? ⟨xb, 0, none⟩ = some (.int .i64 P) ∧ W.cell? ⟨xb, 1, none⟩ = some pv ∧ W.cell? ⟨xb, 2, none⟩ = some bv :=
  ⟨m.drop.cell 0 rfl 0, m.drop.cell 0 rfl 1, m.drop.cell 0 rfl 2⟩
section
variable {w0 W : World} {xb : Nat} {P : Int} {pv : Value} {ba : Option Addr} {bn bc : Nat} {ps : List (Int × Bool)} {bs : List UInt8} {Hp Hb : List HB}
theorem none_of (hp : RowQ pv ps Hp) (hn : ps.length ≤ 1000) {H : List HB} (m : Mv w0 [] W (H ++ noneX xb P pv (.slice ba bn bc) Hp Hb)) :
    Calls Try.prog 15 #[.agg #[.int .i64 P, pv, .slice ba bn bc]] W fun e w' => ∃ vp' H1, e = .returned (.agg #[.int .i64 P, vp', .slice ba bn bc]) ∧ RowP vp' ps H1 ∧ Mv w0 [] w' (H1 ++ (H ++ noneX xb P pv (.slice ba bn bc) Hp Hb)) := by
  have m1 : Mv w0 [] W (Hp ++ (H ++ (blQ xb P pv (.slice ba bn bc) :: Hb))) := m.sub (fun g => by simp only [noneX, cnt_append, cnt_cons]; omega) (fun c hc => by simp only [noneX, List.mem_append, List.mem_cons] at hc ⊢; grind)
  refine (of_any P pv ba bn bc ps Hp W hp m1.sat.left hn).mono ?_
  rintro e w' ⟨vp', H1, rfl, r1, m2⟩
  exact ⟨vp', H1, rfl, r1, (Mv.call m1 m2).sub (fun g => by simp only [noneX, cnt_append, cnt_cons]; omega) (fun c hc => by simp only [noneX, List.mem_append, List.mem_cons] at hc ⊢; grind)⟩
theorem none_add (hb : RowB (.slice ba bn bc) bs Hb) (hpl : -1000 ≤ P ∧ P ≤ 1000) (hn : ps.length ≤ 1000) (hm : bs.length ≤ 10000000) (he : ∀ p ∈ ps, 0 ≤ p.1 ∧ p.1 ≤ 100000000) {d : BandA} {m : BandM} {HA H1 : List HB} {vp : Value} (r1 : RowP vp ps H1) (hB : BandR d m HA) (k : Int) (hsd : (stOf m k).said = 0)
    (M : Mv w0 [] W (H1 ++ (HA ++ noneX xb P pv (.slice ba bn bc) Hp Hb))) :
    Calls Try.prog 14 #[.pointer (some ⟨d.bb, 0, none⟩), .int .i64 k, .agg #[.int .i64 P, vp, .slice ba bn bc]] W fun e w' => e = .returned (.tuple #[]) ∧ ∃ HA', BandR d (addM m k P ps bs) HA' ∧ Mv w0 [] w' (HA' ++ noneX xb P pv (.slice ba bn bc) Hp Hb) := by
  have sX : Sat W (noneX xb P pv (.slice ba bn bc) Hp Hb) := M.sat.right.right
  have sB : Sat W Hb := Sat.right (A := [_] ++ Hp) (by simpa [noneX] using sX)
  have M2 : Mv w0 [] W (HA ++ noneX xb P pv (.slice ba bn bc) Hp Hb) := M.drop
  refine (add_any d m HA W hB M2.sat.left k P vp (.slice ba bn bc) ps bs (r1.pv M.sat.left) (hb.bv sB) hpl hn hm he (by rw [hsd]; omega)).mono ?_
  rintro e w' ⟨rfl, HA', h1, h2⟩
  exact ⟨rfl, HA', h1, Mv.call M2 h2⟩
theorem none_block {d : BandA} {m : BandM} {HA : List HB} (hB : BandR d m HA) (k : Int) {X : List HB} (M : Mv w0 [] W (HA ++ X)) :
    Calls Try.prog 16 #[.pointer (some ⟨d.bb, 0, none⟩), .int .i64 k] W fun e w' => ∃ vp' vb' H1 H2, e = .returned (.agg #[.int .i64 (stOf m k).pl, vp', vb']) ∧ RowP vp' (stOf m k).ps H1 ∧ RowB vb' (stOf m k).bs H2 ∧ Mv w0 [] w' ((H1 ++ H2) ++ (HA ++ X)) := by
  refine (block_any d m HA W hB M.sat.left k).mono ?_
  rintro e w' ⟨vp', vb', H1, H2, rfl, r1, r2, m1⟩
  exact ⟨vp', vb', H1, H2, rfl, r1, r2, Mv.call (H := []) M m1⟩
/-- a block that has nothing -/
theorem none_block0 {d : BandA} {m : BandM} {HA : List HB} (hB : BandR d m HA) (k : Int) (h0 : (stOf m k).pl = 0 ∧ (stOf m k).ps = [] ∧ (stOf m k).bs = []) {X : List HB} (M : Mv w0 [] W (HA ++ X)) :
    Calls Try.prog 16 #[.pointer (some ⟨d.bb, 0, none⟩), .int .i64 k] W fun e w' => ∃ a c a' c', e = .returned (.agg #[.int .i64 0, .slice a 0 c, .slice a' 0 c']) ∧ Mv w0 [] w' (HA ++ X) := by
  refine (none_block hB k M).mono ?_
  rintro e w' ⟨vp', vb', H1, H2, rfl, r1, r2, m1⟩
  rw [h0.2.1] at r1
  rw [h0.2.2] at r2
  rw [h0.1]
  obtain ⟨a, c, rfl⟩ := r1.slice
  obtain ⟨a', c', rfl⟩ := RowH.slice r2
  exact ⟨a, c, a', c', rfl, m1.drop⟩
end
end Go.Proofs.Ytnpoakabheeoeaa
namespace Go.Proofs.Ytnpoakabheeoeaa
open Go.RowKit

theorem stOf_out {m : BandM} {k : Int} (h : k < 0 ∨ (m.ss.length : Int) ≤ k) : stOf m k = stNone := by unfold stOf; rw [if_pos h]
theorem stOf_in {m : BandM} {j : Nat} {s : StM} (h : m.ss[j]? = some s) : stOf m (j : Int) = s := by
  have hj := (List.getElem?_eq_some_iff.1 h).1
  unfold stOf
  rw [if_neg (by omega), Int.toNat_natCast, List.getD_eq_getElem?_getD, h]
  rfl
theorem addM_out {m : BandM} {k : Int} (h : k < 0 ∨ (m.ss.length : Int) ≤ k) (pl : Int) (ps : List (Int × Bool)) (bs : List UInt8) : addM m k pl ps bs = m := by unfold addM; rw [if_pos h]
theorem addM_ss {m : BandM} {j : Nat} {s : StM} (h : m.ss[j]? = some s) (pl : Int) (ps : List (Int × Bool)) (bs : List UInt8) : (addM m (j : Int) pl ps bs).ss = m.ss.set j ⟨pl, ps, bs, s.said, s.lb⟩ := by
  have hj := (List.getElem?_eq_some_iff.1 h).1
  unfold addM
  rw [if_neg (by omega), Int.toNat_natCast, stOf_in h]
theorem newBandM_ss (p q : Nat) (planes : Int) {j : Nat} (hj : j < p * q) : (newBandM p q planes).ss[j]? = some stNew.m := by
  simp only [newBandM, List.getElem?_replicate]
  rw [if_pos hj]
/-- one value's block -/
def oneG (r : Nat) : GeoM := ⟨1, 1, 0, 0, [r], [0]⟩
theorem oneG_ok (r : Nat) (h : r < 1073741824) : (oneG r).Ok := ⟨Nat.le_refl 1, by show 1 ≤ 64; decide, Nat.le_refl 1, by show 1 ≤ 64; decide, by show 0 ≤ 3; decide, by show 0 ≤ 63; decide, rfl, rfl, by intro m hm; simp only [oneG, List.mem_singleton] at hm; subst hm; exact h, by intro m hm; simp only [oneG, List.mem_singleton] at hm; subst hm; exact Nat.zero_le 1⟩
theorem one_neg (r : Nat) : (oneG r).neg = [(r : Int)].map fun n => oneN (decide (n < 0)) := by
  have h : decide ((r : Int) < 0) = false := by simp
  simp only [oneG, List.map_cons, List.map_nil, h]
  rfl
theorem encode_one (r vg vc : Nat) (w0 : World) (hr : r < 1073741824) (hv : w0.cell? ⟨vg, 0, none⟩ = some (.int .i64 (r : Int))) (hvg : vg < w0.heap.size) :
    Calls Try.prog 13 #[.int .i64 1, .int .i64 1, .int .i64 0, .int .i64 0, .slice (some ⟨vg, 0, none⟩) 1 vc] w0 fun e w' =>
      ∃ pv bv Hp Hb, e = .returned (.tuple #[.agg #[.int .i64 ((encodeM (oneG r)).planes : Int), pv, bv], .int .i64 0]) ∧ RowQ pv (encodeM (oneG r)).passes Hp ∧ RowB bv (encodeM (oneG r)).bytes Hb ∧ Mv w0 [] w' (Hp ++ Hb) :=
  encode_any (oneG r) [(r : Int)] vg vc w0 (oneG_ok r hr) rfl (one_neg r) (fun i m h => by
    cases i with
    | zero => simp at h; subst h; exact hv
    | succ i => simp at h) hvg
/-- what holds of a block that was coded -/
theorem one_bounds (r : Nat) (h : r < 1073741824) : (encodeM (oneG r)).planes ≤ 30 ∧ (encodeM (oneG r)).passes.length ≤ 88 ∧ (encodeM (oneG r)).bytes.length ≤ 30000 ∧ ∀ p ∈ (encodeM (oneG r)).passes, 0 ≤ p.1 ∧ p.1 ≤ 100000000 := by
  obtain ⟨ok, hb⟩ := encodeM_ok (oneG r) (Nat.le_refl 1)
  have hp : (encodeM (oneG r)).planes ≤ 30 := planesOf_le (oneG r).mag 30 (by
    intro m hm
    simp only [oneG, List.mem_singleton] at hm
    subst hm
    have : (2 : Nat) ^ 30 = 1073741824 := rfl
    omega)
  have hn : (encodeM (oneG r)).passes.length ≤ 88 := by rw [ok.len]; unfold countM; omega
  have h2 : countM (encodeM (oneG r)).planes ≤ 88 := by unfold countM; omega
  have h3 : (encodeM (oneG r)).bytes.length ≤ 88 * 260 := by
    refine Nat.le_trans hb ?_
    have e : 16 * (12 * ((oneG r).w * (oneG r).h) + 4) + 4 = 260 := rfl
    rw [e]
    exact Nat.mul_le_mul_right _ h2
  exact ⟨hp, hn, by omega, fun p hpm => by have := ok.pos p hpm; omega⟩
set_option maxRecDepth 100000 in
theorem none_r4 (K : Act → World → Prop) (k : Int) (w : World) (s0 s1 s3 s4 s5 s6 s7 s8 s9 s10 s11 s12 s13 s14 s15 s16 s17 s18 s19 s20 s21 s22 s23 s24 s25 s26 s27 s28 s29 s30 s31 s32 s33 s34 s35 s36 s37 s38 s39 s40 s41 s42 s43 s44 s45 s46 s47 s48 s49 s50 s51 s52 s53 s54 s55 s56 s57 s58 s59 s60 s61 s62 s63 s64 s65 s66 s67 s68 s69 s70 s71 s72 s73 s74 s75 s76 s77 s78 s79 : Value)
    (hK : ∀ (t19 t20 t21 t22 t23 : Value), K ⟨List.toArray (s0 :: s1 :: (.int .i64 k) :: s3 :: s4 :: s5 :: s6 :: s7 :: s8 :: s9 :: s10 :: s11 :: s12 :: s13 :: s14 :: s15 :: s16 :: s17 :: s18 :: t19 :: t20 :: t21 :: t22 :: t23 :: (.bool (decide (0 ≤ k) && decide (k < 25))) :: s25 :: s26 :: s27 :: s28 :: s29 :: s30 :: s31 :: s32 :: s33 :: s34 :: s35 :: s36 :: s37 :: s38 :: s39 :: s40 :: s41 :: s42 :: s43 :: s44 :: s45 :: s46 :: s47 :: s48 :: s49 :: s50 :: s51 :: s52 :: s53 :: s54 :: s55 :: s56 :: s57 :: s58 :: s59 :: s60 :: s61 :: s62 :: s63 :: s64 :: s65 :: s66 :: s67 :: s68 :: s69 :: s70 :: s71 :: s72 :: s73 :: s74 :: s75 :: s76 :: s77 :: s78 :: s79 :: []), []⟩ w) :
    (regionOf 4 Try.f4).wp Try.prog (Exit.then K noQ) ⟨List.toArray (s0 :: s1 :: (.int .i64 k) :: s3 :: s4 :: s5 :: s6 :: s7 :: s8 :: s9 :: s10 :: s11 :: s12 :: s13 :: s14 :: s15 :: s16 :: s17 :: s18 :: s19 :: s20 :: s21 :: s22 :: s23 :: s24 :: s25 :: s26 :: s27 :: s28 :: s29 :: s30 :: s31 :: s32 :: s33 :: s34 :: s35 :: s36 :: s37 :: s38 :: s39 :: s40 :: s41 :: s42 :: s43 :: s44 :: s45 :: s46 :: s47 :: s48 :: s49 :: s50 :: s51 :: s52 :: s53 :: s54 :: s55 :: s56 :: s57 :: s58 :: s59 :: s60 :: s61 :: s62 :: s63 :: s64 :: s65 :: s66 :: s67 :: s68 :: s69 :: s70 :: s71 :: s72 :: s73 :: s74 :: s75 :: s76 :: s77 :: s78 :: s79 :: []), []⟩ w := by
  conv in (regionOf _ _) => whnf
  unfold noQ
  have HK := Lib.hid hK
  clear hK
  by_cases h1 : 0 ≤ k
  · have d1 : decide ((0 : Int) ≤ k) = true := decide_eq_true h1
    by_cases h2 : k < 25
    · have d2 : decide (k < 25) = true := decide_eq_true h2
      rw [d1, d2] at HK
      clear h1 h2
      go_wp2_with fail
      exact HK.out _ _ _ _ _
    · have d2 : decide (k < 25) = false := decide_eq_false h2
      rw [d1, d2] at HK
      clear h1 h2
      go_wp2_with fail
      exact HK.out _ _ _ _ _
  · have d1 : decide ((0 : Int) ≤ k) = false := decide_eq_false h1
    rw [d1] at HK
    clear h1
    go_wp2_with fail
    exact HK.out _ _ _ _ _
set_option maxRecDepth 100000 in
set_option maxHeartbeats 4000000 in
theorem none_any (x y k z : Int) (w : World) : Calls Try.prog 4 #[.int .i64 x, .int .i64 y, .int .i64 k, .int .i64 z] w fun e w' => e = .returned (.bool true) ∧ Below w.heap.size w w' := by
  obtain ⟨p, hp, W1⟩ := withinN x 5 (by decide) (by decide)
  obtain ⟨q, hq, W2⟩ := withinN y 5 (by decide) (by decide)
  obtain ⟨r, hr, W3⟩ := withinN z 200 (by decide) (by decide)
  replace W1 := Lib.hid W1
  replace W2 := Lib.hid W2
  replace W3 := Lib.hid W3
  have KN := Lib.hid (known_any w)
  have NB := Lib.hid fun W => band_new p q 9 W (by omega) (by omega) (by decide)
  go_enter Try.func4, Try.ntmps4
  go_upto_region 4 with (first
    | (go_at_call 7; refine KN.out.mono ?_; rintro e w1 ⟨rfl, m1⟩; have K1 := Lib.hid m1; clear m1)
    | (go_at_call 9; (with_reducible refine (W1.out _).mono ?_); rintro e w' ⟨rfl, rfl⟩)
    | (go_at_call 9; (with_reducible refine (W2.out _).mono ?_); rintro e w' ⟨rfl, rfl⟩))
  refine wp_piece (none_r4 _ k _ _ _ _ _ _ _ _ _ _ _ _ _ _ _ _ _ _ _ _ _ _ _ _ _ _ _ _ _ _ _ _ _ _ _ _ _ _ _ _ _ _ _ _ _ _ _ _ _ _ _ _ _ _ _ _ _ _ _ _ _ _ _ _ _ _ _ _ _ _ _ _ _ _ _ _ _ _ _ _ ?_)
  rintro t19 t20 t21 t22 t23
  go_upto_if 24 with fail
  go_cut [2, 24] from 25 (fun s2 _ wx => (∃ kk : Int, s2 = .int .i64 kk ∧ (kk < 0 ∨ 25 ≤ kk)) ∧ wx = w')
  case first =>
    by_cases h : 0 ≤ k ∧ k < 25
    · have d : (decide (0 ≤ k) && decide (k < 25)) = true := by simp [h.1, h.2]
      obtain ⟨h1, h2⟩ := h
      rw [d]
      go_wp2_with fail
      go_meet
      exact ⟨⟨_, rfl, .inr (by omega)⟩, rfl⟩
    · have d : (decide (0 ≤ k) && decide (k < 25)) = false := by
        by_cases h1 : 0 ≤ k
        · rw [decide_eq_true h1, decide_eq_false (fun h2 => h ⟨h1, h2⟩)]; rfl
        · rw [decide_eq_false h1]; rfl
      rw [d]
      go_wp2_with fail
      go_meet
      exact ⟨⟨_, rfl, by omega⟩, rfl⟩
  case rest =>
    obtain ⟨⟨kk, rfl, hkk⟩, hwc⟩ := hcut
    rw [← hwc] at K1
    clear hwc KN W1 W2
    go_upto_region 7 with (go_at_call 12; refine (NB.out _).mono ?_; rintro e w2 ⟨d, HA, rfl, -, hB, m2⟩; have K2 := Lib.hid (And.intro hB (K1.out.trans m2)); clear hB m2)
    clear K1 NB
    obtain ⟨rr, hrr⟩ : ∃ rr, 1 + r = rr := ⟨_, rfl⟩
    have hrr2 : rr < 1073741824 := by omega
    have hrc : 1 + (r : Int) = (rr : Int) := by omega
    have EN := Lib.hid (encode_one rr w2.heap.size 1 (w2.alloc (.cells #[.int .i64 (rr : Int)] 3)) hrr2 (by simp) (by simp))
    have M3 := K2.out.2.alloc 3 #[.int .i64 (rr : Int)]
    have K3 := Lib.hid M3.drop1
    obtain ⟨E, hE⟩ : ∃ E, encodeM (oneG rr) = E := ⟨_, rfl⟩
    have BE := one_bounds rr hrr2
    rw [hE] at EN BE
    clear M3 hE hrr hrr2
    go_upto_region 8 with (first
      | (go_at_call 9; (with_reducible refine (W3.out _).mono ?_); rintro e w' ⟨rfl, rfl⟩)
      | (go_at_call 13; refine EN.out.mono ?_; rintro e w4 ⟨pv, bv, Hp, Hb, rfl, rp, rb, m4⟩; obtain ⟨pa, pc, rfl⟩ := rp.slice; obtain ⟨ba, bc, rfl⟩ := RowB.slice rb; have K4 := Lib.hid (And.intro rp (And.intro rb (Mv.call (H := []) K3.out m4))); clear rp rb m4))
    obtain ⟨P, ps, bs⟩ := E
    simp only at BE K4 ⊢
    obtain ⟨hP, hn, hm, he⟩ := BE
    have rp := K4.out.1
    have rb := K4.out.2.1
    obtain ⟨np, hnp⟩ : ∃ np, ps.length = np := ⟨_, rfl⟩
    obtain ⟨nb, hnb⟩ : ∃ nb, bs.length = nb := ⟨_, rfl⟩
    have M5 := K4.out.2.2.alloc 38 #[.int .i64 (P : Int), .slice pa ps.length pc, .slice ba bs.length bc]
    rw [hnp, hnb] at M5
    rw [hnp] at rp
    rw [hnb] at rb
    rw [hnp, hnb]
    obtain ⟨xb, hxb⟩ : ∃ xb, w4.heap.size = xb := ⟨_, rfl⟩
    rw [hxb] at M5 ⊢
    obtain ⟨w5, hw5⟩ : ∃ w5, w5 = w4.alloc (.cells #[.int .i64 (P : Int), .slice pa np pc, .slice ba nb bc] 38) := ⟨_, rfl⟩
    rw [← hw5] at M5 ⊢
    have M6 : Mv w [] w5 (HA ++ noneX xb (P : Int) (.slice pa np pc) (.slice ba nb bc) Hp Hb) := M5.sub (fun g => by simp only [noneX, blQ, cnt_append, cnt_cons]; omega) (fun c hc => by simp only [noneX, blQ, List.mem_append, List.mem_cons] at hc ⊢; grind)
    have OFC := Lib.hid (fun (W : World) (H : List Ytnpoakabheeoeaa.HB) (m : Mv w [] W (H ++ noneX xb (P : Int) (.slice pa np pc) (.slice ba nb bc) Hp Hb)) => none_of rp (by omega) m)
    have ADC := Lib.hid (fun (W : World) (m : BandM) (HA' H1 : List Ytnpoakabheeoeaa.HB) (vp : Value) (k : Int) (r1 : RowP vp ps H1) (hB : BandR d m HA') (h0 : (stOf m k).said = 0) (M : Mv w [] W (H1 ++ (HA' ++ noneX xb (P : Int) (.slice pa np pc) (.slice ba nb bc) Hp Hb))) => none_add (P := (P : Int)) rb (by omega) (by omega) (by omega) he r1 hB k h0 M)
    have KR := Lib.hid (And.intro rp (And.intro rb (And.intro hnp hnb)))
    have K6 := Lib.hid (And.intro K2.out.1 M6)
    obtain ⟨x0, x1, x2⟩ := noneX_cells M6
    have hpq : p * q ≤ 4 * 4 := Nat.mul_le_mul (show p ≤ 4 by omega) (show q ≤ 4 by omega)
    have hss : (newBandM p q 9).ss.length = p * q := by simp [newBandM]
    have HO : Hid (∀ m : BandM, m.ss.length = p * q → kk < 0 ∨ (m.ss.length : Int) ≤ kk) := Lib.hid (fun m hm => by rw [hm]; omega)
    have S0 : Hid ((stOf (newBandM p q 9) kk).said = 0 ∧ addM (newBandM p q 9) kk (P : Int) ps bs = newBandM p q 9) := Lib.hid ⟨by rw [stOf_out (HO.out _ hss)]; rfl, addM_out (HO.out _ hss) _ _ _⟩
    clear M5 M6 hw5 hxb hnp hnb rp rb K4 EN K3 K2 he hkk hrc W3
    go_upto_region 9 with (first
      | (go_at_call 15; refine (OFC.out _ _ K6.out.2).mono ?_; rintro e w6 ⟨vp', H1, rfl, r1, m6⟩; have K7 := Lib.hid (And.intro r1 m6); clear r1 m6)
      | (go_at_call 14; refine (ADC.out _ _ _ _ _ _ K7.out.1 K6.out.1 S0.out.1 K7.out.2).mono ?_; rintro e w7 ⟨rfl, HA', h7, m7⟩; rw [S0.out.2] at h7; have K8 := Lib.hid (And.intro h7 m7); clear h7 m7))
    clear x0 x1 x2 K7 K6 S0
    have hss2 : Hid (∀ i, 0 ≤ i → i < p * q → (newBandM p q 9).ss[i]? = some stNew.m) := Lib.hid (fun i _ hi => newBandM_ss p q 9 hi)
    have HSS := Lib.hid hss
    clear hss
    go_wp2_with fail
    go_loopg [12] (p * q) (fun mm s12 wx => ∃ (j : Nat) (m : BandM) (HA'' : List Ytnpoakabheeoeaa.HB), j ≤ p * q ∧ mm = p * q - j ∧ s12 = .int .i64 (j : Int) ∧ BandR d m HA'' ∧ m.ss.length = p * q ∧ (∀ i, j ≤ i → i < p * q → m.ss[i]? = some stNew.m) ∧ Mv w [] wx (HA'' ++ noneX xb (P : Int) (.slice pa np pc) (.slice ba nb bc) Hp Hb))
    case atStart => exact ⟨0, _, HA', Nat.zero_le _, rfl, rfl, K8.out.1, HSS.out, hss2.out, K8.out.2⟩
    case round =>
      obtain ⟨j, m, HA1, hj, rfl, rfl, hB, hml, hmi, M⟩ := hrel
      by_cases hlt : j < p * q
      · have d1 : decide ((j : Int) < (p : Int) * (q : Int)) = true := decide_eq_true (by exact_mod_cast hlt)
        have hs0 := hmi j (Nat.le_refl _) hlt
        have e0 : stOf m (j : Int) = stNew.m := stOf_in hs0
        have B0 := Lib.hid (none_block0 hB (j : Int) (by rw [e0]; exact ⟨rfl, rfl, rfl⟩) M)
        have KM := Lib.hid (And.intro hB (And.intro hml hmi))
        have E0 : Hid ((stOf m (j : Int)).said = 0) := Lib.hid (by rw [e0]; rfl)
        obtain ⟨m1, hm1⟩ : ∃ m1, addM m (j : Int) (P : Int) ps bs = m1 := ⟨_, rfl⟩
        have E1 : Hid (m1.ss = m.ss.set j ⟨(P : Int), ps, bs, stNew.m.said, stNew.m.lb⟩) := Lib.hid (by rw [← hm1]; exact addM_ss hs0 _ _ _)
        have HM1 := Lib.hid hm1
        have hfd : ∀ (a : Option Addr) (c : Nat) (a' : Option Addr) (c' : Nat) (W : World), (Instr.field 45 (.agg #[.int .i64 0, .slice a 0 c, .slice a' 0 c']) 0).run Try.prog W = .ok (.int .i64 0) W := fun _ _ _ _ _ => by kernel_rfl
        clear hB hml hmi M hs0 e0 hm1 K8 hss2 HSS
        go_upto_region 14 with (go_at_call 16; refine B0.out.mono ?_; rintro e w8 ⟨a1, c1, a2, c2, rfl, m8⟩; have K8 := Lib.hid m8; clear m8)
        clear B0 hfd
        obtain ⟨x0, x1, x2⟩ := noneX_cells K8.out
        go_upto_region 15 with (first
          | (go_at_call 15; refine (OFC.out _ _ K8.out).mono ?_; rintro e w9 ⟨vp9, H9, rfl, r9, m9⟩; have K9 := Lib.hid (And.intro r9 m9); clear r9 m9)
          | (go_at_call 14; refine (ADC.out _ _ _ _ _ _ K9.out.1 KM.out.1 E0.out K9.out.2).mono ?_; rintro e w10 ⟨rfl, HA2, h10, m10⟩; rw [HM1.out] at h10; have K10 := Lib.hid (And.intro h10 m10); clear h10 m10))
        clear x0 x1 x2 K9 K8
        have e5 : stOf m1 (j : Int) = ⟨(P : Int), ps, bs, stNew.m.said, stNew.m.lb⟩ := stOf_in (by rw [E1.out]; exact List.getElem?_set_self (by rw [KM.out.2.1]; exact hlt))
        have BK : Hid (Calls Try.prog 16 #[.pointer (some ⟨d.bb, 0, none⟩), .int .i64 (j : Int)] w10.drew fun e w' => ∃ v1 b1 H1 H2, e = .returned (.agg #[.int .i64 (P : Int), v1, b1]) ∧ RowP v1 ps H1 ∧ RowB b1 bs H2 ∧ Mv w [] w' ((H1 ++ (H2 ++ HA2)) ++ noneX xb (P : Int) (.slice pa np pc) (.slice ba nb bc) Hp Hb)) := Lib.hid ((none_block K10.out.1 (j : Int) K10.out.2.drew).mono (fun e w' h => by
          obtain ⟨v1, b1, H1, H2, rfl, r1, r2, m1⟩ := h
          rw [e5] at r1 r2
          refine ⟨v1, b1, H1, H2, by rw [e5], r1, r2, ?_⟩
          simpa [List.append_assoc] using m1))
        obtain ⟨x0, x1, x2⟩ := noneX_cells K10.out.2.drew
        have SXB : Hid (∀ (W : World) (H : List Ytnpoakabheeoeaa.HB), Mv w [] W (H ++ noneX xb (P : Int) (.slice pa np pc) (.slice ba nb bc) Hp Hb) → Sat W Hb) := Lib.hid (fun W H m => by
          have h1 := m.drop.sat
          exact Sat.right (A := [_] ++ Hp) (by simpa [noneX] using h1))
        clear e5
        go_region_law (first
          | (go_simp; go_at_call 16; refine BK.out.mono ?_; rintro e w11 ⟨v1, b1, H11, H12, rfl, r1, r2, m11⟩; have K11 := Lib.hid (And.intro r1 (And.intro r2 m11)); (have z0 : w11.cell? ⟨xb, 0, none⟩ = some (.int .i64 (P : Int)) := (by first | exact (noneX_cells K11.out.2.2).1)); (have z1 : w11.cell? ⟨xb, 1, none⟩ = some (.slice pa np pc) := (by first | exact (noneX_cells K11.out.2.2).2.1)); (have z2 : w11.cell? ⟨xb, 2, none⟩ = some (.slice ba nb bc) := (by first | exact (noneX_cells K11.out.2.2).2.2)); clear r1 r2 m11)
          | (go_simp; go_at_call 15; refine (OFC.out _ _ K11.out.2.2).mono ?_; rintro e w12 ⟨vp12, H13, rfl, r12, m12⟩; have K12 := Lib.hid (And.intro r12 m12); clear r12 m12)
          | (go_simp; go_at_call 17; refine (same_true (P : Int) v1 vp12 b1 (.slice ba nb bc) ps bs H11 H13 H12 Hb w12 K11.out.1 K12.out.1 K11.out.2.1 KR.out.2.1 K12.out.2.sat.right.left.left K12.out.2.sat.left K12.out.2.sat.right.left.right.left (SXB.out w12 (H13 ++ (H11 ++ (H12 ++ HA2))) (by rw [List.append_assoc]; exact K12.out.2)) (by omega) (by omega)).mono ?_; rintro e w13 ⟨rfl, m13⟩; have K13 : Hid (Mv w [] w13 (H13 ++ ((H11 ++ (H12 ++ HA2)) ++ noneX xb (P : Int) (.slice pa np pc) (.slice ba nb bc) Hp Hb))) := Lib.hid (Mv.call (H := []) (H' := []) K12.out.2 m13); clear m13))
        all_goals
          have M14 : Hid (Mv w [] w13 (HA2 ++ noneX xb (P : Int) (.slice pa np pc) (.slice ba nb bc) Hp Hb)) := Lib.hid (by
            have h := K13.out.drop
            rw [List.append_assoc, List.append_assoc] at h
            exact h.drop.drop)
          go_wp2_with fail
          go_roundg (p * q - (j + 1))
          case measure => omega
          case rel => exact ⟨j + 1, m1, HA2, by omega, rfl, by push_cast; rfl, K10.out.1, by rw [E1.out, List.length_set]; exact KM.out.2.1, (fun i h1 h2 => by rw [E1.out, List.getElem?_set_ne (by omega)]; exact KM.out.2.2 i (by omega) h2), M14.out⟩
      · have hjq : j = p * q := by omega
        have d1 : decide ((j : Int) < (p : Int) * (q : Int)) = false := decide_eq_false (by intro h; exact hlt (by exact_mod_cast h))
        have B1 := Lib.hid (none_block0 hB kk (by rw [stOf_out (HO.out m hml)]; exact ⟨rfl, rfl, rfl⟩) M)
        have B2 := Lib.hid (fun (W : World) (M : Mv w [] W (HA1 ++ noneX xb (P : Int) (.slice pa np pc) (.slice ba nb bc) Hp Hb)) => none_block0 hB (-1) (by rw [stOf_out (.inl (by decide))]; exact ⟨rfl, rfl, rfl⟩) M)
        have hf1 : ∀ (a : Option Addr) (c : Nat) (a' : Option Addr) (c' : Nat) (W : World), (Instr.field 45 (.agg #[.int .i64 0, .slice a 0 c, .slice a' 0 c']) 1).run Try.prog W = .ok (.slice a 0 c) W := fun _ _ _ _ _ => by kernel_rfl
        have hf2 : ∀ (a : Option Addr) (c : Nat) (a' : Option Addr) (c' : Nat) (W : World), (Instr.field 45 (.agg #[.int .i64 0, .slice a 0 c, .slice a' 0 c']) 2).run Try.prog W = .ok (.slice a' 0 c') W := fun _ _ _ _ _ => by kernel_rfl
        clear hB hml hmi M K8 hss2 HSS hjq
        go_wp2_with (first
          | (go_at_call 16; (with_reducible refine B1.out.mono ?_); rintro e w8 ⟨a1, c1, a2, c2, rfl, m8⟩; have K8 := Lib.hid m8; clear m8)
          | (go_at_call 16; (with_reducible refine (B2.out _ K8.out).mono ?_); rintro e w9 ⟨a3, c3, a4, c4, rfl, m9⟩; have K9 := Lib.hid m9; clear m9))
        go_ret
        exact ⟨rfl, K9.out.below0⟩
end Go.Proofs.Ytnpoakabheeoeaa
