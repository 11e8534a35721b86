/- marks.Main. -/
import Derived.Test.YtlhlhlabnjfhcaaMnD
import Derived.Test.YtlhlhlabnjfhcaaCv
import Derived.Test.YtlhlhlabnjfhcaaFmL
namespace Go.Proofs.Ytlhlhlabnjfhcaa
open Go.RowKit

section
variable {P : Program} {w : World}
theorem step_load_row {ops : Array Oper} {o : Oper} {a : Act} {K : Act → World → Prop} {Q : Exit → Act → World → Prop} {E : Prop} (hgd : o.guard = none) (ty : TypeId) (x : Operand) (ho : o.op = .load ty x)
    (g : Nat) (t : TypeId) (cs : Array Value) (d : TypeDesc) (hu : P.underlying ty = some d) (hd : (match d with | .struct _ | .array _ _ => true | _ => false) = true) (hi : (P.info? ty).map (·.size) = some cs.size)
    (hx : a.eval x = .pointer (some ⟨g, 0, none⟩)) (hg : Blk w g t cs) (h : K (a.put o.dst (.agg cs)) w) :
    if Region.wanted o (yielded ops a.tmps) = true then Oper.wp P o a w K Q else E := by
  have hw : Region.wanted o (yielded ops a.tmps) = true := by simp [Region.wanted, hgd]
  rw [if_pos hw]
  exact wp_load_row ty x ho g hx t cs (0, 0) d hg hu hd hi h
theorem step_store_row {ops : Array Oper} {o : Oper} {a : Act} {K : Act → World → Prop} {Q : Exit → Act → World → Prop} {E : Prop} (hgd : o.guard = none) (ty : TypeId) (x y : Operand) (ho : o.op = .store ty x y)
    (g : Nat) (t : TypeId) (cs old : Array Value) (hi : (P.info? ty).map (·.size) = some cs.size) (hold : old.size = cs.size) (h1 : cs.all (·.oneCell') = true)
    (hx : a.eval x = .pointer (some ⟨g, 0, none⟩)) (hy : a.eval y = .agg cs) (hg : Blk w g t old) (h : K (a.put o.dst undef) (w.setRow g cs)) :
    if Region.wanted o (yielded ops a.tmps) = true then Oper.wp P o a w K Q else E := by
  have hw : Region.wanted o (yielded ops a.tmps) = true := by simp [Region.wanted, hgd]
  rw [if_pos hw]
  exact wp_store_row ty x y ho g cs hx hy t old hg hi hold h1 h
end

def comB (cl : List UInt8) : List UInt8 := if cl = [] then [] else segB 65380 (putsB 2 [1] ++ cl)
def mainM (m : ImgD) (p : ParD) (cl : List UInt8) : List UInt8 := putsB 2 [65359] ++ segB 65361 (sizB m p) ++ segB 65362 (codM p) ++ segB 65372 (qcdM m p) ++ comB cl

theorem compsB_length (cs : List CompD) : (compsB cs).length = 3 * cs.length := by
  induction cs with
  | nil => rfl
  | cons c cs ih => simp only [compsB, List.flatMap_cons, List.length_append] at ih ⊢; rw [putsB_length, ih, List.length_cons]; simp; omega
theorem flat_rep (n : Nat) (Q : List UInt8) : (List.replicate n Q).flatten.length = n * Q.length := by
  induction n with
  | zero => simp
  | succ n ih => rw [List.replicate_succ, List.flatten_cons, List.length_append, ih, Nat.add_mul, Nat.one_mul, Nat.add_comm]
theorem sizB_length (m : ImgD) (p : ParD) : (sizB m p).length = 36 + 3 * m.cs.length := by
  unfold sizB
  simp only [List.length_append, putsB_length, compsB_length]
  simp
theorem codM_length (p : ParD) (h : 0 ≤ p.lv) : (codM p).length = 11 + p.lv.toNat := by
  unfold codM
  simp only [List.length_append, putsB_length, flat_rep]
  simp
  omega
theorem qcdM_length (m : ImgD) (p : ParD) : (qcdM m p).length = 2 + 3 * p.lv.toNat := by
  unfold qcdM bandB
  simp only [List.length_append, putsB_length, flat_rep]
  simp
  omega
theorem segB_length (m : Int) (x : List UInt8) : (segB m x).length = 4 + x.length := by
  unfold segB
  rw [List.length_append, putsB_length]
  simp
theorem comB_length (cl : List UInt8) : (comB cl).length = if cl = [] then 0 else 6 + cl.length := by
  unfold comB
  split
  · rfl
  · rw [segB_length, List.length_append, putsB_length]; simp; omega

theorem seg_pack (L0 X : List UInt8) (mk : Int) (hl : L0.length ≤ 100000) (hx : X.length ≤ 100000) :
    ∃ L, L0 ++ segB mk X = L ∧ L.length = L0.length + 4 + X.length ∧ Hid (∀ (v bv : Value) (W : World), BV W v L0 → BV W bv X → Calls Try.prog 34 #[v, .int .i64 mk, bv] W fun e w' => ∃ v', e = .returned v' ∧ w'.ownsRow W.heap.size 5 1 v' L.length (cellsB L) ∧ Below W.heap.size W w') :=
  ⟨_, rfl, by rw [List.length_append, segB_length]; omega, Lib.hid fun v bv W h h2 => seg_any v bv L0 X mk W h h2 hl hx⟩

set_option maxRecDepth 100000 in
set_option maxHeartbeats 4000000 in
theorem main_any (m : ImgD) (v : Value) (p : ParD) (cv : Value) (cl : List UInt8) (w : World) (hv : CompsRd w v m.cs) (hc : BV w cv cl) (hcl : cl.length ≤ 1000) (hF : frameE m p = 0) (hl : m.cs.length ≤ 4) (hcs : ∀ c ∈ m.cs, 1 ≤ c.depth ∧ c.depth ≤ 16) (hp : ParOk p) :
    Calls Try.prog 18 #[.agg (headA m v p cv)] w fun e w' => ∃ v', e = .returned v' ∧ w'.ownsRow w.heap.size 5 1 v' (mainM m p cl).length (cellsB (mainM m p cl)) ∧ Below w.heap.size w w' := by
  have HV := Lib.hid hv
  have HC := Lib.hid hc
  obtain ⟨va, vc, rfl, -⟩ := hv
  obtain ⟨ca, cc, rfl, -⟩ := hc
  have FR := Lib.hid fun (W : World) (h : CompsRd W (.slice va m.cs.length vc) m.cs) => frame_any m (.slice va m.cs.length vc) p W h (by omega)
  rw [hF] at FR
  have SZ := Lib.hid fun (W : World) (h : CompsRd W (.slice va m.cs.length vc) m.cs) => sizes_any m (.slice va m.cs.length vc) p (.slice ca cl.length cc) W h ⟨_, _, _, rfl⟩ hl hcs
  have CD := Lib.hid fun (W : World) => coding_any m (.slice va m.cs.length vc) p (.slice ca cl.length cc) W ⟨_, _, _, rfl⟩ ⟨_, _, _, rfl⟩ (by unfold ParOk at hp; omega) (by unfold ParOk at hp; omega) (by unfold ParOk at hp; omega) (by unfold ParOk at hp; omega) (by unfold ParOk at hp; omega) (by unfold ParOk at hp; omega) (by unfold ParOk at hp; omega) (by unfold ParOk at hp; omega)
  have QC := Lib.hid fun (W : World) (h : CompsRd W (.slice va m.cs.length vc) m.cs) => planes_any m (.slice va m.cs.length vc) p (.slice ca cl.length cc) W h ⟨_, _, _, rfl⟩ hl hcs (by unfold ParOk at hp; omega) (by unfold ParOk at hp; omega)
  have lS : (sizB m p).length ≤ 100 := by rw [sizB_length]; omega
  have lC : (codM p).length ≤ 100 := by unfold ParOk at hp; rw [codM_length p (by omega)]; omega
  have lQ : (qcdM m p).length ≤ 100 := by unfold ParOk at hp; rw [qcdM_length]; omega
  obtain ⟨MM, hMM⟩ : ∃ C, mainM m p cl = C := ⟨_, rfl⟩
  have hM2 : MM = putsB 2 [65359] ++ segB 65361 (sizB m p) ++ segB 65362 (codM p) ++ segB 65372 (qcdM m p) ++ comB cl := by rw [← hMM]; rfl
  have HM := Lib.hid hMM
  clear hMM
  generalize sizB m p = S at *
  generalize codM p = C at *
  generalize qcdM m p = Qc at *
  obtain ⟨L1, e1, l1, PA⟩ := puts_pack [] 2 2 [65359] [65359] rfl rfl (by decide) (by decide) (by simp) (by simp) (by simp)
  obtain ⟨L2, e2, l2, S1⟩ := seg_pack L1 S 65361 (by simp at l1; omega) (by omega)
  obtain ⟨L3, e3, l3, S2⟩ := seg_pack L2 C 65362 (by simp at l1; omega) (by omega)
  obtain ⟨L4, e4, l4, S3⟩ := seg_pack L3 Qc 65372 (by simp at l1; omega) (by omega)
  have hl4 : L4.length ≤ 1000 := by simp at l1; omega
  replace hM2 : MM = L4 ++ comB cl := by rw [hM2, ← e4, ← e3, ← e2, ← e1]; rfl
  have HM2 := Lib.hid hM2
  clear e1 e2 e3 e4 l1 l2 l3 l4 lS lC lQ hM2
  unfold headA
  go_enter Try.func18, Try.ntmps18
  go_upto_region 1 with fail
  obtain ⟨wA, hwA⟩ : ∃ wA, wA = w.alloc (.cells (headA m (.slice va m.cs.length vc) p (.slice ca cl.length cc)) 33) := ⟨_, rfl⟩
  have hh : Blk wA w.heap.size 33 (headA m (.slice va m.cs.length vc) p (.slice ca cl.length cc)) := by rw [hwA]; exact Blk.new _ _ _
  have hBA : Below w.heap.size w wA := by rw [hwA]; exact (Below.refl _ _).alloc (Nat.le_refl _) _
  have hsA : wA.heap.size = w.heap.size + 1 := by rw [hwA]; simp
  unfold headA at hwA
  simp only [← hwA]
  clear hwA
  have ac : ∀ k, wA.cell? ⟨w.heap.size, k, none⟩ = (headA m (.slice va m.cs.length vc) p (.slice ca cl.length cc))[k]? := hh.cell
  have HVA := Lib.hid (HV.out.keep hBA)
  have HS := Lib.hid hsA
  have HH := Lib.hid (And.intro hh hBA)
  clear hh hBA hsA
  unfold headA at ac
  obtain ⟨a0, a1, a2, a3, a4, a5, a6, a7, a8, a9, a10, a11, a12, a13, a14, a15, a16, a17⟩ := And.intro (ac 0) (And.intro (ac 1) (And.intro (ac 2) (And.intro (ac 3) (And.intro (ac 4) (And.intro (ac 5) (And.intro (ac 6) (And.intro (ac 7) (And.intro (ac 8) (And.intro (ac 9) (And.intro (ac 10) (And.intro (ac 11) (And.intro (ac 12) (And.intro (ac 13) (And.intro (ac 14) (And.intro (ac 15) (And.intro (ac 16) (ac 17)))))))))))))))))
  simp only [List.getElem?_toArray, List.getElem?_cons_zero, List.getElem?_cons_succ] at a0 a1 a2 a3 a4 a5 a6 a7 a8 a9 a10 a11 a12 a13 a14 a15 a16 a17
  clear ac
  have FR1 := Lib.hid (FR.out wA HVA.out)
  unfold imgV parV at FR1
  clear FR
  have sf : w.heap.size < wA.heap.size := by have := HS.out; omega
  have d1 : decide ((1000 : Int) < (cl.length : Int)) = false := by simp; omega
  go_upto_region 3 with (go_at_call 32; refine FR1.out.mono ?_; rintro e w1 ⟨rfl, hB1⟩; have b17 := bcellC hB1 a17 sf)
  obtain ⟨hh, hBA⟩ := HH.out
  have hh1 := hh.below hB1 sf
  have hw1 := hBA.trans (hB1.mono hBA.size)
  have hs1 := Nat.le_trans hBA.size hB1.size
  have sf1 := hh1.lt
  have HX := Lib.hid (And.intro hh1 hw1)
  clear hh hBA HH hh1 hw1 hB1 FR1 sf HVA a0 a1 a2 a3 a4 a5 a6 a7 a8 a9 a10 a11 a12 a13 a14 a15 a16 a17 b17
  go_upto_region 4 with (go_at_call 33; (with_reducible refine (PA.out _ _ _ ?_ ?_).mono ?_); exact BV.nil_ _; exact RdI.lit w1 [65359] (by simp [maxLen]); rintro e w2 ⟨v2, rfl, ho2, hB2'⟩; have hB2 : Below w1.heap.size w1 w2 := ((Below.refl _ _).alloc (Nat.le_refl _) _).trans (hB2'.mono (by simp)); obtain ⟨x2, p2, rfl⟩ := owns_slice ho2)
  have hh2 := HX.out.1.below hB2 sf1
  have hw2 := HX.out.2.trans (hB2.mono HX.out.2.size)
  have sf2 := hh2.lt
  have hg2 : w2.heap[w.heap.size]? = some (.cells (headA m (.slice va m.cs.length vc) p (.slice ca cl.length cc)) 33 (0, 0)) := hh2
  have HG2 := Lib.hid hg2
  have HX2 := Lib.hid (And.intro hh2 hw2)
  have HV2 := Lib.hid (HV.out.keep hw2)
  have HO2 := Lib.hid (BV.of_owns (l := L1) ho2)
  clear hh2 hw2 hg2 hB2 hB2' ho2 HX PA sf1
  go_step
  go_step
  go_step
  go_step
  refine wpList_load_row rfl 33 (.tmp 1) rfl w.heap.size rfl 33 (headA m (.slice va m.cs.length vc) p (.slice ca cl.length cc)) (0, 0) _ HG2.out Try.underlying33 rfl (by kernel_rfl) ?_
  go_upto_region 5 with (first
    | (go_at_call 35; refine (SZ.out _ HV2.out).mono ?_; rintro e u2 ⟨y2, rfl, ho2', hb2⟩; obtain ⟨yA2, yc2, rfl⟩ := owns_slice ho2'; have HY2 := Lib.hid (BV.of_owns (l := S) ho2'); have HLO2 := Lib.hid (HO2.out.keep hb2))
    | (go_at_call 34; (with_reducible refine (S1.out _ _ _ ?_ ?_).mono ?_); exact HLO2.out; exact HY2.out; rintro e w3 ⟨v3, rfl, ho3, hb3'⟩; obtain ⟨x3, p3, rfl⟩ := owns_slice ho3))
  have hb3'' : Below w2.heap.size w2 w3 := hb2.trans (hb3'.mono hb2.size)
  have hh3 := HX2.out.1.below hb3'' sf2
  have hw3 := HX2.out.2.trans (hb3''.mono HX2.out.2.size)
  have sf3 := hh3.lt
  have HG3 : Hid (w3.heap[w.heap.size]? = some (.cells (headA m (.slice va m.cs.length vc) p (.slice ca cl.length cc)) 33 (0, 0))) := hh3
  have HX3 := Lib.hid (And.intro hh3 hw3)
  have HV3 := Lib.hid (HV.out.keep hw3)
  have HO3 := Lib.hid (BV.of_owns (l := L2) ho3)
  clear hh3 hw3 hb3' hb3'' ho2' hb2 HX2 HG2 HLO2 HY2 sf2 HO2
  go_step
  go_step
  go_step
  go_step
  refine wpList_load_row rfl 33 (.tmp 1) rfl w.heap.size rfl 33 (headA m (.slice va m.cs.length vc) p (.slice ca cl.length cc)) (0, 0) _ HG3.out Try.underlying33 rfl (by kernel_rfl) ?_
  go_upto_region 6 with (first
    | (go_at_call 36; refine (CD.out _).mono ?_; rintro e u3 ⟨y3, rfl, ho3', hb3⟩; obtain ⟨yA3, yc3, rfl⟩ := owns_slice ho3'; have HY3 := Lib.hid (BV.of_owns (l := C) ho3'); have HLO3 := Lib.hid (HO3.out.keep hb3))
    | (go_at_call 34; (with_reducible refine (S2.out _ _ _ ?_ ?_).mono ?_); exact HLO3.out; exact HY3.out; rintro e w4 ⟨v4, rfl, ho4, hb4'⟩; obtain ⟨x4, p4, rfl⟩ := owns_slice ho4))
  have hb4'' : Below w3.heap.size w3 w4 := hb3.trans (hb4'.mono hb3.size)
  have hh4 := HX3.out.1.below hb4'' sf3
  have hw4 := HX3.out.2.trans (hb4''.mono HX3.out.2.size)
  have sf4 := hh4.lt
  have HG4 : Hid (w4.heap[w.heap.size]? = some (.cells (headA m (.slice va m.cs.length vc) p (.slice ca cl.length cc)) 33 (0, 0))) := hh4
  have HX4 := Lib.hid (And.intro hh4 hw4)
  have HV4 := Lib.hid (HV.out.keep hw4)
  have HO4 := Lib.hid (BV.of_owns (l := L3) ho4)
  clear hh4 hw4 hb4' hb4'' ho3' hb3 HX3 HG3 HLO3 HY3 sf3 HO3
  go_step
  go_step
  go_step
  go_step
  refine wpList_load_row rfl 33 (.tmp 1) rfl w.heap.size rfl 33 (headA m (.slice va m.cs.length vc) p (.slice ca cl.length cc)) (0, 0) _ HG4.out Try.underlying33 rfl (by kernel_rfl) ?_
  go_upto_region 7 with (first
    | (go_at_call 37; refine (QC.out _ HV4.out).mono ?_; rintro e u4 ⟨y4, rfl, ho4', hb4⟩; obtain ⟨yA4, yc4, rfl⟩ := owns_slice ho4'; have HY4 := Lib.hid (BV.of_owns (l := Qc) ho4'); have HLO4 := Lib.hid (HO4.out.keep hb4))
    | (go_at_call 34; (with_reducible refine (S3.out _ _ _ ?_ ?_).mono ?_); exact HLO4.out; exact HY4.out; rintro e w5 ⟨v5, rfl, ho5, hb5'⟩; obtain ⟨x5, p5, rfl⟩ := owns_slice ho5))
  have hb5'' : Below w4.heap.size w4 w5 := hb4.trans (hb5'.mono hb4.size)
  have hh5 := HX4.out.1.below hb5'' sf4
  have hw5 := HX4.out.2.trans (hb5''.mono HX4.out.2.size)
  have sf5 := hh5.lt
  have HG5 : Hid (w5.heap[w.heap.size]? = some (.cells (headA m (.slice va m.cs.length vc) p (.slice ca cl.length cc)) 33 (0, 0))) := hh5
  have HX5 := Lib.hid (And.intro hh5 hw5)
  have HV5 := Lib.hid (HV.out.keep hw5)
  have HO5 := Lib.hid (BV.of_owns (l := L4) ho5)
  have HU := Lib.hid (Nat.le_trans HX4.out.2.size hb4.size)
  clear hh5 hw5 hb5' hb5'' ho4' hb4 HX4 HG4 HLO4 HY4 sf4 HO4
  have b17 : w5.cell? ⟨w.heap.size, 17, none⟩ = some (.slice ca cl.length cc) := HX5.out.1.cell 17
  have HO5' := Lib.hid (owns_base (B' := w.heap.size) ho5 HU.out)
  clear SZ CD QC S1 S2 S3 ho5
  obtain ⟨i0, hti, hz0, hz1, hz2⟩ := info_parts infoU8
  have hMMl : MM.length ≤ 100000 := by rw [HM2.out, List.length_append, comB_length]; split <;> omega
  by_cases h0 : cl = []
  · have hM : L4 = MM := by rw [HM2.out]; unfold comB; rw [if_pos h0, List.append_nil]
    have hl0 : cl.length = 0 := by rw [h0]; rfl
    have dd : decide ((0 : Int) < (cl.length : Int)) = false := by simp [hl0]
    have HH0 := Lib.hid (And.intro hM hl0)
    rw [hM] at HO5'
    clear HO5
    rw [hM]
    clear hM hl0 h0
    go_upto_region 9 with fail
    all_goals try (exfalso; have hz := HH0.out.2; omega; done)
    obtain ⟨zA, zc, hze, z1, z2, z3⟩ := BV.of_owns (l := MM) HO5'.out
    cases hze
    have HZ := Lib.hid (cloneB x5 MM.length p5 (cellsB MM) w5 z3 (cellsB_one MM) (by have := hMMl; omega))
    have HBf := Lib.hid HX5.out.2
    clear z3
    go_wp2_with (go_at_call 38; refine HZ.out.mono ?_; rintro e wf ⟨vf, rfl, hof, hbf⟩; obtain ⟨fA, fc, rfl⟩ := owns_slice hof)
    go_ret
    exact ⟨.slice fA MM.length fc, rfl, by rw [HM.out]; exact owns_base hof HBf.out.size, HBf.out.trans (hbf.mono HBf.out.size)⟩
  · have hpos : 0 < cl.length := List.length_pos_iff.2 h0
    have dd : decide ((0 : Int) < (cl.length : Int)) = true := by simp; omega
    have hM : MM = L4 ++ segB 65380 (putsB 2 [1] ++ cl) := by rw [HM2.out]; unfold comB; rw [if_neg h0]
    obtain ⟨R1, r1, lr1, PR⟩ := puts_pack [] 2 2 [1] [1] rfl rfl (by decide) (by decide) (by simp) (by simp) (by simp)
    have r1' : putsB 2 [1] = R1 := r1
    rw [r1'] at hM
    have hR1 : R1.length ≤ 2 := by simp at lr1; omega
    obtain ⟨R2, r2⟩ : ∃ L, R1 ++ cl = L := ⟨_, rfl⟩
    have hR2 : R2.length = R1.length + cl.length := by rw [← r2, List.length_append]
    rw [r2] at hM
    have hR3 : R2.length ≤ 2000 := by omega
    obtain ⟨L5, e5, -, S5⟩ := seg_pack L4 R2 65380 (by omega) (by omega)
    rw [← hM] at e5
    rw [← e5] at S5
    have HMM := Lib.hid (And.intro r2 hR2)
    have hcm : cl.length ≤ maxLen := by unfold maxLen; omega
    have HCA := Lib.hid (HC.out.keep HX5.out.2)
    clear r1 r1' r2 lr1 e5 hM hR2 h0
    go_upto_region 8 with fail
    go_region_law (first
      | (go_simp; go_at_call 34; (with_reducible refine (S5.out _ _ _ ?_ ?_).mono ?_); exact HO5.out.keep HB7.out; exact HR7.out; rintro e w9 ⟨v9, rfl, ho9, hb9'⟩; have HB9 : Below w5.heap.size w5 w9 := HB7.out.trans (hb9'.mono HB7.out.size); have HO9 := Lib.hid (owns_base (B' := w5.heap.size) ho9 HB7.out.size); obtain ⟨x9, p9, rfl⟩ := owns_slice ho9)
      | ((with_reducible refine step_append_any _ (o := ⟨some 39, _, _, _, _, _⟩) rfl (.tmp 36) (.tmp 38) 25 rfl w5.heap.size 5 i0 (.int .u8 0) 1 1 Try.underlying25 hti hz0 hz1 hz2 rfl (by decide) (.slice x6 R1.length p6) R1.length (cellsB R1) ?_ ?_ w6.heap.size ca cl.length cc (cellsB cl) ?_ ?_ ?_ ?_ ?_ ?_ ?_); (simp [Act.eval]; exact HO6.out; simp [Act.eval]; exact G6.out; exact cellsB_one cl; unfold maxLen; omega; omega; exact HB6.out.size; intro v7 w7 hown7 hg7 hat7; have e7 : cellsB R1 ++ cellsB cl = cellsB R2 := (by rw [← HMM.out.1]; simp [cellsB]); rw [e7, ← HMM.out.2] at hown7; obtain ⟨x7, p7, rfl⟩ := owns_slice hown7; have HR7 := Lib.hid (BV.of_owns (l := R2) hown7); have HB7 : Hid (Below w5.heap.size w5 w7) := HB6.out.trans (below_grown hg7 HB6.out.size (by intro k hk; have := (HO6.out.lt k hk).1; omega))))
      | (go_simp; go_at_call 33; (with_reducible refine (PR.out _ _ _ ?_ ?_).mono ?_); exact BV.nil_ _; (first | exact RdI.litD w5 [1] (by decide) | exact RdI.lit w5 [1] (by decide)); rintro e w6 ⟨v6, rfl, ho6, hb6'⟩; have hb6 : Below w5.heap.size w5 w6 := (((Below.refl _ _).alloc (Nat.le_refl _) _).drew).trans (hb6'.mono (by simp)); have HB6 := Lib.hid hb6; have b17' := bcellC hb6 b17 sf5; have HO6 := Lib.hid (owns_base (B' := w5.heap.size) ho6 (by simp)); have G6 : Hid (Reads w6 w6.heap.size 1 ca cl.length (cellsB cl)) := (by obtain ⟨_, _, he, _, _, g3⟩ := HCA.out.keep hb6; cases he; exact g3); obtain ⟨x6, p6, rfl⟩ := owns_slice ho6; clear hb6 hb6' ho6))
    all_goals
      obtain ⟨zA, zc, hze, z1, z2, z3⟩ := BV.of_owns (l := MM) HO9.out
      cases hze
      have HZ := Lib.hid (cloneB x9 MM.length p9 (cellsB MM) w9 z3 (cellsB_one MM) (by have := hMMl; omega))
      have HBf := Lib.hid (HX5.out.2.trans (HB9.mono HX5.out.2.size))
      clear z3
      go_wp2_with (go_at_call 38; refine HZ.out.mono ?_; rintro e wf ⟨vf, rfl, hof, hbf⟩; obtain ⟨fA, fc, rfl⟩ := owns_slice hof)
      go_ret
      exact ⟨.slice fA MM.length fc, rfl, by rw [HM.out]; exact owns_base hof HBf.out.size, HBf.out.trans (hbf.mono HBf.out.size)⟩
end Go.Proofs.Ytlhlhlabnjfhcaa
