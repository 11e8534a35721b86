/- MarksSizes: the law's walk. -/
import Derived.Test.YtlhlhlabnjfhcaaLzA
import Derived.OwnWalk
namespace Go.Proofs.Ytlhlhlabnjfhcaa
open Go.RowKit

theorem step_make_full {P : Program} (w : World) {ops : Array Oper} {o : Oper} {a : Act} {K : Act → World → Prop} {Q : Exit → Act → World → Prop} {E : Prop}
    (hg : o.guard = none) (l c : Operand) (t : TypeId) (hop : o.op = Op.makeSlice t l c)
    (base : Nat) (e : TypeId) (i : TypeInfo) (z : Value) (size : Nat) (h1 : P.underlying t = some (.slice e)) (h2 : P.info? e = some i) (h3 : i.zero = some z) (h4 : i.size = size)
    (kl kc : IntKind) (L C : Int) (n : Nat) (hl : a.eval l = .int kl L) (hc : a.eval c = .int kc C) (hL : L = (n : Int)) (hC : C = (n : Int)) (b2 : i.bytes * n ≤ 281474976710656) (b3 : n ≤ maxLen) (b4 : base ≤ w.heap.size)
    (hK : ∀ w', w'.ownsRow base e size (.slice (some ⟨w.heap.size, 0, none⟩) n n) n (madeCells z.cells (n * size)).toList → w.grownBy w' none → K (a.put o.dst (.slice (some ⟨w.heap.size, 0, none⟩) n n)) w') :
    if Region.wanted o (yielded ops a.tmps) = true then Oper.wp P o a w K Q else E := by
  have hw : Region.wanted o (yielded ops a.tmps) = true := by simp [Region.wanted, hg]
  rw [if_pos hw]
  obtain ⟨w', hrun, r1, r2⟩ := run_make_full (P := P) w base t e i z size h1 h2 h3 h4 kl kc n b2 b3 b4
  subst hL
  subst hC
  unfold Oper.wp
  simp [execOp, hop, hl, hc, hrun, Result.andThen]
  exact hK w' r1 r2

theorem made_zero (n : Nat) : (madeCells (Value.int .u8 0).cells (n * 1)).toList = cellsB (List.replicate n (0 : UInt8)) := by
  unfold madeCells cellsB
  have h : ∀ x : Nat, [Value.int .u8 0][x % 1]?.getD default = Value.int .u8 0 := fun x => by rw [Nat.mod_one]; rfl
  simp only [Value.cells, Nat.mul_one]
  apply List.ext_getElem?
  intro k
  by_cases hk : k < n
  · simp [hk, Nat.mod_one]
  · simp [hk]

/-- what a law holds on to while it makes its head: the form in its box, its numbers -/
def Rg (f : FormD) (ns : Value) (nl : List Int) (w W : World) : Prop := Below w.heap.size w W ∧ Blk W w.heap.size 24 (formA f ns) ∧ RdI W ns nl
section
variable {f : FormD} {ns : Value} {nl : List Int} {w W W' : World}
theorem Rg.below (h : Rg f ns nl w W) (hb : Below W.heap.size W W') : Rg f ns nl w W' := ⟨h.1.trans (hb.mono h.1.size), h.2.1.below hb h.2.1.lt, h.2.2.keep hb⟩
theorem Rg.alloc (h : Rg f ns nl w W) (o : Obj) : Rg f ns nl w (W.alloc o) := h.below ((Below.refl _ _).alloc (Nat.le_refl _) _)
theorem Rg.allocD (h : Rg f ns nl w W) (o : Obj) : Rg f ns nl w (W.alloc o).drew := h.below (((Below.refl _ _).alloc (Nat.le_refl _) _).drew)
theorem Rg.grown (h : Rg f ns nl w W) (hg : W.grownBy W' none) : Rg f ns nl w W' := h.below (below_grown hg (Nat.le_refl _) (by simp))
end
def hZ : Obj := .cells (headA ⟨0, 0, 0, 0, []⟩ nilV zP nilV) 33

theorem CompsOwn.off {W W' : World} {B g : Nat} {v : Value} {cs : List CompD} {t : TypeId} {old : Array Value} (h : CompsOwn W B v cs) (hb : Blk W g t old) (t1 : 45 ≠ t) (t2 : 3 ≠ t) (hg : W.grownBy W' (some g)) : CompsOwn W' B v cs := by
  obtain ⟨dvs, h1, h2, h3⟩ := h
  exact ⟨dvs, h1, World.ownsRow.kept h2 hg (.inr (own_blk_ne h2 hb t1)), fun i c dv hc hd => World.ownsRow.kept (h3 i c dv hc hd) hg (.inr (own_blk_ne (h3 i c dv hc hd) hb t2))⟩
/-- noughts that the law has made -/
def Zr (w W : World) (cv : Value) (N : Nat) : Prop := W.ownsRow w.heap.size 5 1 cv N (cellsB (List.replicate N 0))
section
variable {w W W' : World} {cv : Value} {N g : Nat} {old : Array Value}
theorem Zr.keep (h : Zr w W cv N) (hb : Below W.heap.size W W') : Zr w W' cv N := owns_keepAll h hb
theorem Zr.off (h : Zr w W cv N) (hb : Blk W g 33 old) (hg : W.grownBy W' (some g)) : Zr w W' cv N := World.ownsRow.kept h hg (.inr (own_blk_ne h hb (by decide)))
theorem Zr.bv (h : Zr w W cv N) : BV W cv (List.replicate N 0) := by
  refine BV.of_owns (B := w.heap.size) (e := 5) ?_
  rw [List.length_replicate]
  exact h
/-- the head's variable, made before the head is -/
def Hz (w W : World) (g : Nat) : Prop := Blk W g 33 (headA ⟨0, 0, 0, 0, []⟩ nilV zP nilV) ∧ w.heap.size ≤ g
theorem Hz.below (h : Hz w W g) (hb : Below W.heap.size W W') : Hz w W' g := ⟨h.1.below hb h.1.lt, h.2⟩
theorem Hz.grown (h : Hz w W g) (hg : W.grownBy W' none) : Hz w W' g := ⟨h.1.grown hg (by simp), h.2⟩
theorem Hz.new {f : FormD} {ns : Value} {nl : List Int} (h : Rg f ns nl w W) : Hz w (W.alloc hZ) W.heap.size := ⟨Blk.new _ _ _, h.1.size⟩
end

theorem mainM_length (m : ImgD) (p : ParD) (cl : List UInt8) (h : 0 ≤ p.lv) : ((mainM m p cl).length : Int) = 63 + 3 * m.cs.length + 4 * p.lv + (if cl = [] then 0 else 6 + cl.length : Nat) := by
  unfold mainM
  simp only [List.length_append, segB_length, sizB_length, codM_length p h, qcdM_length, comB_length, putsB_length]
  simp only [List.length_cons, List.length_nil]
  split <;> omega
theorem mainM_head (m : ImgD) (p : ParD) (cl : List UInt8) : (mainM m p cl)[0]? = some 255 ∧ (mainM m p cl)[1]? = some 79 := by
  have e : mainM m p cl = [255, 79] ++ (segB 65361 (sizB m p) ++ segB 65362 (codM p) ++ segB 65372 (qcdM m p) ++ comB cl) := by
    unfold mainM
    rw [show putsB 2 [65359] = [255, 79] from (by kernel_rfl)]
    simp only [List.append_assoc]
  rw [e]
  exact ⟨rfl, rfl⟩

set_option maxRecDepth 100000 in
set_option maxHeartbeats 4000000 in
theorem sizes_law (f : FormD) (ns : Value) (nl : List Int) (n : Int) (w : World) (hn : RdI w ns nl) :
    Calls Try.prog 6 #[.agg (formA f ns), .int .i64 n] w fun e w' => e = .returned (.bool true) ∧ Below w.heap.size w w' := by
  have HN := Lib.hid hn
  obtain ⟨na, nc, rfl, -⟩ := hn
  have KN := Lib.hid known_any
  have HD := Lib.hid (head_any f (.slice na nl.length nc) nl)
  have WI := Lib.hid fun W => lwithin n 1001 W (by decide) (by decide)
  obtain ⟨N, hN⟩ := Int.eq_ofNat_of_zero_le (Int.emod_nonneg n (show (1001 : Int) ≠ 0 by decide))
  have hN2 := Int.emod_lt_of_pos n (show (0 : Int) < 1001 by decide)
  rw [hN] at WI hN2
  have hN3 : N ≤ 1000 := by omega
  clear hN hN2
  unfold formA
  go_enter Try.func6, Try.ntmps6
  go_upto_region 1 with fail
  obtain ⟨wA, hwA⟩ : ∃ wA, wA = w.alloc (.cells (formA f (.slice na nl.length nc)) 24) := ⟨_, rfl⟩
  have hh : Blk wA w.heap.size 24 (formA f (.slice na nl.length nc)) := by rw [hwA]; exact Blk.new _ _ _
  have hBA : Below w.heap.size w wA := by rw [hwA]; exact (Below.refl _ _).alloc (Nat.le_refl _) _
  have hsA : w.heap.size < wA.heap.size := by rw [hwA]; simp
  unfold formA at hwA
  simp only [← hwA]
  clear hwA
  have HH := Lib.hid (And.intro hh hBA)
  clear hh hBA
  go_upto_region 4 with (first | (go_at_call 11; refine (KN.out _).mono ?_; rintro e w1 ⟨rfl, hB1⟩) | (go_at_call 15; refine (WI.out _).mono ?_; rintro e w' ⟨rfl, rfl⟩))
  have hh1 := HH.out.1.below hB1 hsA
  have hw1 := HH.out.2.trans (hB1.mono HH.out.2.size)
  have sf1 := hh1.lt
  have R1 : Hid (Rg f (.slice na nl.length nc) nl w w1) := ⟨hw1, hh1, HN.out.keep hw1⟩
  clear hh1 hw1 hB1 HH hsA KN WI
  obtain ⟨i0, hti, hz0, hz1, hz2⟩ := info_parts infoU8
  go_cut [5] from 12 (fun s5 wx => ∃ (g : Nat) (m : ImgD) (p : ParD) (v cv : Value), s5 = .pointer (some ⟨g, 0, none⟩) ∧ Blk wx g 33 (headA m v p cv) ∧ CompsRd wx v m.cs ∧ BV wx cv (List.replicate N 0) ∧ MadeOk f 8 m p ∧ Below w.heap.size w wx)
  case first =>
    refine wp_region_any (by kernel_rfl) ?_
    try (change wpAny _ _ _ _ _ _ _ (World.drew _))
    refine wpAny_take (i := 1) (v := .int .i64 (N : Int)) rfl (by kernel_rfl) (by kernel_rfl) (by kernel_rfl) (fun _ _ _ h => h) (Or.inl ⟨by rfl, ?_⟩) ?_
    · intro w
      go_simp
    have R0 := Lib.hid (R1.out.below (Below.refl _ _).drew)
    generalize w1.drew = wd at R0 ⊢
    refine wpAny_ready (rs := [0, 2, 4]) (by kernel_rfl) (by simp) ?_
    refine AllReady.cons (o := ⟨some 12, .load 24 (.tmp 2), _, _, _, none⟩) rfl (fun K hK => ?_) ?_
    ·
      refine step_load_row rfl 24 (.tmp 2) rfl w.heap.size 24 (formA f (.slice na nl.length nc)) _ Try.underlying24 rfl (by kernel_rfl) (by simp [Act.eval, Act.put]) R0.out.2.1 ?_
      refine hK _ _ ?_
      clear hK K
      refine wpAny_ready (rs := [2, 4]) (by kernel_rfl) (by simp) ?_
      refine AllReady.cons (o := ⟨some 14, .makeSlice 25 (.tmp 13) (.tmp 13), _, _, _, none⟩) rfl (fun K hK => ?_) ?_
      ·
        refine step_make_full _ rfl (.tmp 13) (.tmp 13) 25 rfl w.heap.size 5 i0 (.int .u8 0) 1 Try.underlying25 hti hz0 hz1 .i64 .i64 (N : Int) (N : Int) N (by simp [Act.eval, Act.put]) (by simp [Act.eval, Act.put]) rfl rfl (by rw [hz2]; omega) (by unfold maxLen; omega) R0.out.1.size ?_
        intro wm1 ho2 hg3
        rw [made_zero] at ho2
        have R4 := Lib.hid (R0.out.grown hg3)
        have OM5 : Hid (Zr w wm1 _ N) := ho2
        clear ho2 hg3
        refine hK _ _ ?_
        clear hK K
        refine wpAny_ready (rs := [3, 4]) (by kernel_rfl) (by simp) ?_
        refine AllReady.cons (o := ⟨some 15, _, _, _, _, none⟩) rfl (fun K hK => ?_) ?_
        ·
          go_simp
          go_at_call 12
          refine (HD.out _ _ R4.out.2.2 ⟨_, _, _, rfl⟩).mono ?_
          rintro e wh6 ⟨m, p, v, rfl, hc8, hok, hb7⟩
          have R9 := Lib.hid (R4.out.below hb7)
          have OM10 := Lib.hid (OM5.out.keep hb7)
          have C11 := Lib.hid hc8
          clear hc8 hb7
          go_simp
          refine hK _ _ ?_
          clear hK K
          refine wpAny_ready (rs := [4]) (by kernel_rfl) (by simp) ?_
          refine AllReady.cons (o := ⟨some 5, .alloc 33, _, _, _, none⟩) rfl (fun K hK => ?_) ?_
          ·
            go_simp
            have R12 := Lib.hid (R9.out.alloc hZ)
            have HZ13 := Lib.hid (Hz.new R9.out)
            have OM14 := Lib.hid (OM10.out.keep ((Below.refl _ _).alloc (Nat.le_refl _) hZ))
            have C15 := Lib.hid (C11.out.keep ((Below.refl _ _).alloc (Nat.le_refl _) hZ))
            unfold hZ headA nilV zP at R12 HZ13 OM14 C15
            generalize World.alloc _ (.cells _ 33) = wz16 at R12 HZ13 OM14 C15 ⊢
            refine hK _ _ ?_
            clear hK K
            refine wpAny_ready (rs := [5]) (by kernel_rfl) (by simp) ?_
            refine AllReady.cons (o := ⟨none, .store 33 (.tmp 5) (.tmp 15), _, _, _, none⟩) rfl (fun K hK => ?_) ?_
            ·
              obtain ⟨av, ac, rfl⟩ := C15.out.slice
              refine step_store_row rfl 33 (.tmp 5) (.tmp 15) rfl _ 33 (headA m (.slice av m.cs.length ac) p (.slice (some ⟨wd.heap.size, 0, none⟩) N N)) (headA ⟨0, 0, 0, 0, []⟩ nilV zP nilV) (by kernel_rfl) rfl ?_ ?_ ?_ HZ13.out.1 ?_
              rotate_left 1
              · simp [Act.eval]
              · simp [Act.eval]
              rotate_right 1
              · simp [headA, Value.oneCell']
              have HB17 := Lib.hid (Blk.row HZ13.out.1 (headA m (.slice av m.cs.length ac) p (.slice (some ⟨wd.heap.size, 0, none⟩) N N)))
              have C18 := Lib.hid (CompsOwn.off C15.out HZ13.out.1 (by decide) (by decide) (only_row (World.grownBy.refl _ _) (headA m (.slice av m.cs.length ac) p (.slice (some ⟨wd.heap.size, 0, none⟩) N N))))
              have OM19 := Lib.hid (Zr.off OM14.out HZ13.out.1 (only_row (World.grownBy.refl _ _) (headA m (.slice av m.cs.length ac) p (.slice (some ⟨wd.heap.size, 0, none⟩) N N))))
              have W20 := Lib.hid (below_row R12.out.1 HZ13.out.2 (headA m (.slice av m.cs.length ac) p (.slice (some ⟨wd.heap.size, 0, none⟩) N N)))
              refine hK _ _ ?_
              clear hK K
              refine wpAny_done (by kernel_rfl) ?_ _
              go_wp2_with fail
              go_meet
              exact ⟨_, m, p, _, _, rfl, HB17.out, CompsRd.of_owns C18.out, Zr.bv OM19.out, hok, W20.out⟩
            exact AllReady.nil
          exact AllReady.nil
        refine AllReady.cons (o := ⟨some 5, .alloc 33, _, _, _, none⟩) rfl (fun K hK => ?_) ?_
        ·
          go_simp
          have R21 := Lib.hid (R4.out.alloc hZ)
          have HZ22 := Lib.hid (Hz.new R4.out)
          have OM23 := Lib.hid (OM5.out.keep ((Below.refl _ _).alloc (Nat.le_refl _) hZ))
          unfold hZ headA nilV zP at R21 HZ22 OM23
          generalize World.alloc _ (.cells _ 33) = wz24 at R21 HZ22 OM23 ⊢
          refine hK _ _ ?_
          clear hK K
          refine wpAny_ready (rs := [3]) (by kernel_rfl) (by simp) ?_
          refine AllReady.cons (o := ⟨some 15, _, _, _, _, none⟩) rfl (fun K hK => ?_) ?_
          ·
            go_simp
            go_at_call 12
            refine (HD.out _ _ R21.out.2.2 ⟨_, _, _, rfl⟩).mono ?_
            rintro e wh25 ⟨m, p, v, rfl, hc27, hok, hb26⟩
            have R28 := Lib.hid (R21.out.below hb26)
            have OM29 := Lib.hid (OM23.out.keep hb26)
            have C30 := Lib.hid hc27
            have HZ31 := Lib.hid (HZ22.out.below hb26)
            clear hc27 hb26
            go_simp
            refine hK _ _ ?_
            clear hK K
            refine wpAny_ready (rs := [5]) (by kernel_rfl) (by simp) ?_
            refine AllReady.cons (o := ⟨none, .store 33 (.tmp 5) (.tmp 15), _, _, _, none⟩) rfl (fun K hK => ?_) ?_
            ·
              obtain ⟨av, ac, rfl⟩ := C30.out.slice
              refine step_store_row rfl 33 (.tmp 5) (.tmp 15) rfl _ 33 (headA m (.slice av m.cs.length ac) p (.slice (some ⟨wd.heap.size, 0, none⟩) N N)) (headA ⟨0, 0, 0, 0, []⟩ nilV zP nilV) (by kernel_rfl) rfl ?_ ?_ ?_ HZ31.out.1 ?_
              rotate_left 1
              · simp [Act.eval]
              · simp [Act.eval]
              rotate_right 1
              · simp [headA, Value.oneCell']
              have HB32 := Lib.hid (Blk.row HZ31.out.1 (headA m (.slice av m.cs.length ac) p (.slice (some ⟨wd.heap.size, 0, none⟩) N N)))
              have C33 := Lib.hid (CompsOwn.off C30.out HZ31.out.1 (by decide) (by decide) (only_row (World.grownBy.refl _ _) (headA m (.slice av m.cs.length ac) p (.slice (some ⟨wd.heap.size, 0, none⟩) N N))))
              have OM34 := Lib.hid (Zr.off OM29.out HZ31.out.1 (only_row (World.grownBy.refl _ _) (headA m (.slice av m.cs.length ac) p (.slice (some ⟨wd.heap.size, 0, none⟩) N N))))
              have W35 := Lib.hid (below_row R28.out.1 HZ31.out.2 (headA m (.slice av m.cs.length ac) p (.slice (some ⟨wd.heap.size, 0, none⟩) N N)))
              refine hK _ _ ?_
              clear hK K
              refine wpAny_done (by kernel_rfl) ?_ _
              go_wp2_with fail
              go_meet
              exact ⟨_, m, p, _, _, rfl, HB32.out, CompsRd.of_owns C33.out, Zr.bv OM34.out, hok, W35.out⟩
            exact AllReady.nil
          exact AllReady.nil
        exact AllReady.nil
      refine AllReady.cons (o := ⟨some 5, .alloc 33, _, _, _, none⟩) rfl (fun K hK => ?_) ?_
      ·
        go_simp
        have R36 := Lib.hid (R0.out.alloc hZ)
        have HZ37 := Lib.hid (Hz.new R0.out)
        unfold hZ headA nilV zP at R36 HZ37
        generalize World.alloc _ (.cells _ 33) = wz38 at R36 HZ37 ⊢
        refine hK _ _ ?_
        clear hK K
        refine wpAny_ready (rs := [2]) (by kernel_rfl) (by simp) ?_
        refine AllReady.cons (o := ⟨some 14, .makeSlice 25 (.tmp 13) (.tmp 13), _, _, _, none⟩) rfl (fun K hK => ?_) ?_
        ·
          refine step_make_full _ rfl (.tmp 13) (.tmp 13) 25 rfl w.heap.size 5 i0 (.int .u8 0) 1 Try.underlying25 hti hz0 hz1 .i64 .i64 (N : Int) (N : Int) N (by simp [Act.eval]) (by simp [Act.eval]) rfl rfl (by rw [hz2]; omega) (by unfold maxLen; omega) R36.out.1.size ?_
          intro wm39 ho40 hg41
          rw [made_zero] at ho40
          have R42 := Lib.hid (R36.out.grown hg41)
          have OM43 : Hid (Zr w wm39 _ N) := ho40
          have HZ44 := Lib.hid (HZ37.out.grown hg41)
          clear ho40 hg41
          refine hK _ _ ?_
          clear hK K
          refine wpAny_ready (rs := [3]) (by kernel_rfl) (by simp) ?_
          refine AllReady.cons (o := ⟨some 15, _, _, _, _, none⟩) rfl (fun K hK => ?_) ?_
          ·
            go_simp
            go_at_call 12
            refine (HD.out _ _ R42.out.2.2 ⟨_, _, _, rfl⟩).mono ?_
            rintro e wh45 ⟨m, p, v, rfl, hc47, hok, hb46⟩
            have R48 := Lib.hid (R42.out.below hb46)
            have OM49 := Lib.hid (OM43.out.keep hb46)
            have C50 := Lib.hid hc47
            have HZ51 := Lib.hid (HZ44.out.below hb46)
            clear hc47 hb46
            go_simp
            refine hK _ _ ?_
            clear hK K
            refine wpAny_ready (rs := [5]) (by kernel_rfl) (by simp) ?_
            refine AllReady.cons (o := ⟨none, .store 33 (.tmp 5) (.tmp 15), _, _, _, none⟩) rfl (fun K hK => ?_) ?_
            ·
              obtain ⟨av, ac, rfl⟩ := C50.out.slice
              refine step_store_row rfl 33 (.tmp 5) (.tmp 15) rfl _ 33 (headA m (.slice av m.cs.length ac) p (.slice (some ⟨wz38.heap.size, 0, none⟩) N N)) (headA ⟨0, 0, 0, 0, []⟩ nilV zP nilV) (by kernel_rfl) rfl ?_ ?_ ?_ HZ51.out.1 ?_
              rotate_left 1
              · simp [Act.eval]
              · simp [Act.eval]
              rotate_right 1
              · simp [headA, Value.oneCell']
              have HB52 := Lib.hid (Blk.row HZ51.out.1 (headA m (.slice av m.cs.length ac) p (.slice (some ⟨wz38.heap.size, 0, none⟩) N N)))
              have C53 := Lib.hid (CompsOwn.off C50.out HZ51.out.1 (by decide) (by decide) (only_row (World.grownBy.refl _ _) (headA m (.slice av m.cs.length ac) p (.slice (some ⟨wz38.heap.size, 0, none⟩) N N))))
              have OM54 := Lib.hid (Zr.off OM49.out HZ51.out.1 (only_row (World.grownBy.refl _ _) (headA m (.slice av m.cs.length ac) p (.slice (some ⟨wz38.heap.size, 0, none⟩) N N))))
              have W55 := Lib.hid (below_row R48.out.1 HZ51.out.2 (headA m (.slice av m.cs.length ac) p (.slice (some ⟨wz38.heap.size, 0, none⟩) N N)))
              refine hK _ _ ?_
              clear hK K
              refine wpAny_done (by kernel_rfl) ?_ _
              go_wp2_with fail
              go_meet
              exact ⟨_, m, p, _, _, rfl, HB52.out, CompsRd.of_owns C53.out, Zr.bv OM54.out, hok, W55.out⟩
            exact AllReady.nil
          exact AllReady.nil
        exact AllReady.nil
      exact AllReady.nil
    refine AllReady.cons (o := ⟨some 14, .makeSlice 25 (.tmp 13) (.tmp 13), _, _, _, none⟩) rfl (fun K hK => ?_) ?_
    ·
      refine step_make_full _ rfl (.tmp 13) (.tmp 13) 25 rfl w.heap.size 5 i0 (.int .u8 0) 1 Try.underlying25 hti hz0 hz1 .i64 .i64 (N : Int) (N : Int) N (by simp [Act.eval, Act.put]) (by simp [Act.eval, Act.put]) rfl rfl (by rw [hz2]; omega) (by unfold maxLen; omega) R0.out.1.size ?_
      intro wm56 ho57 hg58
      rw [made_zero] at ho57
      have R59 := Lib.hid (R0.out.grown hg58)
      have OM60 : Hid (Zr w wm56 _ N) := ho57
      clear ho57 hg58
      refine hK _ _ ?_
      clear hK K
      refine wpAny_ready (rs := [0, 4]) (by kernel_rfl) (by simp) ?_
      refine AllReady.cons (o := ⟨some 12, .load 24 (.tmp 2), _, _, _, none⟩) rfl (fun K hK => ?_) ?_
      ·
        refine step_load_row rfl 24 (.tmp 2) rfl w.heap.size 24 (formA f (.slice na nl.length nc)) _ Try.underlying24 rfl (by kernel_rfl) (by simp [Act.eval, Act.put]) R59.out.2.1 ?_
        refine hK _ _ ?_
        clear hK K
        refine wpAny_ready (rs := [3, 4]) (by kernel_rfl) (by simp) ?_
        refine AllReady.cons (o := ⟨some 15, _, _, _, _, none⟩) rfl (fun K hK => ?_) ?_
        ·
          go_simp
          go_at_call 12
          refine (HD.out _ _ R59.out.2.2 ⟨_, _, _, rfl⟩).mono ?_
          rintro e wh61 ⟨m, p, v, rfl, hc63, hok, hb62⟩
          have R64 := Lib.hid (R59.out.below hb62)
          have OM65 := Lib.hid (OM60.out.keep hb62)
          have C66 := Lib.hid hc63
          clear hc63 hb62
          go_simp
          refine hK _ _ ?_
          clear hK K
          refine wpAny_ready (rs := [4]) (by kernel_rfl) (by simp) ?_
          refine AllReady.cons (o := ⟨some 5, .alloc 33, _, _, _, none⟩) rfl (fun K hK => ?_) ?_
          ·
            go_simp
            have R67 := Lib.hid (R64.out.alloc hZ)
            have HZ68 := Lib.hid (Hz.new R64.out)
            have OM69 := Lib.hid (OM65.out.keep ((Below.refl _ _).alloc (Nat.le_refl _) hZ))
            have C70 := Lib.hid (C66.out.keep ((Below.refl _ _).alloc (Nat.le_refl _) hZ))
            unfold hZ headA nilV zP at R67 HZ68 OM69 C70
            generalize World.alloc _ (.cells _ 33) = wz71 at R67 HZ68 OM69 C70 ⊢
            refine hK _ _ ?_
            clear hK K
            refine wpAny_ready (rs := [5]) (by kernel_rfl) (by simp) ?_
            refine AllReady.cons (o := ⟨none, .store 33 (.tmp 5) (.tmp 15), _, _, _, none⟩) rfl (fun K hK => ?_) ?_
            ·
              obtain ⟨av, ac, rfl⟩ := C70.out.slice
              refine step_store_row rfl 33 (.tmp 5) (.tmp 15) rfl _ 33 (headA m (.slice av m.cs.length ac) p (.slice (some ⟨wd.heap.size, 0, none⟩) N N)) (headA ⟨0, 0, 0, 0, []⟩ nilV zP nilV) (by kernel_rfl) rfl ?_ ?_ ?_ HZ68.out.1 ?_
              rotate_left 1
              · simp [Act.eval]
              · simp [Act.eval]
              rotate_right 1
              · simp [headA, Value.oneCell']
              have HB72 := Lib.hid (Blk.row HZ68.out.1 (headA m (.slice av m.cs.length ac) p (.slice (some ⟨wd.heap.size, 0, none⟩) N N)))
              have C73 := Lib.hid (CompsOwn.off C70.out HZ68.out.1 (by decide) (by decide) (only_row (World.grownBy.refl _ _) (headA m (.slice av m.cs.length ac) p (.slice (some ⟨wd.heap.size, 0, none⟩) N N))))
              have OM74 := Lib.hid (Zr.off OM69.out HZ68.out.1 (only_row (World.grownBy.refl _ _) (headA m (.slice av m.cs.length ac) p (.slice (some ⟨wd.heap.size, 0, none⟩) N N))))
              have W75 := Lib.hid (below_row R67.out.1 HZ68.out.2 (headA m (.slice av m.cs.length ac) p (.slice (some ⟨wd.heap.size, 0, none⟩) N N)))
              refine hK _ _ ?_
              clear hK K
              refine wpAny_done (by kernel_rfl) ?_ _
              go_wp2_with fail
              go_meet
              exact ⟨_, m, p, _, _, rfl, HB72.out, CompsRd.of_owns C73.out, Zr.bv OM74.out, hok, W75.out⟩
            exact AllReady.nil
          exact AllReady.nil
        refine AllReady.cons (o := ⟨some 5, .alloc 33, _, _, _, none⟩) rfl (fun K hK => ?_) ?_
        ·
          go_simp
          have R76 := Lib.hid (R59.out.alloc hZ)
          have HZ77 := Lib.hid (Hz.new R59.out)
          have OM78 := Lib.hid (OM60.out.keep ((Below.refl _ _).alloc (Nat.le_refl _) hZ))
          unfold hZ headA nilV zP at R76 HZ77 OM78
          generalize World.alloc _ (.cells _ 33) = wz79 at R76 HZ77 OM78 ⊢
          refine hK _ _ ?_
          clear hK K
          refine wpAny_ready (rs := [3]) (by kernel_rfl) (by simp) ?_
          refine AllReady.cons (o := ⟨some 15, _, _, _, _, none⟩) rfl (fun K hK => ?_) ?_
          ·
            go_simp
            go_at_call 12
            refine (HD.out _ _ R76.out.2.2 ⟨_, _, _, rfl⟩).mono ?_
            rintro e wh80 ⟨m, p, v, rfl, hc82, hok, hb81⟩
            have R83 := Lib.hid (R76.out.below hb81)
            have OM84 := Lib.hid (OM78.out.keep hb81)
            have C85 := Lib.hid hc82
            have HZ86 := Lib.hid (HZ77.out.below hb81)
            clear hc82 hb81
            go_simp
            refine hK _ _ ?_
            clear hK K
            refine wpAny_ready (rs := [5]) (by kernel_rfl) (by simp) ?_
            refine AllReady.cons (o := ⟨none, .store 33 (.tmp 5) (.tmp 15), _, _, _, none⟩) rfl (fun K hK => ?_) ?_
            ·
              obtain ⟨av, ac, rfl⟩ := C85.out.slice
              refine step_store_row rfl 33 (.tmp 5) (.tmp 15) rfl _ 33 (headA m (.slice av m.cs.length ac) p (.slice (some ⟨wd.heap.size, 0, none⟩) N N)) (headA ⟨0, 0, 0, 0, []⟩ nilV zP nilV) (by kernel_rfl) rfl ?_ ?_ ?_ HZ86.out.1 ?_
              rotate_left 1
              · simp [Act.eval]
              · simp [Act.eval]
              rotate_right 1
              · simp [headA, Value.oneCell']
              have HB87 := Lib.hid (Blk.row HZ86.out.1 (headA m (.slice av m.cs.length ac) p (.slice (some ⟨wd.heap.size, 0, none⟩) N N)))
              have C88 := Lib.hid (CompsOwn.off C85.out HZ86.out.1 (by decide) (by decide) (only_row (World.grownBy.refl _ _) (headA m (.slice av m.cs.length ac) p (.slice (some ⟨wd.heap.size, 0, none⟩) N N))))
              have OM89 := Lib.hid (Zr.off OM84.out HZ86.out.1 (only_row (World.grownBy.refl _ _) (headA m (.slice av m.cs.length ac) p (.slice (some ⟨wd.heap.size, 0, none⟩) N N))))
              have W90 := Lib.hid (below_row R83.out.1 HZ86.out.2 (headA m (.slice av m.cs.length ac) p (.slice (some ⟨wd.heap.size, 0, none⟩) N N)))
              refine hK _ _ ?_
              clear hK K
              refine wpAny_done (by kernel_rfl) ?_ _
              go_wp2_with fail
              go_meet
              exact ⟨_, m, p, _, _, rfl, HB87.out, CompsRd.of_owns C88.out, Zr.bv OM89.out, hok, W90.out⟩
            exact AllReady.nil
          exact AllReady.nil
        exact AllReady.nil
      refine AllReady.cons (o := ⟨some 5, .alloc 33, _, _, _, none⟩) rfl (fun K hK => ?_) ?_
      ·
        go_simp
        have R91 := Lib.hid (R59.out.alloc hZ)
        have HZ92 := Lib.hid (Hz.new R59.out)
        have OM93 := Lib.hid (OM60.out.keep ((Below.refl _ _).alloc (Nat.le_refl _) hZ))
        unfold hZ headA nilV zP at R91 HZ92 OM93
        generalize World.alloc _ (.cells _ 33) = wz94 at R91 HZ92 OM93 ⊢
        refine hK _ _ ?_
        clear hK K
        refine wpAny_ready (rs := [0]) (by kernel_rfl) (by simp) ?_
        refine AllReady.cons (o := ⟨some 12, .load 24 (.tmp 2), _, _, _, none⟩) rfl (fun K hK => ?_) ?_
        ·
          refine step_load_row rfl 24 (.tmp 2) rfl w.heap.size 24 (formA f (.slice na nl.length nc)) _ Try.underlying24 rfl (by kernel_rfl) (by simp [Act.eval]) R91.out.2.1 ?_
          refine hK _ _ ?_
          clear hK K
          refine wpAny_ready (rs := [3]) (by kernel_rfl) (by simp) ?_
          refine AllReady.cons (o := ⟨some 15, _, _, _, _, none⟩) rfl (fun K hK => ?_) ?_
          ·
            go_simp
            go_at_call 12
            refine (HD.out _ _ R91.out.2.2 ⟨_, _, _, rfl⟩).mono ?_
            rintro e wh95 ⟨m, p, v, rfl, hc97, hok, hb96⟩
            have R98 := Lib.hid (R91.out.below hb96)
            have OM99 := Lib.hid (OM93.out.keep hb96)
            have C100 := Lib.hid hc97
            have HZ101 := Lib.hid (HZ92.out.below hb96)
            clear hc97 hb96
            go_simp
            refine hK _ _ ?_
            clear hK K
            refine wpAny_ready (rs := [5]) (by kernel_rfl) (by simp) ?_
            refine AllReady.cons (o := ⟨none, .store 33 (.tmp 5) (.tmp 15), _, _, _, none⟩) rfl (fun K hK => ?_) ?_
            ·
              obtain ⟨av, ac, rfl⟩ := C100.out.slice
              refine step_store_row rfl 33 (.tmp 5) (.tmp 15) rfl _ 33 (headA m (.slice av m.cs.length ac) p (.slice (some ⟨wd.heap.size, 0, none⟩) N N)) (headA ⟨0, 0, 0, 0, []⟩ nilV zP nilV) (by kernel_rfl) rfl ?_ ?_ ?_ HZ101.out.1 ?_
              rotate_left 1
              · simp [Act.eval]
              · simp [Act.eval]
              rotate_right 1
              · simp [headA, Value.oneCell']
              have HB102 := Lib.hid (Blk.row HZ101.out.1 (headA m (.slice av m.cs.length ac) p (.slice (some ⟨wd.heap.size, 0, none⟩) N N)))
              have C103 := Lib.hid (CompsOwn.off C100.out HZ101.out.1 (by decide) (by decide) (only_row (World.grownBy.refl _ _) (headA m (.slice av m.cs.length ac) p (.slice (some ⟨wd.heap.size, 0, none⟩) N N))))
              have OM104 := Lib.hid (Zr.off OM99.out HZ101.out.1 (only_row (World.grownBy.refl _ _) (headA m (.slice av m.cs.length ac) p (.slice (some ⟨wd.heap.size, 0, none⟩) N N))))
              have W105 := Lib.hid (below_row R98.out.1 HZ101.out.2 (headA m (.slice av m.cs.length ac) p (.slice (some ⟨wd.heap.size, 0, none⟩) N N)))
              refine hK _ _ ?_
              clear hK K
              refine wpAny_done (by kernel_rfl) ?_ _
              go_wp2_with fail
              go_meet
              exact ⟨_, m, p, _, _, rfl, HB102.out, CompsRd.of_owns C103.out, Zr.bv OM104.out, hok, W105.out⟩
            exact AllReady.nil
          exact AllReady.nil
        exact AllReady.nil
      exact AllReady.nil
    refine AllReady.cons (o := ⟨some 5, .alloc 33, _, _, _, none⟩) rfl (fun K hK => ?_) ?_
    ·
      go_simp
      have R106 := Lib.hid (R0.out.alloc hZ)
      have HZ107 := Lib.hid (Hz.new R0.out)
      unfold hZ headA nilV zP at R106 HZ107
      generalize World.alloc _ (.cells _ 33) = wz108 at R106 HZ107 ⊢
      refine hK _ _ ?_
      clear hK K
      refine wpAny_ready (rs := [0, 2]) (by kernel_rfl) (by simp) ?_
      refine AllReady.cons (o := ⟨some 12, .load 24 (.tmp 2), _, _, _, none⟩) rfl (fun K hK => ?_) ?_
      ·
        refine step_load_row rfl 24 (.tmp 2) rfl w.heap.size 24 (formA f (.slice na nl.length nc)) _ Try.underlying24 rfl (by kernel_rfl) (by simp [Act.eval]) R106.out.2.1 ?_
        refine hK _ _ ?_
        clear hK K
        refine wpAny_ready (rs := [2]) (by kernel_rfl) (by simp) ?_
        refine AllReady.cons (o := ⟨some 14, .makeSlice 25 (.tmp 13) (.tmp 13), _, _, _, none⟩) rfl (fun K hK => ?_) ?_
        ·
          refine step_make_full _ rfl (.tmp 13) (.tmp 13) 25 rfl w.heap.size 5 i0 (.int .u8 0) 1 Try.underlying25 hti hz0 hz1 .i64 .i64 (N : Int) (N : Int) N (by simp [Act.eval, Act.put]) (by simp [Act.eval, Act.put]) rfl rfl (by rw [hz2]; omega) (by unfold maxLen; omega) R106.out.1.size ?_
          intro wm109 ho110 hg111
          rw [made_zero] at ho110
          have R112 := Lib.hid (R106.out.grown hg111)
          have OM113 : Hid (Zr w wm109 _ N) := ho110
          have HZ114 := Lib.hid (HZ107.out.grown hg111)
          clear ho110 hg111
          refine hK _ _ ?_
          clear hK K
          refine wpAny_ready (rs := [3]) (by kernel_rfl) (by simp) ?_
          refine AllReady.cons (o := ⟨some 15, _, _, _, _, none⟩) rfl (fun K hK => ?_) ?_
          ·
            go_simp
            go_at_call 12
            refine (HD.out _ _ R112.out.2.2 ⟨_, _, _, rfl⟩).mono ?_
            rintro e wh115 ⟨m, p, v, rfl, hc117, hok, hb116⟩
            have R118 := Lib.hid (R112.out.below hb116)
            have OM119 := Lib.hid (OM113.out.keep hb116)
            have C120 := Lib.hid hc117
            have HZ121 := Lib.hid (HZ114.out.below hb116)
            clear hc117 hb116
            go_simp
            refine hK _ _ ?_
            clear hK K
            refine wpAny_ready (rs := [5]) (by kernel_rfl) (by simp) ?_
            refine AllReady.cons (o := ⟨none, .store 33 (.tmp 5) (.tmp 15), _, _, _, none⟩) rfl (fun K hK => ?_) ?_
            ·
              obtain ⟨av, ac, rfl⟩ := C120.out.slice
              refine step_store_row rfl 33 (.tmp 5) (.tmp 15) rfl _ 33 (headA m (.slice av m.cs.length ac) p (.slice (some ⟨wz108.heap.size, 0, none⟩) N N)) (headA ⟨0, 0, 0, 0, []⟩ nilV zP nilV) (by kernel_rfl) rfl ?_ ?_ ?_ HZ121.out.1 ?_
              rotate_left 1
              · simp [Act.eval]
              · simp [Act.eval]
              rotate_right 1
              · simp [headA, Value.oneCell']
              have HB122 := Lib.hid (Blk.row HZ121.out.1 (headA m (.slice av m.cs.length ac) p (.slice (some ⟨wz108.heap.size, 0, none⟩) N N)))
              have C123 := Lib.hid (CompsOwn.off C120.out HZ121.out.1 (by decide) (by decide) (only_row (World.grownBy.refl _ _) (headA m (.slice av m.cs.length ac) p (.slice (some ⟨wz108.heap.size, 0, none⟩) N N))))
              have OM124 := Lib.hid (Zr.off OM119.out HZ121.out.1 (only_row (World.grownBy.refl _ _) (headA m (.slice av m.cs.length ac) p (.slice (some ⟨wz108.heap.size, 0, none⟩) N N))))
              have W125 := Lib.hid (below_row R118.out.1 HZ121.out.2 (headA m (.slice av m.cs.length ac) p (.slice (some ⟨wz108.heap.size, 0, none⟩) N N)))
              refine hK _ _ ?_
              clear hK K
              refine wpAny_done (by kernel_rfl) ?_ _
              go_wp2_with fail
              go_meet
              exact ⟨_, m, p, _, _, rfl, HB122.out, CompsRd.of_owns C123.out, Zr.bv OM124.out, hok, W125.out⟩
            exact AllReady.nil
          exact AllReady.nil
        exact AllReady.nil
      refine AllReady.cons (o := ⟨some 14, .makeSlice 25 (.tmp 13) (.tmp 13), _, _, _, none⟩) rfl (fun K hK => ?_) ?_
      ·
        refine step_make_full _ rfl (.tmp 13) (.tmp 13) 25 rfl w.heap.size 5 i0 (.int .u8 0) 1 Try.underlying25 hti hz0 hz1 .i64 .i64 (N : Int) (N : Int) N (by simp [Act.eval]) (by simp [Act.eval]) rfl rfl (by rw [hz2]; omega) (by unfold maxLen; omega) R106.out.1.size ?_
        intro wm126 ho127 hg128
        rw [made_zero] at ho127
        have R129 := Lib.hid (R106.out.grown hg128)
        have OM130 : Hid (Zr w wm126 _ N) := ho127
        have HZ131 := Lib.hid (HZ107.out.grown hg128)
        clear ho127 hg128
        refine hK _ _ ?_
        clear hK K
        refine wpAny_ready (rs := [0]) (by kernel_rfl) (by simp) ?_
        refine AllReady.cons (o := ⟨some 12, .load 24 (.tmp 2), _, _, _, none⟩) rfl (fun K hK => ?_) ?_
        ·
          refine step_load_row rfl 24 (.tmp 2) rfl w.heap.size 24 (formA f (.slice na nl.length nc)) _ Try.underlying24 rfl (by kernel_rfl) (by simp [Act.eval, Act.put]) R129.out.2.1 ?_
          refine hK _ _ ?_
          clear hK K
          refine wpAny_ready (rs := [3]) (by kernel_rfl) (by simp) ?_
          refine AllReady.cons (o := ⟨some 15, _, _, _, _, none⟩) rfl (fun K hK => ?_) ?_
          ·
            go_simp
            go_at_call 12
            refine (HD.out _ _ R129.out.2.2 ⟨_, _, _, rfl⟩).mono ?_
            rintro e wh132 ⟨m, p, v, rfl, hc134, hok, hb133⟩
            have R135 := Lib.hid (R129.out.below hb133)
            have OM136 := Lib.hid (OM130.out.keep hb133)
            have C137 := Lib.hid hc134
            have HZ138 := Lib.hid (HZ131.out.below hb133)
            clear hc134 hb133
            go_simp
            refine hK _ _ ?_
            clear hK K
            refine wpAny_ready (rs := [5]) (by kernel_rfl) (by simp) ?_
            refine AllReady.cons (o := ⟨none, .store 33 (.tmp 5) (.tmp 15), _, _, _, none⟩) rfl (fun K hK => ?_) ?_
            ·
              obtain ⟨av, ac, rfl⟩ := C137.out.slice
              refine step_store_row rfl 33 (.tmp 5) (.tmp 15) rfl _ 33 (headA m (.slice av m.cs.length ac) p (.slice (some ⟨wz108.heap.size, 0, none⟩) N N)) (headA ⟨0, 0, 0, 0, []⟩ nilV zP nilV) (by kernel_rfl) rfl ?_ ?_ ?_ HZ138.out.1 ?_
              rotate_left 1
              · simp [Act.eval]
              · simp [Act.eval]
              rotate_right 1
              · simp [headA, Value.oneCell']
              have HB139 := Lib.hid (Blk.row HZ138.out.1 (headA m (.slice av m.cs.length ac) p (.slice (some ⟨wz108.heap.size, 0, none⟩) N N)))
              have C140 := Lib.hid (CompsOwn.off C137.out HZ138.out.1 (by decide) (by decide) (only_row (World.grownBy.refl _ _) (headA m (.slice av m.cs.length ac) p (.slice (some ⟨wz108.heap.size, 0, none⟩) N N))))
              have OM141 := Lib.hid (Zr.off OM136.out HZ138.out.1 (only_row (World.grownBy.refl _ _) (headA m (.slice av m.cs.length ac) p (.slice (some ⟨wz108.heap.size, 0, none⟩) N N))))
              have W142 := Lib.hid (below_row R135.out.1 HZ138.out.2 (headA m (.slice av m.cs.length ac) p (.slice (some ⟨wz108.heap.size, 0, none⟩) N N)))
              refine hK _ _ ?_
              clear hK K
              refine wpAny_done (by kernel_rfl) ?_ _
              go_wp2_with fail
              go_meet
              exact ⟨_, m, p, _, _, rfl, HB139.out, CompsRd.of_owns C140.out, Zr.bv OM141.out, hok, W142.out⟩
            exact AllReady.nil
          exact AllReady.nil
        exact AllReady.nil
      exact AllReady.nil
    exact AllReady.nil
  obtain ⟨w2, rfl⟩ : ∃ w2 : World, w2 = wc := ⟨_, rfl⟩
  obtain ⟨g, m, p, v, cv, rfl, hb2, hc2, hz2', hok, hw2⟩ := hcut
  have hF := frame_ok hok
  have hlv := hok.par
  obtain ⟨depth, -, -, hall⟩ := hok.comps
  have MA := Lib.hid (main_any m v p cv (List.replicate N 0) w2 hc2 hz2' (by rw [List.length_replicate]; omega) hF hok.n4 (fun c hc => by have := hall c hc; unfold FmOk at this; omega) hok.par)
  have hlv0 : 0 ≤ p.lv ∧ p.lv ≤ 5 := by unfold ParOk at hlv; omega
  have hL := mainM_length m p (List.replicate N 0) hlv0.1
  have hn4 := hok.n4
  obtain ⟨q0, q1⟩ := mainM_head m p (List.replicate N 0)
  rw [List.length_replicate] at hL
  have hN0 : (List.replicate N (0 : UInt8) = []) ↔ N = 0 := by cases N <;> simp
  simp only [hN0] at hL
  clear hN0
  generalize mainM m p (List.replicate N 0) = M at *
  obtain ⟨va, vc, rfl, -⟩ := hc2
  have HG : Hid (w2.heap[g]? = some (.cells (headA m (.slice va m.cs.length vc) p cv) 33 (0, 0))) := hb2
  have HB2 := Lib.hid hb2
  have HW2 := Lib.hid hw2
  have HL := Lib.hid hL
  have HQ := Lib.hid (And.intro q0 q1)
  have sg := hb2.lt
  clear hF hlv hall hok hz2' hb2 hw2 hL q0 q1 R1
  go_upto_region 5 with fail
  go_step
  refine wpList_load_row rfl 33 (.tmp 5) rfl g rfl 33 (headA m (.slice va m.cs.length vc) p cv) (0, 0) _ HG.out Try.underlying33 rfl (by kernel_rfl) ?_
  go_upto_region 6 with (go_at_call 18; refine MA.out.mono ?_; rintro e w3 ⟨v3, rfl, ho3, hb3⟩; obtain ⟨a3, c3, rfl⟩ := owns_slice ho3)
  have hb33 := HB2.out.below hb3 sg
  have hw3 := HW2.out.trans (hb3.mono HW2.out.size)
  have c4 : w3.cell? ⟨g, 4, none⟩ = some (.slice va m.cs.length vc) := hb33.cell 4
  have c7 : w3.cell? ⟨g, 7, none⟩ = some (.int .i64 p.lv) := hb33.cell 7
  obtain ⟨_, _, he, -, -, r3⟩ := BV.of_owns (l := M) ho3
  cases he
  obtain ⟨ad, rfl, -, b0⟩ := r3.cell HQ.out.1
  obtain ⟨ad', he', -, b1⟩ := r3.cell HQ.out.2
  cases he'
  have hM2 : 2 ≤ M.length := by have := (List.getElem?_eq_some_iff.1 HQ.out.2).1; omega
  have HW3 := Lib.hid hw3
  clear hb33 hw3 hb3 ho3 r3 MA HG HB2 HW2 HQ
  replace b0 : w3.cell? ad = some (.int .u8 255) := b0
  replace b1 : w3.cell? ⟨ad.block, ad.off + 1, none⟩ = some (.int .u8 79) := b1
  have z1 : (1 : Int) < (M.length : Int) := by omega
  have z0 : (0 : Int) < (M.length : Int) := by omega
  by_cases hN : N = 0
  · subst hN
    go_wp2_with fail
    all_goals first
      | (exfalso; have hl := HL.out; simp only [if_true] at hl; omega)
      | (go_ret; exact ⟨rfl, HW3.out⟩)
  · have dN : decide ((0 : Int) < (N : Int)) = true := by simp; omega
    go_wp2_with fail
    all_goals first
      | (exfalso; have hl := HL.out; simp only [hN, if_false] at hl; omega)
      | (go_ret; exact ⟨rfl, HW3.out⟩)
end Go.Proofs.Ytlhlhlabnjfhcaa
