/- waveletref17: Main. -/
import Derived.Test.YtlhlhlabnjfhcaaRsD
namespace Go.Proofs.Ytlhlhlabnjfhcaa
open Go.RowKit

theorem mid_head {w : World} {g : Nat} {T : TypeId} {m : ImgD} {v : Value} {p : ParD} {cv : Value} (h : Blk w g T (headA m v p cv)) {j : Nat} {u : Value}
    (hu : ([.int .i64 p.tx, .int .i64 p.ty, .int .i64 p.lv, .int .i64 p.cbw, .int .i64 p.cbh, .int .i64 p.prec, .int .i64 p.style, .int .i64 p.order, .int .i64 p.layers, .bool p.rct, .bool p.sop, .bool p.eph] : List Value)[j]? = some u) : w.cell? ⟨g, 5 + j, none⟩ = some u := by
  refine (h.cell (5 + j)).trans ?_
  have e : (headA m v p cv).toList = [.int .i64 m.x, .int .i64 m.y, .int .i64 m.ox, .int .i64 m.oy, v] ++ ([.int .i64 p.tx, .int .i64 p.ty, .int .i64 p.lv, .int .i64 p.cbw, .int .i64 p.cbh, .int .i64 p.prec, .int .i64 p.style, .int .i64 p.order, .int .i64 p.layers, .bool p.rct, .bool p.sop, .bool p.eph] ++ [cv]) := rfl
  rw [← Array.getElem?_toList, e, List.getElem?_append_right (by simp), List.getElem?_append_left (by have := (List.getElem?_eq_some_iff.1 hu).1; simp at this ⊢; omega)]
  rw [← hu]
  congr 1
  simp

set_option maxRecDepth 100000 in
set_option maxHeartbeats 4000000 in
theorem rmain_any (m : ImgD) (v : Value) (p : ParD) (cv : Value) (cl : List UInt8) (w : World) (hv : CompsRd w v m.cs) (hc : BV w cv cl) (hcl : cl.length ≤ 1000) (hl : m.cs.length ≤ 5) (hcs : ∀ c ∈ m.cs, 1 ≤ c.depth ∧ c.depth ≤ 16 ∧ 0 ≤ c.dx ∧ c.dx ≤ 100 ∧ 0 ≤ c.dy ∧ c.dy ≤ 100) (hcf : CodFit p) (l5 : p.lv ≤ 5) :
    Calls Try.prog 13 #[.agg (headA m v p cv)] w fun e w' => ∃ v', e = .returned v' ∧ w'.ownsRow w.heap.size 5 1 v' (mainM m p cl).length (cellsB (mainM m p cl)) ∧ Below w.heap.size w w' := by
  have HV := Lib.hid hv
  obtain ⟨va, vc, rfl, -⟩ := hv
  have hc0 := hc
  obtain ⟨ca, cc, rfl, -⟩ := hc
  obtain ⟨CN, hCN⟩ : ∃ n, cl.length = n := ⟨_, rfl⟩
  rw [hCN] at hc0 hcl ⊢
  have HC := Lib.hid hc0
  have HCN := Lib.hid hCN
  clear hc0 hCN
  have hcs' : ∀ c ∈ m.cs, 1 ≤ c.depth ∧ c.depth ≤ 16 := fun c h => ⟨(hcs c h).1, (hcs c h).2.1⟩
  have SZ := Lib.hid fun (W : World) (h : CompsRd W (.slice va m.cs.length vc) m.cs) => rsizes_any m (.slice va m.cs.length vc) p (.slice ca CN cc) W h ⟨_, _, _, rfl⟩ hl hcs
  have CD := Lib.hid fun (W : World) => rways_any p W hcf
  have QC := Lib.hid fun (W : World) (h : CompsRd W (.slice va m.cs.length vc) m.cs) => rsteps_any m (.slice va m.cs.length vc) p (.slice ca CN cc) W h ⟨_, _, _, rfl⟩ hl hcs' hcf.1.1 l5
  have lS : (sizB m p).length ≤ 100 := by rw [sizB_length]; omega
  have lC : (codM p).length ≤ 300 := by rw [codM_length p hcf.1.1]; have := hcf.1; omega
  have lQ : (qcdM m p).length ≤ 100 := by rw [qcdM_length]; omega
  obtain ⟨MM, hMM⟩ : ∃ C, mainM m p cl = C := ⟨_, rfl⟩
  have hM2 : MM = putB 2 65359 ++ segB 65361 (sizB m p) ++ segB 65362 (codM p) ++ segB 65372 (qcdM m p) ++ comB cl := by rw [← hMM]; simp [mainM, putsB]
  have HM := Lib.hid hMM
  clear hMM
  generalize sizB m p = S at *
  generalize codM p = C at *
  generalize qcdM m p = Qc at *
  unfold headA
  go_enter Try.func13, Try.ntmps13
  go_upto_region 1 with fail
  obtain ⟨wA, hwA⟩ : ∃ wA, wA = w.alloc (.cells (headA m (.slice va m.cs.length vc) p (.slice ca CN cc)) 36) := ⟨_, rfl⟩
  have hh : Blk wA w.heap.size 36 (headA m (.slice va m.cs.length vc) p (.slice ca CN cc)) := by rw [hwA]; exact Blk.new _ _ _
  have hBA : Below w.heap.size w wA := by rw [hwA]; exact (Below.refl _ _).alloc (Nat.le_refl _) _
  have sf : w.heap.size < wA.heap.size := by rw [hwA]; simp
  unfold headA at hwA
  simp only [← hwA]
  clear hwA
  have HVA := Lib.hid (HV.out.keep hBA)
  have HH := Lib.hid (And.intro hh hBA)
  clear hh hBA
  have P0 := Lib.hid (rput_any (.slice none 0 0) [] 2 65359 wA.drew wA.heap.size (World.ownsRow_nil _ _ _ _) (Nat.le_refl _) (by decide) (by decide) (by decide))
  obtain ⟨L0, hL0⟩ : ∃ L, ([] : List UInt8) ++ putB 2 65359 = L := ⟨_, rfl⟩
  have hM3 : MM = ((((L0 ++ segB 65361 S) ++ segB 65362 C) ++ segB 65372 Qc) ++ comB cl) := by rw [hM2, ← hL0]; simp
  rw [hL0] at P0
  have hl0 : L0.length = 2 := by rw [← hL0]; simp [putB_length]
  obtain ⟨L1, hL1⟩ : ∃ L, L0 ++ segB 65361 S = L := ⟨_, rfl⟩
  have hl1 : L1.length ≤ 200 := by rw [← hL1, List.length_append, segB_length]; omega
  rw [hL1] at hM3
  obtain ⟨L2, hL2⟩ : ∃ L, L1 ++ segB 65362 C = L := ⟨_, rfl⟩
  have hl2 : L2.length ≤ 600 := by rw [← hL2, List.length_append, segB_length]; omega
  rw [hL2] at hM3
  obtain ⟨L3, hL3⟩ : ∃ L, L2 ++ segB 65372 Qc = L := ⟨_, rfl⟩
  have hl3 : L3.length ≤ 800 := by rw [← hL3, List.length_append, segB_length]; omega
  rw [hL3] at hM3
  have HM3 := Lib.hid hM3
  have HL := Lib.hid (And.intro hL1 (And.intro hL2 (And.intro hL3 hl0)))
  have HLL := Lib.hid (And.intro hl1 (And.intro hl2 hl3))
  clear hM2 hM3 hL0 hL1 hL2 hL3 hl0 hl1 hl2 hl3
  go_cut [3] from 4 (fun s3 wx => wx.ownsRow wA.heap.size 5 1 s3 L1.length (cellsB L1) ∧ Below wA.heap.size wA wx)
  case first =>
    refine wp_region_any (by kernel_rfl) ?_
    try (change wpAny _ _ _ _ _ _ _ (World.drew _))
    obtain ⟨wd, hwd⟩ : ∃ wd, wd = wA.drew := ⟨_, rfl⟩
    have hBd : Below wA.heap.size wA wd := by rw [hwd]; exact (Below.refl _ _).drew
    rw [← hwd] at P0
    have hszd : wd.heap.size = wA.heap.size := by rw [hwd]; rfl
    rw [← hwd]
    have HBD := Lib.hid (And.intro hBd hszd)
    clear hwd hBd hszd
    refine wpAny_ready (rs := [0, 1]) (by kernel_rfl) (by simp) ?_
    refine AllReady.cons (o := ⟨some 4, _, _, _, _, none⟩) rfl (fun K hK => ?_) ?_
    ·
      go_simp
      go_at_call 22
      refine P0.out.mono ?_
      rintro e w1 ⟨v1, rfl, ho1, he1⟩
      have HB1 := Lib.hid (HBD.out.1.trans (he1.below (World.ownsRow_nil wd wA.heap.size 5 1) (by rw [HBD.out.2]; exact Nat.le_refl _)))
      obtain ⟨a1', n1, c1, rfl⟩ := owns_isSlice ho1
      have HO1 := Lib.hid ho1
      clear ho1 he1
      go_simp
      refine hK _ _ ?_
      clear hK K
      try simp only [Act.put, List.setIfInBounds_toArray, List.set_cons_zero, List.set_cons_succ]
      refine wpAny_ready (rs := [1]) (by kernel_rfl) (by simp) ?_
      refine AllReady.cons (o := ⟨some 5, .load 36 (.tmp 1), _, _, _, none⟩) rfl (fun K hK => ?_) ?_
      ·
        refine step_load_row rfl 36 (.tmp 1) rfl w.heap.size 36 (headA m (.slice va m.cs.length vc) p (.slice ca CN cc)) _ Try.underlying36 rfl (by kernel_rfl) (by simp [Act.eval]) (HH.out.1.below HB1.out sf) ?_
        refine hK _ _ ?_
        clear hK K
        try simp only [Act.put, List.setIfInBounds_toArray, List.set_cons_zero, List.set_cons_succ]
        refine wpAny_ready (rs := [2]) (by kernel_rfl) (by simp) ?_
        refine AllReady.cons (o := ⟨some 6, _, _, _, _, none⟩) rfl (fun K hK => ?_) ?_
        ·
          go_simp
          go_at_call 23
          refine (SZ.out _ (HVA.out.keep HB1.out)).mono ?_
          rintro e w2 ⟨x2, rfl, hx2, hb2⟩
          have HB2 := Lib.hid (HB1.out.trans (hb2.mono HB1.out.size))
          have HO2 := Lib.hid (And.intro (owns_keepAll HO1.out hb2) (And.intro hx2 (And.intro HB2.out.size (fun g hg => ownBlock_ne hx2 (HO1.out.lt g hg).2))))
          obtain ⟨xa2, xn2, xc2, rfl⟩ := owns_isSlice hx2
          clear hx2 hb2
          go_simp
          refine hK _ _ ?_
          clear hK K
          try simp only [Act.put, List.setIfInBounds_toArray, List.set_cons_zero, List.set_cons_succ]
          refine wpAny_ready (rs := [3]) (by kernel_rfl) (by simp) ?_
          refine AllReady.cons (o := ⟨some 7, _, _, _, _, none⟩) rfl (fun K hK => ?_) ?_
          ·
            go_simp
            go_at_call 21
            refine (rseg_any _ _ L0 S 65361 _ wA.heap.size _ HO2.out.1 HO2.out.2.2.1 HO2.out.2.1 HO2.out.2.2.2 (by rw [HL.out.2.2.2]; decide) (by omega)).mono ?_
            rintro e w3 ⟨v3, rfl, ho3, he3⟩
            have HB3 := Lib.hid (HB2.out.trans (he3.below HO2.out.1 HO2.out.2.2.1))
            rw [HL.out.1] at ho3
            obtain ⟨a3', n3, c3, rfl⟩ := owns_isSlice ho3
            have HO3 := Lib.hid ho3
            clear ho3 he3
            go_simp
            refine hK _ _ ?_
            clear hK K
            try simp only [Act.put, List.setIfInBounds_toArray, List.set_cons_zero, List.set_cons_succ]
            refine wpAny_ready (rs := [4]) (by kernel_rfl) (by simp) ?_
            refine AllReady.cons (o := ⟨some 3, _, _, _, _, none⟩) rfl (fun K hK => ?_) ?_
            · go_simp
              refine hK _ _ ?_
              clear hK K
              refine wpAny_done (by kernel_rfl) ?_ _
              go_wp2_with fail
              go_meet
              exact ⟨HO3.out, HB3.out⟩
            exact AllReady.nil
          exact AllReady.nil
        exact AllReady.nil
      exact AllReady.nil
    refine AllReady.cons (o := ⟨some 5, .load 36 (.tmp 1), _, _, _, none⟩) rfl (fun K hK => ?_) ?_
    ·
      refine step_load_row rfl 36 (.tmp 1) rfl w.heap.size 36 (headA m (.slice va m.cs.length vc) p (.slice ca CN cc)) _ Try.underlying36 rfl (by kernel_rfl) (by simp [Act.eval]) (HH.out.1.below HBD.out.1 sf) ?_
      refine hK _ _ ?_
      clear hK K
      try simp only [Act.put, List.setIfInBounds_toArray, List.set_cons_zero, List.set_cons_succ]
      refine wpAny_ready (rs := [0]) (by kernel_rfl) (by simp) ?_
      refine AllReady.cons (o := ⟨some 4, _, _, _, _, none⟩) rfl (fun K hK => ?_) ?_
      ·
        go_simp
        go_at_call 22
        refine P0.out.mono ?_
        rintro e w1 ⟨v1, rfl, ho1, he1⟩
        have HB1 := Lib.hid (HBD.out.1.trans (he1.below (World.ownsRow_nil wd wA.heap.size 5 1) (by rw [HBD.out.2]; exact Nat.le_refl _)))
        obtain ⟨a1', n1, c1, rfl⟩ := owns_isSlice ho1
        have HO1 := Lib.hid ho1
        clear ho1 he1
        go_simp
        refine hK _ _ ?_
        clear hK K
        try simp only [Act.put, List.setIfInBounds_toArray, List.set_cons_zero, List.set_cons_succ]
        refine wpAny_ready (rs := [2]) (by kernel_rfl) (by simp) ?_
        refine AllReady.cons (o := ⟨some 6, _, _, _, _, none⟩) rfl (fun K hK => ?_) ?_
        ·
          go_simp
          go_at_call 23
          refine (SZ.out _ (HVA.out.keep HB1.out)).mono ?_
          rintro e w2 ⟨x2, rfl, hx2, hb2⟩
          have HB2 := Lib.hid (HB1.out.trans (hb2.mono HB1.out.size))
          have HO2 := Lib.hid (And.intro (owns_keepAll HO1.out hb2) (And.intro hx2 (And.intro HB2.out.size (fun g hg => ownBlock_ne hx2 (HO1.out.lt g hg).2))))
          obtain ⟨xa2, xn2, xc2, rfl⟩ := owns_isSlice hx2
          clear hx2 hb2
          go_simp
          refine hK _ _ ?_
          clear hK K
          try simp only [Act.put, List.setIfInBounds_toArray, List.set_cons_zero, List.set_cons_succ]
          refine wpAny_ready (rs := [3]) (by kernel_rfl) (by simp) ?_
          refine AllReady.cons (o := ⟨some 7, _, _, _, _, none⟩) rfl (fun K hK => ?_) ?_
          ·
            go_simp
            go_at_call 21
            refine (rseg_any _ _ L0 S 65361 _ wA.heap.size _ HO2.out.1 HO2.out.2.2.1 HO2.out.2.1 HO2.out.2.2.2 (by rw [HL.out.2.2.2]; decide) (by omega)).mono ?_
            rintro e w3 ⟨v3, rfl, ho3, he3⟩
            have HB3 := Lib.hid (HB2.out.trans (he3.below HO2.out.1 HO2.out.2.2.1))
            rw [HL.out.1] at ho3
            obtain ⟨a3', n3, c3, rfl⟩ := owns_isSlice ho3
            have HO3 := Lib.hid ho3
            clear ho3 he3
            go_simp
            refine hK _ _ ?_
            clear hK K
            try simp only [Act.put, List.setIfInBounds_toArray, List.set_cons_zero, List.set_cons_succ]
            refine wpAny_ready (rs := [4]) (by kernel_rfl) (by simp) ?_
            refine AllReady.cons (o := ⟨some 3, _, _, _, _, none⟩) rfl (fun K hK => ?_) ?_
            · go_simp
              refine hK _ _ ?_
              clear hK K
              refine wpAny_done (by kernel_rfl) ?_ _
              go_wp2_with fail
              go_meet
              exact ⟨HO3.out, HB3.out⟩
            exact AllReady.nil
          exact AllReady.nil
        exact AllReady.nil
      exact AllReady.nil
    exact AllReady.nil
  obtain ⟨w4, rfl⟩ : ∃ w4 : World, w4 = wc := ⟨_, rfl⟩
  obtain ⟨ho4, hB4⟩ := hcut
  have hh4 := HH.out.1.below hB4 sf
  obtain ⟨x4, y4, rfl⟩ := owns_slice ho4
  have HO4 := Lib.hid (And.intro ho4 hB4)
  have HV4 := Lib.hid (HVA.out.keep hB4)
  have HMID : Hid (w4.rangeAt w.heap.size 5 [.int .i64 p.tx, .int .i64 p.ty, .int .i64 p.lv, .int .i64 p.cbw, .int .i64 p.cbh, .int .i64 p.prec, .int .i64 p.style, .int .i64 p.order, .int .i64 p.layers, .bool p.rct, .bool p.sop, .bool p.eph]) := Lib.hid (fun j u hu => mid_head hh4 hu)
  have HI31 : Hid ((Try.prog.info? 31).map (·.size) = some ([.int .i64 p.tx, .int .i64 p.ty, .int .i64 p.lv, .int .i64 p.cbw, .int .i64 p.cbh, .int .i64 p.prec, .int .i64 p.style, .int .i64 p.order, .int .i64 p.layers, .bool p.rct, .bool p.sop, .bool p.eph] : List Value).length) := Lib.hid (by kernel_rfl)
  clear hh4 ho4 hB4 P0 HVA
  go_upto_region 2 with fail
  iterate 7 go_step
  refine wpList_load_mid rfl 31 (.tmp 9) rfl w.heap.size 5 rfl [.int .i64 p.tx, .int .i64 p.ty, .int .i64 p.lv, .int .i64 p.cbw, .int .i64 p.cbh, .int .i64 p.prec, .int .i64 p.style, .int .i64 p.order, .int .i64 p.layers, .bool p.rct, .bool p.sop, .bool p.eph] _ HMID.out Try.underlying31 rfl HI31.out ?_
  go_upto_region 3 with (first | (go_at_call 21; refine (rseg_any _ _ L1 C 65362 _ wA.heap.size _ H5.out.1 H5.out.2.2.1 H5.out.2.1 H5.out.2.2.2 (by have := HLL.out.1; omega) (by omega)).mono ?_; rintro e w6 ⟨v6, rfl, ho6, he6⟩; have hb6 := he6.below H5.out.1 H5.out.2.2.1; rw [HL.out.2.1] at ho6; obtain ⟨x6, y6, rfl⟩ := owns_slice ho6; have H6 := Lib.hid (And.intro ho6 (HB5.out.trans hb6)); clear ho6 he6 hb6) | (go_at_call 24; refine (CD.out _).mono ?_; rintro e w5 ⟨z5, rfl, hx5, hb5⟩; have H5 := Lib.hid (And.intro (owns_keepAll HO4.out.1 hb5) (And.intro hx5 (And.intro (Nat.le_trans HO4.out.2.size hb5.size) (fun g hg => ownBlock_ne hx5 (HO4.out.1.lt g hg).2)))); have HB5 := Lib.hid (HO4.out.2.trans (hb5.mono HO4.out.2.size)); obtain ⟨za5, zn5, zc5, rfl⟩ := owns_isSlice hx5; clear hx5 hb5))
  obtain ⟨ho6, hB6⟩ := H6.out
  have hh6 := HH.out.1.below hB6 sf
  have HV6 := Lib.hid (HV.out.keep (HH.out.2.trans (hB6.mono HH.out.2.size)))
  have HO6 := Lib.hid (And.intro ho6 hB6)
  have HG6 : Hid (w6.heap[w.heap.size]? = some (.cells (headA m (.slice va m.cs.length vc) p (.slice ca CN cc)) 36 (0, 0))) := hh6
  clear hh6 ho6 hB6 H6 H5 HB5 HO4 HV4 CD
  iterate 4 go_step
  refine wpList_load_row rfl 36 (.tmp 1) rfl w.heap.size rfl 36 (headA m (.slice va m.cs.length vc) p (.slice ca CN cc)) (0, 0) _ HG6.out Try.underlying36 rfl (by kernel_rfl) ?_
  go_upto_region 4 with (first | (go_at_call 21; refine (rseg_any _ _ L2 Qc 65372 _ wA.heap.size _ H5.out.1 H5.out.2.2.1 H5.out.2.1 H5.out.2.2.2 (by have := HLL.out.2.1; omega) (by omega)).mono ?_; rintro e w8 ⟨v8, rfl, ho8, he8⟩; have hb8 := he8.below H5.out.1 H5.out.2.2.1; rw [HL.out.2.2.1] at ho8; obtain ⟨x8, y8, rfl⟩ := owns_slice ho8; have H8 := Lib.hid (And.intro ho8 (HB5.out.trans hb8)); clear ho8 he8 hb8) | (go_at_call 25; refine (QC.out _ HV6.out).mono ?_; rintro e w7 ⟨z5, rfl, hx5, hb5⟩; have H5 := Lib.hid (And.intro (owns_keepAll HO6.out.1 hb5) (And.intro hx5 (And.intro (Nat.le_trans HO6.out.2.size hb5.size) (fun g hg => ownBlock_ne hx5 (HO6.out.1.lt g hg).2)))); have HB5 := Lib.hid (HO6.out.2.trans (hb5.mono HO6.out.2.size)); obtain ⟨za5, zn5, zc5, rfl⟩ := owns_isSlice hx5; clear hx5 hb5))
  obtain ⟨ho8, hB8⟩ := H8.out
  have hh8 := HH.out.1.below hB8 sf
  have e17 : w8.cell? ⟨w.heap.size, 17, none⟩ = some (.slice ca CN cc) := hh8.cell 17
  have HC8 := Lib.hid (HC.out.keep (HH.out.2.trans (hB8.mono HH.out.2.size)))
  have HO8 := Lib.hid (And.intro ho8 hB8)
  clear hh8 ho8 hB8 H8 H5 HB5 HO6 HV6 QC SZ
  have hbase : w.heap.size ≤ wA.heap.size := HH.out.2.size
  by_cases hcl0 : cl = []
  · have hMM : MM = L3 := by rw [HM3.out, hcl0]; simp [comB]
    have d0 : decide ((0 : Int) < (CN : Int)) = false := by rw [← HCN.out, hcl0]; rfl
    have d0' : decide (0 < CN) = false := by rw [← HCN.out, hcl0]; rfl
    clear hcl0
    go_wp2_with fail
    go_ret
    refine ⟨_, rfl, ?_, HH.out.2.trans (HO8.out.2.mono HH.out.2.size)⟩
    rw [HM.out, hMM]
    exact owns_base HO8.out.1 hbase
  · have hpos : 0 < CN := by rw [← HCN.out]; exact List.length_pos_iff.2 hcl0
    have d0 : decide ((0 : Int) < (CN : Int)) = true := by simp; omega
    have d0' : decide (0 < CN) = true := by simpa using hpos
    have e17' : (w8.alloc (.cells #[.int .u8 0, .int .u8 1] 5)).cell? ⟨w.heap.size, 17, none⟩ = some (.slice ca CN cc) := bcellC ((Below.refl w8.heap.size w8).alloc (Nat.le_refl _) _) e17 (World.block_lt_of_cell? w8 _ e17)
    have hMM : MM = L3 ++ segB 65380 ([0, 1] ++ cl) := by
      rw [HM3.out]
      unfold comB
      rw [if_neg hcl0, show putsB 2 [1] = [0, 1] from (by kernel_rfl)]
    have HMM := Lib.hid hMM
    have hcl2 : ([0, 1] ++ cl : List UInt8).length ≤ 1002 := by rw [List.length_append, HCN.out]; simp; omega
    have HCL2 := Lib.hid hcl2
    clear hMM hcl0 hcl2
    go_wp2_with (first | (go_at_call 21; refine (rseg_any _ _ L3 ([0, 1] ++ cl) 65380 _ wA.heap.size _ H5.out.1 H5.out.2.2.1 H5.out.2.1 H5.out.2.2.2 (by have := HLL.out.2.2; omega) (by have := HCL2.out; omega)).mono ?_; rintro e w10 ⟨v10, rfl, ho10, he10⟩; have hb10 := he10.below H5.out.1 H5.out.2.2.1; rw [← HMM.out] at ho10; obtain ⟨x10, y10, rfl⟩ := owns_slice ho10; have H10 := Lib.hid (And.intro ho10 (HB5.out.trans hb10)); clear ho10 he10 hb10) | (at_builtin; go_must (refine wpList_appE rfl (.tmp 22) (.tmp 24) rfl w8.heap.size _ [0, 1] cl rfl (own_lit w8 #[.int .u8 0, .int .u8 1] 5 2 _ rfl rfl (Nat.le_refl _) (by decide)) _ rfl (HC8.out.keep ((Below.refl _ _).alloc (Nat.le_refl _) _)) (by rw [HCN.out]; simp; omega) (by simp) ?_; intro v9 w9 ho9 he9; have hb9 : Below w8.heap.size w8 w9 := ((Below.refl _ _).alloc (Nat.le_refl _) _).trans (he9.below (own_lit w8 #[.int .u8 0, .int .u8 1] 5 2 _ rfl rfl (Nat.le_refl _) (by decide)) (by simp)); have H5 := Lib.hid (And.intro (owns_keepAll HO8.out.1 hb9) (And.intro ho9 (And.intro (Nat.le_trans HO8.out.2.size hb9.size) (fun g hg => ownBlock_ne ho9 (HO8.out.1.lt g hg).2)))); have HB5 := Lib.hid (HO8.out.2.trans (hb9.mono HO8.out.2.size)); obtain ⟨za5, zn5, zc5, rfl⟩ := owns_isSlice ho9; clear ho9 he9 hb9)))
    go_ret
    refine ⟨_, rfl, ?_, HH.out.2.trans (H10.out.2.mono HH.out.2.size)⟩
    rw [HM.out]
    exact owns_base H10.out.1 hbase
end Go.Proofs.Ytlhlhlabnjfhcaa
