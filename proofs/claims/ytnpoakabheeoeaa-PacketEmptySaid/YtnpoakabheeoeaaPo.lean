/- A band's k-th block: a copy of what is known of it. -/
import Derived.Test.YtnpoakabheeoeaaPn
namespace Go.Proofs.Ytnpoakabheeoeaa
open Go.RowKit

theorem cnt_flatMap_le {α : Type} (f : α → List HB) {l : List α} {x : α} (h : x ∈ l) (g : Nat) : cnt g (f x) ≤ cnt g (l.flatMap f) := by
  induction l with
  | nil => cases h
  | cons y l ih =>
    rw [List.flatMap_cons, cnt_append]
    rcases List.mem_cons.1 h with rfl | h
    · omega
    · have := ih h
      omega
def stNone : StM := ⟨0, [], [], 0, 3⟩
/-- what is known of the k-th block -/
def stOf (m : BandM) (k : Int) : StM := if k < 0 ∨ (m.ss.length : Int) ≤ k then stNone else m.ss.getD k.toNat stNone
theorem StG.sat {b : BandG} {d : BandA} {w : World} (hs : Sat w (b.heap d)) {s : StG} (h : s ∈ b.G) : Sat w s.Hp ∧ Sat w s.Hb := by
  have h1 : Sat w (s.heap) := by
    refine hs.sub (fun g => ?_) (fun c hc => ?_)
    · have := cnt_flatMap_le StG.heap h g
      simp only [BandG.heap, cnt_cons, cnt_append]
      omega
    · have : c ∈ b.G.flatMap StG.heap := List.mem_flatMap.2 ⟨s, h, hc⟩
      simp only [BandG.heap, List.mem_cons, List.mem_append]
      exact .inr (.inr (.inr (.inr this)))
  exact ⟨h1.left, h1.right⟩
set_option maxRecDepth 100000 in
set_option maxHeartbeats 1000000 in
theorem block_any (d : BandA) (m : BandM) (H : List HB) (W : World) (hB : BandR d m H) (hs : Sat W H) (k : Int) :
    Calls Try.prog 16 #[.pointer (some ⟨d.bb, 0, none⟩), .int .i64 k] W fun e W' => ∃ vp' vb' Hp Hb, e = .returned (.agg #[.int .i64 (stOf m k).pl, vp', vb']) ∧ RowP vp' (stOf m k).ps Hp ∧ RowB vb' (stOf m k).bs Hb ∧ Mv W [] W' (Hp ++ Hb) := by
  obtain ⟨b, rfl, hk, rfl⟩ := hB
  have hsm := hk.small
  obtain ⟨w1, hw1⟩ : ∃ w1, w1 = W.alloc (.cells #[.int .i64 0, .slice none 0 0, .slice none 0 0] 45) := ⟨_, rfl⟩
  have M1 := (Mv.refl hs).alloc 45 #[.int .i64 0, .slice none 0 0, .slice none 0 0]
  have MY := mv_alloc W 45 #[.int .i64 0, .slice none 0 0, .slice none 0 0]
  rw [← hw1] at M1 MY
  have hbb := Mv.blkm M1 (List.mem_cons_of_mem _ (b.mem_band d))
  have hst : Blk w1 d.lb 70 (b.G.flatMap StG.v).toArray := Mv.blkm M1 (List.mem_cons_of_mem _ (b.mem_states d))
  have c0 : w1.cell? ⟨d.bb, 0, none⟩ = some (.slice (some ⟨d.lb, 0, none⟩) d.n d.n) := hbb.cell 0
  have hln : b.model.ss.length = d.n := by simp only [BandG.model, List.length_map]; exact hk.len
  have GT := Lib.hid (getT_any d.bb d.lb d.n d.n k w1 c0 (by omega))
  by_cases hr : k < 0 ∨ (d.n : Int) ≤ k
  · rw [if_pos hr] at GT
    have e0 : stOf b.model k = stNone := by unfold stOf; rw [hln, if_pos hr]
    rw [e0]
    have KY := Lib.hid MY
    have by0 := Mv.blkm MY List.mem_cons_self
    have y0 := by0.cell 0
    have y1 := by0.cell 1
    have y2 := by0.cell 2
    have z := by0.frozen
    clear hr e0 MY M1 hbb hst by0
    go_enter Try.func16, Try.ntmps16
    go_upto_region 1 with fail
    rw [← hw1]
    clear hw1
    go_wp2_with (go_at_call 46; refine GT.out.mono ?_; rintro e w' ⟨rfl, rfl⟩)
    have M4 := ((KY.out.set 0 (.int .i64 0)).set 1 (.slice none 0 0)).set 2 (.slice none 0 0)
    refine bodyPost_ret (v := .agg #[.int .i64 0, .slice none 0 0, .slice none 0 0]) (results_cell_row Try.results16 _ _ W.heap.size 45 _ (0, 0) _ rfl (Mv.blkm M4 List.mem_cons_self) Try.underlying45 rfl (by kernel_rfl)) rfl ?_
    exact ⟨_, _, [], [], rfl, RowH.nil _ _, RowH.nil _ _, M4.drop1⟩
  · rw [if_neg hr] at GT
    obtain ⟨j, rfl⟩ : ∃ j : Nat, k = (j : Int) := ⟨k.toNat, by omega⟩
    rw [Int.toNat_natCast] at GT
    obtain ⟨s, hg⟩ : ∃ s, b.G[j]? = some s := ⟨_, List.getElem?_eq_getElem (by rw [hk.len]; omega)⟩
    have hmem := List.mem_of_getElem? hg
    have e0 : stOf b.model (j : Int) = s.m := by
      unfold stOf
      rw [hln, if_neg hr, Int.toNat_natCast]
      simp only [BandG.model, List.getD_eq_getElem?_getD, List.getElem?_map, hg, Option.map_some, Option.getD_some]
    rw [e0]
    have hso := hk.st s hmem
    obtain ⟨s1, s2⟩ := StG.sat hs hmem
    have hpv : PV w1 s.vp s.m.ps := (RowP.pv hso.1 s1).keep MY.below0
    have hbv : BV w1 s.vb s.m.bs := (RowB.bv hso.2.1 s2).keep MY.below0
    obtain ⟨q0, q1, q2, -, -, -⟩ := state_cells hst hg
    have OW := Lib.hid (own_any s.m.pl s.vp s.vb s.m.ps s.m.bs w1 hpv hbv (by have := hso.2.2.np; omega) (by have := hso.2.2.nb; omega))
    have hj : j * 5 < 100000 := by omega
    obtain ⟨A, c1, e1, -⟩ := hpv
    obtain ⟨B, c2, e2, -⟩ := hbv
    obtain ⟨n1, hn1⟩ : ∃ n1, s.m.ps.length = n1 := ⟨_, rfl⟩
    obtain ⟨n2, hn2⟩ : ∃ n2, s.m.bs.length = n2 := ⟨_, rfl⟩
    rw [e1, hn1] at q1
    rw [e2, hn2] at q2
    rw [e1, e2, hn1, hn2] at OW
    have KY := Lib.hid MY
    clear hr e0 MY M1 hbb hst hso s1 s2 e1 e2 hn1 hn2 hln hs hg hmem
    go_enter Try.func16, Try.ntmps16
    go_upto_region 1 with fail
    rw [← hw1]
    clear hw1
    go_wp2_with (first | (go_at_call 46; refine GT.out.mono ?_; rintro e w' ⟨rfl, rfl⟩) | (go_at_call 47; refine OW.out.mono ?_; rintro e w3 ⟨vp', vb', Hp, Hb, rfl, r1, r2, m3⟩; obtain ⟨a3, c3, rfl⟩ := r1.slice; obtain ⟨a4, c4, rfl⟩ := RowH.slice r2; have M3 : Mv W [] w3 ((Hp ++ Hb) ++ [_]) := Mv.call (H := []) (R := [_]) KY.out m3; have by0 := Mv.blkm M3 (List.mem_append_right _ List.mem_cons_self); have y0 := by0.cell 0; have y1 := by0.cell 1; have y2 := by0.cell 2; have z0 := by0.frozen 0; have z1 := by0.frozen 1; have z2 := by0.frozen 2; have K3 := Lib.hid (And.intro r1 (And.intro r2 M3)); clear r1 r2 m3 M3 by0))
    have M3 : Mv W [] w3 (⟨W.heap.size, 45, #[.int .i64 0, .slice none 0 0, .slice none 0 0]⟩ :: (Hp ++ Hb)) := K3.out.2.2.sub (fun g => by simp only [cnt_append, cnt_cons]; omega) (fun c hc => by simp only [List.mem_append, List.mem_cons] at hc ⊢; grind)
    have M4 := ((M3.set 0 (.int .i64 s.m.pl)).set 1 (.slice a3 s.m.ps.length c3)).set 2 (.slice a4 s.m.bs.length c4)
    refine bodyPost_ret (v := .agg #[.int .i64 s.m.pl, .slice a3 s.m.ps.length c3, .slice a4 s.m.bs.length c4]) (results_cell_row Try.results16 _ _ W.heap.size 45 _ (0, 0) _ rfl (Mv.blkm M4 List.mem_cons_self) Try.underlying45 rfl (by kernel_rfl)) rfl ?_
    exact ⟨_, _, Hp, Hb, rfl, K3.out.1, K3.out.2.1, M4.drop1⟩
end Go.Proofs.Ytnpoakabheeoeaa
