/- A block of one's own: a copy. -/
import Derived.Test.YtnpoakabheeoeaaPm
import Derived.Deep.RegionHeld3
namespace Go.Proofs.Ytnpoakabheeoeaa
open Go.RowKit

set_option maxRecDepth 100000 in
set_option maxHeartbeats 1000000 in
theorem own_any (pl : Int) (vp vb : Value) (ps : List (Int × Bool)) (bs : List UInt8) (w : World) (hp : PV w vp ps) (hb : BV w vb bs) (hn : ps.length ≤ 1000000) (hm : bs.length ≤ 100000000) :
    Calls Try.prog 47 #[.agg #[.int .i64 pl, vp, vb]] w fun e w' => ∃ vp' vb' Hp Hb, e = .returned (.agg #[.int .i64 pl, vp', vb']) ∧ RowP vp' ps Hp ∧ RowB vb' bs Hb ∧ Mv w [] w' (Hp ++ Hb) := by
  have M1 := ((Mv.refl (Sat.nil w)).alloc 45 #[.int .i64 pl, vp, vb]).alloc 45 #[.int .i64 0, .slice none 0 0, .slice none 0 0]
  obtain ⟨w1, hw1⟩ : ∃ w1, w1 = (w.alloc (.cells #[.int .i64 pl, vp, vb] 45)).alloc (.cells #[.int .i64 0, .slice none 0 0, .slice none 0 0] 45) := ⟨_, rfl⟩
  rw [← hw1] at M1
  have hsz : (w.alloc (.cells #[.int .i64 pl, vp, vb] 45)).heap.size = w.heap.size + 1 := by simp
  rw [hsz] at M1
  have BX : Blk w1 w.heap.size 45 #[.int .i64 pl, vp, vb] := Mv.blkm M1 (x := ⟨w.heap.size, 45, #[.int .i64 pl, vp, vb]⟩) (List.mem_cons_of_mem _ List.mem_cons_self)
  have F : Hid (∀ w' H, Mv w1.drew [] w' H → (w'.cell? ⟨w.heap.size, 0, none⟩ = some (.int .i64 pl) ∧ w'.cell? ⟨w.heap.size, 1, none⟩ = some vp ∧ w'.cell? ⟨w.heap.size, 2, none⟩ = some vb) ∧ PV w' vp ps ∧ BV w' vb bs) := Lib.hid (by
    intro w' H m
    have hB : Below w1.heap.size w1 w' := ⟨m.only.os, m.only.tape, m.only.output, m.only.size, m.below0.block⟩
    have hB0 : Below w.heap.size w w' := (Mv.below0 M1).trans (hB.mono M1.only.size)
    have b1 := BX.below hB BX.lt
    exact ⟨⟨b1.cell 0, b1.cell 1, b1.cell 2⟩, hp.keep hB0, hb.keep hB0⟩)
  have BY : Blk w1 (w.heap.size + 1) 45 #[.int .i64 0, .slice none 0 0, .slice none 0 0] := Mv.blkm M1 (x := ⟨w.heap.size + 1, 45, #[.int .i64 0, .slice none 0 0, .slice none 0 0]⟩) List.mem_cons_self
  have FY : Hid (∀ w' H, Mv w1.drew [] w' H → Blk w' (w.heap.size + 1) 45 #[.int .i64 0, .slice none 0 0, .slice none 0 0]) := Lib.hid (by
    intro w' H m
    have hB : Below w1.heap.size w1 w' := ⟨m.only.os, m.only.tape, m.only.output, m.only.size, m.below0.block⟩
    exact BY.below hB BY.lt)
  clear BX BY
  obtain ⟨A, c, rfl, -⟩ := hp
  obtain ⟨B, d, rfl, -⟩ := hb
  obtain ⟨np, hnp⟩ : ∃ np, ps.length = np := ⟨_, rfl⟩
  obtain ⟨nb, hnb⟩ : ∃ nb, bs.length = nb := ⟨_, rfl⟩
  rw [hnp] at F hn M1 hw1 ⊢
  rw [hnb] at F hm M1 hw1 ⊢
  have HN := Lib.hid (And.intro hnp hnb)
  have KM := Lib.hid M1
  clear hnp hnb M1
  go_enter Try.func47, Try.ntmps47
  go_upto_region 1 with fail
  rw [← hw1]
  have CP := Lib.hid fun W (h : PV W (.slice A np c) ps) => cloneP_any _ ps W h (by rw [HN.out.1]; exact hn)
  have CB := Lib.hid fun W (h : BV W (.slice B nb d) bs) => clone_any _ bs W h (by rw [HN.out.2]; exact hm)
  clear hw1
  have F0 := (F.out w1.drew [] (Mv.refl (Sat.nil _))).1
  go_region_held3 (fun w' => w'.cell? ⟨w.heap.size, 0, none⟩ = some (.int .i64 pl) ∧ w'.cell? ⟨w.heap.size, 1, none⟩ = some (.slice A np c) ∧ w'.cell? ⟨w.heap.size, 2, none⟩ = some (.slice B nb d))
    (first | (with_reducible exact F0) | (with_reducible exact F1) | (with_reducible exact F2) | (exact ⟨(World.cell?_setCell_other _ _ _ _ (by simp)).trans ((World.cell?_setCell_other _ _ _ _ (by simp)).trans ((World.cell?_setCell_other _ _ _ _ (by simp)).trans F2.1)), (World.cell?_setCell_other _ _ _ _ (by simp)).trans ((World.cell?_setCell_other _ _ _ _ (by simp)).trans ((World.cell?_setCell_other _ _ _ _ (by simp)).trans F2.2.1)), (World.cell?_setCell_other _ _ _ _ (by simp)).trans ((World.cell?_setCell_other _ _ _ _ (by simp)).trans ((World.cell?_setCell_other _ _ _ _ (by simp)).trans F2.2.2))⟩))
    (first | (go_at_call 72; refine (CP.out _ (F.out _ _ (Mv.refl (Sat.nil _))).2.1).mono ?_; rintro e w2 ⟨vp', Hp, rfl, r1, m1⟩; obtain ⟨a1, c1, rfl⟩ := r1.slice; have F1 := (F.out w2 _ m1).1; have K1 := Lib.hid (And.intro r1 m1); clear r1 m1) | (go_at_call 31; refine (CB.out _ (F.out _ _ K1.out.2).2.2).mono ?_; rintro e w3 ⟨vb', Hb, rfl, r2, m2⟩; obtain ⟨a2, c2, rfl⟩ := RowH.slice r2; have K2 := Lib.hid (And.intro r2 m2); have F2 := (F.out w3 _ (Mv.call (H := []) K1.out.2 m2)).1; have Y3 := FY.out w3 _ (Mv.call (H := []) K1.out.2 m2); have y0 := Y3.cell 0; have y1 := Y3.cell 1; have y2 := Y3.cell 2; have z0 := Y3.frozen 0; have z1 := Y3.frozen 1; have z2 := Y3.frozen 2; have KY := Lib.hid Y3; clear r2 m2 Y3))
  go_wp2_with fail
  rw [HN.out.1, HN.out.2]
  have M3a : Mv w [] w2 (Hp ++ [_, _]) := Mv.call (H := []) (R := [_, _]) KM.out.drew K1.out.2
  have M3b : Mv w [] w3 (Hb ++ (Hp ++ [_, _])) := Mv.call (H := []) (R := Hp ++ [_, _]) M3a K2.out.2
  have M3 : Mv w [] w3 (⟨w.heap.size + 1, 45, #[.int .i64 0, .slice none 0 0, .slice none 0 0]⟩ :: (Hp ++ Hb)) := M3b.sub (fun g => by simp only [cnt_append, cnt_cons]; omega) (fun c hc => by simp only [List.mem_append, List.mem_cons] at hc ⊢; grind)
  have M4 := ((M3.set 0 (.int .i64 pl)).set 1 (.slice a1 ps.length c1)).set 2 (.slice a2 bs.length c2)
  rw [HN.out.1, HN.out.2] at M4
  refine bodyPost_ret (v := .agg #[.int .i64 pl, .slice a1 np c1, .slice a2 nb c2]) (results_cell_row Try.results47 _ _ (w.heap.size + 1) 45 _ (0, 0) _ rfl (Mv.blkm M4 List.mem_cons_self) Try.underlying45 rfl (by kernel_rfl)) rfl ?_
  have k1 := K1.out.1
  have k2 := K2.out.1
  rw [HN.out.1] at k1
  rw [HN.out.2] at k2
  exact ⟨_, _, Hp, Hb, rfl, k1, k2, M4.drop1⟩
end Go.Proofs.Ytnpoakabheeoeaa
