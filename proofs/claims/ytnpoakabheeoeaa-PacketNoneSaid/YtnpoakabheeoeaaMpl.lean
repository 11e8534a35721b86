/- Rows of passes: append, a copy. A copy of passes. A block of one's own: a copy. A band's k-th block: a copy of what is known of it. A band of which nothing is new: written; the law's example. -/
import Derived.Test.YtnpoakabheeoeaaMpi
import Derived.WalkLawsBesides
import Derived.Deep.RegionHeld3
namespace Go.Proofs.Ytnpoakabheeoeaa
open Go.RowKit

theorem infoPs : (Try.prog.info? 108).map (fun i => (i.zero, i.size, i.bytes)) = some (some (.agg #[.int .i64 0, .bool false]), 2, 16) := by kernel_rfl
def RowP (v : Value) (l : List (Int × Bool)) (H : List HB) : Prop := RowH 108 2 v l.length (passesV l) H
/-- passes that are read -/
def PV (w : World) (v : Value) (l : List (Int × Bool)) : Prop := ∃ A c, v = .slice A l.length c ∧ l.length ≤ c ∧ c ≤ maxLen ∧ Reads w w.heap.size 2 A l.length (passesV l)
theorem passesV_append (a b : List (Int × Bool)) : passesV (a ++ b) = passesV a ++ passesV b := by simp [passesV]
theorem passesV_length (l : List (Int × Bool)) : (passesV l).length = l.length * 2 := flat_length passV 2 passV_length l
theorem passesV_one (l : List (Int × Bool)) : ∀ u : Value, u ∈ passesV l → u.oneCell' = true := by
  intro u hu
  simp only [passesV, passV, List.mem_flatMap, List.mem_cons, List.not_mem_nil, or_false] at hu
  obtain ⟨p, -, rfl | rfl⟩ := hu <;> rfl
theorem RowP.slice {v : Value} {l : List (Int × Bool)} {H : List HB} (h : RowP v l H) : ∃ a c, v = .slice a l.length c := RowH.slice h
theorem PV.keep {w w' : World} {v : Value} {l : List (Int × Bool)} (h : PV w v l) (hb : Below w.heap.size w w') : PV w' v l := by
  obtain ⟨A, c, h1, h2, h3, h4⟩ := h
  exact ⟨A, c, h1, h2, h3, (h4.below hb).more hb.size⟩
theorem RowP.pv {w : World} {v : Value} {l : List (Int × Bool)} {H : List HB} (h : RowP v l H) (hs : Sat w H) : PV w v l := by
  have ho := RowH.owns h hs (B := 0) (fun _ _ => Nat.zero_le _)
  rcases h.2 with ⟨rfl, h2, h3⟩ | ⟨g, cap, cur, rfl, h1, h2, -⟩
  · exact ⟨none, 0, by rw [h2], by omega, by unfold maxLen; omega, Reads.of_own (by rw [h2] at ho ⊢; exact ho)⟩
  · exact ⟨_, cap, rfl, h1, h2, Reads.of_own ho⟩
theorem run_appP {w : World} {v u : Value} {l r : List (Int × Bool)} {H : List HB} (h : RowP v l H) (hs : Sat w H) (hu : PV w u r) (hl : l.length + r.length ≤ 100000000) (ty : TypeId) :
    ∃ v' w' H', (Builtin.append_ #[43, 43] ty #[v, u]).run Try.prog w = .ok v' w' ∧ RowP v' (l ++ r) H' ∧ Mv w H w' H' := by
  obtain ⟨A, c, rfl, h1, h2, h3⟩ := hu
  obtain ⟨i0, hti, hz0, hz1, hz2⟩ := info_parts infoPs
  obtain ⟨v', w', hrun, k1, k2, k3⟩ := run_append_any (P := Try.prog) w 0 43 ty 108 i0 _ 2 16 Try.underlying43 hti hz0 hz1 hz2 rfl (by decide) v l.length (passesV l) (RowH.owns h hs (fun _ _ => Nat.zero_le _)) w.heap.size A r.length c (passesV r) h3 (passesV_one r) (by unfold maxLen; omega) (by omega) (Nat.zero_le _)
  obtain ⟨H', k4, k5⟩ := mv_owns_grown h k1 k2 k3
  refine ⟨v', w', H', hrun, ?_, k5⟩
  unfold RowP
  rw [List.length_append, passesV_append]
  exact k4
section
variable {ops : Array Oper} {rest : List Oper} {o : Oper} {a : Act} {w : World} {K : Act → World → Prop} {Q : Exit → Act → World → Prop} {E : Prop}
theorem wp_appP (s x : Operand) (ho : o.op = .call { callee := .builtin .append, args := #[s, x], argTypes := #[43, 43] }) (v u : Value) (l r : List (Int × Bool)) (H : List HB)
    (hsv : a.eval s = v) (hxu : a.eval x = u) (h : RowP v l H) (hs : Sat w H) (hu : PV w u r) (hl : l.length + r.length ≤ 100000000)
    (hK : ∀ v' w' H', RowP v' (l ++ r) H' → Mv w H w' H' → K (a.put o.dst v') w') : o.wp Try.prog a w K Q := by
  obtain ⟨v', w', H', hrun, h1, h2⟩ := run_appP h hs hu hl o.type
  unfold Oper.wp execOp
  simp only [ho, resolve, invoke, builtin, Sem.run_bind, Sem.run_pure, Result.andThen_ok, List.map_toArray, List.map_cons, List.map_nil, hsv, hxu, hrun]
  exact hK v' w' H' h1 h2
theorem wpList_appP (hgd : o.guard = none) (s x : Operand) (ho : o.op = .call { callee := .builtin .append, args := #[s, x], argTypes := #[43, 43] }) (v u : Value) (l r : List (Int × Bool)) (H : List HB)
    (hsv : a.eval s = v) (hxu : a.eval x = u) (h : RowP v l H) (hs : Sat w H) (hu : PV w u r) (hl : l.length + r.length ≤ 100000000)
    (hK : ∀ v' w' H', RowP v' (l ++ r) H' → Mv w H w' H' → wpList Try.prog ops Q rest (a.put o.dst v') w') : wpList Try.prog ops Q (o :: rest) a w :=
  wpList_plain hgd fun _ hk => wp_appP s x ho v u l r H hsv hxu h hs hu hl fun v' w' H' h1 h2 => hk _ _ (hK v' w' H' h1 h2)
end
end Go.Proofs.Ytnpoakabheeoeaa
namespace Go.Proofs.Ytnpoakabheeoeaa
open Go.RowKit

set_option maxRecDepth 100000 in
theorem cloneP_any (v : Value) (l : List (Int × Bool)) (w : World) (hv : PV w v l) (hn : l.length ≤ 1000000) :
    Calls Try.prog 72 #[v] w fun e w' => ∃ v' H', e = .returned v' ∧ RowP v' l H' ∧ Mv w [] w' H' := by
  obtain ⟨A, c, rfl, h1, h2, hr⟩ := hv
  have HV := Lib.hid hr
  have hq : ∀ W, (binOp .eql 43 (.slice A l.length c) (.slice none 0 0)).run Try.prog W = .ok (.bool A.isNone) W := fun W => Lib.run_eql_slice_nil W 43 108 A l.length c 0 0 Try.underlying43
  rcases A with _ | ad
  · have h0 : l.length = 0 := by
      rcases Nat.eq_zero_or_pos l.length with h | h
      · exact h
      · obtain ⟨_, h, _⟩ := hr.2 (by omega); cases h
    have hl : l = [] := List.eq_nil_of_length_eq_zero h0
    subst hl
    clear hr HV hn h1 h0
    simp only [List.length_nil] at hq ⊢
    go_enter Try.func72, Try.ntmps72
    go_wp2
    go_ret
    exact ⟨_, [], rfl, RowH.nil _ _, Mv.refl (Sat.nil w)⟩
  · have M0 := mv_alloc w 108 #[]
    have B0 : PV (w.alloc (.cells #[] 108)) (.slice (some ad) l.length c) l := ⟨some ad, c, rfl, h1, h2, (hr.alloc (Nat.le_refl _) _).more (by simp)⟩
    have R0 : RowP (.slice (some ⟨w.heap.size, 0, none⟩) 0 0) [] [⟨w.heap.size, 108, #[]⟩] := RowH.new 108 w.heap.size 0 #[] (by simp) (by decide)
    have K := Lib.hid (And.intro M0 (And.intro B0 R0))
    obtain ⟨n, hnn⟩ : ∃ n, l.length = n := ⟨_, rfl⟩
    have HN := Lib.hid hnn
    rw [hnn] at hq hn h1 K
    rw [hnn]
    clear hr HV M0 B0 R0 hnn
    go_enter Try.func72, Try.ntmps72
    go_wp2_with (at_builtin; go_must (refine wpList_appP rfl (.tmp 5) (.tmp 6) rfl _ _ [] l _ rfl rfl K.out.2.2 K.out.1.sat K.out.2.1 (by rw [HN.out]; simp; omega) ?_; intro v' w1 H1 hr1 m1; obtain ⟨a1, c1, rfl⟩ := hr1.slice; have K1 := Lib.hid (And.intro hr1 m1); clear hr1 m1))
    go_ret
    exact ⟨_, H1, rfl, by simpa using K1.out.1, K.out.1.trans K1.out.2⟩
end Go.Proofs.Ytnpoakabheeoeaa
namespace Go.Proofs.Ytnpoakabheeoeaa
open Go.RowKit

set_option maxRecDepth 100000 in
set_option maxHeartbeats 1000000 in
theorem own_any (pl : Int) (vp vb : Value) (ps : List (Int × Bool)) (bs : List UInt8) (w : World) (hp : PV w vp ps) (hb : BV w vb bs) (hn : ps.length ≤ 1000000) (hm : bs.length ≤ 100000000) :
    Calls Try.prog 47 #[.agg #[.int .i64 pl, vp, vb]] w fun e w' => ∃ vp' vb' Hp Hb, e = .returned (.agg #[.int .i64 pl, vp', vb']) ∧ RowP vp' ps Hp ∧ RowB vb' bs Hb ∧ Mv w [] w' (Hp ++ Hb) := by
  have M1 := ((Mv.refl (Sat.nil w)).alloc 45 #[.int .i64 pl, vp, vb]).alloc 45 #[.int .i64 0, .slice none 0 0, .slice none 0 0]
  obtain ⟨w1, hw1⟩ : ∃ w1, w1 = (w.alloc (.cells #[.int .i64 pl, vp, vb] 45)).alloc (.cells #[.int .i64 0, .slice none 0 0, .slice none 0 0] 45) := ⟨_, rfl⟩
  rw [← hw1] at M1
  have hsz : (w.alloc (.cells #[.int .i64 pl, vp, vb] 45)).heap.size = w.heap.size + 1 := by simp
  rw [hsz] at M1
  have BX : Blk w1 w.heap.size 45 #[.int .i64 pl, vp, vb] := Mv.blkm M1 (x := ⟨w.heap.size, 45, #[.int .i64 pl, vp, vb]⟩) (List.mem_cons_of_mem _ List.mem_cons_self)
  have F : Hid (∀ w' H, Mv w1.drew [] w' H → (w'.cell? ⟨w.heap.size, 0, none⟩ = some (.int .i64 pl) ∧ w'.cell? ⟨w.heap.size, 1, none⟩ = some vp ∧ w'.cell? ⟨w.heap.size, 2, none⟩ = some vb) ∧ PV w' vp ps ∧ BV w' vb bs) := Lib.hid (by
    intro w' H m
    have hB : Below w1.heap.size w1 w' := ⟨m.only.os, m.only.tape, m.only.output, m.only.size, m.below0.block⟩
    have hB0 : Below w.heap.size w w' := (Mv.below0 M1).trans (hB.mono M1.only.size)
    have b1 := BX.below hB BX.lt
    exact ⟨⟨b1.cell 0, b1.cell 1, b1.cell 2⟩, hp.keep hB0, hb.keep hB0⟩)
  have BY : Blk w1 (w.heap.size + 1) 45 #[.int .i64 0, .slice none 0 0, .slice none 0 0] := Mv.blkm M1 (x := ⟨w.heap.size + 1, 45, #[.int .i64 0, .slice none 0 0, .slice none 0 0]⟩) List.mem_cons_self
  have FY : Hid (∀ w' H, Mv w1.drew [] w' H → Blk w' (w.heap.size + 1) 45 #[.int .i64 0, .slice none 0 0, .slice none 0 0]) := Lib.hid (by
    intro w' H m
    have hB : Below w1.heap.size w1 w' := ⟨m.only.os, m.only.tape, m.only.output, m.only.size, m.below0.block⟩
    exact BY.below hB BY.lt)
  clear BX BY
  obtain ⟨A, c, rfl, -⟩ := hp
  obtain ⟨B, d, rfl, -⟩ := hb
  obtain ⟨np, hnp⟩ : ∃ np, ps.length = np := ⟨_, rfl⟩
  obtain ⟨nb, hnb⟩ : ∃ nb, bs.length = nb := ⟨_, rfl⟩
  rw [hnp] at F hn M1 hw1 ⊢
  rw [hnb] at F hm M1 hw1 ⊢
  have HN := Lib.hid (And.intro hnp hnb)
  have KM := Lib.hid M1
  clear hnp hnb M1
  go_enter Try.func47, Try.ntmps47
  go_upto_region 1 with fail
  rw [← hw1]
  have CP := Lib.hid fun W (h : PV W (.slice A np c) ps) => cloneP_any _ ps W h (by rw [HN.out.1]; exact hn)
  have CB := Lib.hid fun W (h : BV W (.slice B nb d) bs) => clone_any _ bs W h (by rw [HN.out.2]; exact hm)
  clear hw1
  have F0 := (F.out w1.drew [] (Mv.refl (Sat.nil _))).1
  go_region_held3 (fun w' => w'.cell? ⟨w.heap.size, 0, none⟩ = some (.int .i64 pl) ∧ w'.cell? ⟨w.heap.size, 1, none⟩ = some (.slice A np c) ∧ w'.cell? ⟨w.heap.size, 2, none⟩ = some (.slice B nb d))
    (first | (with_reducible exact F0) | (with_reducible exact F1) | (with_reducible exact F2) | (exact ⟨(World.cell?_setCell_other _ _ _ _ (by simp)).trans ((World.cell?_setCell_other _ _ _ _ (by simp)).trans ((World.cell?_setCell_other _ _ _ _ (by simp)).trans F2.1)), (World.cell?_setCell_other _ _ _ _ (by simp)).trans ((World.cell?_setCell_other _ _ _ _ (by simp)).trans ((World.cell?_setCell_other _ _ _ _ (by simp)).trans F2.2.1)), (World.cell?_setCell_other _ _ _ _ (by simp)).trans ((World.cell?_setCell_other _ _ _ _ (by simp)).trans ((World.cell?_setCell_other _ _ _ _ (by simp)).trans F2.2.2))⟩))
    (first | (go_at_call 72; refine (CP.out _ (F.out _ _ (Mv.refl (Sat.nil _))).2.1).mono ?_; rintro e w2 ⟨vp', Hp, rfl, r1, m1⟩; obtain ⟨a1, c1, rfl⟩ := r1.slice; have F1 := (F.out w2 _ m1).1; have K1 := Lib.hid (And.intro r1 m1); clear r1 m1) | (go_at_call 31; refine (CB.out _ (F.out _ _ K1.out.2).2.2).mono ?_; rintro e w3 ⟨vb', Hb, rfl, r2, m2⟩; obtain ⟨a2, c2, rfl⟩ := RowH.slice r2; have K2 := Lib.hid (And.intro r2 m2); have F2 := (F.out w3 _ (Mv.call (H := []) K1.out.2 m2)).1; have Y3 := FY.out w3 _ (Mv.call (H := []) K1.out.2 m2); have y0 := Y3.cell 0; have y1 := Y3.cell 1; have y2 := Y3.cell 2; have z0 := Y3.frozen 0; have z1 := Y3.frozen 1; have z2 := Y3.frozen 2; have KY := Lib.hid Y3; clear r2 m2 Y3))
  go_wp2_with fail
  rw [HN.out.1, HN.out.2]
  have M3a : Mv w [] w2 (Hp ++ [_, _]) := Mv.call (H := []) (R := [_, _]) KM.out.drew K1.out.2
  have M3b : Mv w [] w3 (Hb ++ (Hp ++ [_, _])) := Mv.call (H := []) (R := Hp ++ [_, _]) M3a K2.out.2
  have M3 : Mv w [] w3 (⟨w.heap.size + 1, 45, #[.int .i64 0, .slice none 0 0, .slice none 0 0]⟩ :: (Hp ++ Hb)) := M3b.sub (fun g => by simp only [cnt_append, cnt_cons]; omega) (fun c hc => by simp only [List.mem_append, List.mem_cons] at hc ⊢; grind)
  have M4 := ((M3.set 0 (.int .i64 pl)).set 1 (.slice a1 ps.length c1)).set 2 (.slice a2 bs.length c2)
  rw [HN.out.1, HN.out.2] at M4
  refine bodyPost_ret (v := .agg #[.int .i64 pl, .slice a1 np c1, .slice a2 nb c2]) (results_cell_row Try.results47 _ _ (w.heap.size + 1) 45 _ (0, 0) _ rfl (Mv.blkm M4 List.mem_cons_self) Try.underlying45 rfl (by kernel_rfl)) rfl ?_
  have k1 := K1.out.1
  have k2 := K2.out.1
  rw [HN.out.1] at k1
  rw [HN.out.2] at k2
  exact ⟨_, _, Hp, Hb, rfl, k1, k2, M4.drop1⟩
end Go.Proofs.Ytnpoakabheeoeaa
namespace Go.Proofs.Ytnpoakabheeoeaa
open Go.RowKit

theorem cnt_flatMap_le {α : Type} (f : α → List HB) {l : List α} {x : α} (h : x ∈ l) (g : Nat) : cnt g (f x) ≤ cnt g (l.flatMap f) := by
  induction l with
  | nil => cases h
  | cons y l ih =>
    rw [List.flatMap_cons, cnt_append]
    rcases List.mem_cons.1 h with rfl | h
    · omega
    · have := ih h
      omega
def stNone : StM := ⟨0, [], [], 0, 3⟩
/-- what is known of the k-th block -/
def stOf (m : BandM) (k : Int) : StM := if k < 0 ∨ (m.ss.length : Int) ≤ k then stNone else m.ss.getD k.toNat stNone
theorem StG.sat {b : BandG} {d : BandA} {w : World} (hs : Sat w (b.heap d)) {s : StG} (h : s ∈ b.G) : Sat w s.Hp ∧ Sat w s.Hb := by
  have h1 : Sat w (s.heap) := by
    refine hs.sub (fun g => ?_) (fun c hc => ?_)
    · have := cnt_flatMap_le StG.heap h g
      simp only [BandG.heap, cnt_cons, cnt_append]
      omega
    · have : c ∈ b.G.flatMap StG.heap := List.mem_flatMap.2 ⟨s, h, hc⟩
      simp only [BandG.heap, List.mem_cons, List.mem_append]
      exact .inr (.inr (.inr (.inr this)))
  exact ⟨h1.left, h1.right⟩
set_option maxRecDepth 100000 in
set_option maxHeartbeats 1000000 in
theorem block_any (d : BandA) (m : BandM) (H : List HB) (W : World) (hB : BandR d m H) (hs : Sat W H) (k : Int) :
    Calls Try.prog 16 #[.pointer (some ⟨d.bb, 0, none⟩), .int .i64 k] W fun e W' => ∃ vp' vb' Hp Hb, e = .returned (.agg #[.int .i64 (stOf m k).pl, vp', vb']) ∧ RowP vp' (stOf m k).ps Hp ∧ RowB vb' (stOf m k).bs Hb ∧ Mv W [] W' (Hp ++ Hb) := by
  obtain ⟨b, rfl, hk, rfl⟩ := hB
  have hsm := hk.small
  obtain ⟨w1, hw1⟩ : ∃ w1, w1 = W.alloc (.cells #[.int .i64 0, .slice none 0 0, .slice none 0 0] 45) := ⟨_, rfl⟩
  have M1 := (Mv.refl hs).alloc 45 #[.int .i64 0, .slice none 0 0, .slice none 0 0]
  have MY := mv_alloc W 45 #[.int .i64 0, .slice none 0 0, .slice none 0 0]
  rw [← hw1] at M1 MY
  have hbb := Mv.blkm M1 (List.mem_cons_of_mem _ (b.mem_band d))
  have hst : Blk w1 d.lb 70 (b.G.flatMap StG.v).toArray := Mv.blkm M1 (List.mem_cons_of_mem _ (b.mem_states d))
  have c0 : w1.cell? ⟨d.bb, 0, none⟩ = some (.slice (some ⟨d.lb, 0, none⟩) d.n d.n) := hbb.cell 0
  have hln : b.model.ss.length = d.n := by simp only [BandG.model, List.length_map]; exact hk.len
  have GT := Lib.hid (getT_any d.bb d.lb d.n d.n k w1 c0 (by omega))
  by_cases hr : k < 0 ∨ (d.n : Int) ≤ k
  · rw [if_pos hr] at GT
    have e0 : stOf b.model k = stNone := by unfold stOf; rw [hln, if_pos hr]
    rw [e0]
    have KY := Lib.hid MY
    have by0 := Mv.blkm MY List.mem_cons_self
    have y0 := by0.cell 0
    have y1 := by0.cell 1
    have y2 := by0.cell 2
    have z := by0.frozen
    clear hr e0 MY M1 hbb hst by0
    go_enter Try.func16, Try.ntmps16
    go_upto_region 1 with fail
    rw [← hw1]
    clear hw1
    go_wp2_with (go_at_call 46; refine GT.out.mono ?_; rintro e w' ⟨rfl, rfl⟩)
    have M4 := ((KY.out.set 0 (.int .i64 0)).set 1 (.slice none 0 0)).set 2 (.slice none 0 0)
    refine bodyPost_ret (v := .agg #[.int .i64 0, .slice none 0 0, .slice none 0 0]) (results_cell_row Try.results16 _ _ W.heap.size 45 _ (0, 0) _ rfl (Mv.blkm M4 List.mem_cons_self) Try.underlying45 rfl (by kernel_rfl)) rfl ?_
    exact ⟨_, _, [], [], rfl, RowH.nil _ _, RowH.nil _ _, M4.drop1⟩
  · rw [if_neg hr] at GT
    obtain ⟨j, rfl⟩ : ∃ j : Nat, k = (j : Int) := ⟨k.toNat, by omega⟩
    rw [Int.toNat_natCast] at GT
    obtain ⟨s, hg⟩ : ∃ s, b.G[j]? = some s := ⟨_, List.getElem?_eq_getElem (by rw [hk.len]; omega)⟩
    have hmem := List.mem_of_getElem? hg
    have e0 : stOf b.model (j : Int) = s.m := by
      unfold stOf
      rw [hln, if_neg hr, Int.toNat_natCast]
      simp only [BandG.model, List.getD_eq_getElem?_getD, List.getElem?_map, hg, Option.map_some, Option.getD_some]
    rw [e0]
    have hso := hk.st s hmem
    obtain ⟨s1, s2⟩ := StG.sat hs hmem
    have hpv : PV w1 s.vp s.m.ps := (RowP.pv hso.1 s1).keep MY.below0
    have hbv : BV w1 s.vb s.m.bs := (RowB.bv hso.2.1 s2).keep MY.below0
    obtain ⟨q0, q1, q2, -, -, -⟩ := state_cells hst hg
    have OW := Lib.hid (own_any s.m.pl s.vp s.vb s.m.ps s.m.bs w1 hpv hbv (by have := hso.2.2.np; omega) (by have := hso.2.2.nb; omega))
    have hj : j * 5 < 100000 := by omega
    obtain ⟨A, c1, e1, -⟩ := hpv
    obtain ⟨B, c2, e2, -⟩ := hbv
    obtain ⟨n1, hn1⟩ : ∃ n1, s.m.ps.length = n1 := ⟨_, rfl⟩
    obtain ⟨n2, hn2⟩ : ∃ n2, s.m.bs.length = n2 := ⟨_, rfl⟩
    rw [e1, hn1] at q1
    rw [e2, hn2] at q2
    rw [e1, e2, hn1, hn2] at OW
    have KY := Lib.hid MY
    clear hr e0 MY M1 hbb hst hso s1 s2 e1 e2 hn1 hn2 hln hs hg hmem
    go_enter Try.func16, Try.ntmps16
    go_upto_region 1 with fail
    rw [← hw1]
    clear hw1
    go_wp2_with (first | (go_at_call 46; refine GT.out.mono ?_; rintro e w' ⟨rfl, rfl⟩) | (go_at_call 47; refine OW.out.mono ?_; rintro e w3 ⟨vp', vb', Hp, Hb, rfl, r1, r2, m3⟩; obtain ⟨a3, c3, rfl⟩ := r1.slice; obtain ⟨a4, c4, rfl⟩ := RowH.slice r2; have M3 : Mv W [] w3 ((Hp ++ Hb) ++ [_]) := Mv.call (H := []) (R := [_]) KY.out m3; have by0 := Mv.blkm M3 (List.mem_append_right _ List.mem_cons_self); have y0 := by0.cell 0; have y1 := by0.cell 1; have y2 := by0.cell 2; have z0 := by0.frozen 0; have z1 := by0.frozen 1; have z2 := by0.frozen 2; have K3 := Lib.hid (And.intro r1 (And.intro r2 M3)); clear r1 r2 m3 M3 by0))
    have M3 : Mv W [] w3 (⟨W.heap.size, 45, #[.int .i64 0, .slice none 0 0, .slice none 0 0]⟩ :: (Hp ++ Hb)) := K3.out.2.2.sub (fun g => by simp only [cnt_append, cnt_cons]; omega) (fun c hc => by simp only [List.mem_append, List.mem_cons] at hc ⊢; grind)
    have M4 := ((M3.set 0 (.int .i64 s.m.pl)).set 1 (.slice a3 s.m.ps.length c3)).set 2 (.slice a4 s.m.bs.length c4)
    refine bodyPost_ret (v := .agg #[.int .i64 s.m.pl, .slice a3 s.m.ps.length c3, .slice a4 s.m.bs.length c4]) (results_cell_row Try.results16 _ _ W.heap.size 45 _ (0, 0) _ rfl (Mv.blkm M4 List.mem_cons_self) Try.underlying45 rfl (by kernel_rfl)) rfl ?_
    exact ⟨_, _, Hp, Hb, rfl, K3.out.1, K3.out.2.1, M4.drop1⟩
end Go.Proofs.Ytnpoakabheeoeaa
namespace Go.Proofs.Ytnpoakabheeoeaa
open Go.RowKit

def listB (g bb : Nat) : HB := ⟨g, 34, #[.pointer (some ⟨bb, 0, none⟩)]⟩
theorem enc_one (d : BandA) (m : BandM) (H0 : List HB) (g : Nat) (W : World) (style layer : Int) (count : Nat) (hB : BandR d m H0) (hs : Sat W (listB g d.bb :: H0)) (hct : count ≤ 100000) (hly : 0 ≤ layer ∧ layer ≤ 10000) (hno : ∀ s ∈ m.ss, passN s.ps.length count (layer + 1) ≤ s.said) :
    Calls Try.prog 11 #[.slice (some ⟨g, 0, none⟩) 1 1, .int .i64 style, .int .i64 (count : Int), .int .i64 layer] W fun e W' =>
      ∃ a c H1 m' H', e = .returned (.tuple #[.slice (some ⟨a, 0, none⟩) 1 c, .slice none 0 0]) ∧ RowB (.slice (some ⟨a, 0, none⟩) 1 c) [0] H1 ∧ W'.cell? ⟨a, 0, none⟩ = some (.int .u8 0) ∧ 1 ≤ c ∧ BandR d m' H' ∧ m'.ss = m.ss ∧ Mv W (listB g d.bb :: H0) W' (H1 ++ (listB g d.bb :: H')) := by
  have hL : ListH (.slice (some ⟨g, 0, none⟩) 1 1) [d] [listB g d.bb] := RowH.new (size := 1) _ g 1 #[.pointer (some ⟨d.bb, 0, none⟩)] rfl (by decide)
  refine (enc_none (some ⟨g, 0, none⟩) 1 [d] (fun _ => m) style layer count [listB g d.bb] H0 W (by simp) hL ⟨H0, [], by simp, hB, rfl⟩ hs hct hly (fun d' hd s h => ?_)).mono ?_
  · exact hno s h
  · rintro e W' ⟨v, H1, HB', rfl, h1, ⟨H2, H3, rfl, h2, rfl⟩, h3⟩
    obtain ⟨a, c, cur, rfl, hc, -⟩ := RowH.form h1 (by decide)
    have hcell := (RowH.cell h1 h3.sat.left rfl 0 (by decide)).1
    refine ⟨a, c, H1, _, H2, rfl, h1, by simpa [cellsB] using hcell, hc, h2, encM_ss count _ _ _, ?_⟩
    simpa using h3
theorem new_none (w h : Nat) (planes : Int) (count : Nat) (layer : Int) : ∀ s ∈ (newBandM w h planes).ss, passN s.ps.length count (layer + 1) ≤ s.said := by
  intro s hs
  rw [List.eq_of_mem_replicate hs]
  exact Int.le_of_eq (passN_zero _ _)
set_option maxRecDepth 100000 in
set_option maxHeartbeats 1000000 in
theorem known_any (w : World) : Calls Try.prog 7 #[] w fun e w' => e = .returned (.bool true) ∧ Mv w [] w' [] := by
  have NB := Lib.hid (band_new 1 1 5 w (by decide) (by decide) (by decide))
  have NN := Lib.hid (new_none 1 1 5 1 0)
  go_enter Try.func7, Try.ntmps7
  go_wp2_with (first | (go_at_call 12; refine NB.out.mono ?_; rintro e w1 ⟨d, H, rfl, -, hB, m1⟩; have K1 := Lib.hid (And.intro hB m1); clear hB m1) | (go_at_call 11; refine (enc_one d _ H _ _ 0 0 1 K1.out.1 (K1.out.2.alloc _ _).sat (by decide) (by decide) NN.out).mono ?_; rintro e w2 ⟨a, c, H1, m', H', rfl, -, c0, hc, -, -, m2⟩; have M2 := (K1.out.2.alloc _ _).trans m2; have K2 := Lib.hid M2; clear m2 M2))
  go_ret
  exact ⟨rfl, Mv.drop (A := H1 ++ (_ :: H')) (H := []) (by simpa using K2.out)⟩
end Go.Proofs.Ytnpoakabheeoeaa
