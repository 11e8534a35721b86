/- marks: SIZ's bytes. -/
import Derived.Test.YtlhlhlabnjfhcaaMnA
import Derived.Test.YtlhlhlabnjfhcaaMs
import Derived.Deep.RegionHeld3
namespace Go.Proofs.Ytlhlhlabnjfhcaa
open Go.RowKit

theorem BV.nil_ (w : World) : BV w (.slice none 0 0) [] := ⟨none, 0, rfl, Nat.le_refl _, by decide, Reads.none_⟩
theorem RdI.litD (w : World) (ns : List Int) (hm : ns.length ≤ maxLen) : RdI (w.alloc (.cells (ns.map (Value.int .i64)).toArray 3)).drew (.slice (some ⟨w.heap.size, 0, none⟩) ns.length ns.length) ns := RdI.lit w ns hm

theorem RdI.at1 (w : World) (o : Obj) (ns : List Int) (hm : ns.length ≤ maxLen) : RdI ((w.alloc o).alloc (.cells (ns.map (Value.int .i64)).toArray 3)).drew (.slice (some ⟨w.heap.size + 1, 0, none⟩) ns.length ns.length) ns := by
  have h := RdI.litD (w.alloc o) ns hm
  rw [World.size_alloc] at h
  exact h

def compsB (cs : List CompD) : List UInt8 := cs.flatMap fun c => putsB 1 [c.depth - 1 + flagI c.signed 128, c.dx, c.dy]
def sizB (m : ImgD) (p : ParD) : List UInt8 := putsB 2 [0] ++ putsB 4 [m.x, m.y, m.ox, m.oy, p.tx, p.ty, 0, 0] ++ putsB 2 [(m.cs.length : Int)] ++ compsB m.cs

set_option maxRecDepth 100000 in
set_option maxHeartbeats 4000000 in
theorem sizes_any (m : ImgD) (v : Value) (p : ParD) (cv : Value) (w : World) (hv : CompsRd w v m.cs) (hc : ∃ a n c, cv = .slice a n c) (hl : m.cs.length ≤ 4) (hcs : ∀ c ∈ m.cs, 1 ≤ c.depth ∧ c.depth ≤ 16) :
    Calls Try.prog 35 #[.agg (headA m v p cv)] w fun e w' => ∃ v', e = .returned v' ∧ w'.ownsRow w.heap.size 5 1 v' (sizB m p).length (cellsB (sizB m p)) ∧ Below w.heap.size w w' := by
  have HV := Lib.hid hv
  obtain ⟨va, vc, rfl, -⟩ := hv
  obtain ⟨ca, cn, cc, rfl⟩ := hc
  unfold headA
  go_enter Try.func35, Try.ntmps35
  go_upto_region 1 with fail
  obtain ⟨wA, hwA⟩ : ∃ wA, wA = w.alloc (.cells (headA m (.slice va m.cs.length vc) p (.slice ca cn cc)) 33) := ⟨_, rfl⟩
  have hh : Blk wA w.heap.size 33 (headA m (.slice va m.cs.length vc) p (.slice ca cn cc)) := by rw [hwA]; exact Blk.new _ _ _
  have hBA : Below w.heap.size w wA := by rw [hwA]; exact (Below.refl _ _).alloc (Nat.le_refl _) _
  have hsA : wA.heap.size = w.heap.size + 1 := by rw [hwA]; simp
  unfold headA at hwA
  simp only [← hwA]
  clear hwA
  have c0 : wA.cell? ⟨w.heap.size, 0, none⟩ = some (.int .i64 m.x) := hh.cell 0
  have c1 : wA.cell? ⟨w.heap.size, 1, none⟩ = some (.int .i64 m.y) := hh.cell 1
  have c2 : wA.cell? ⟨w.heap.size, 2, none⟩ = some (.int .i64 m.ox) := hh.cell 2
  have c3 : wA.cell? ⟨w.heap.size, 3, none⟩ = some (.int .i64 m.oy) := hh.cell 3
  have c5 : wA.cell? ⟨w.heap.size, 5, none⟩ = some (.int .i64 p.tx) := hh.cell 5
  have c6 : wA.cell? ⟨w.heap.size, 6, none⟩ = some (.int .i64 p.ty) := hh.cell 6
  have sf : w.heap.size < wA.heap.size := by omega
  have HH := Lib.hid (And.intro hh hBA)
  clear hh hBA
  have HS := Lib.hid hsA
  clear hsA
  obtain ⟨L1, e1, PA⟩ : ∃ L, putsB 2 [0] = L ∧ Hid (∀ (v nv : Value) (W : World), BV W v [] → RdI W nv [0] → Calls Try.prog 33 #[v, .int .i64 2, nv] W fun e w' => ∃ v', e = .returned v' ∧ w'.ownsRow W.heap.size 5 1 v' L.length (cellsB L) ∧ Below W.heap.size W w') :=
    ⟨_, rfl, Lib.hid fun v nv W h h2 => puts_any v nv [] 2 [0] W h h2 (by decide) (by decide) (by decide) (by decide) (by decide)⟩
  have l1 : L1.length = 2 := by rw [← e1, putsB_length]; rfl
  obtain ⟨L2, e2, PB⟩ : ∃ L, putsB 4 [m.x, m.y, m.ox, m.oy, p.tx, p.ty, 0, 0] = L ∧ Hid (∀ (v nv : Value) (W : World), BV W v L1 → RdI W nv [m.x, m.y, m.ox, m.oy, p.tx, p.ty, 0, 0] → Calls Try.prog 33 #[v, .int .i64 4, nv] W fun e w' => ∃ v', e = .returned v' ∧ w'.ownsRow W.heap.size 5 1 v' (L1 ++ L).length (cellsB (L1 ++ L)) ∧ Below W.heap.size W w') :=
    ⟨_, rfl, Lib.hid fun v nv W h h2 => puts_any v nv L1 4 [m.x, m.y, m.ox, m.oy, p.tx, p.ty, 0, 0] W h h2 (by decide) (by decide) (by omega) (by simp) (by simp)⟩
  have l2 : L2.length = 32 := by rw [← e2, putsB_length]; simp
  have l3 : (L1 ++ L2).length = 34 := by rw [List.length_append]; omega
  have HE := Lib.hid (And.intro e1 (And.intro e2 (And.intro l2 l3)))
  have HL := Lib.hid l1
  clear e1 e2 l1 l2 l3
  obtain ⟨L3, e3⟩ : ∃ L, L1 ++ L2 = L := ⟨_, rfl⟩
  rw [e3] at PB
  have HE3 := Lib.hid e3
  clear e3
  go_cut [3] from 6 (fun s3 wx => wx.ownsRow wA.heap.size 5 1 s3 L3.length (cellsB L3) ∧ Below wA.heap.size wA wx)
  case first =>
    go_region_held3 (fun w' => w'.cell? ⟨w.heap.size, 0, none⟩ = some (.int .i64 m.x) ∧ w'.cell? ⟨w.heap.size, 1, none⟩ = some (.int .i64 m.y) ∧ w'.cell? ⟨w.heap.size, 2, none⟩ = some (.int .i64 m.ox) ∧ w'.cell? ⟨w.heap.size, 3, none⟩ = some (.int .i64 m.oy) ∧ w'.cell? ⟨w.heap.size, 5, none⟩ = some (.int .i64 p.tx) ∧ w'.cell? ⟨w.heap.size, 6, none⟩ = some (.int .i64 p.ty))
      (first | (refine (fun HB : Below wA.heap.size wA _ => ⟨bcellC HB c0 sf, bcellC HB c1 sf, bcellC HB c2 sf, bcellC HB c3 sf, bcellC HB c5 sf, bcellC HB c6 sf⟩) ?_; repeat (first | exact HB2 | exact HB1 | exact Below.refl _ _ | refine Below.drew ?_ | refine Below.alloc ?_ (Nat.le_refl _) _ | refine Below.alloc ?_ (by simp) _ | refine Below.alloc ?_ (by have := HB1.size; simp at *; omega) _)))
      (first
        | (go_at_call 33; (with_reducible refine (PB.out _ _ _ ?_ ?_).mono ?_); exact HO1.out; exact HR8.out; rintro e w2 ⟨v2, rfl, ho2, hB2'⟩; have HB2 : Below wA.heap.size wA w2 := HB1.trans (hB2'.mono HB1.size); obtain ⟨a2, q2, rfl⟩ := owns_slice ho2; have HO2 := Lib.hid ho2)
        | (go_at_call 33; (with_reducible refine (PB.out _ _ _ ?_ ?_).mono ?_); exact HO1.out.keep ((Below.refl _ _).alloc (Nat.le_refl _) _); exact RdI.lit _ [m.x, m.y, m.ox, m.oy, p.tx, p.ty, 0, 0] (by simp [maxLen]); rintro e w2 ⟨v2, rfl, ho2, hB2'⟩; have HB2 : Below wA.heap.size wA w2 := (HB1.alloc HB1.size _).trans (hB2'.mono (by have := HB1.size; simp; omega)); obtain ⟨a2, q2, rfl⟩ := owns_slice ho2; have HO2 := Lib.hid ho2)
        | (go_at_call 33; (with_reducible refine (PA.out _ _ _ ?_ ?_).mono ?_); exact BV.nil_ _; exact RdI.litD wA [0] (by decide); rintro e w1 ⟨v1, rfl, ho1, hB1'⟩; have HB1 : Below wA.heap.size wA w1 := (((Below.refl _ _).alloc (Nat.le_refl _) _).drew).trans (hB1'.mono (by simp)); have HO1 := Lib.hid (BV.of_owns (l := L1) ho1); obtain ⟨a1, q1, rfl⟩ := owns_slice ho1)
        | (go_at_call 33; (with_reducible refine (PA.out _ _ _ ?_ ?_).mono ?_); exact BV.nil_ _; exact (RdI.lit wA [0] (by decide)).keep (((Below.refl _ _).alloc (Nat.le_refl _) _).drew); rintro e w1 ⟨v1, rfl, ho1, hB1'⟩; have HB1 : Below wA.heap.size wA w1 := ((((Below.refl _ _).alloc (Nat.le_refl _) _).alloc (by simp) _).drew).trans (hB1'.mono (by simp; omega)); have HR8 : Hid (RdI w1 (.slice (some ⟨wA.heap.size + 1, 0, none⟩) 8 8) [m.x, m.y, m.ox, m.oy, p.tx, p.ty, 0, 0]) := RdI.keep (RdI.at1 wA (.cells #[.int .i64 0] 3) [m.x, m.y, m.ox, m.oy, p.tx, p.ty, 0, 0] (by simp [maxLen])) hB1'; have HO1 := Lib.hid (BV.of_owns (l := L1) ho1); obtain ⟨a1, q1, rfl⟩ := owns_slice ho1)
        | (go_at_call 33; (with_reducible refine (PA.out _ _ _ ?_ ?_).mono ?_); exact BV.nil_ _; exact RdI.at1 wA _ [0] (by decide); rintro e w1 ⟨v1, rfl, ho1, hB1'⟩; have HB1 : Below wA.heap.size wA w1 := ((((Below.refl _ _).alloc (Nat.le_refl _) _).alloc (by simp) _).drew).trans (hB1'.mono (by simp; omega)); have HR8 : Hid (RdI w1 (.slice (some ⟨wA.heap.size, 0, none⟩) 8 8) [m.x, m.y, m.ox, m.oy, p.tx, p.ty, 0, 0]) := ((RdI.lit wA [m.x, m.y, m.ox, m.oy, p.tx, p.ty, 0, 0] (by simp [maxLen])).keep (((Below.refl _ _).alloc (Nat.le_refl _) _).drew)).keep hB1'; have HO1 := Lib.hid (BV.of_owns (l := L1) ho1); obtain ⟨a1, q1, rfl⟩ := owns_slice ho1))
    all_goals
      go_wp2_with fail
      go_meet
      exact ⟨owns_base HO2.out (by have := HB1.size; try simp; try omega), by first | exact HB2 | exact HB2.drew⟩
  obtain ⟨w1, rfl⟩ : ∃ w1 : World, w1 = wc := ⟨_, rfl⟩
  obtain ⟨ho1, hB1⟩ := hcut
  obtain ⟨a3, q3, rfl⟩ := owns_slice ho1
  obtain ⟨hh, hBA⟩ := HH.out
  have hh1 := hh.below hB1 hh.lt
  have hw1 := hBA.trans (hB1.mono hBA.size)
  have hs1 := hB1.size
  clear hh hBA HH c0 c1 c2 c3 c5 c6 PA PB sf
  have c4 : w1.cell? ⟨w.heap.size, 4, none⟩ = some (.slice va m.cs.length vc) := hh1.cell 4
  have l3 := HE.out.2.2.2
  rw [HE3.out] at l3
  have hl3 : L3.length ≤ 1000 := by omega
  have HBV := Lib.hid (BV.of_owns ho1)
  obtain ⟨L4, e4, PC⟩ : ∃ L, L3 ++ putsB 2 [(m.cs.length : Int)] = L ∧ Hid (∀ (v nv : Value) (W : World), BV W v L3 → RdI W nv [(m.cs.length : Int)] → Calls Try.prog 33 #[v, .int .i64 2, nv] W fun e w' => ∃ v', e = .returned v' ∧ w'.ownsRow W.heap.size 5 1 v' L.length (cellsB L) ∧ Below W.heap.size W w') :=
    ⟨_, rfl, Lib.hid fun v nv W h h2 => puts_any v nv L3 2 [(m.cs.length : Int)] W h h2 (by decide) (by decide) (by omega) (by simp) (by simp)⟩
  have hl4 : L4.length ≤ 1000 := by rw [← e4, List.length_append, putsB_length]; simp; omega
  have HE4 := Lib.hid e4
  clear l3 hl3 ho1 e4
  go_upto_region 3 with (go_at_call 33; (with_reducible refine (PC.out _ _ _ ?_ ?_).mono ?_); exact HBV.out.keep ((Below.refl _ _).alloc (Nat.le_refl _) _); exact RdI.lit _ [(m.cs.length : Int)] (by simp [maxLen]); rintro e w2 ⟨v2, rfl, ho2, hB2'⟩; obtain ⟨a2, q2, rfl⟩ := owns_slice ho2)
  have hB12 : Below w1.heap.size w1 w2 := ((Below.refl _ _).alloc (Nat.le_refl _) _).trans (hB2'.mono (by simp))
  have hh2 := hh1.below hB12 hh1.lt
  have hw2 := hw1.trans (hB12.mono hw1.size)
  have hA2 := hB1.trans (hB12.mono hB1.size)
  have ho2' := owns_base (B' := wA.heap.size) ho2 (by simp; omega)
  clear hh1 hw1 hB1 hB12 hB2' ho2 c4 PC HBV
  have c4 : w2.cell? ⟨w.heap.size, 4, none⟩ = some (.slice va m.cs.length vc) := hh2.cell 4
  have HH := Lib.hid (And.intro hw2 (And.intro hA2 ho2'))
  clear hh2 hw2 hA2 ho2'
  go_wp2_with fail
  have HV2 := Lib.hid (HV.out.keep HH.out.1)
  go_loopg [3, 5, 39] m.cs.length (fun g s3 s5 s39 wx => ∃ j : Nat, j ≤ m.cs.length ∧ g = m.cs.length - j ∧ s39 = .int .i64 j ∧ wx.ownsRow wA.heap.size 5 1 s3 (L4 ++ compsB (m.cs.take j)).length (cellsB (L4 ++ compsB (m.cs.take j))) ∧ Below w2.heap.size w2 wx)
  case atStart => exact ⟨0, Nat.zero_le _, rfl, rfl, by simpa [compsB] using HH.out.2.2, Below.refl _ _⟩
  case round =>
    obtain ⟨wy, rfl⟩ : ∃ wy : World, wy = wr := ⟨_, rfl⟩
    obtain ⟨j, hj, rfl, rfl, hown, hB⟩ := hrel
    by_cases hjl : j < m.cs.length
    · obtain ⟨c, hc⟩ : ∃ c, m.cs[j]? = some c := ⟨_, List.getElem?_eq_getElem hjl⟩
      obtain ⟨_, _, he, -, -, q⟩ := HV2.out
      cases he
      obtain ⟨bl, o, dv, rfl, d0, d1, d2, d3, d4, ⟨dsa, dsc, rfl, -⟩⟩ := q j c hc
      have l1 := World.block_lt_of_cell? w2 _ d0
      have hsz := hB.size
      replace d0 := bcellC hB d0 l1
      replace d1 := bcellC hB d1 l1
      replace d2 := bcellC hB d2 l1
      replace d3 := bcellC hB d3 l1
      replace d4 := bcellC hB d4 l1
      have hlt : decide ((j : Int) < (m.cs.length : Int)) = true := by simp; omega
      have e1 : compsB (m.cs.take (j + 1)) = compsB (m.cs.take j) ++ putsB 1 [c.depth - 1 + flagI c.signed 128, c.dx, c.dy] := by rw [List.take_add_one, hc]; simp [compsB]
      have hlc : (compsB (m.cs.take j)).length ≤ 100 := by
        have : ∀ cs : List CompD, (compsB cs).length = 3 * cs.length := by
          intro cs
          induction cs with
          | nil => rfl
          | cons c cs ih => simp only [compsB, List.flatMap_cons, List.length_append] at ih ⊢; rw [putsB_length, ih, List.length_cons]; simp; omega
        rw [this, List.length_take]
        omega
      obtain ⟨q1, q2⟩ := hcs c (List.mem_of_getElem? hc)
      have hL5 : (L4 ++ compsB (m.cs.take j)).length ≤ 2000 := by rw [List.length_append]; omega
      have e2 : L4 ++ compsB (m.cs.take (j + 1)) = (L4 ++ compsB (m.cs.take j)) ++ putsB 1 [c.depth - 1 + flagI c.signed 128, c.dx, c.dy] := by rw [e1, List.append_assoc]
      generalize L4 ++ compsB (m.cs.take j) = L5 at *
      obtain ⟨fl, hfl, f1, f2⟩ : ∃ fl, flagI c.signed 128 = fl ∧ 0 ≤ fl ∧ fl ≤ 128 := ⟨_, rfl, by unfold flagI; split <;> omega, by unfold flagI; split <;> omega⟩
      have F := Lib.hid fun W => flag_any c.signed 128 W
      rw [hfl] at F e2
      have w5 : IntKind.i64.wrap (IntKind.i64.wrap (c.depth - 1) + fl) = c.depth - 1 + fl := by rw [IntWalk.i64_in (c.depth - 1) (by omega), IntWalk.i64_in _ (by omega)]
      obtain ⟨L6, e6, PC⟩ : ∃ L, L5 ++ putsB 1 [c.depth - 1 + fl, c.dx, c.dy] = L ∧ Hid (∀ (v nv : Value) (W : World), BV W v L5 → RdI W nv [IntKind.i64.wrap (IntKind.i64.wrap (c.depth - 1) + fl), c.dx, c.dy] → Calls Try.prog 33 #[v, .int .i64 1, nv] W fun e w' => ∃ v', e = .returned v' ∧ w'.ownsRow W.heap.size 5 1 v' L.length (cellsB L) ∧ Below W.heap.size W w') :=
        ⟨_, rfl, Lib.hid (by rw [w5]; exact fun v nv W h h2 => puts_any v nv L5 1 [c.depth - 1 + fl, c.dx, c.dy] W h h2 (by decide) (by decide) (by omega) (by simp) (by simp))⟩
      rw [e6] at e2
      clear e6
      clear w5
      have hbv := BV.of_owns hown
      obtain ⟨a5, p5, rfl⟩ := owns_slice hown
      have E2 := Lib.hid e2
      have HB := Lib.hid hB
      have HBV := Lib.hid hbv
      clear e1 e2 hfl hlc hown hbv hB q hc HV2 c4
      go_upto_region 6 with fail
      obtain ⟨wz, hwz⟩ : ∃ wz, wz = wy.alloc (.cells #[.int .i64 c.depth, .bool c.signed, .int .i64 c.dx, .int .i64 c.dy, .slice dsa c.data.length dsc] 45) := ⟨_, rfl⟩
      have hz : Blk wz wy.heap.size 45 #[.int .i64 c.depth, .bool c.signed, .int .i64 c.dx, .int .i64 c.dy, .slice dsa c.data.length dsc] := by rw [hwz]; exact Blk.new _ _ _
      have hBz : Below wy.heap.size wy wz := by rw [hwz]; exact (Below.refl _ _).alloc (Nat.le_refl _) _
      have hB2 := HB.out.trans (hBz.mono HB.out.size)
      have hbz := HBV.out.keep hBz
      have z0 : wz.cell? ⟨wy.heap.size, 0, none⟩ = some (.int .i64 c.depth) := hz.cell 0
      have z1 : wz.cell? ⟨wy.heap.size, 1, none⟩ = some (.bool c.signed) := hz.cell 1
      have z2 : wz.cell? ⟨wy.heap.size, 2, none⟩ = some (.int .i64 c.dx) := hz.cell 2
      have z3 : wz.cell? ⟨wy.heap.size, 3, none⟩ = some (.int .i64 c.dy) := hz.cell 3
      have sz := hz.lt
      simp only [← hwz]
      have HZ := Lib.hid (And.intro hB2 hbz)
      clear hwz hz hBz hB2 hbz d0 d1 d2 d3 d4 HBV HB
      go_region_held3 (fun w' => w'.cell? ⟨wy.heap.size, 0, none⟩ = some (.int .i64 c.depth) ∧ w'.cell? ⟨wy.heap.size, 1, none⟩ = some (.bool c.signed) ∧ w'.cell? ⟨wy.heap.size, 2, none⟩ = some (.int .i64 c.dx) ∧ w'.cell? ⟨wy.heap.size, 3, none⟩ = some (.int .i64 c.dy))
        (first | (refine (fun HB : Below wz.heap.size wz _ => ⟨bcellC HB z0 sz, bcellC HB z1 sz, bcellC HB z2 sz, bcellC HB z3 sz⟩) ?_; repeat (first | exact HB3 | exact Below.refl _ _ | refine Below.drew ?_ | refine Below.alloc ?_ (Nat.le_refl _) _)))
        (first
          | (go_at_call 56; refine (F.out _).mono ?_; rintro e w' ⟨rfl, rfl⟩)
          | (go_at_call 33; (with_reducible refine (PC.out _ _ _ ?_ ?_).mono ?_); exact HZ.out.2.keep (((Below.refl _ _).alloc (Nat.le_refl _) _).drew); exact RdI.litD wz [_, c.dx, c.dy] (by simp [maxLen]); rintro e w3 ⟨v3, rfl, ho3, hB3'⟩; have HB3 : Below wz.heap.size wz w3 := (((Below.refl _ _).alloc (Nat.le_refl _) _).drew).trans (hB3'.mono (by simp)); obtain ⟨a6, p6, rfl⟩ := owns_slice ho3; have HO3 := Lib.hid ho3))
      all_goals
        go_wp2_with fail
        go_roundg (m.cs.length - (j + 1))
        case measure => omega
        case rel =>
          refine ⟨j + 1, by omega, rfl, by go_num, ?_, HZ.out.1.trans (HB3.mono HZ.out.1.size)⟩
          rw [E2.out]
          exact owns_base HO3.out (by have h1 := HZ.out.1.size; have h2 := HH.out.2.1.size; simp; omega)
    · obtain rfl : j = m.cs.length := by omega
      have hlt : decide (((m.cs.length : Nat) : Int) < (m.cs.length : Int)) = false := by simp
      rw [List.take_length] at hown
      have es : sizB m p = L4 ++ compsB m.cs := by unfold sizB; rw [← HE4.out, ← HE3.out, ← HE.out.1, ← HE.out.2.1]
      rw [← es] at hown
      have HO := Lib.hid (And.intro hown hB)
      obtain ⟨a5, p5, rfl⟩ := owns_slice hown
      clear hown hB es
      go_wp2_with fail
      go_ret
      exact ⟨_, rfl, owns_base HO.out.1 (by have := HS.out; omega), HH.out.1.trans (HO.out.2.mono HH.out.1.size)⟩
end Go.Proofs.Ytlhlhlabnjfhcaa
