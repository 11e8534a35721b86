/- marks.Same. -/
import Derived.Test.YtlhlhlabnjfhcaaMsD
namespace Go.Proofs.Ytlhlhlabnjfhcaa
open Go.RowKit

theorem Blk.snd (w : World) (o : Obj) (t : TypeId) (cs : Array Value) : Blk ((w.alloc o).alloc (.cells cs t)) (w.heap.size + 1) t cs := by
  have := Blk.new (w.alloc o) t cs
  simpa using this

/-- a head's cells -/
def headA (m : ImgD) (v : Value) (p : ParD) (cv : Value) : Array Value :=
  #[.int .i64 m.x, .int .i64 m.y, .int .i64 m.ox, .int .i64 m.oy, v, .int .i64 p.tx, .int .i64 p.ty, .int .i64 p.lv, .int .i64 p.cbw, .int .i64 p.cbh, .int .i64 p.prec, .int .i64 p.style, .int .i64 p.order, .int .i64 p.layers, .bool p.rct, .bool p.sop, .bool p.eph, cv]

set_option maxRecDepth 100000 in
set_option maxHeartbeats 2000000 in
theorem same_go (Q : Ending → World → Prop) (m m' : ImgD) (v v' : Value) (p p' : ParD) (cv cv' : Value) (cl cl' : List UInt8) (w : World) (hv : CompsRd w v m.cs) (hv' : CompsRd w v' m'.cs) (hc : BV w cv cl) (hc' : BV w cv' cl') (hl : m.cs.length ≤ 1000000000) (hcl : cl.length ≤ 1000000000) (hQ : ∀ (r : Bool) (w' : World), (r = true ↔ SameCs m.cs m'.cs ∧ m.x = m'.x ∧ m.y = m'.y ∧ m.ox = m'.ox ∧ m.oy = m'.oy ∧ p = p' ∧ cl = cl') → Below w.heap.size w w' → Q (.returned (.bool r)) w') :
    Calls Try.prog 17 #[.agg (headA m v p cv), .agg (headA m' v' p' cv')] w fun e w' => Hid (Q e w') := by
  have HQ := Lib.hid hQ
  clear hQ
  have HV := Lib.hid hv
  have HV' := Lib.hid hv'
  have HC := Lib.hid hc
  have HC' := Lib.hid hc'
  obtain ⟨va, vc, rfl, -⟩ := hv
  obtain ⟨va', vc', rfl, -⟩ := hv'
  obtain ⟨ca, cc, rfl, -⟩ := hc
  obtain ⟨ca', cc', rfl, -⟩ := hc'
  unfold headA
  go_enter Try.func17, Try.ntmps17
  go_wp2_with fail
  obtain ⟨wA, hwA⟩ : ∃ wA, wA = ((w.alloc (.cells (headA m (.slice va m.cs.length vc) p (.slice ca cl.length cc)) 33)).alloc (.cells (headA m' (.slice va' m'.cs.length vc') p' (.slice ca' cl'.length cc')) 33)) := ⟨_, rfl⟩
  have hBA : Below w.heap.size w wA := by rw [hwA]; exact ((Below.refl _ _).alloc (Nat.le_refl _) _).alloc (by simp) _
  have hA : Blk wA w.heap.size 33 (headA m (.slice va m.cs.length vc) p (.slice ca cl.length cc)) := by rw [hwA]; exact (Blk.new _ _ _).alloc _
  have hA' : Blk wA (w.heap.size + 1) 33 (headA m' (.slice va' m'.cs.length vc') p' (.slice ca' cl'.length cc')) := by
    rw [hwA]
    have := Blk.new (w.alloc (.cells (headA m (.slice va m.cs.length vc) p (.slice ca cl.length cc)) 33)) 33 (headA m' (.slice va' m'.cs.length vc') p' (.slice ca' cl'.length cc'))
    simpa using this
  have hs : wA.heap.size = w.heap.size + 2 := by rw [hwA]; simp
  unfold headA at hwA
  rw [← hwA]
  clear hwA
  have a0 := hA.cell 0
  have a1 := hA.cell 1
  have a2 := hA.cell 2
  have a3 := hA.cell 3
  have a4 := hA.cell 4
  have b0 := hA'.cell 0
  have b1 := hA'.cell 1
  have b2 := hA'.cell 2
  have b3 := hA'.cell 3
  have b4 := hA'.cell 4
  simp only [headA, List.getElem?_toArray, List.getElem?_cons_zero, List.getElem?_cons_succ] at a0 a1 a2 a3 a4 b0 b1 b2 b3 b4
  have HA := Lib.hid (And.intro hA (And.intro hA' hBA))
  clear hA hA' hBA
  go_cut [5, 6] from 8 (fun s5 s6 wx => ∃ b5 b6 : Nat, s5 = .pointer (some ⟨b5, 0, none⟩) ∧ s6 = .pointer (some ⟨b6, 0, none⟩) ∧ Blk wx b5 29 #[.int .i64 m.x, .int .i64 m.y, .int .i64 m.ox, .int .i64 m.oy, .slice va m.cs.length vc] ∧ Blk wx b6 29 #[.int .i64 m'.x, .int .i64 m'.y, .int .i64 m'.ox, .int .i64 m'.oy, .slice va' m'.cs.length vc'] ∧ Below wA.heap.size wA wx)
  case first =>
    go_region
    all_goals
      go_wp2_with fail
      go_meet
      rw [← hs]
      first
      | exact ⟨_, _, rfl, rfl, ((Blk.new _ _ _).alloc _).drew, (Blk.snd _ _ _ _).drew, (((Below.refl _ _).alloc (Nat.le_refl _) _).alloc (by simp) _).drew⟩
      | exact ⟨_, _, rfl, rfl, (Blk.snd _ _ _ _).drew, ((Blk.new _ _ _).alloc _).drew, (((Below.refl _ _).alloc (Nat.le_refl _) _).alloc (by simp) _).drew⟩
  obtain ⟨w1, rfl⟩ : ∃ w1 : World, w1 = wc := ⟨_, rfl⟩
  obtain ⟨p5, p6, rfl, rfl, h5, h6, hB1⟩ := hcut
  obtain ⟨hA, hA', hBA⟩ := HA.out
  have hA1 := hA.below hB1 hA.lt
  have hA1' := hA'.below hB1 hA'.lt
  have hw1 : Below w.heap.size w w1 := hBA.trans (hB1.mono (by omega))
  have v1 := HV.out.keep hw1
  have v1' := HV'.out.keep hw1
  clear hA hA' HA hBA hB1 a0 a1 a2 a3 a4 b0 b1 b2 b3 b4
  have a4 := h5.cell 4
  have b4 := h6.cell 4
  simp only [List.getElem?_toArray, List.getElem?_cons_zero, List.getElem?_cons_succ] at a4 b4
  have HA := Lib.hid (And.intro h5 (And.intro h6 (And.intro hA1 (And.intro hA1' hw1))))
  have F := Lib.hid (comps_same _ _ m.cs m'.cs w1 v1 v1' hl)
  clear h5 h6 hA1 hA1' hw1 v1 v1'
  go_upto_region 3 with (go_at_call 29; refine F.out.mono ?_; rintro e w2 ⟨r, rfl, hr, hB2⟩)
  obtain ⟨h5, h6, hA1, hA1', hw1⟩ := HA.out
  replace h5 := h5.below hB2 h5.lt
  replace h6 := h6.below hB2 h6.lt
  replace hA1 := hA1.below hB2 hA1.lt
  replace hA1' := hA1'.below hB2 hA1'.lt
  have hw2 : Below w.heap.size w w2 := hw1.trans (hB2.mono hw1.size)
  have u1 := HC.out.keep hw2
  have u1' := HC'.out.keep hw2
  have E := Lib.hid (bytes_same _ _ cl cl' w2 u1 u1' hcl)
  clear F HA a4 b4 hB2 u1 u1' hw1
  have a0 := h5.cell 0
  have a1 := h5.cell 1
  have a2 := h5.cell 2
  have a3 := h5.cell 3
  have b0 := h6.cell 0
  have b1 := h6.cell 1
  have b2 := h6.cell 2
  have b3 := h6.cell 3
  have ac : ∀ k, w2.cell? ⟨w.heap.size, k, none⟩ = (headA m (.slice va m.cs.length vc) p (.slice ca cl.length cc))[k]? := hA1.cell
  have bc : ∀ k, w2.cell? ⟨w.heap.size + 1, k, none⟩ = (headA m' (.slice va' m'.cs.length vc') p' (.slice ca' cl'.length cc'))[k]? := hA1'.cell
  have HW := Lib.hid hw2
  clear h5 h6 hA1 hA1' hw2
  unfold headA at ac bc
  simp only [List.getElem?_toArray, List.getElem?_cons_zero, List.getElem?_cons_succ] at a0 a1 a2 a3 b0 b1 b2 b3
  obtain ⟨a5, a6, a7, a8, a9, a10, a11, a12, a13, a14, a15, a16, a17⟩ := And.intro (ac 5) (And.intro (ac 6) (And.intro (ac 7) (And.intro (ac 8) (And.intro (ac 9) (And.intro (ac 10) (And.intro (ac 11) (And.intro (ac 12) (And.intro (ac 13) (And.intro (ac 14) (And.intro (ac 15) (And.intro (ac 16) (ac 17))))))))))))
  obtain ⟨b5, b6, b7, b8, b9, b10, b11, b12, b13, b14, b15, b16, b17⟩ := And.intro (bc 5) (And.intro (bc 6) (And.intro (bc 7) (And.intro (bc 8) (And.intro (bc 9) (And.intro (bc 10) (And.intro (bc 11) (And.intro (bc 12) (And.intro (bc 13) (And.intro (bc 14) (And.intro (bc 15) (And.intro (bc 16) (bc 17))))))))))))
  clear ac bc
  simp only [List.getElem?_toArray, List.getElem?_cons_zero, List.getElem?_cons_succ] at a5 a6 a7 a8 a9 a10 a11 a12 a13 a14 a15 a16 a17 b5 b6 b7 b8 b9 b10 b11 b12 b13 b14 b15 b16 b17
  obtain ⟨rp, EP, hrp⟩ := eq_par p p'
  unfold parV at EP
  have HR := Lib.hid hr
  have HP := Lib.hid hrp
  have HEP := Lib.hid EP
  clear hr hrp EP
  cases r
  · clear E HEP
    go_wp2_with fail
    go_ret
    refine HQ.out false _ ?_ HW.out
    simp only [Bool.false_eq_true, false_iff]
    intro h
    exact absurd (HR.out.2 h.1) (by simp)
  by_cases e0 : m.x = m'.x
  case neg =>
    clear E HEP
    go_wp2_with fail
    go_ret
    exact HQ.out false _ (by simp only [Bool.false_eq_true, false_iff]; exact fun h => absurd h.2.1 e0) HW.out
  by_cases e1 : m.y = m'.y
  case neg =>
    clear E HEP
    go_wp2_with fail
    go_ret
    exact HQ.out false _ (by simp only [Bool.false_eq_true, false_iff]; exact fun h => absurd h.2.2.1 e1) HW.out
  by_cases e2 : m.ox = m'.ox
  case neg =>
    clear E HEP
    go_wp2_with fail
    go_ret
    exact HQ.out false _ (by simp only [Bool.false_eq_true, false_iff]; exact fun h => absurd h.2.2.2.1 e2) HW.out
  by_cases e3 : m.oy = m'.oy
  case neg =>
    clear E HEP
    go_wp2_with fail
    go_ret
    exact HQ.out false _ (by simp only [Bool.false_eq_true, false_iff]; exact fun h => absurd h.2.2.2.2.1 e3) HW.out
  have HE := Lib.hid (And.intro e0 (And.intro e1 (And.intro e2 e3)))
  cases rp
  · have EP := HEP.out
    clear E HEP
    go_wp2_with fail
    go_ret
    exact HQ.out false _ (by simp only [Bool.false_eq_true, false_iff]; exact fun h => by have := HP.out.2 h.2.2.2.2.2.1; cases this) HW.out
  · have EP := HEP.out
    clear HEP
    go_wp2_with (go_at_call 31; refine E.out.mono ?_; rintro e w3 ⟨r, n, rfl, hr2, rfl⟩)
    have HR2 := Lib.hid hr2
    clear hr2 E EP
    all_goals
      go_wp2_with fail
      go_ret
      refine HQ.out r _ ?_ (HW.out.trans (below_drewN (Below.refl _ _) n))
      rw [HR2.out]
      exact ⟨fun h => ⟨HR.out.1 (by simp), HE.out.1, HE.out.2.1, HE.out.2.2.1, HE.out.2.2.2, HP.out.1 (by simp), h⟩, fun h => h.2.2.2.2.2.2⟩

/-- heads are the same: all but the samples -/
theorem same_any (m m' : ImgD) (v v' : Value) (p p' : ParD) (cv cv' : Value) (cl cl' : List UInt8) (w : World) (hv : CompsRd w v m.cs) (hv' : CompsRd w v' m'.cs) (hc : BV w cv cl) (hc' : BV w cv' cl') (hl : m.cs.length ≤ 1000000000) (hcl : cl.length ≤ 1000000000) :
    Calls Try.prog 17 #[.agg (headA m v p cv), .agg (headA m' v' p' cv')] w fun e w' => ∃ r : Bool, e = .returned (.bool r) ∧ (r = true ↔ SameCs m.cs m'.cs ∧ m.x = m'.x ∧ m.y = m'.y ∧ m.ox = m'.ox ∧ m.oy = m'.oy ∧ p = p' ∧ cl = cl') ∧ Below w.heap.size w w' :=
  (same_go (fun e w' => ∃ r : Bool, e = .returned (.bool r) ∧ (r = true ↔ SameCs m.cs m'.cs ∧ m.x = m'.x ∧ m.y = m'.y ∧ m.ox = m'.ox ∧ m.oy = m'.oy ∧ p = p' ∧ cl = cl') ∧ Below w.heap.size w w') m m' v v' p p' cv cv' cl cl' w hv hv' hc hc' hl hcl fun r _ h hB => ⟨r, rfl, h, hB⟩).mono fun _ _ h => h.out
end Go.Proofs.Ytlhlhlabnjfhcaa
