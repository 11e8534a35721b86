/- marks.Same: the closure, EqualFunc, Equal. slices.Equal on bytes; marks.Same. Params are compared. marks.Same. -/
import Derived.Test.YtlhlhlabnjfhcaaFmC
import Derived.Test.YtlhlhlabnjfhcaaBy
import Derived.Test.YtlhlhlabnjfhcaaFmA
import Derived.Laws.StructEq
namespace Go.Proofs.Ytlhlhlabnjfhcaa
open Go.RowKit

def sameC (c d : CompD) : Bool := c.depth == d.depth && c.signed == d.signed && c.dx == d.dx && c.dy == d.dy
def compA (c : CompD) (dv : Value) : Array Value := #[.int .i64 c.depth, .bool c.signed, .int .i64 c.dx, .int .i64 c.dy, dv]

set_option maxRecDepth 100000 in
theorem same1_any (c d : CompD) (dv ev : Value) (w : World) :
    Calls Try.prog 30 #[.agg (compA c dv), .agg (compA d ev)] w fun e w' => e = .returned (.bool (sameC c d)) ∧ Below w.heap.size w w' := by
  unfold sameC compA
  go_enter Try.func30, Try.ntmps30
  go_wp2_with fail
  all_goals
    go_ret
    refine ⟨?_, ((Below.refl _ _).alloc (Nat.le_refl _) _).alloc (by simp) _⟩
    refine (congrArg (fun b => Ending.returned (Value.bool b)) (?_ : _ = _))
    simp_all

/-- all components are the same, but for their samples -/
def SameCs (a b : List CompD) : Prop := a.length = b.length ∧ ∀ (k : Nat) c d, a[k]? = some c → b[k]? = some d → sameC c d = true

set_option maxRecDepth 100000 in
set_option maxHeartbeats 2000000 in
theorem comps_same (v u : Value) (a b : List CompD) (w : World) (ha : CompsRd w v a) (hb : CompsRd w u b) (hl : a.length ≤ 1000000000) :
    Calls Try.prog 29 #[v, u, .func (.func 30) #[] #[]] w fun e w' => ∃ r : Bool, e = .returned (.bool r) ∧ (r = true ↔ SameCs a b) ∧ Below w.heap.size w w' := by
  have S := Lib.hid same1_any
  obtain ⟨va, vc, rfl, g1, g2, g3⟩ := ha
  obtain ⟨ua, uc, rfl, k1, k2, k3⟩ := hb
  have HA : Hid (CompsRd w (.slice va a.length vc) a) := ⟨va, vc, rfl, g1, g2, g3⟩
  have HU : Hid (CompsRd w (.slice ua b.length uc) b) := ⟨ua, uc, rfl, k1, k2, k3⟩
  clear g3 k3
  by_cases hlen : a.length = b.length
  case neg =>
    have hne : ((a.length : Int) != (b.length : Int)) = true := by simp; omega
    go_enter Try.func29, Try.ntmps29
    go_wp2_with fail
    go_ret
    exact ⟨false, rfl, by simp [SameCs, hlen], Below.refl _ _⟩
  have hne : ((a.length : Int) != (b.length : Int)) = false := by simp; omega
  have HL := Lib.hid hlen
  clear hlen
  go_enter Try.func29, Try.ntmps29
  go_wp2_with fail
  go_loopg [7, 8, 9, 17] a.length (fun g s7 s8 s9 s17 wx => ∃ j : Nat, j ≤ a.length ∧ g = a.length - j ∧ s17 = .int .i64 j ∧ (∀ (k : Nat) c d, k < j → a[k]? = some c → b[k]? = some d → sameC c d = true) ∧ Below w.heap.size w wx)
  case atStart => exact ⟨0, Nat.zero_le _, rfl, rfl, by omega, Below.refl _ _⟩
  case round =>
    obtain ⟨wy, rfl⟩ : ∃ wy : World, wy = wr := ⟨_, rfl⟩
    obtain ⟨j, hj, rfl, rfl, hall, hB⟩ := hrel
    by_cases hjl : j < a.length
    · obtain ⟨c, hc⟩ : ∃ c, a[j]? = some c := ⟨_, List.getElem?_eq_getElem hjl⟩
      obtain ⟨d, hd⟩ : ∃ d, b[j]? = some d := ⟨_, List.getElem?_eq_getElem (by have := HL.out; omega)⟩
      obtain ⟨_, _, he, -, -, q⟩ := HA.out
      cases he
      obtain ⟨bl, o, dv, rfl, c0, c1, c2, c3, c4, ⟨dsa, dsc, rfl, -⟩⟩ := q j c hc
      obtain ⟨_, _, he', -, -, q'⟩ := HU.out
      cases he'
      obtain ⟨bl', o', dv', rfl, d0, d1, d2, d3, d4, ⟨dta, dtc, rfl, -⟩⟩ := q' j d hd
      have l1 := World.block_lt_of_cell? w _ c0
      have l2 := World.block_lt_of_cell? w _ d0
      have hsz := hB.size
      replace c0 := bcellC hB c0 l1
      replace c1 := bcellC hB c1 l1
      replace c2 := bcellC hB c2 l1
      replace c3 := bcellC hB c3 l1
      replace c4 := bcellC hB c4 l1
      replace d0 := bcellC hB d0 l2
      replace d1 := bcellC hB d1 l2
      replace d2 := bcellC hB d2 l2
      replace d3 := bcellC hB d3 l2
      replace d4 := bcellC hB d4 l2
      have l3 : bl < wy.heap.size := Nat.lt_of_lt_of_le l1 hsz
      have l4 : bl' < wy.heap.size := Nat.lt_of_lt_of_le l2 hsz
      have HH := Lib.hid (And.intro hall (And.intro hB (And.intro hc hd)))
      have hlt : decide ((j : Int) < (a.length : Int)) = true := by simp; omega
      have hjb : j < b.length := by have := HL.out; omega
      have S1 := S.out c d (.slice dsa c.data.length dsc) (.slice dta d.data.length dtc)
      unfold compA at S1
      clear hall hB hc hd q q' HA HU g1 g2 k1 k2
      cases hs : sameC c d
      · rw [hs] at S1
        go_wp2_with (go_at_call 30; (with_reducible refine (S1 _).mono ?_); rintro e w' ⟨rfl, hBs⟩)
        go_wp2_with fail
        go_ret
        obtain ⟨hall, hB, hc, hd⟩ := HH.out
        refine ⟨false, rfl, ?_, ?_⟩
        · simp only [Bool.false_eq_true, false_iff]
          exact fun h => by have := h.2 j c d hc hd; rw [hs] at this; cases this
        · exact ((hB.alloc hsz _).alloc (by simp; omega) _).trans (hBs.mono (by simp; omega))
      · rw [hs] at S1
        go_wp2_with (go_at_call 30; (with_reducible refine (S1 _).mono ?_); rintro e w' ⟨rfl, hBs⟩)
        go_roundg (a.length - (j + 1))
        case measure => omega
        case rel =>
          obtain ⟨hall, hB, hc, hd⟩ := HH.out
          refine ⟨j + 1, by omega, rfl, by go_num, ?_, ((hB.alloc hsz _).alloc (by simp; omega) _).trans (hBs.mono (by simp; omega))⟩
          intro k c' d' hk hc' hd'
          by_cases hkj : k < j
          · exact hall k c' d' hkj hc' hd'
          · obtain rfl : k = j := by omega
            rw [hc] at hc'
            rw [hd] at hd'
            cases hc'
            cases hd'
            exact hs
    · obtain rfl : j = a.length := by omega
      have hlt : decide (((a.length : Nat) : Int) < (a.length : Int)) = false := by simp
      have HB := Lib.hid (And.intro hall hB)
      clear hall hB
      go_wp2_with fail
      go_ret
      refine ⟨true, rfl, ?_, HB.out.2⟩
      simp only [true_iff]
      exact ⟨HL.out, fun k c d hc hd => HB.out.1 k c d (List.getElem?_eq_some_iff.1 hc).1 hc hd⟩
end Go.Proofs.Ytlhlhlabnjfhcaa
namespace Go.Proofs.Ytlhlhlabnjfhcaa
open Go.RowKit

set_option maxRecDepth 100000 in
set_option maxHeartbeats 2000000 in
theorem bytes_same (v u : Value) (a b : List UInt8) (w : World) (ha : BV w v a) (hb : BV w u b) (hl : a.length ≤ 1000000000) :
    Calls Try.prog 31 #[v, u] w fun e w' => ∃ (r : Bool) (n : Nat), e = .returned (.bool r) ∧ (r = true ↔ a = b) ∧ w' = w.drewN n := by
  obtain ⟨va, vc, rfl, g1, g2, g3⟩ := ha
  obtain ⟨ua, uc, rfl, k1, k2, k3⟩ := hb
  have G3 := Lib.hid g3
  have K3 := Lib.hid k3
  clear g3 k3
  by_cases hlen : a.length = b.length
  case neg =>
    have hne : ((a.length : Int) != (b.length : Int)) = true := by simp; omega
    go_enter Try.func31, Try.ntmps31
    go_wp2_with fail
    go_ret
    exact ⟨false, 0, rfl, by simp; rintro rfl; exact hlen rfl, rfl⟩
  have hne : ((a.length : Int) != (b.length : Int)) = false := by simp; omega
  have HL := Lib.hid hlen
  clear hlen
  go_enter Try.func31, Try.ntmps31
  go_wp2_with fail
  go_loopg [5, 13] a.length (fun g s5 s13 wx => ∃ j n : Nat, j ≤ a.length ∧ g = a.length - j ∧ s13 = .int .i64 j ∧ a.take j = b.take j ∧ wx = w.drewN n)
  case atStart => exact ⟨0, 0, Nat.zero_le _, rfl, rfl, rfl, rfl⟩
  case round =>
    obtain ⟨j, n, hj, rfl, rfl, hall, rfl⟩ := hrel
    have HA := Lib.hid hall
    clear hall
    by_cases hjl : j < a.length
    · obtain ⟨c, hc⟩ : ∃ c, a[j]? = some c := ⟨_, List.getElem?_eq_getElem hjl⟩
      obtain ⟨d, hd⟩ : ∃ d, b[j]? = some d := ⟨_, List.getElem?_eq_getElem (by have := HL.out; omega)⟩
      have hjb : j < b.length := by have := HL.out; omega
      obtain ⟨ad, rfl, -, h0⟩ := G3.out.cell hc
      obtain ⟨ad', rfl, -, h1⟩ := K3.out.cell hd
      replace h0 : (w.drewN n).cell? (ad.add j) = some (.int .u8 (c.toNat : Int)) := h0
      replace h1 : (w.drewN n).cell? (ad'.add j) = some (.int .u8 (d.toNat : Int)) := h1
      have hlt : decide ((j : Int) < (a.length : Int)) = true := by simp; omega
      have HC := Lib.hid (And.intro hc hd)
      clear hc hd
      have hBn : Below w.heap.size w (w.drewN n) := below_drewN (Below.refl _ _) n
      obtain ⟨wz, hz⟩ : ∃ wz, w.drewN n = wz := ⟨_, rfl⟩
      have HZ := Lib.hid hz
      rw [hz] at h0 h1 ⊢
      clear hz
      by_cases he : c = d
      · have hne : ((c.toNat : Int) != (d.toNat : Int)) = false := by simp [he]
        have HE := Lib.hid he
        clear he
        go_wp2_with fail
        go_region
        go_wp2_with fail
        go_roundg (a.length - (j + 1))
        case measure => omega
        case rel =>
          refine ⟨j + 1, n + 1, by omega, rfl, by go_num, ?_, by rw [← HZ.out]; rfl⟩
          rw [List.take_add_one, List.take_add_one, HC.out.1, HC.out.2, HA.out, HE.out]
      · have hne : ((c.toNat : Int) != (d.toNat : Int)) = true := by simp only [bne_iff_ne, ne_eq]; exact fun h => he (UInt8.toNat_inj.1 (by omega))
        go_wp2_with fail
        go_region
        go_wp2_with fail
        go_ret
        refine ⟨false, n + 1, rfl, ?_, by rw [← HZ.out]; rfl⟩
        simp only [Bool.false_eq_true, false_iff]
        rintro rfl
        have h2 := HC.out.2
        rw [HC.out.1] at h2
        cases h2
        exact he rfl
    · obtain rfl : j = a.length := by omega
      have hlt : decide (((a.length : Nat) : Int) < (a.length : Int)) = false := by simp
      go_wp2_with fail
      go_ret
      refine ⟨true, _, rfl, ?_, rfl⟩
      simp only [true_iff]
      have h1 := HA.out
      have h2 := HL.out
      rw [List.take_length, h2, List.take_length] at h1
      exact h1
end Go.Proofs.Ytlhlhlabnjfhcaa
namespace Go.Proofs.Ytlhlhlabnjfhcaa
open Go.RowKit

set_option maxRecDepth 100000 in
set_option maxHeartbeats 2000000 in
theorem eq_par (p p' : ParD) : ∃ r : Bool, (∀ w : World, (Op.equalIn 10000 31 (parV p) (parV p')).run Try.prog w = .ok r w) ∧ (r = true ↔ p = p') := by
  have e : p = p' ↔ (p.tx = p'.tx ∧ p.ty = p'.ty ∧ p.lv = p'.lv ∧ p.cbw = p'.cbw ∧ p.cbh = p'.cbh ∧ p.prec = p'.prec ∧ p.style = p'.style ∧ p.order = p'.order ∧ p.layers = p'.layers ∧ p.rct = p'.rct ∧ p.sop = p'.sop ∧ p.eph = p'.eph) := by
    cases p
    cases p'
    simp
  refine ⟨decide (p.tx = p'.tx ∧ p.ty = p'.ty ∧ p.lv = p'.lv ∧ p.cbw = p'.cbw ∧ p.cbh = p'.cbh ∧ p.prec = p'.prec ∧ p.style = p'.style ∧ p.order = p'.order ∧ p.layers = p'.layers ∧ p.rct = p'.rct ∧ p.sop = p'.sop ∧ p.eph = p'.eph), fun w => ?_, by rw [decide_eq_true_iff]; exact e.symm⟩
  clear e
  unfold parV
  rw [show (10000 : Nat) = 9999 + 1 from rfl, run_equalIn_struct w 9999 31 _ _ (by kernel_rfl) (by kernel_rfl)]
  simp only [Program.fieldsOf, Try.underlying31]
  have u3 := Try.underlying3
  have u4 := Try.underlying4
  have a3 := Try.isAgg3
  have a4 := Try.isAgg4
  have z3 := Try.sizeOf3
  have z4 := Try.sizeOf4
  go_simp
  clear u3 u4 a3 a4 z3 z4
  (repeat' split) <;> simp [*]
end Go.Proofs.Ytlhlhlabnjfhcaa
namespace Go.Proofs.Ytlhlhlabnjfhcaa
open Go.RowKit

theorem Blk.snd (w : World) (o : Obj) (t : TypeId) (cs : Array Value) : Blk ((w.alloc o).alloc (.cells cs t)) (w.heap.size + 1) t cs := by
  have := Blk.new (w.alloc o) t cs
  simpa using this

/-- a head's cells -/
def headA (m : ImgD) (v : Value) (p : ParD) (cv : Value) : Array Value :=
  #[.int .i64 m.x, .int .i64 m.y, .int .i64 m.ox, .int .i64 m.oy, v, .int .i64 p.tx, .int .i64 p.ty, .int .i64 p.lv, .int .i64 p.cbw, .int .i64 p.cbh, .int .i64 p.prec, .int .i64 p.style, .int .i64 p.order, .int .i64 p.layers, .bool p.rct, .bool p.sop, .bool p.eph, cv]

set_option maxRecDepth 100000 in
set_option maxHeartbeats 2000000 in
theorem same_go (Q : Ending → World → Prop) (m m' : ImgD) (v v' : Value) (p p' : ParD) (cv cv' : Value) (cl cl' : List UInt8) (w : World) (hv : CompsRd w v m.cs) (hv' : CompsRd w v' m'.cs) (hc : BV w cv cl) (hc' : BV w cv' cl') (hl : m.cs.length ≤ 1000000000) (hcl : cl.length ≤ 1000000000) (hQ : ∀ (r : Bool) (w' : World), (r = true ↔ SameCs m.cs m'.cs ∧ m.x = m'.x ∧ m.y = m'.y ∧ m.ox = m'.ox ∧ m.oy = m'.oy ∧ p = p' ∧ cl = cl') → Below w.heap.size w w' → Q (.returned (.bool r)) w') :
    Calls Try.prog 17 #[.agg (headA m v p cv), .agg (headA m' v' p' cv')] w fun e w' => Hid (Q e w') := by
  have HQ := Lib.hid hQ
  clear hQ
  have HV := Lib.hid hv
  have HV' := Lib.hid hv'
  have HC := Lib.hid hc
  have HC' := Lib.hid hc'
  obtain ⟨va, vc, rfl, -⟩ := hv
  obtain ⟨va', vc', rfl, -⟩ := hv'
  obtain ⟨ca, cc, rfl, -⟩ := hc
  obtain ⟨ca', cc', rfl, -⟩ := hc'
  unfold headA
  go_enter Try.func17, Try.ntmps17
  go_wp2_with fail
  obtain ⟨wA, hwA⟩ : ∃ wA, wA = ((w.alloc (.cells (headA m (.slice va m.cs.length vc) p (.slice ca cl.length cc)) 33)).alloc (.cells (headA m' (.slice va' m'.cs.length vc') p' (.slice ca' cl'.length cc')) 33)) := ⟨_, rfl⟩
  have hBA : Below w.heap.size w wA := by rw [hwA]; exact ((Below.refl _ _).alloc (Nat.le_refl _) _).alloc (by simp) _
  have hA : Blk wA w.heap.size 33 (headA m (.slice va m.cs.length vc) p (.slice ca cl.length cc)) := by rw [hwA]; exact (Blk.new _ _ _).alloc _
  have hA' : Blk wA (w.heap.size + 1) 33 (headA m' (.slice va' m'.cs.length vc') p' (.slice ca' cl'.length cc')) := by
    rw [hwA]
    have := Blk.new (w.alloc (.cells (headA m (.slice va m.cs.length vc) p (.slice ca cl.length cc)) 33)) 33 (headA m' (.slice va' m'.cs.length vc') p' (.slice ca' cl'.length cc'))
    simpa using this
  have hs : wA.heap.size = w.heap.size + 2 := by rw [hwA]; simp
  unfold headA at hwA
  rw [← hwA]
  clear hwA
  have a0 := hA.cell 0
  have a1 := hA.cell 1
  have a2 := hA.cell 2
  have a3 := hA.cell 3
  have a4 := hA.cell 4
  have b0 := hA'.cell 0
  have b1 := hA'.cell 1
  have b2 := hA'.cell 2
  have b3 := hA'.cell 3
  have b4 := hA'.cell 4
  simp only [headA, List.getElem?_toArray, List.getElem?_cons_zero, List.getElem?_cons_succ] at a0 a1 a2 a3 a4 b0 b1 b2 b3 b4
  have HA := Lib.hid (And.intro hA (And.intro hA' hBA))
  clear hA hA' hBA
  go_cut [5, 6] from 8 (fun s5 s6 wx => ∃ b5 b6 : Nat, s5 = .pointer (some ⟨b5, 0, none⟩) ∧ s6 = .pointer (some ⟨b6, 0, none⟩) ∧ Blk wx b5 29 #[.int .i64 m.x, .int .i64 m.y, .int .i64 m.ox, .int .i64 m.oy, .slice va m.cs.length vc] ∧ Blk wx b6 29 #[.int .i64 m'.x, .int .i64 m'.y, .int .i64 m'.ox, .int .i64 m'.oy, .slice va' m'.cs.length vc'] ∧ Below wA.heap.size wA wx)
  case first =>
    go_region
    all_goals
      go_wp2_with fail
      go_meet
      rw [← hs]
      first
      | exact ⟨_, _, rfl, rfl, ((Blk.new _ _ _).alloc _).drew, (Blk.snd _ _ _ _).drew, (((Below.refl _ _).alloc (Nat.le_refl _) _).alloc (by simp) _).drew⟩
      | exact ⟨_, _, rfl, rfl, (Blk.snd _ _ _ _).drew, ((Blk.new _ _ _).alloc _).drew, (((Below.refl _ _).alloc (Nat.le_refl _) _).alloc (by simp) _).drew⟩
  obtain ⟨w1, rfl⟩ : ∃ w1 : World, w1 = wc := ⟨_, rfl⟩
  obtain ⟨p5, p6, rfl, rfl, h5, h6, hB1⟩ := hcut
  obtain ⟨hA, hA', hBA⟩ := HA.out
  have hA1 := hA.below hB1 hA.lt
  have hA1' := hA'.below hB1 hA'.lt
  have hw1 : Below w.heap.size w w1 := hBA.trans (hB1.mono (by omega))
  have v1 := HV.out.keep hw1
  have v1' := HV'.out.keep hw1
  clear hA hA' HA hBA hB1 a0 a1 a2 a3 a4 b0 b1 b2 b3 b4
  have a4 := h5.cell 4
  have b4 := h6.cell 4
  simp only [List.getElem?_toArray, List.getElem?_cons_zero, List.getElem?_cons_succ] at a4 b4
  have HA := Lib.hid (And.intro h5 (And.intro h6 (And.intro hA1 (And.intro hA1' hw1))))
  have F := Lib.hid (comps_same _ _ m.cs m'.cs w1 v1 v1' hl)
  clear h5 h6 hA1 hA1' hw1 v1 v1'
  go_upto_region 3 with (go_at_call 29; refine F.out.mono ?_; rintro e w2 ⟨r, rfl, hr, hB2⟩)
  obtain ⟨h5, h6, hA1, hA1', hw1⟩ := HA.out
  replace h5 := h5.below hB2 h5.lt
  replace h6 := h6.below hB2 h6.lt
  replace hA1 := hA1.below hB2 hA1.lt
  replace hA1' := hA1'.below hB2 hA1'.lt
  have hw2 : Below w.heap.size w w2 := hw1.trans (hB2.mono hw1.size)
  have u1 := HC.out.keep hw2
  have u1' := HC'.out.keep hw2
  have E := Lib.hid (bytes_same _ _ cl cl' w2 u1 u1' hcl)
  clear F HA a4 b4 hB2 u1 u1' hw1
  have a0 := h5.cell 0
  have a1 := h5.cell 1
  have a2 := h5.cell 2
  have a3 := h5.cell 3
  have b0 := h6.cell 0
  have b1 := h6.cell 1
  have b2 := h6.cell 2
  have b3 := h6.cell 3
  have ac : ∀ k, w2.cell? ⟨w.heap.size, k, none⟩ = (headA m (.slice va m.cs.length vc) p (.slice ca cl.length cc))[k]? := hA1.cell
  have bc : ∀ k, w2.cell? ⟨w.heap.size + 1, k, none⟩ = (headA m' (.slice va' m'.cs.length vc') p' (.slice ca' cl'.length cc'))[k]? := hA1'.cell
  have HW := Lib.hid hw2
  clear h5 h6 hA1 hA1' hw2
  unfold headA at ac bc
  simp only [List.getElem?_toArray, List.getElem?_cons_zero, List.getElem?_cons_succ] at a0 a1 a2 a3 b0 b1 b2 b3
  obtain ⟨a5, a6, a7, a8, a9, a10, a11, a12, a13, a14, a15, a16, a17⟩ := And.intro (ac 5) (And.intro (ac 6) (And.intro (ac 7) (And.intro (ac 8) (And.intro (ac 9) (And.intro (ac 10) (And.intro (ac 11) (And.intro (ac 12) (And.intro (ac 13) (And.intro (ac 14) (And.intro (ac 15) (And.intro (ac 16) (ac 17))))))))))))
  obtain ⟨b5, b6, b7, b8, b9, b10, b11, b12, b13, b14, b15, b16, b17⟩ := And.intro (bc 5) (And.intro (bc 6) (And.intro (bc 7) (And.intro (bc 8) (And.intro (bc 9) (And.intro (bc 10) (And.intro (bc 11) (And.intro (bc 12) (And.intro (bc 13) (And.intro (bc 14) (And.intro (bc 15) (And.intro (bc 16) (bc 17))))))))))))
  clear ac bc
  simp only [List.getElem?_toArray, List.getElem?_cons_zero, List.getElem?_cons_succ] at a5 a6 a7 a8 a9 a10 a11 a12 a13 a14 a15 a16 a17 b5 b6 b7 b8 b9 b10 b11 b12 b13 b14 b15 b16 b17
  obtain ⟨rp, EP, hrp⟩ := eq_par p p'
  unfold parV at EP
  have HR := Lib.hid hr
  have HP := Lib.hid hrp
  have HEP := Lib.hid EP
  clear hr hrp EP
  cases r
  · clear E HEP
    go_wp2_with fail
    go_ret
    refine HQ.out false _ ?_ HW.out
    simp only [Bool.false_eq_true, false_iff]
    intro h
    exact absurd (HR.out.2 h.1) (by simp)
  by_cases e0 : m.x = m'.x
  case neg =>
    clear E HEP
    go_wp2_with fail
    go_ret
    exact HQ.out false _ (by simp only [Bool.false_eq_true, false_iff]; exact fun h => absurd h.2.1 e0) HW.out
  by_cases e1 : m.y = m'.y
  case neg =>
    clear E HEP
    go_wp2_with fail
    go_ret
    exact HQ.out false _ (by simp only [Bool.false_eq_true, false_iff]; exact fun h => absurd h.2.2.1 e1) HW.out
  by_cases e2 : m.ox = m'.ox
  case neg =>
    clear E HEP
    go_wp2_with fail
    go_ret
    exact HQ.out false _ (by simp only [Bool.false_eq_true, false_iff]; exact fun h => absurd h.2.2.2.1 e2) HW.out
  by_cases e3 : m.oy = m'.oy
  case neg =>
    clear E HEP
    go_wp2_with fail
    go_ret
    exact HQ.out false _ (by simp only [Bool.false_eq_true, false_iff]; exact fun h => absurd h.2.2.2.2.1 e3) HW.out
  have HE := Lib.hid (And.intro e0 (And.intro e1 (And.intro e2 e3)))
  cases rp
  · have EP := HEP.out
    clear E HEP
    go_wp2_with fail
    go_ret
    exact HQ.out false _ (by simp only [Bool.false_eq_true, false_iff]; exact fun h => by have := HP.out.2 h.2.2.2.2.2.1; cases this) HW.out
  · have EP := HEP.out
    clear HEP
    go_wp2_with (go_at_call 31; refine E.out.mono ?_; rintro e w3 ⟨r, n, rfl, hr2, rfl⟩)
    have HR2 := Lib.hid hr2
    clear hr2 E EP
    all_goals
      go_wp2_with fail
      go_ret
      refine HQ.out r _ ?_ (HW.out.trans (below_drewN (Below.refl _ _) n))
      rw [HR2.out]
      exact ⟨fun h => ⟨HR.out.1 (by simp), HE.out.1, HE.out.2.1, HE.out.2.2.1, HE.out.2.2.2, HP.out.1 (by simp), h⟩, fun h => h.2.2.2.2.2.2⟩

/-- heads are the same: all but the samples -/
theorem same_any (m m' : ImgD) (v v' : Value) (p p' : ParD) (cv cv' : Value) (cl cl' : List UInt8) (w : World) (hv : CompsRd w v m.cs) (hv' : CompsRd w v' m'.cs) (hc : BV w cv cl) (hc' : BV w cv' cl') (hl : m.cs.length ≤ 1000000000) (hcl : cl.length ≤ 1000000000) :
    Calls Try.prog 17 #[.agg (headA m v p cv), .agg (headA m' v' p' cv')] w fun e w' => ∃ r : Bool, e = .returned (.bool r) ∧ (r = true ↔ SameCs m.cs m'.cs ∧ m.x = m'.x ∧ m.y = m'.y ∧ m.ox = m'.ox ∧ m.oy = m'.oy ∧ p = p' ∧ cl = cl') ∧ Below w.heap.size w w' :=
  (same_go (fun e w' => ∃ r : Bool, e = .returned (.bool r) ∧ (r = true ↔ SameCs m.cs m'.cs ∧ m.x = m'.x ∧ m.y = m'.y ∧ m.ox = m'.ox ∧ m.oy = m'.oy ∧ p = p' ∧ cl = cl') ∧ Below w.heap.size w w') m m' v v' p p' cv cv' cl cl' w hv hv' hc hc' hl hcl fun r _ h hB => ⟨r, rfl, h, hB⟩).mono fun _ _ h => h.out
end Go.Proofs.Ytlhlhlabnjfhcaa
