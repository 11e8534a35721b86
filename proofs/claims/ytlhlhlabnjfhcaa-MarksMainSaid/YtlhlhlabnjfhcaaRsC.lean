/- waveletref17: sizes. -/
import Derived.Test.YtlhlhlabnjfhcaaRsB
import Derived.Deep.RegionHeld3
namespace Go.Proofs.Ytlhlhlabnjfhcaa
open Go.RowKit

theorem step_appE {w : World} {ops : Array Oper} {o : Oper} {a : Act} {K : Act → World → Prop} {Q : Exit → Act → World → Prop} {E : Prop} (hgd : o.guard = none) (s x : Operand)
    (ho : o.op = .call { callee := .builtin .append, args := #[s, x], argTypes := #[25, 25] })
    (base : Nat) (v : Value) (l r : List UInt8) (hs : a.eval s = v) (hown : w.ownsRow base 5 1 v l.length (cellsB l)) (u : Value) (hx : a.eval x = u) (hu : BV w u r)
    (hl : l.length + r.length ≤ 1000000) (hbase : base ≤ w.heap.size)
    (h : ∀ v' w', w'.ownsRow base 5 1 v' (l ++ r).length (cellsB (l ++ r)) → Ext w v w' v' → K (a.put o.dst v') w') :
    if Region.wanted o (yielded ops a.tmps) = true then Oper.wp Try.prog o a w K Q else E := by
  obtain ⟨A, c, rfl, h1, h2, h3⟩ := hu
  obtain ⟨i0, hti, hz0, hz1, hz2⟩ := info_parts infoU8
  refine step_append_any w hgd s x 25 ho base 5 i0 (.int .u8 0) 1 1 Try.underlying25 hti hz0 hz1 hz2 rfl (by decide) v l.length (cellsB l) hs hown w.heap.size A r.length c (cellsB r) hx h3 (cellsB_one r) (by unfold maxLen; omega) (by omega) hbase ?_
  intro v' w' h4 h5 h6
  refine h v' w' ?_ ⟨h5, h6.imp id fun e g hg => ?_⟩
  · rw [List.length_append, cellsB_append]
    exact h4
  · rw [e] at hg
    injection hg with hg
    omega
theorem BV.three (w : World) (x y z : UInt8) (g : Nat) (hg : g = w.heap.size) : BV (w.alloc (.cells #[.int .u8 (x.toNat : Int), .int .u8 (y.toNat : Int), .int .u8 (z.toNat : Int)] 5)) (.slice (some ⟨g, 0, none⟩) 3 3) [x, y, z] :=
  BV.of_owns (B := 0) (e := 5) (own_lit w #[.int .u8 (x.toNat : Int), .int .u8 (y.toNat : Int), .int .u8 (z.toNat : Int)] 5 3 g rfl hg (Nat.zero_le _) (by decide))
theorem Ext.cell {w w1 : World} {v v1 : Value} (h : Ext w v w1 v1) {g k : Nat} {u : Value} (hc : w.cell? ⟨g, k, none⟩ = some u) (hne : v.ownBlock ≠ some g) : w1.cell? ⟨g, k, none⟩ = some u := by
  have hlt := World.block_lt_of_cell? w _ hc
  rw [World.cell?_of_block (h.1.block g hlt (fun e => hne e.symm))]
  exact hc
theorem ownBlock_ne {w : World} {base : Nat} {e : TypeId} {size n : Nat} {v : Value} {xs : List Value} (h : w.ownsRow base e size v n xs) {g : Nat} (hg : g < base) : v.ownBlock ≠ some g := fun he => by
  have := (h.lt g he).1
  omega

theorem byte_of (n : Int) (h : 0 ≤ n ∧ n < 256) : ∃ c : UInt8, putB 1 n = [c] ∧ IntKind.u8.wrap n = (c.toNat : Int) := ⟨_, putB_1 n h, u8_small n h⟩
def sizN (m : ImgD) (p : ParD) : List Int := [m.x, m.y, m.ox, m.oy, p.tx, p.ty, 0, 0]
theorem puts_one (k : Nat) (n : Int) : putsB k [n] = putB k n := by simp [putsB]

set_option maxRecDepth 100000 in
set_option maxHeartbeats 4000000 in
theorem rsizes_any (m : ImgD) (v : Value) (p : ParD) (cv : Value) (w : World) (hv : CompsRd w v m.cs) (hc : ∃ a n c, cv = .slice a n c) (hl : m.cs.length ≤ 5) (hcs : ∀ c ∈ m.cs, 1 ≤ c.depth ∧ c.depth ≤ 16 ∧ 0 ≤ c.dx ∧ c.dx ≤ 100 ∧ 0 ≤ c.dy ∧ c.dy ≤ 100) :
    Calls Try.prog 23 #[.agg (headA m v p cv)] w fun e w' => ∃ v', e = .returned v' ∧ w'.ownsRow w.heap.size 5 1 v' (sizB m p).length (cellsB (sizB m p)) ∧ Below w.heap.size w w' := by
  have HV := Lib.hid hv
  obtain ⟨va, vc, rfl, -⟩ := hv
  obtain ⟨ca, cn, cc, rfl⟩ := hc
  unfold headA
  go_enter Try.func23, Try.ntmps23
  go_upto_region 1 with fail
  obtain ⟨wA, hwA⟩ : ∃ wA, wA = w.alloc (.cells (headA m (.slice va m.cs.length vc) p (.slice ca cn cc)) 36) := ⟨_, rfl⟩
  have hh : Blk wA w.heap.size 36 (headA m (.slice va m.cs.length vc) p (.slice ca cn cc)) := by rw [hwA]; exact Blk.new _ _ _
  have hBA : Below w.heap.size w wA := by rw [hwA]; exact (Below.refl _ _).alloc (Nat.le_refl _) _
  have hsA : wA.heap.size = w.heap.size + 1 := by rw [hwA]; simp
  unfold headA at hwA
  simp only [← hwA]
  clear hwA
  have a0 : wA.cell? ⟨w.heap.size, 0, none⟩ = some (.int .i64 m.x) := hh.cell 0
  have a1 : wA.cell? ⟨w.heap.size, 1, none⟩ = some (.int .i64 m.y) := hh.cell 1
  have a2 : wA.cell? ⟨w.heap.size, 2, none⟩ = some (.int .i64 m.ox) := hh.cell 2
  have a3 : wA.cell? ⟨w.heap.size, 3, none⟩ = some (.int .i64 m.oy) := hh.cell 3
  have a4 : wA.cell? ⟨w.heap.size, 4, none⟩ = some (.slice va m.cs.length vc) := hh.cell 4
  have HH := Lib.hid (And.intro hh hBA)
  have HS := Lib.hid hsA
  clear hh hBA hsA
  go_upto_region 2 with fail
  clear a0 a1 a2 a3 a4
  obtain ⟨wB, hwB⟩ : ∃ wB, wB = wA.alloc (.cells #[.int .i64 m.x, .int .i64 m.y, .int .i64 m.ox, .int .i64 m.oy, .slice va m.cs.length vc] 29) := ⟨_, rfl⟩
  have hm : Blk wB wA.heap.size 29 #[.int .i64 m.x, .int .i64 m.y, .int .i64 m.ox, .int .i64 m.oy, .slice va m.cs.length vc] := by rw [hwB]; exact Blk.new _ _ _
  have hAB : Below wA.heap.size wA wB := by rw [hwB]; exact (Below.refl _ _).alloc (Nat.le_refl _) _
  have hsB : wB.heap.size = wA.heap.size + 1 := by rw [hwB]; simp
  simp only [← hwB]
  clear hwB
  have hhB := HH.out.1.below hAB (by have := HS.out; omega)
  have hWB := HH.out.2.trans (hAB.mono HH.out.2.size)
  have sA : w.heap.size < wB.heap.size := by have := HS.out; omega
  have sM : wA.heap.size < wB.heap.size := by omega
  have HB0 := Lib.hid (And.intro hm (And.intro hhB hWB))
  have HSB := Lib.hid hsB
  clear hm hhB hWB hAB hsB HH
  have P0 := Lib.hid (rput_any (.slice none 0 0) [] 2 0 wB wB.heap.size (World.ownsRow_nil _ _ _ _) (Nat.le_refl _) (by decide) (by decide) (by decide))
  obtain ⟨L1, hL1⟩ : ∃ L, ([] : List UInt8) ++ putB 2 0 = L := ⟨_, rfl⟩
  rw [hL1] at P0
  have hl1 : L1.length = 2 := by rw [← hL1]; simp [putB_length]
  rw [hl1] at P0
  have HL1 := Lib.hid (And.intro hL1 hl1)
  clear hL1 hl1
  go_upto_region 3 with (go_at_call 22; refine P0.out.mono ?_; rintro e wC ⟨v1, rfl, ho1, he1⟩; have HC1 := Lib.hid (And.intro ho1 (he1.below (World.ownsRow_nil _ _ 5 1) (Nat.le_refl _))); obtain ⟨a1, c1, rfl⟩ := owns_slice ho1; clear ho1 he1)
  have hbc := HC1.out.2
  have m0 : wC.cell? ⟨wA.heap.size, 0, none⟩ = some (.int .i64 m.x) := bcellC hbc (HB0.out.1.cell 0) sM
  have m1 : wC.cell? ⟨wA.heap.size, 1, none⟩ = some (.int .i64 m.y) := bcellC hbc (HB0.out.1.cell 1) sM
  have m2 : wC.cell? ⟨wA.heap.size, 2, none⟩ = some (.int .i64 m.ox) := bcellC hbc (HB0.out.1.cell 2) sM
  have m3 : wC.cell? ⟨wA.heap.size, 3, none⟩ = some (.int .i64 m.oy) := bcellC hbc (HB0.out.1.cell 3) sM
  have p5 : wC.cell? ⟨w.heap.size, 5, none⟩ = some (.int .i64 p.tx) := bcellC hbc (HB0.out.2.1.cell 5) sA
  have p6 : wC.cell? ⟨w.heap.size, 6, none⟩ = some (.int .i64 p.ty) := bcellC hbc (HB0.out.2.1.cell 6) sA
  clear hbc P0
  go_upto_region 4 with fail
  clear m0 m1 m2 m3 p5 p6
  obtain ⟨wD, hwD⟩ : ∃ wD, wD = wC.alloc (.cells #[.int .i64 m.x, .int .i64 m.y, .int .i64 m.ox, .int .i64 m.oy, .int .i64 p.tx, .int .i64 p.ty, .int .i64 0, .int .i64 0] 3) := ⟨_, rfl⟩
  have hox : wD.ownsRow wC.heap.size 3 1 (.slice (some ⟨wC.heap.size, 0, none⟩) 8 8) 8 (intsV (sizN m p)) := by rw [hwD]; exact own_lit wC #[.int .i64 m.x, .int .i64 m.y, .int .i64 m.ox, .int .i64 m.oy, .int .i64 p.tx, .int .i64 p.ty, .int .i64 0, .int .i64 0] 3 8 _ rfl rfl (Nat.le_refl _) (by decide)
  have ho1 : wD.ownsRow wB.heap.size 5 1 (.slice a1 2 c1) 2 (cellsB L1) := by rw [hwD]; exact World.ownsRow.alloc HC1.out.1 _
  have hBD : Below wB.heap.size wB wD := by rw [hwD]; exact HC1.out.2.alloc HC1.out.2.size _
  simp only [← hwD]
  clear hwD
  have hne : ∀ g, (Value.slice a1 2 c1).ownBlock = some g → (Value.slice (some ⟨wC.heap.size, 0, none⟩) 8 8).ownBlock ≠ some g := by
    intro g hg hx
    have h1 := (hox.lt g hx).1
    have h2 := (HC1.out.1.lt g hg).2
    omega
  have HD0 := Lib.hid (And.intro ho1 (And.intro hox (And.intro hne hBD)))
  clear hox ho1 hne hBD HC1
  obtain ⟨LS, hLS⟩ : ∃ l, sizN m p = l := ⟨_, rfl⟩
  have hn8 : LS.length = 8 := by rw [← hLS]; rfl
  rw [hLS] at HD0
  have HLS := Lib.hid (And.intro hLS hn8)
  clear hLS hn8
  go_wp2_with fail
  go_loopg [4, 6] 8 (fun g s4 s6 wx => ∃ j : Nat, j ≤ 8 ∧ g = 8 - j ∧ s6 = .int .i64 j ∧ wx.ownsRow wB.heap.size 5 1 s4 (2 + 4 * j) (cellsB (L1 ++ putsB 4 (LS.take j))) ∧ Ext wD (.slice a1 2 c1) wx s4)
  case atStart => exact ⟨0, Nat.zero_le _, rfl, rfl, by simpa [putsB] using HD0.out.1, Ext.refl _ _⟩
  case round =>
    obtain ⟨wy, rfl⟩ : ∃ wy : World, wy = wr := ⟨_, rfl⟩
    obtain ⟨j, hj, rfl, rfl, hown, hext⟩ := hrel
    obtain ⟨ba, bc, rfl⟩ := owns_slice hown
    by_cases hj8 : j < 8
    · have hlt : decide ((j : Int) < 8) = true := by simp; omega
      have hj8' : (j : Int) < 8 := by omega
      obtain ⟨x, hx⟩ : ∃ x, LS[j]? = some x := ⟨_, List.getElem?_eq_getElem (by rw [HLS.out.2]; exact hj8)⟩
      have hk := hext.keep HD0.out.2.1 HD0.out.2.2.1
      have d0 : wy.cell? ⟨wC.heap.size, j, none⟩ = some (.int .i64 x) := by
        rw [hk.cellAt j (by omega)]
        simp [intsV, hx]
      have e1 : L1 ++ putsB 4 (LS.take (j + 1)) = (L1 ++ putsB 4 (LS.take j)) ++ putB 4 x := by
        rw [List.take_add_one, hx]
        simp [putsB]
      have hl1 : (L1 ++ putsB 4 (LS.take j)).length = 2 + 4 * j := by
        have h1 := hown.1
        rw [cellsB_length] at h1
        omega
      generalize L1 ++ putsB 4 (LS.take j) = L at *
      have hsy : wB.heap.size ≤ wy.heap.size := Nat.le_trans HD0.out.2.2.2.size hext.1.size
      have PJ := Lib.hid (rput_any (.slice ba (2 + 4 * j) bc) L 4 x wy wB.heap.size (by rw [hl1]; exact hown) hsy (by decide) (by decide) (by omega))
      have HE := Lib.hid (And.intro hext (And.intro e1 hl1))
      clear hown hext e1 hl1 hk hx
      go_wp2_with (go_at_call 22; refine PJ.out.mono ?_; rintro e w8 ⟨v8, rfl, ho8, he8⟩; rw [← HE.out.2.1] at ho8; obtain ⟨a8, n8, c8, rfl⟩ := owns_isSlice ho8; have H8 := Lib.hid (And.intro ho8 he8); clear ho8 he8)
      go_roundg (8 - (j + 1))
      case measure => omega
      case rel =>
        refine ⟨j + 1, by omega, rfl, by go_num, ?_, HE.out.1.trans H8.out.2⟩
        have hl : (L1 ++ putsB 4 (LS.take (j + 1))).length = 2 + 4 * (j + 1) := by rw [HE.out.2.1, List.length_append, putB_length, HE.out.2.2]; omega
        rw [← hl]
        exact H8.out.1
    · obtain rfl : j = 8 := by omega
      have hlt : decide (((8 : Nat) : Int) < 8) = false := rfl
      have htk : LS.take 8 = LS := List.take_of_length_le (by rw [HLS.out.2]; exact Nat.le_refl _)
      rw [htk] at hown
      have hbB : Below wB.heap.size wB wy := HD0.out.2.2.2.trans (hext.below HD0.out.1 HD0.out.2.2.2.size)
      obtain ⟨L2, hL2⟩ : ∃ L, L1 ++ putsB 4 LS = L := ⟨_, rfl⟩
      rw [hL2] at hown
      have hl2 : L2.length = 34 := by
        have h1 := hown.1
        rw [cellsB_length] at h1
        omega
      have m4 : wy.cell? ⟨wA.heap.size, 4, none⟩ = some (.slice va m.cs.length vc) := bcellC hbB (HB0.out.1.cell 4) sM
      have P2 := Lib.hid (rput_any (.slice ba 34 bc) L2 2 (m.cs.length : Int) wy wB.heap.size (by rw [hl2]; exact hown) hbB.size (by decide) (by decide) (by omega))
      have HL2 := Lib.hid (And.intro hL2 hl2)
      have HY := Lib.hid (And.intro hown hbB)
      obtain ⟨L3, hL3⟩ : ∃ L, L2 ++ putB 2 (m.cs.length : Int) = L := ⟨_, rfl⟩
      rw [hL3] at P2
      have hl3 : L3.length = 36 := by rw [← hL3, List.length_append, putB_length, hl2]
      rw [hl3] at P2
      have HL3 := Lib.hid (And.intro hL3 hl3)
      clear hown hext hbB hL2 hl2 hL3 hl3 htk
      go_upto_region 9 with (go_at_call 22; refine P2.out.mono ?_; rintro e w2 ⟨v2, rfl, ho2, he2⟩; have hb2 := he2.below (show wy.ownsRow wB.heap.size 5 1 (.slice ba 34 bc) 34 (cellsB L2) from HY.out.1) HY.out.2.size; obtain ⟨a2, c2, rfl⟩ := owns_slice ho2; have H2 := Lib.hid (And.intro ho2 (HY.out.2.trans hb2)); clear ho2 he2 hb2)
      clear m4 P2
      go_wp2_with fail
      go_loopg [4, 7, 8] m.cs.length (fun g s4 s7 s8 wx => ∃ k : Nat, k ≤ m.cs.length ∧ g = m.cs.length - k ∧ s7 = .int .i64 k ∧ wx.ownsRow wB.heap.size 5 1 s4 (36 + 3 * k) (cellsB (L3 ++ compsB (m.cs.take k))) ∧ Below wB.heap.size wB wx)
      case atStart => exact ⟨0, Nat.zero_le _, rfl, rfl, by simpa [compsB] using H2.out.1, H2.out.2⟩
      case round =>
        obtain ⟨wz, rfl⟩ : ∃ wz : World, wz = wr := ⟨_, rfl⟩
        obtain ⟨k, hk, rfl, rfl, hown, hB⟩ := hrel
        obtain ⟨xa, xc, rfl⟩ := owns_slice hown
        have m4 : wz.cell? ⟨wA.heap.size, 4, none⟩ = some (.slice va m.cs.length vc) := bcellC hB (HB0.out.1.cell 4) sM
        by_cases hkl : k < m.cs.length
        · obtain ⟨c, hc⟩ : ∃ c, m.cs[k]? = some c := ⟨_, List.getElem?_eq_getElem hkl⟩
          obtain ⟨q1, q2, q3, q4, q5, q6⟩ := hcs c (List.mem_of_getElem? hc)
          obtain ⟨va', vc', he, -, -, q⟩ := HV.out.keep (HB0.out.2.2.trans (hB.mono (Nat.le_of_lt sA)))
          injection he with he1 he2 he3
          rw [← he1] at q
          clear he1 he2 he3
          obtain ⟨bl, o, dv, rfl, d0, d1, d2, d3, d4, ⟨dsa, dsc, rfl, -⟩⟩ := q k c hc
          have hlt : decide ((k : Int) < (m.cs.length : Int)) = true := by simp; omega
          obtain ⟨g1, g2⟩ := flagI_bd c.signed 1 (by decide)
          have E1 : c.depth - 1 + flagI c.signed 128 = c.depth - 1 + 128 * flagI c.signed 1 := by unfold flagI; cases c.signed <;> rfl
          obtain ⟨b1, e1, x1⟩ := byte_of (c.depth - 1 + 128 * flagI c.signed 1) (by omega)
          obtain ⟨b2, e2, x2⟩ := byte_of c.dx (by omega)
          obtain ⟨b3, e3, x3⟩ := byte_of c.dy (by omega)
          have hcb : compsB (m.cs.take (k + 1)) = compsB (m.cs.take k) ++ [b1, b2, b3] := by
            rw [List.take_add_one, hc]
            simp [compsB, putsB, E1, e1, e2, e3]
          have F := Lib.hid fun W => rbit_any c.signed W
          generalize flagI c.signed 1 = f1 at *
          have y1 : IntKind.i64.wrap (c.depth - 1) = c.depth - 1 := IntWalk.i64_in _ (by omega)
          have y2 : IntKind.i64.wrap (128 * f1) = 128 * f1 := IntWalk.i64_in _ (by omega)
          have y3 : IntKind.i64.wrap (c.depth - 1 + 128 * f1) = c.depth - 1 + 128 * f1 := IntWalk.i64_in _ (by omega)
          have eL : L3 ++ compsB (m.cs.take (k + 1)) = (L3 ++ compsB (m.cs.take k)) ++ [b1, b2, b3] := by rw [hcb, List.append_assoc]
          have hl1 : (L3 ++ compsB (m.cs.take k)).length = 36 + 3 * k := by
            have h1 := hown.1
            rw [cellsB_length] at h1
            omega
          generalize L3 ++ compsB (m.cs.take k) = L at *
          have hBz := hB.size
          have HO : Hid (wz.ownsRow wB.heap.size 5 1 (.slice xa (36 + 3 * k) xc) L.length (cellsB L)) := Lib.hid (by rw [hl1]; exact hown)
          have HBz := Lib.hid hB
          have HE := Lib.hid (And.intro eL hl1)
          clear hown hB eL hl1 hcb e1 e2 e3 E1 q hc
          go_upto_region 13 with fail
          obtain ⟨wy', hwy⟩ : ∃ wy', wy' = wz.alloc (.cells #[.int .i64 c.depth, .bool c.signed, .int .i64 c.dx, .int .i64 c.dy, .slice dsa c.data.length dsc] 45) := ⟨_, rfl⟩
          have hz : Blk wy' wz.heap.size 45 #[.int .i64 c.depth, .bool c.signed, .int .i64 c.dx, .int .i64 c.dy, .slice dsa c.data.length dsc] := by rw [hwy]; exact Blk.new _ _ _
          have hoy : wy'.ownsRow wB.heap.size 5 1 (.slice xa (36 + 3 * k) xc) L.length (cellsB L) := by rw [hwy]; exact World.ownsRow.alloc HO.out _
          have hBy : Below wB.heap.size wB wy' := by rw [hwy]; exact HBz.out.alloc hBz _
          simp only [← hwy]
          clear hwy d0 d1 d2 d3 d4 m4
          have z0 : wy'.cell? ⟨wz.heap.size, 0, none⟩ = some (.int .i64 c.depth) := hz.cell 0
          have z1 : wy'.cell? ⟨wz.heap.size, 1, none⟩ = some (.bool c.signed) := hz.cell 1
          have z2 : wy'.cell? ⟨wz.heap.size, 2, none⟩ = some (.int .i64 c.dx) := hz.cell 2
          have z3 : wy'.cell? ⟨wz.heap.size, 3, none⟩ = some (.int .i64 c.dy) := hz.cell 3
          have sz := hz.lt
          have hneb : (Value.slice xa (36 + 3 * k) xc).ownBlock ≠ some wz.heap.size := fun h => by have := (HO.out.lt _ h).2; omega
          have HY2 := Lib.hid (And.intro hoy (And.intro hBy hneb))
          clear hz hoy hBy hneb
          go_region_held3 (fun w' => w'.cell? ⟨wz.heap.size, 0, none⟩ = some (.int .i64 c.depth) ∧ w'.cell? ⟨wz.heap.size, 1, none⟩ = some (.bool c.signed) ∧ w'.cell? ⟨wz.heap.size, 2, none⟩ = some (.int .i64 c.dx) ∧ w'.cell? ⟨wz.heap.size, 3, none⟩ = some (.int .i64 c.dy))
            (first | (with_reducible exact H8.out.2.2) | (refine (fun HB : Below wy'.heap.size wy' _ => ⟨bcellC HB z0 sz, bcellC HB z1 sz, bcellC HB z2 sz, bcellC HB z3 sz⟩) ?_; repeat (first | exact Below.refl _ _ | refine Below.drew ?_ | refine Below.alloc ?_ (Nat.le_refl _) _)))
            (first | (go_at_call 43; (with_reducible refine (F.out _).mono ?_); rintro e w' ⟨rfl, rfl⟩) | ((with_reducible refine step_appE rfl (.tmp 56) (.tmp 72) rfl wB.heap.size (.slice xa (36 + 3 * k) xc) L [b1, b2, b3] ?_ ?_ (.slice (some ⟨wy'.heap.size, 0, none⟩) 3 3) ?_ ?_ ?_ ?_ ?_); simp [Act.eval]; exact World.ownsRow.alloc HY2.out.1 _; simp [Act.eval]; exact BV.three wy'.drew b1 b2 b3 _ rfl; (rw [HE.out.2]; simp; omega); (have := HY2.out.2.1.size; simp; omega); intro v8 w8 ho8 he8; rw [← HE.out.1] at ho8; obtain ⟨a8, n8, c8, rfl⟩ := owns_isSlice ho8; have H8 := Lib.hid (And.intro (And.intro ho8 (((HY2.out.2.1).drew.alloc HY2.out.2.1.size _).trans (he8.below (World.ownsRow.alloc HY2.out.1 _) (by have := HY2.out.2.1.size; simp; omega)))) (And.intro trivial (And.intro (he8.cell (bcellC (((Below.refl wy'.heap.size wy').drew).alloc (Nat.le_refl _) _) z0 sz) HY2.out.2.2) (And.intro (he8.cell (bcellC (((Below.refl wy'.heap.size wy').drew).alloc (Nat.le_refl _) _) z1 sz) HY2.out.2.2) (And.intro (he8.cell (bcellC (((Below.refl wy'.heap.size wy').drew).alloc (Nat.le_refl _) _) z2 sz) HY2.out.2.2) (he8.cell (bcellC (((Below.refl wy'.heap.size wy').drew).alloc (Nat.le_refl _) _) z3 sz) HY2.out.2.2)))))); clear ho8 he8))
          all_goals
            go_wp2_with fail
            go_roundg (m.cs.length - (k + 1))
            case measure => omega
            case rel =>
              refine ⟨k + 1, by omega, rfl, by go_num, ?_, by first | exact H8.out.1.2 | exact H8.out.1.2.drew⟩
              have hl : (L3 ++ compsB (m.cs.take (k + 1))).length = 36 + 3 * (k + 1) := by rw [HE.out.1, List.length_append, HE.out.2]; simp; omega
              rw [← hl]
              exact H8.out.1.1
        · obtain rfl : k = m.cs.length := by omega
          have hlt : decide (((m.cs.length : Nat) : Int) < (m.cs.length : Int)) = false := by simp
          have HZ := Lib.hid (And.intro hown hB)
          have hsz := sizB_length m p
          obtain ⟨CM, hCM⟩ : ∃ C, sizB m p = C := ⟨_, rfl⟩
          have hCM2 : CM = L3 ++ compsB m.cs := by
            rw [← hCM, ← HL3.out.1, ← HL2.out.1, ← HL1.out.1, ← HLS.out.1]
            simp [sizB, sizN, puts_one]
          rw [hCM] at hsz
          have HCM := Lib.hid (And.intro hCM (And.intro hCM2 hsz))
          clear hown hB hCM hCM2 hsz
          go_wp2_with fail
          go_ret
          refine ⟨_, rfl, ?_, HB0.out.2.2.trans (HZ.out.2.mono (Nat.le_of_lt sA))⟩
          have h1 := HZ.out.1
          rw [List.take_length, ← HCM.out.2.1] at h1
          rw [HCM.out.1, HCM.out.2.2]
          exact owns_base h1 (Nat.le_of_lt sA)
end Go.Proofs.Ytlhlhlabnjfhcaa
