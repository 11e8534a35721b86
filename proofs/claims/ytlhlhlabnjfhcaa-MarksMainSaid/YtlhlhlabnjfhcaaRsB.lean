/- waveletref17: Exponents, steps. -/
import Derived.Test.YtlhlhlabnjfhcaaRsA
import Derived.Deep.MidRow
namespace Go.Proofs.Ytlhlhlabnjfhcaa
open Go.RowKit

def intsV (xs : List Int) : List Value := xs.map (Value.int .i64)
def expD (m : ImgD) (p : ParD) : Int := mostI m.cs + flagI p.rct 1
def expI (m : ImgD) (p : ParD) : List Int := expD m p :: (List.replicate p.lv.toNat [expD m p + 1, expD m p + 1, expD m p + 2]).flatten
theorem flat_three (d : Int) (j : Nat) : (List.replicate j [d + 1, d + 1, d + 2]).flatten.length = 3 * j := by
  induction j with
  | zero => rfl
  | succ j ih => rw [List.replicate_succ, List.flatten_cons, List.length_append, ih]; simp; omega
theorem expI_length (m : ImgD) (p : ParD) : (expI m p).length = 1 + 3 * p.lv.toNat := by
  unfold expI
  rw [List.length_cons, flat_three]
  omega
theorem expI_bd (m : ImgD) (p : ParD) (hcs : ∀ c ∈ m.cs, 1 ≤ c.depth ∧ c.depth ≤ 16) : ∀ x ∈ expI m p, 0 ≤ x ∧ x ≤ 20 := by
  intro x hx
  obtain ⟨b1, b2⟩ := mostI_bd m.cs hcs
  obtain ⟨g1, g2⟩ := flagI_bd p.rct 1 (by decide)
  unfold expI expD at hx
  simp only [List.mem_cons, List.mem_flatten, List.mem_replicate] at hx
  rcases hx with rfl | ⟨l, ⟨-, rfl⟩, hx⟩
  · omega
  · simp at hx
    omega

set_option maxRecDepth 100000 in
set_option maxHeartbeats 2000000 in
theorem rexp_any (m : ImgD) (v : Value) (p : ParD) (w : World) (hv : CompsRd w v m.cs) (hl : m.cs.length ≤ 5) (hcs : ∀ c ∈ m.cs, 1 ≤ c.depth ∧ c.depth ≤ 16) (l0 : 0 ≤ p.lv) (l5 : p.lv ≤ 5) :
    Calls Try.prog 44 #[imgV m v, parV p] w fun e w' => ∃ v', e = .returned v' ∧ w'.ownsRow w.heap.size 3 1 v' (expI m p).length (intsV (expI m p)) ∧ Below w.heap.size w w' := by
  have HV := Lib.hid hv
  obtain ⟨va, vc, rfl, -⟩ := hv
  have F3 := Lib.hid fun W => rbit_any p.rct W
  obtain ⟨g1, g2⟩ := flagI_bd p.rct 1 (by decide)
  have HD : Hid (expD m p = mostI m.cs + flagI p.rct 1) := Lib.hid rfl
  have HX : Hid (expI m p = expD m p :: (List.replicate p.lv.toNat [expD m p + 1, expD m p + 1, expD m p + 2]).flatten) := Lib.hid rfl
  generalize expI m p = X at *
  generalize expD m p = D at *
  generalize flagI p.rct 1 = f3 at *
  obtain ⟨wA, hwA⟩ : ∃ wA, wA = (w.alloc (.cells #[.int .i64 m.x, .int .i64 m.y, .int .i64 m.ox, .int .i64 m.oy, .slice va m.cs.length vc] 29)).alloc (.cells #[.int .i64 p.tx, .int .i64 p.ty, .int .i64 p.lv, .int .i64 p.cbw, .int .i64 p.cbh, .int .i64 p.prec, .int .i64 p.style, .int .i64 p.order, .int .i64 p.layers, .bool p.rct, .bool p.sop, .bool p.eph] 31) := ⟨_, rfl⟩
  have hBA : Below w.heap.size w wA := by rw [hwA]; exact ((Below.refl _ _).alloc (Nat.le_refl _) _).alloc (by simp) _
  have hi : Blk wA w.heap.size 29 #[.int .i64 m.x, .int .i64 m.y, .int .i64 m.ox, .int .i64 m.oy, .slice va m.cs.length vc] := by rw [hwA]; exact (Blk.new _ _ _).alloc _
  have hp : Blk wA (w.heap.size + 1) 31 #[.int .i64 p.tx, .int .i64 p.ty, .int .i64 p.lv, .int .i64 p.cbw, .int .i64 p.cbh, .int .i64 p.prec, .int .i64 p.style, .int .i64 p.order, .int .i64 p.layers, .bool p.rct, .bool p.sop, .bool p.eph] := by rw [hwA]; exact Blk.snd _ _ _ _
  have i4 : wA.cell? ⟨w.heap.size, 4, none⟩ = some (.slice va m.cs.length vc) := hi.cell 4
  have p2 : wA.cell? ⟨w.heap.size + 1, 2, none⟩ = some (.int .i64 p.lv) := hp.cell 2
  have p9 : wA.cell? ⟨w.heap.size + 1, 9, none⟩ = some (.bool p.rct) := hp.cell 9
  have si := hi.lt
  have sp := hp.lt
  have HVA := Lib.hid (HV.out.keep hBA)
  have HBA := Lib.hid hBA
  clear hi hp hBA HV
  unfold imgV parV
  go_enter Try.func44, Try.ntmps44
  go_upto_region 1 with fail
  simp only [← hwA]
  clear hwA
  go_wp2_with fail
  go_loopg [5, 6] m.cs.length (fun g s5 s6 wx => ∃ j : Nat, j ≤ m.cs.length ∧ g = m.cs.length - j ∧ s6 = .int .i64 j ∧ s5 = .int .i64 (mostI (m.cs.take j)) ∧ wA = wx)
  case atStart => exact ⟨0, Nat.zero_le _, rfl, rfl, rfl, rfl⟩
  case round =>
    obtain ⟨j, hj, rfl, rfl, rfl, rfl⟩ := hrel
    by_cases hjl : j < m.cs.length
    · obtain ⟨c, hc⟩ : ∃ c, m.cs[j]? = some c := ⟨_, List.getElem?_eq_getElem hjl⟩
      obtain ⟨_, _, he, -, -, q⟩ := HVA.out
      cases he
      obtain ⟨bl, o, dv, rfl, d0, -⟩ := q j c hc
      have hlt : decide ((j : Int) < (m.cs.length : Int)) = true := by simp; omega
      have e1 : mostI (m.cs.take (j + 1)) = max (mostI (m.cs.take j)) c.depth := by rw [List.take_add_one, hc]; exact mostI_snoc _ _
      generalize mostI (m.cs.take j) = d at *
      have E1 := Lib.hid e1
      clear e1 hc q
      go_wp2_with fail
      all_goals
        go_roundg (m.cs.length - (j + 1))
        case measure => omega
        case rel => exact ⟨j + 1, by omega, rfl, by go_num, by rw [E1.out]; congr 1; omega, rfl⟩
    · obtain rfl : j = m.cs.length := by omega
      have hlt : decide (((m.cs.length : Nat) : Int) < (m.cs.length : Int)) = false := by simp
      rw [List.take_length]
      obtain ⟨b1, b2⟩ := mostI_bd m.cs hcs
      generalize mostI m.cs = d0 at *
      have w1 : IntKind.i64.wrap (d0 + f3) = d0 + f3 := IntWalk.i64_in _ (by omega)
      go_upto_region 7 with (go_at_call 43; (with_reducible refine (F3.out _).mono ?_); rintro e w' ⟨rfl, rfl⟩)
      obtain ⟨dd, hdd⟩ : ∃ dd, d0 + f3 = dd := ⟨_, rfl⟩
      rw [hdd] at HD
      simp only [hdd]
      have hd1 : 0 ≤ dd ∧ dd ≤ 18 := by omega
      obtain ⟨n, hn⟩ := Int.eq_ofNat_of_zero_le l0
      have hn5 : n ≤ 5 := by omega
      have HN := Lib.hid hn
      have hj3 := flat_three dd
      have HJ := Lib.hid hj3
      clear w1 hdd hn b1 b2 g1 g2 i4 p9 hj3
      obtain ⟨i0, hti, hz0, hz1, hz2⟩ := info_parts Try.info3
      go_wp2_with fail
      go_loopg [7, 8] n (fun g s7 s8 wx => ∃ j : Nat, j ≤ n ∧ g = n - j ∧ s8 = .int .i64 j ∧ wx.ownsRow wA.heap.size 3 1 s7 (1 + 3 * j) (intsV (dd :: (List.replicate j [dd + 1, dd + 1, dd + 2]).flatten)) ∧ Below wA.heap.size wA wx)
      case atStart => exact ⟨0, Nat.zero_le _, rfl, rfl, own_lit wA #[.int .i64 dd] 3 1 _ rfl rfl (Nat.le_refl _) (by decide), (Below.refl _ _).alloc (Nat.le_refl _) _⟩
      case round =>
        obtain ⟨wz, rfl⟩ : ∃ wz : World, wz = wr := ⟨_, rfl⟩
        obtain ⟨j, hj, rfl, rfl, hown, hB⟩ := hrel
        have q2 : wz.cell? ⟨w.heap.size + 1, 2, none⟩ = some (.int .i64 p.lv) := bcellC hB p2 sp
        obtain ⟨xa, xc, rfl⟩ := owns_slice hown
        by_cases hjl : j < n
        · have hlt : decide ((j : Int) < p.lv) = true := by have := HN.out; simp; omega
          have e2 : intsV (dd :: (List.replicate (j + 1) [dd + 1, dd + 1, dd + 2]).flatten) = intsV (dd :: (List.replicate j [dd + 1, dd + 1, dd + 2]).flatten) ++ [.int .i64 (dd + 1), .int .i64 (dd + 1), .int .i64 (dd + 2)] := by
            rw [List.replicate_succ', List.flatten_append]
            simp [intsV]
          have v1 : IntKind.i64.wrap (dd + 1) = dd + 1 := IntWalk.i64_in _ (by omega)
          have v2 : IntKind.i64.wrap (dd + 2) = dd + 2 := IntWalk.i64_in _ (by omega)
          have HO := Lib.hid hown
          have HB := Lib.hid hB
          have HE := Lib.hid e2
          clear hown hB e2
          go_wp2_with (at_builtin; go_must (refine wpList_append_own _ rfl _ _ 22 rfl wA.heap.size 3 i0 (.int .i64 0) 1 8 Try.underlying22 hti hz0 hz1 hz2 rfl (by decide) _ _ _ rfl (HO.out.alloc _) ⟨wz.heap.size, 0, none⟩ 3 3 [.int .i64 (dd + 1), .int .i64 (dd + 1), .int .i64 (dd + 2)] rfl rfl (news_block _ _ _) (by simp [Value.oneCell']) (by unfold maxLen; omega) (by omega) (by have := HB.out.size; simp; omega) ?_; intro v7 w7 hown7 hg7 hn7; obtain ⟨a7, p7, rfl⟩ := owns_slice hown7; have H7 := Lib.hid (And.intro hown7 ((HB.out.alloc HB.out.size _).trans (below_grown hg7 (by have := HB.out.size; simp; omega) (fun j hj => (HO.out.lt j hj).1)))); clear hown7 hg7 hn7))
          go_roundg (n - (j + 1))
          case measure => omega
          case rel => exact ⟨j + 1, by omega, rfl, by go_num, by rw [HE.out, show 1 + 3 * (j + 1) = 1 + 3 * j + 3 by omega]; exact H7.out.1, H7.out.2⟩
        · obtain rfl : j = n := by omega
          have hlt : decide ((j : Int) < p.lv) = false := by have := HN.out; simp; omega
          have HO := Lib.hid hown
          have HB := Lib.hid hB
          clear hown hB
          go_wp2_with fail
          go_ret
          have hx : X = dd :: (List.replicate j [dd + 1, dd + 1, dd + 2]).flatten := by
            have h1 := HX.out
            rw [HD.out, HN.out] at h1
            exact h1
          refine ⟨_, rfl, ?_, HBA.out.trans (HB.out.mono HBA.out.size)⟩
          rw [hx, List.length_cons, HJ.out, Nat.add_comm (3 * j) 1]
          exact owns_base HO.out HBA.out.size

theorem u8_small (n : Int) (h : 0 ≤ n ∧ n < 256) : IntKind.u8.wrap n = ((UInt8.ofNat n.toNat).toNat : Int) := by
  obtain ⟨k, rfl⟩ := Int.eq_ofNat_of_zero_le h.1
  have e : ((k : Int)).toNat = k := by omega
  rw [e, UInt8.toNat_ofNat']
  have h1 : IntKind.u8.wrap (k : Int) = (k : Int) % 256 := IntKind.wrap_u8 _
  rw [h1]
  omega
/-- steps' bytes are QCD's -/
theorem steps_qcd (m : ImgD) (p : ParD) : (96 : UInt8) :: (expI m p).flatMap (fun x => putB 1 (8 * x)) = qcdM m p := by
  have e : ∀ n : Int, putsB 1 [n] = putB 1 n := fun n => by simp [putsB]
  have e96 : putB 1 96 = [96] := by rw [putB_1 96 (by decide)]; rfl
  have hd : expD m p = flagI p.rct 1 + mostI m.cs := by unfold expD; omega
  unfold qcdM expI bandB
  rw [hd]
  generalize flagI p.rct 1 + mostI m.cs = d
  generalize p.lv.toNat = n
  simp only [putsB, List.flatMap_cons, List.flatMap_nil, List.append_nil, e96]
  show (96 : UInt8) :: (putB 1 (8 * d) ++ _) = (96 : UInt8) :: (putB 1 (8 * d) ++ _)
  congr 2
  induction n with
  | zero => rfl
  | succ n ih => rw [List.replicate_succ, List.replicate_succ, List.flatten_cons, List.flatten_cons, List.flatMap_append, ih]; simp

set_option maxRecDepth 100000 in
set_option maxHeartbeats 2000000 in
theorem rsteps_any (m : ImgD) (v : Value) (p : ParD) (cv : Value) (w : World) (hv : CompsRd w v m.cs) (hc : ∃ a n c, cv = .slice a n c) (hl : m.cs.length ≤ 5) (hcs : ∀ c ∈ m.cs, 1 ≤ c.depth ∧ c.depth ≤ 16) (l0 : 0 ≤ p.lv) (l5 : p.lv ≤ 5) :
    Calls Try.prog 25 #[.agg (headA m v p cv)] w fun e w' => ∃ v', e = .returned v' ∧ w'.ownsRow w.heap.size 5 1 v' (qcdM m p).length (cellsB (qcdM m p)) ∧ Below w.heap.size w w' := by
  have HV := Lib.hid hv
  obtain ⟨va, vc, rfl, -⟩ := hv
  obtain ⟨ca, cn, cc, rfl⟩ := hc
  rw [← steps_qcd]
  obtain ⟨CM, hCM⟩ : ∃ C, (96 : UInt8) :: (expI m p).flatMap (fun x => putB 1 (8 * x)) = C := ⟨_, rfl⟩
  rw [hCM]
  have HCM := Lib.hid hCM
  clear hCM
  have HX := Lib.hid (expI_bd m p hcs)
  have hxl := expI_length m p
  have EX := Lib.hid fun (W : World) (h : CompsRd W (.slice va m.cs.length vc) m.cs) => rexp_any m (.slice va m.cs.length vc) p W h hl hcs l0 l5
  have hx16 : (expI m p).length ≤ 16 := by rw [hxl]; omega
  generalize expI m p = X at *
  obtain ⟨N, hN⟩ : ∃ N, X.length = N := ⟨_, rfl⟩
  rw [hN] at EX hx16
  have HN := Lib.hid hN
  clear hxl hN
  unfold headA
  go_enter Try.func25, Try.ntmps25
  go_upto_region 1 with fail
  obtain ⟨wA, hwA⟩ : ∃ wA, wA = w.alloc (.cells (headA m (.slice va m.cs.length vc) p (.slice ca cn cc)) 36) := ⟨_, rfl⟩
  have hh : Blk wA w.heap.size 36 (headA m (.slice va m.cs.length vc) p (.slice ca cn cc)) := by rw [hwA]; exact Blk.new _ _ _
  have hBA : Below w.heap.size w wA := by rw [hwA]; exact (Below.refl _ _).alloc (Nat.le_refl _) _
  have hsA : w.heap.size < wA.heap.size := by rw [hwA]; simp
  unfold headA at hwA
  simp only [← hwA]
  clear hwA
  have HH := Lib.hid (And.intro hh hBA)
  have HVA := Lib.hid (HV.out.keep hBA)
  clear hh hBA HV
  go_upto_region 2 with fail
  obtain ⟨wB, hwB⟩ : ∃ wB, wB = wA.alloc (.cells #[.int .u8 96] 5) := ⟨_, rfl⟩
  have ho1 : wB.ownsRow wA.heap.size 5 1 (.slice (some ⟨wA.heap.size, 0, none⟩) 1 1) 1 (cellsB [96]) := by rw [hwB]; exact own_lit wA #[.int .u8 96] 5 1 _ rfl rfl (Nat.le_refl _) (by decide)
  have hAB : Below wA.heap.size wA wB := by rw [hwB]; exact (Below.refl _ _).alloc (Nat.le_refl _) _
  simp only [← hwB]
  clear hwB
  have hhB := HH.out.1.below hAB hsA
  have a0 : wB.cell? ⟨w.heap.size, 0, none⟩ = some (.int .i64 m.x) := hhB.cell 0
  have a1 : wB.cell? ⟨w.heap.size, 1, none⟩ = some (.int .i64 m.y) := hhB.cell 1
  have a2 : wB.cell? ⟨w.heap.size, 2, none⟩ = some (.int .i64 m.ox) := hhB.cell 2
  have a3 : wB.cell? ⟨w.heap.size, 3, none⟩ = some (.int .i64 m.oy) := hhB.cell 3
  have a4 : wB.cell? ⟨w.heap.size, 4, none⟩ = some (.slice va m.cs.length vc) := hhB.cell 4
  have a5 : wB.cell? ⟨w.heap.size, 5, none⟩ = some (.int .i64 p.tx) := hhB.cell 5
  have a6 : wB.cell? ⟨w.heap.size, 6, none⟩ = some (.int .i64 p.ty) := hhB.cell 6
  have a7 : wB.cell? ⟨w.heap.size, 7, none⟩ = some (.int .i64 p.lv) := hhB.cell 7
  have a8 : wB.cell? ⟨w.heap.size, 8, none⟩ = some (.int .i64 p.cbw) := hhB.cell 8
  have a9 : wB.cell? ⟨w.heap.size, 9, none⟩ = some (.int .i64 p.cbh) := hhB.cell 9
  have a10 : wB.cell? ⟨w.heap.size, 10, none⟩ = some (.int .i64 p.prec) := hhB.cell 10
  have a11 : wB.cell? ⟨w.heap.size, 11, none⟩ = some (.int .i64 p.style) := hhB.cell 11
  have a12 : wB.cell? ⟨w.heap.size, 12, none⟩ = some (.int .i64 p.order) := hhB.cell 12
  have a13 : wB.cell? ⟨w.heap.size, 13, none⟩ = some (.int .i64 p.layers) := hhB.cell 13
  have a14 : wB.cell? ⟨w.heap.size, 14, none⟩ = some (.bool p.rct) := hhB.cell 14
  have a15 : wB.cell? ⟨w.heap.size, 15, none⟩ = some (.bool p.sop) := hhB.cell 15
  have a16 : wB.cell? ⟨w.heap.size, 16, none⟩ = some (.bool p.eph) := hhB.cell 16
  have EX1 := EX.out wB (HVA.out.keep hAB)
  unfold imgV parV at EX1
  have HE1 := Lib.hid EX1
  have HO1 := Lib.hid (And.intro ho1 hAB)
  clear ho1 hAB hhB EX1 EX HVA
  go_upto_region 3 with (go_at_call 44; refine HE1.out.mono ?_; rintro e wC ⟨vx, rfl, hox, hbC⟩; obtain ⟨xa, xc, rfl⟩ := owns_slice hox; have HXO := Lib.hid (And.intro hox hbC); clear hox hbC)
  clear a0 a1 a2 a3 a4 a5 a6 a7 a8 a9 a10 a11 a12 a13 a14 a15 a16
  obtain ⟨hox, hbC⟩ := HXO.out
  have hoC : wC.ownsRow wA.heap.size 5 1 (.slice (some ⟨wA.heap.size, 0, none⟩) 1 1) 1 (cellsB [96]) := owns_keepAll HO1.out.1 hbC
  have hne : ∀ g, (Value.slice (some ⟨wA.heap.size, 0, none⟩) 1 1).ownBlock = some g → (Value.slice xa N xc).ownBlock ≠ some g := by
    intro g hg hx
    have h1 := (hox.lt g hx).1
    have h2 := (HO1.out.1.lt g hg).2
    omega
  have hWC : Below w.heap.size w wC := HH.out.2.trans ((HO1.out.2.trans (hbC.mono HO1.out.2.size)).mono HH.out.2.size)
  have hAC : wA.heap.size ≤ wC.heap.size := Nat.le_trans HO1.out.2.size hbC.size
  have HC0 := Lib.hid (And.intro hoC (And.intro hox (And.intro hne hWC)))
  clear hoC hox hne hWC hbC HXO HO1
  go_wp2_with fail
  go_loopg [3, 5] N (fun g s3 s5 wx => ∃ j : Nat, j ≤ N ∧ g = N - j ∧ s5 = .int .i64 j ∧ wx.ownsRow wA.heap.size 5 1 s3 (1 + j) (cellsB (96 :: (X.take j).flatMap (fun x => putB 1 (8 * x)))) ∧ Ext wC (.slice (some ⟨wA.heap.size, 0, none⟩) 1 1) wx s3)
  case atStart => exact ⟨0, Nat.zero_le _, rfl, rfl, HC0.out.1, Ext.refl _ _⟩
  case round =>
    obtain ⟨wy, rfl⟩ : ∃ wy : World, wy = wr := ⟨_, rfl⟩
    obtain ⟨j, hj, rfl, rfl, hown, hext⟩ := hrel
    obtain ⟨ba, bc, rfl⟩ := owns_slice hown
    by_cases hjl : j < N
    · have hlt : decide ((j : Int) < (N : Int)) = true := by simp; omega
      obtain ⟨x, hx⟩ : ∃ x, X[j]? = some x := ⟨_, List.getElem?_eq_getElem (by rw [HN.out]; exact hjl)⟩
      obtain ⟨x1, x2⟩ := HX.out x (List.mem_of_getElem? hx)
      have hrx := RdI.of_owns (xs := X) (by have := hext.keep HC0.out.2.1 HC0.out.2.2.1; rw [HN.out]; exact this)
      obtain ⟨xa', xc', he, -, -, q⟩ := hrx
      injection he with he1 he2 he3
      rw [← he1] at q
      clear he1 he2 he3
      obtain ⟨bl, o, rfl, d0⟩ := q j x hx
      obtain ⟨c, hc1, hc2⟩ : ∃ c : UInt8, putB 1 (8 * x) = [c] ∧ IntKind.u8.wrap (8 * x) = (c.toNat : Int) := ⟨_, putB_1 (8 * x) (by omega), u8_small (8 * x) (by omega)⟩
      have w8 : IntKind.i64.wrap (8 * x) = 8 * x := IntWalk.i64_in _ (by omega)
      have e1 : (96 : UInt8) :: (X.take (j + 1)).flatMap (fun x => putB 1 (8 * x)) = (96 :: (X.take j).flatMap (fun x => putB 1 (8 * x))) ++ [c] := by
        rw [List.take_add_one, hx]
        simp [hc1]
      have hl1 : ((96 : UInt8) :: (X.take j).flatMap (fun x => putB 1 (8 * x))).length = 1 + j := by
        have h1 := hown.1
        rw [cellsB_length] at h1
        omega
      generalize (96 : UInt8) :: (X.take j).flatMap (fun x => putB 1 (8 * x)) = L at *
      have HO : Hid (wy.ownsRow wA.heap.size 5 1 (.slice ba (1 + j) bc) L.length (cellsB L)) := Lib.hid (by rw [hl1]; exact hown)
      have HE := Lib.hid hext
      have HE2 := Lib.hid e1
      have hsy : wA.heap.size ≤ wy.heap.size := Nat.le_trans hAC hext.1.size
      have HL1 := Lib.hid hl1
      clear hown hext e1 q hx hc1 hl1
      go_wp2_with (at_builtin; go_must (refine wpList_appE rfl (.tmp 18) (.tmp 25) rfl wA.heap.size _ L [c] rfl (World.ownsRow.alloc HO.out _) _ rfl (BV.one wy c _ rfl) (by rw [HL1.out]; simp; omega) (by simp; omega) ?_; intro v8 w8 ho8 he8; rw [← HE2.out] at ho8; obtain ⟨a8, n8, c8, rfl⟩ := owns_isSlice ho8; have H8 := Lib.hid (And.intro ho8 he8); clear ho8 he8))
      go_roundg (N - (j + 1))
      case measure => omega
      case rel =>
        refine ⟨j + 1, by omega, rfl, by go_num, ?_, (HE.out.trans (Ext.alloc_ _ _ _)).trans H8.out.2⟩
        have hl : ((96 : UInt8) :: (X.take (j + 1)).flatMap (fun x => putB 1 (8 * x))).length = 1 + (j + 1) := by
          rw [HE2.out, List.length_append, HL1.out]
          simp
          omega
        rw [← hl]
        exact H8.out.1
    · obtain rfl : j = N := by omega
      have hlt : decide ((j : Int) < (j : Int)) = false := by simp
      have HO := Lib.hid (And.intro hown hext)
      clear hown hext
      go_wp2_with fail
      go_ret
      have h1 := HO.out.1
      rw [List.take_of_length_le (by rw [HN.out]; exact Nat.le_refl _), HCM.out] at h1
      have hl1 : CM.length = 1 + j := by
        have h2 := h1.1
        rw [cellsB_length] at h2
        omega
      refine ⟨_, rfl, ?_, HC0.out.2.2.2.trans ((HO.out.2.below HC0.out.1 hAC).mono HH.out.2.size)⟩
      rw [hl1]
      exact owns_base h1 HH.out.2.size
end Go.Proofs.Ytlhlhlabnjfhcaa
