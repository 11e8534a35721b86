/- marks: QCD's bytes. -/
import Derived.Test.YtlhlhlabnjfhcaaMnC
namespace Go.Proofs.Ytlhlhlabnjfhcaa
open Go.RowKit

def mostI (cs : List CompD) : Int := cs.foldl (fun d c => max d c.depth) 0
theorem mostI_snoc (cs : List CompD) (c : CompD) : mostI (cs ++ [c]) = max (mostI cs) c.depth := by simp [mostI]
theorem mostI_bd (cs : List CompD) (h : ∀ c ∈ cs, 1 ≤ c.depth ∧ c.depth ≤ 16) : 0 ≤ mostI cs ∧ mostI cs ≤ 16 := by
  have : ∀ (cs : List CompD) (d : Int), (∀ c ∈ cs, 1 ≤ c.depth ∧ c.depth ≤ 16) → 0 ≤ d → d ≤ 16 → 0 ≤ cs.foldl (fun d c => max d c.depth) d ∧ cs.foldl (fun d c => max d c.depth) d ≤ 16 := by
    intro cs
    induction cs with
    | nil => intro d _ h1 h2; exact ⟨h1, h2⟩
    | cons c cs ih =>
      intro d h h1 h2
      have := h c (by simp)
      exact ih (max d c.depth) (fun x hx => h x (by simp [hx])) (by omega) (by omega)
  exact this cs 0 h (by decide) (by decide)
def bandB (n : Int) : List UInt8 := putsB 1 [8 * (n + 1), 8 * (n + 1), 8 * (n + 2)]
def qcdM (m : ImgD) (p : ParD) : List UInt8 := putsB 1 [96, 8 * (flagI p.rct 1 + mostI m.cs)] ++ (List.replicate p.lv.toNat (bandB (flagI p.rct 1 + mostI m.cs))).flatten

set_option maxRecDepth 100000 in
set_option maxHeartbeats 4000000 in
theorem planes_any (m : ImgD) (v : Value) (p : ParD) (cv : Value) (w : World) (hv : CompsRd w v m.cs) (hc : ∃ a n c, cv = .slice a n c) (hl : m.cs.length ≤ 4) (hcs : ∀ c ∈ m.cs, 1 ≤ c.depth ∧ c.depth ≤ 16) (l0 : 0 ≤ p.lv) (l5 : p.lv ≤ 5) :
    Calls Try.prog 37 #[.agg (headA m v p cv)] w fun e w' => ∃ v', e = .returned v' ∧ w'.ownsRow w.heap.size 5 1 v' (qcdM m p).length (cellsB (qcdM m p)) ∧ Below w.heap.size w w' := by
  have HV := Lib.hid hv
  obtain ⟨va, vc, rfl, -⟩ := hv
  obtain ⟨ca, cn, cc, rfl⟩ := hc
  have F3 := Lib.hid fun W => flag_any p.rct 1 W
  obtain ⟨g1, g2⟩ := flagI_bd p.rct 1 (by decide)
  have HC : Hid (qcdM m p = putsB 1 [96, 8 * (flagI p.rct 1 + mostI m.cs)] ++ (List.replicate p.lv.toNat (bandB (flagI p.rct 1 + mostI m.cs))).flatten) := Lib.hid rfl
  obtain ⟨CM, hCM⟩ : ∃ C, qcdM m p = C := ⟨_, rfl⟩
  rw [hCM] at HC
  have HM := Lib.hid hCM
  clear hCM
  generalize flagI p.rct 1 = f3 at *
  unfold headA
  go_enter Try.func37, Try.ntmps37
  go_upto_region 1 with fail
  obtain ⟨wA, hwA⟩ : ∃ wA, wA = w.alloc (.cells (headA m (.slice va m.cs.length vc) p (.slice ca cn cc)) 33) := ⟨_, rfl⟩
  have hh : Blk wA w.heap.size 33 (headA m (.slice va m.cs.length vc) p (.slice ca cn cc)) := by rw [hwA]; exact Blk.new _ _ _
  have hBA : Below w.heap.size w wA := by rw [hwA]; exact (Below.refl _ _).alloc (Nat.le_refl _) _
  have hsA : wA.heap.size = w.heap.size + 1 := by rw [hwA]; simp
  unfold headA at hwA
  simp only [← hwA]
  clear hwA
  have c14 : wA.cell? ⟨w.heap.size, 14, none⟩ = some (.bool p.rct) := hh.cell 14
  have c4 : wA.cell? ⟨w.heap.size, 4, none⟩ = some (.slice va m.cs.length vc) := hh.cell 4
  have HVA := Lib.hid (HV.out.keep hBA)
  have HS := Lib.hid hsA
  have HH := Lib.hid (And.intro hh hBA)
  clear hh hBA hsA HV
  go_wp2_with (go_at_call 56; (with_reducible refine (F3.out _).mono ?_); rintro e w' ⟨rfl, rfl⟩)
  clear c14 c4
  go_loopg [4, 6, 16] m.cs.length (fun g s4 s6 s16 wx => ∃ j : Nat, j ≤ m.cs.length ∧ g = m.cs.length - j ∧ s16 = .int .i64 j ∧ s4 = .int .i64 (mostI (m.cs.take j)) ∧ Below wA.heap.size wA wx)
  case atStart => exact ⟨0, Nat.zero_le _, rfl, rfl, rfl, Below.refl _ _⟩
  case round =>
    obtain ⟨wy, rfl⟩ : ∃ wy : World, wy = wr := ⟨_, rfl⟩
    obtain ⟨j, hj, rfl, rfl, rfl, hB⟩ := hrel
    by_cases hjl : j < m.cs.length
    · obtain ⟨c, hc⟩ : ∃ c, m.cs[j]? = some c := ⟨_, List.getElem?_eq_getElem hjl⟩
      obtain ⟨_, _, he, -, -, q⟩ := HVA.out
      cases he
      obtain ⟨bl, o, dv, rfl, d0, d1, d2, d3, d4, ⟨dsa, dsc, rfl, -⟩⟩ := q j c hc
      have l1 := World.block_lt_of_cell? wA _ d0
      have hsz := hB.size
      replace d0 := bcellC hB d0 l1
      replace d1 := bcellC hB d1 l1
      replace d2 := bcellC hB d2 l1
      replace d3 := bcellC hB d3 l1
      replace d4 := bcellC hB d4 l1
      have hlt : decide ((j : Int) < (m.cs.length : Int)) = true := by simp; omega
      have e1 : mostI (m.cs.take (j + 1)) = max (mostI (m.cs.take j)) c.depth := by rw [List.take_add_one, hc]; exact mostI_snoc _ _
      generalize mostI (m.cs.take j) = d at *
      have E1 := Lib.hid e1
      have HB := Lib.hid (hB.alloc hsz (.cells #[.int .i64 c.depth, .bool c.signed, .int .i64 c.dx, .int .i64 c.dy, .slice dsa c.data.length dsc] 45))
      clear e1 hB hc q
      go_wp2_with fail
      all_goals
        go_roundg (m.cs.length - (j + 1))
        case measure => omega
        case rel => exact ⟨j + 1, by omega, rfl, by go_num, by rw [E1.out]; congr 1; omega, HB.out⟩
    · obtain rfl : j = m.cs.length := by omega
      have hlt : decide (((m.cs.length : Nat) : Int) < (m.cs.length : Int)) = false := by simp
      obtain ⟨hh, hBA⟩ := HH.out
      have hh1 := hh.below hB hh.lt
      have hw1 := hBA.trans (hB.mono hBA.size)
      have hs1 := hB.size
      rw [List.take_length]
      obtain ⟨b1, b2⟩ := mostI_bd m.cs hcs
      generalize mostI m.cs = d at *
      have HX := Lib.hid (And.intro hh1 hw1)
      have sf1 := hh1.lt
      have HAS := Lib.hid hs1
      clear hh hBA HH hB hh1 hw1
      obtain ⟨L1, e1, l1, PA⟩ := puts_pack [] 1 1 [96, 8 * (f3 + d)] [96, 8 * (f3 + d)] rfl rfl (by decide) (by decide) (by simp) (by simp) (by simp)
      obtain ⟨Q, hQ⟩ : ∃ Q, bandB (f3 + d) = Q := ⟨_, rfl⟩
      obtain ⟨n, hn⟩ := Int.eq_ofNat_of_zero_le l0
      have hQl : Q.length = 3 := by rw [← hQ]; unfold bandB; rw [putsB_length]; rfl
      have hn5 : n ≤ 5 := by omega
      replace HC : Hid (CM = L1 ++ (List.replicate n Q).flatten) := Lib.hid (by rw [HC.out, hQ, ← e1, hn]; rfl)
      have hl1 : L1.length ≤ 10 := by simp at l1; omega
      have hj : ∀ j : Nat, (List.replicate j Q).flatten.length = 3 * j := by
        intro j
        induction j with
        | zero => rfl
        | succ j ih => rw [List.replicate_succ, List.flatten_cons, List.length_append, ih, hQl]; omega
      have HQ := Lib.hid (And.intro hQ hj)
      have HN := Lib.hid hn
      clear e1 l1 hQ hQl hj hn
      go_upto_region 10 with (go_at_call 33; (with_reducible refine (PA.out _ _ _ ?_ ?_).mono ?_); exact BV.nil_ _; exact RdI.lit wy [96, _] (by simp [maxLen]); rintro e w2 ⟨v2, rfl, ho2, hB2'⟩; obtain ⟨a2, p2, rfl⟩ := owns_slice ho2)
      have hB2 : Below wy.heap.size wy w2 := ((Below.refl _ _).alloc (Nat.le_refl _) _).trans (hB2'.mono (by simp))
      have ho2' := owns_base (B' := wA.heap.size) ho2 (by have := HAS.out; simp; omega)
      have hh2 := HX.out.1.below hB2 sf1
      have hw2 := HX.out.2.trans (hB2.mono HX.out.2.size)
      have c7 : w2.cell? ⟨w.heap.size, 7, none⟩ = some (.int .i64 p.lv) := hh2.cell 7
      have HAS2 := Lib.hid (Nat.le_trans HAS.out hB2.size)
      have HH := Lib.hid (And.intro hw2 ho2')
      clear hB2' ho2 hB2 ho2' hh2 hw2 PA
      go_wp2_with fail
      clear c7
      go_loopg [7, 35] n (fun g s7 s35 wx => ∃ j : Nat, j ≤ n ∧ g = n - j ∧ s35 = .int .i64 j ∧ wx.ownsRow wA.heap.size 5 1 s7 (L1 ++ (List.replicate j Q).flatten).length (cellsB (L1 ++ (List.replicate j Q).flatten)) ∧ Below w2.heap.size w2 wx)
      case atStart => exact ⟨0, Nat.zero_le _, rfl, rfl, by simpa using HH.out.2, Below.refl _ _⟩
      case round =>
        obtain ⟨wz, rfl⟩ : ∃ wz : World, wz = wr := ⟨_, rfl⟩
        obtain ⟨j, hj, rfl, rfl, hown, hB⟩ := hrel
        by_cases hjl : j < n
        · have hlt : decide ((j : Int) < p.lv) = true := by have := HN.out; simp; omega
          have hlen : (L1 ++ (List.replicate j Q).flatten).length ≤ 2000 := by rw [List.length_append, HQ.out.2]; omega
          have e2 : L1 ++ (List.replicate (j + 1) Q).flatten = (L1 ++ (List.replicate j Q).flatten) ++ putsB 1 [8 * (f3 + d + 1), 8 * (f3 + d + 1), 8 * (f3 + d + 2)] := by
            have hq : putsB 1 [8 * (f3 + d + 1), 8 * (f3 + d + 1), 8 * (f3 + d + 2)] = Q := HQ.out.1
            rw [hq, List.replicate_succ', List.flatten_append]; simp
          generalize L1 ++ (List.replicate j Q).flatten = L5 at *
          obtain ⟨L6, e6, -, PC⟩ := puts_pack L5 1 1 [8 * (f3 + d + 1), 8 * (f3 + d + 1), 8 * (f3 + d + 2)] [8 * (f3 + d + 1), 8 * (f3 + d + 1), 8 * (f3 + d + 2)] rfl rfl (by decide) (by decide) (by omega) (by simp) (by simp)
          rw [e6] at e2
          have hbv := Lib.hid (BV.of_owns hown)
          obtain ⟨a5, p5, rfl⟩ := owns_slice hown
          have E2 := Lib.hid e2
          have HB := Lib.hid hB
          clear e2 e6 hown hB
          go_wp2_with (go_at_call 33; (with_reducible refine (PC.out _ _ _ ?_ ?_).mono ?_); exact hbv.out.keep ((Below.refl _ _).alloc (Nat.le_refl _) _); exact RdI.lit wz [_, _, _] (by simp [maxLen]); rintro e w3 ⟨v3, rfl, ho3, hB3'⟩; have HB3 : Below wz.heap.size wz w3 := (((Below.refl _ _).alloc (Nat.le_refl _) _)).trans (hB3'.mono (by simp)); have HO3 := Lib.hid ho3; obtain ⟨a6, p6, rfl⟩ := owns_slice ho3)
          go_roundg (n - (j + 1))
          case measure => omega
          case rel =>
            refine ⟨j + 1, by omega, rfl, by go_num, ?_, HB.out.trans (HB3.mono HB.out.size)⟩
            rw [E2.out]
            exact owns_base HO3.out (by have h1 := HB.out.size; have h2 := HAS2.out; simp; omega)
        · obtain rfl : j = n := by omega
          have hlt : decide ((j : Int) < p.lv) = false := by have := HN.out; simp; omega
          rw [← HC.out] at hown
          have HO := Lib.hid (And.intro hown hB)
          obtain ⟨a5, p5, rfl⟩ := owns_slice hown
          clear hown hB
          go_wp2_with fail
          go_ret
          have hsz : w.heap.size ≤ wA.heap.size := by rw [HS.out]; exact Nat.le_succ _
          exact ⟨.slice a5 CM.length p5, rfl, by rw [HM.out]; exact owns_base HO.out.1 hsz, HH.out.1.trans (HO.out.2.mono HH.out.1.size)⟩
end Go.Proofs.Ytlhlhlabnjfhcaa
