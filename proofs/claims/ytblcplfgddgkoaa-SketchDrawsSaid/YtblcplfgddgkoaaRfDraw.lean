/- The document's chapter 21 (waveletref21): Draw. -/
import Derived.Test.YtblcplfgddgkoaaRf21
import Derived.Deep.RegionHeld3
namespace Go.Proofs.Ytblcplfgddgkoaa
open Go.RowKit

/-- the component that is being drawn, as it lies in block z -/
def ZAt (w : World) (z : Nat) (depth st : Int) (dv : Value) : Prop :=
  w.cell? ⟨z, 0, none⟩ = some (.int .i64 depth) ∧ w.cell? ⟨z, 1, none⟩ = some (.bool false) ∧ w.cell? ⟨z, 2, none⟩ = some (.int .i64 st) ∧ w.cell? ⟨z, 3, none⟩ = some (.int .i64 st) ∧
  w.cell? ⟨z, 4, none⟩ = some dv ∧ ∀ j, w.frozen? ⟨z, j, none⟩ = false

theorem ZAt.of_block {w w' : World} {z : Nat} {depth st : Int} {dv : Value} (h : ZAt w z depth st dv) (hb : w'.heap[z]? = w.heap[z]?) : ZAt w' z depth st dv := by
  obtain ⟨h0, h1, h2, h3, h4, hf⟩ := h
  have e : ∀ j, w'.cell? ⟨z, j, none⟩ = w.cell? ⟨z, j, none⟩ := fun j => World.cell?_of_block hb
  exact ⟨(e _).trans h0, (e _).trans h1, (e _).trans h2, (e _).trans h3, (e _).trans h4, fun j => (World.frozen?_of_block hb).trans (hf j)⟩

theorem bcellB {B : Nat} {W w1 : World} (hb : Below B W w1) : ∀ b o, b < B → w1.cell? ⟨b, o, none⟩ = W.cell? ⟨b, o, none⟩ := fun b o h => hb.cell (p := ⟨b, o, none⟩) h

theorem below_next {W W1 w1 : World} {B : Nat} (hb : Below W1.heap.size W1 w1) (h0 : Below B W W1) (hB : B ≤ W1.heap.size) : Below B W w1 := h0.trans (hb.mono hB)

theorem keep7 {w w' : World} {B g z : Nat} {u0 u1 u2 u3 u4 u5 u6 : Value}
    (h : w.cell? ⟨g, 0, none⟩ = some u0 ∧ w.cell? ⟨g, 1, none⟩ = some u1 ∧ w.cell? ⟨g, 2, none⟩ = some u2 ∧ w.cell? ⟨g, 3, none⟩ = some u3 ∧ w.cell? ⟨g, 4, none⟩ = some u4 ∧ w.cell? ⟨z, 2, none⟩ = some u5 ∧ w.cell? ⟨z, 3, none⟩ = some u6)
    (hc : ∀ b o, b < B → w'.cell? ⟨b, o, none⟩ = w.cell? ⟨b, o, none⟩) (hg : g < B) (hz : z < B) :
    w'.cell? ⟨g, 0, none⟩ = some u0 ∧ w'.cell? ⟨g, 1, none⟩ = some u1 ∧ w'.cell? ⟨g, 2, none⟩ = some u2 ∧ w'.cell? ⟨g, 3, none⟩ = some u3 ∧ w'.cell? ⟨g, 4, none⟩ = some u4 ∧ w'.cell? ⟨z, 2, none⟩ = some u5 ∧ w'.cell? ⟨z, 3, none⟩ = some u6 := by
  obtain ⟨h0, h1, h2, h3, h4, h5, h6⟩ := h
  exact ⟨(hc _ _ hg).trans h0, (hc _ _ hg).trans h1, (hc _ _ hg).trans h2, (hc _ _ hg).trans h3, (hc _ _ hg).trans h4, (hc _ _ hz).trans h5, (hc _ _ hz).trans h6⟩

theorem grown_setCell {a w : World} {row : Option Nat} (h : a.grownBy w row) {p : Addr} (hp : a.heap.size ≤ p.block ∨ some p.block = row) (u : Value) : a.grownBy (w.setCell p u) row := by
  refine ⟨h.os, h.tape, h.output, by simpa [World.setCell] using h.size, fun k hk hr => ?_⟩
  rw [Below.heap_setCell w p u k (by rintro rfl; rcases hp with hp | hp; omega; exact hr hp)]
  exact h.block k hk hr

theorem ZAt.setst {w : World} {z : Nat} {depth st : Int} {dv : Value} (h : ZAt w z depth st dv) (q : Int) : ZAt ((w.setCell ⟨z, 2, none⟩ (.int .i64 q)).setCell ⟨z, 3, none⟩ (.int .i64 q)) z depth q dv := by
  obtain ⟨h0, h1, h2, h3, h4, hf⟩ := h
  have ne : ∀ i j : Nat, i ≠ j → (⟨z, i, none⟩ : Addr) ≠ ⟨z, j, none⟩ := fun i j hij e => hij (Addr.mk.inj e).2.1
  have e : ∀ (j : Nat) u, j ≠ 2 → j ≠ 3 → w.cell? ⟨z, j, none⟩ = some u → ((w.setCell ⟨z, 2, none⟩ (.int .i64 q)).setCell ⟨z, 3, none⟩ (.int .i64 q)).cell? ⟨z, j, none⟩ = some u := fun j u hj2 hj3 hu => by
    rw [World.cell?_setCell_other (h := ne 3 j (Ne.symm hj3)), World.cell?_setCell_other (h := ne 2 j (Ne.symm hj2))]; exact hu
  refine ⟨e _ _ (by decide) (by decide) h0, e _ _ (by decide) (by decide) h1, ?_, ?_, e _ _ (by decide) (by decide) h4, fun j => by rw [World.frozen?_setCell, World.frozen?_setCell]; exact hf j⟩
  · rw [World.cell?_setCell_other (h := ne 3 2 (by decide))]; exact World.cell?_setCell_same _ _ _ h2
  · exact World.cell?_setCell_same _ _ _ (by rw [World.cell?_setCell_other (h := ne 2 3 (by decide))]; exact h3)

theorem heap_da (wr : World) (n : Nat) (o : Obj) (b : Nat) (hb : b < wr.heap.size) : ((wr.drewN n).alloc o).heap[b]? = wr.heap[b]? := Below.heap_alloc (wr.drewN n) o b hb

theorem ZAt.app {wr w6 : World} {z n : Nat} {depth st : Int} {dv : Value} {o : Obj} {row : Option Nat} (h : ZAt wr z depth st dv) (hl : z < wr.heap.size) (hg : ((wr.drewN n).alloc o).grownBy w6 row) (hne : some z ≠ row) : ZAt w6 z depth st dv :=
  h.of_block ((hg.block z (by simp; omega) hne).trans (heap_da wr n o z hl))

theorem grown_step {wR wr w6 : World} {zb n : Nat} {o : Obj} {row : Option Nat} (h : wR.grownBy wr (some zb)) (hg : ((wr.drewN n).alloc o).grownBy w6 row) (hr : ∀ k, row = some k → wR.heap.size ≤ k) : wR.grownBy w6 (some zb) := by
  refine ⟨hg.os.trans h.os, hg.tape.trans h.tape, hg.output.trans h.output, ?_, fun k hk hn => ?_⟩
  · have h1 := h.size
    have h2 := hg.size
    simp at h2
    omega
  · have h1 := h.size
    rw [hg.block k (by simp; omega) (fun e => by have := hr k e.symm; omega), heap_da wr n o k (by omega)]
    exact h.block k hk hn

theorem ZAt.setdata {w : World} {z : Nat} {depth st : Int} {dv : Value} (h : ZAt w z depth st dv) (u : Value) : ZAt (w.setCell ⟨z, 4, none⟩ u) z depth st u := by
  obtain ⟨h0, h1, h2, h3, h4, hf⟩ := h
  have ne : ∀ j : Nat, 4 ≠ j → (⟨z, 4, none⟩ : Addr) ≠ ⟨z, j, none⟩ := fun j hij e => hij (Addr.mk.inj e).2.1
  have e : ∀ (j : Nat) v, 4 ≠ j → w.cell? ⟨z, j, none⟩ = some v → (w.setCell ⟨z, 4, none⟩ u).cell? ⟨z, j, none⟩ = some v := fun j v hj hu => by
    rw [World.cell?_setCell_other (h := ne j hj)]; exact hu
  exact ⟨e _ _ (by decide) h0, e _ _ (by decide) h1, e _ _ (by decide) h2, e _ _ (by decide) h3, World.cell?_setCell_same _ _ _ h4, fun j => by rw [World.frozen?_setCell]; exact hf j⟩

set_option maxRecDepth 100000 in
set_option maxHeartbeats 4000000 in
theorem rdraw_ok (x y ox oy comps depth kind : Int) (w : World) (h1 : 0 ≤ ox) (h2 : 0 ≤ oy) (h3 : ox < x) (h4 : oy < y) (h5 : x ≤ 64) (h6 : y ≤ 64)
   (h7 : 1 ≤ comps) (h8 : comps ≤ 4) (h9 : 1 ≤ depth) (h10 : depth ≤ 16) (h11 : 0 ≤ kind) (h12 : kind ≤ 4) :
    Calls Try.prog 10 #[.int .i64 x, .int .i64 y, .int .i64 ox, .int .i64 oy, .int .i64 comps, .int .i64 depth, .int .i64 kind] w fun e w' =>
      ∃ v, e = .returned (.tuple #[.agg #[.int .i64 x, .int .i64 y, .int .i64 ox, .int .i64 oy, v], .int .i64 0]) ∧ CompsOwn w' (w.heap.size + 2) v (drawCs x y ox oy depth kind comps.toNat) ∧ Below w.heap.size w w' := by
  have d1 : decide (ox < 0) = false := by simp; omega
  have d2 : decide (oy < 0) = false := by simp; omega
  have d3 : decide (x ≤ ox) = false := by simp; omega
  have d4 : decide (y ≤ oy) = false := by simp; omega
  have d5 : decide (64 < x) = false := by simp; omega
  have d6 : decide (64 < y) = false := by simp; omega
  have d7 : decide (comps < 1) = false := by simp; omega
  have d8 : decide (4 < comps) = false := by simp; omega
  have d9 : decide (depth < 1) = false := by simp; omega
  have d10 : decide (16 < depth) = false := by simp; omega
  have d11 : decide (kind < 0) = false := by simp; omega
  have d12 : decide (4 < kind) = false := by simp; omega
  go_enter Try.func10, Try.ntmps10
  go_wp2_with fail
  go_loopg [17] comps.toNat (fun g s17 wr => ∃ (k : Nat) (v : Value), (k : Int) ≤ comps ∧ g = comps.toNat - k ∧ s17 = .int .i64 k ∧
    wr.cell? ⟨w.heap.size + 1, 0, none⟩ = some (.int .i64 x) ∧ wr.cell? ⟨w.heap.size + 1, 1, none⟩ = some (.int .i64 y) ∧ wr.cell? ⟨w.heap.size + 1, 2, none⟩ = some (.int .i64 ox) ∧ wr.cell? ⟨w.heap.size + 1, 3, none⟩ = some (.int .i64 oy) ∧
    wr.cell? ⟨w.heap.size + 1, 4, none⟩ = some v ∧ (∀ j, wr.frozen? ⟨w.heap.size + 1, j, none⟩ = false) ∧
    (∀ j, j < 5 → ∃ u, wr.cell? ⟨w.heap.size, j, none⟩ = some u) ∧ (∀ j, wr.frozen? ⟨w.heap.size, j, none⟩ = false) ∧
    CompsOwn wr (w.heap.size + 2) v (drawCs x y ox oy depth kind k) ∧ Below w.heap.size w wr)
  case atStart =>
    refine ⟨0, .slice none 0 0, by omega, rfl, rfl, by simp, by simp, by simp, by simp, by simp, fun j => by simp, fun j hj => ?_, fun j => by simp, by simpa [drawCs] using CompsOwn.nil _ _, ((Below.refl _ _).alloc (Nat.le_refl _) _).alloc (by simp) _⟩
    match j, hj with
    | 0, _ => exact ⟨_, by simp; rfl⟩
    | 1, _ => exact ⟨_, by simp; rfl⟩
    | 2, _ => exact ⟨_, by simp; rfl⟩
    | 3, _ => exact ⟨_, by simp; rfl⟩
    | 4, _ => exact ⟨_, by simp; rfl⟩
  case round =>
    obtain ⟨wa, rfl⟩ : ∃ wa : World, wa = wr := ⟨_, rfl⟩
    obtain ⟨k, v, hk, rfl, rfl, c0, c1, c2, c3, c4, f1, c5, f2, hown, hbel⟩ := hrel
    have hsz := hbel.size
    by_cases hlt : (k : Int) < comps
    · go_upto_region 8 with fail
      go_cut [89] (fun s89 wx => s89 = .bool (decide (kind = 4 ∧ (k : Int) % 2 = 1)) ∧ ZAt wx wa.heap.size depth 1 (.slice none 0 0) ∧ wa.grownBy wx none ∧ wa.heap.size < wx.heap.size)
      case first =>
        cases g1 : (kind == 4) <;> cases g2 : ((k : Int) % 2 == 1)
        all_goals
          have G : Hid (decide (kind = 4 ∧ (k : Int) % 2 = 1) = ((kind == 4) && ((k : Int) % 2 == 1))) := by unfold Hid; rw [Bool.eq_iff_iff]; simp
          go_wp2
          go_meet
          exact ⟨by rw [G.out, g1, g2]; rfl, ⟨by simp, by simp, by simp, by simp, by simp, fun j => by simp⟩, World.grownBy_alloc _ _ _, by simp⟩
      obtain ⟨rfl, hz, hgz, hzl⟩ := hcut
      go_upto_if 89 with fail
      go_cut [] (fun wx => ZAt wx wa.heap.size depth (stepOf kind k) (.slice none 0 0) ∧ wa.grownBy wx none ∧ wa.heap.size < wx.heap.size)
      case first =>
        obtain ⟨z0, z1, z2, z3, z4, z5⟩ := hz
        cases g1 : decide (kind = 4 ∧ (k : Int) % 2 = 1)
        · have G : Hid (stepOf kind k = 1) := by unfold Hid stepOf; rw [if_neg (of_decide_eq_false g1)]
          go_wp2
          go_meet
          exact ⟨by rw [G.out]; exact ⟨z0, z1, z2, z3, z4, z5⟩, hgz, hzl⟩
        · have G : Hid (stepOf kind k = 2) := by unfold Hid stepOf; rw [if_pos (of_decide_eq_true g1)]
          go_wp2
          go_meet
          exact ⟨by rw [G.out]; exact ZAt.setst ⟨z0, z1, z2, z3, z4, z5⟩ 2, grown_setCell (grown_setCell hgz (.inl (Nat.le_refl _)) _) (.inl (Nat.le_refl _)) _, by simpa [World.setCell] using hzl⟩
      obtain ⟨hz, hgz, hzl⟩ := hcut
      obtain ⟨wz, rfl⟩ : ∃ wz : World, wz = wc := ⟨_, rfl⟩
      have hst := stepOf_bd kind k
      have hst1 : 1 ≤ stepOf kind k := by omega
      have hst2 : stepOf kind k ≤ 2 := by omega
      clear hst
      have hbz : Below wa.heap.size wa wz := below_grown hgz (Nat.le_refl _) (by simp)
      have hsz2 := World.block_lt_of_cell? wa _ c0
      simp only at hsz2
      have b0 := (hbz.cell (p := ⟨w.heap.size + 1, 0, none⟩) (by simp; omega)).trans c0
      have b1 := (hbz.cell (p := ⟨w.heap.size + 1, 1, none⟩) (by simp; omega)).trans c1
      have b2 := (hbz.cell (p := ⟨w.heap.size + 1, 2, none⟩) (by simp; omega)).trans c2
      have b3 := (hbz.cell (p := ⟨w.heap.size + 1, 3, none⟩) (by simp; omega)).trans c3
      have b4 := (hbz.cell (p := ⟨w.heap.size + 1, 4, none⟩) (by simp; omega)).trans c4
      obtain ⟨z0, z1, z2, z3, z4, z5⟩ := hz
      have q1 : w.heap.size + 1 < wz.heap.size := by omega
      go_upto_region 10 with fail
      go_cut [19] (fun s19 wx => ∃ (rb : Nat) (A0 A1 A2 A3 : Int), s19 = .pointer (some ⟨rb, 0, none⟩) ∧ wx.cell? ⟨rb, 0, none⟩ = some (.int .i64 A0) ∧ wx.cell? ⟨rb, 1, none⟩ = some (.int .i64 A1) ∧
        wx.cell? ⟨rb, 2, none⟩ = some (.int .i64 A2) ∧ wx.cell? ⟨rb, 3, none⟩ = some (.int .i64 A3) ∧ Hid (A0 = byI ox (stepOf kind k) ∧ A1 = byI oy (stepOf kind k) ∧ A2 = byI x (stepOf kind k) ∧ A3 = byI y (stepOf kind k)) ∧
        wz.heap.size ≤ rb ∧ rb < wx.heap.size ∧ Below wz.heap.size wz wx)
      case first =>
        have S0 := b0
        go_region_held3 (fun w' => w'.cell? ⟨w.heap.size + 1, 0, none⟩ = some (.int .i64 x) ∧ w'.cell? ⟨w.heap.size + 1, 1, none⟩ = some (.int .i64 y) ∧ w'.cell? ⟨w.heap.size + 1, 2, none⟩ = some (.int .i64 ox) ∧ w'.cell? ⟨w.heap.size + 1, 3, none⟩ = some (.int .i64 oy) ∧ w'.cell? ⟨w.heap.size + 1, 4, none⟩ = some v ∧
          w'.cell? ⟨wa.heap.size, 2, none⟩ = some (.int .i64 (stepOf kind k)) ∧ w'.cell? ⟨wa.heap.size, 3, none⟩ = some (.int .i64 (stepOf kind k)))
          (first | exact ⟨b0, b1, b2, b3, b4, z2, z3⟩ | exact keep7 ⟨b0, b1, b2, b3, b4, z2, z3⟩ (bcellB (by repeat (first | refine Below.setCell ?_ (by first | omega | (simp; done) | (simp; omega)) _ | exact HB6 | exact HB5 | exact Below.refl _ _ | refine Below.alloc ?_ (by first | omega | (simp; done) | (simp; omega)) _ | refine Below.drew ?_))) q1 hzl)
          (first
            | (go_at_call 20; refine (whole_any _ _ _ _ _ _).mono ?_; rintro e w5 ⟨rfl, hb5⟩; have HB5 : Below wz.heap.size wz w5 := below_next hb5 (by repeat (first | exact Below.refl _ _ | refine Below.alloc ?_ (by first | omega | (simp; done) | (simp; omega)) _ | refine Below.drew ?_)) (by first | omega | (simp; done) | (simp; omega)); obtain ⟨hc5, hf5⟩ := bcell hb5; have z5 := hb5.size; try simp at z5; try (have y5 : wz.heap.size < w5.heap.size := by omega))
            | (go_at_call 19; refine (part_any _ _ _ _ _ _ _ (by omega) (by omega) (by omega) (by omega) (by omega) (by omega) (by omega) (by omega) (by omega) (by omega) (by omega) (by omega)).mono ?_; rintro e w6 ⟨rfl, hb6⟩; simp only [overV]; have HB6 : Below wz.heap.size wz w6 := below_next hb6 (by repeat (first | exact HB5 | refine Below.alloc ?_ (by first | omega | (simp; done) | (simp; omega)) _ | refine Below.drew ?_)) (by first | omega | (simp; done) | (simp; omega)); obtain ⟨hc6, hf6⟩ := bcell hb6; have z6 := hb6.size; try simp at z6))
        all_goals
          go_wp2_with fail
          go_meet
          refine ⟨_, ceilI ox (stepOf kind k), ceilI oy (stepOf kind k), ceilI x (stepOf kind k), ceilI y (stepOf kind k), rfl, ?_, ?_, ?_, ?_, ⟨rfl, rfl, rfl, rfl⟩, ?_, ?_, ?_⟩
          · simp [go_sem, *]
          · simp [go_sem, *]
          · simp [go_sem, *]
          · simp [go_sem, *]
          · first | omega | (simp; omega)
          · first | omega | (simp; done) | (simp; omega)
          · repeat (first | refine Below.setCell ?_ (by first | omega | (simp; done) | (simp; omega)) _ | exact HB6 | exact HB5 | exact Below.refl _ _ | refine Below.alloc ?_ (by first | omega | (simp; done) | (simp; omega)) _ | refine Below.drew ?_)
      obtain ⟨rb, A0, A1, A2, A3, rfl, r0, r1, r2, r3, HA, hrb1, hrb2, hbR⟩ := hcut
      obtain ⟨wR, rfl⟩ : ∃ wR : World, wR = wc := ⟨_, rfl⟩
      obtain ⟨hA0, hA1⟩ := byI_bd ox (stepOf kind k) (by omega) (by omega) (stepOf_bd _ _)
      have hA2 := byI_mono ox x (stepOf kind k) (by omega) (stepOf_bd _ _)
      obtain ⟨-, hA3⟩ := byI_bd x (stepOf kind k) (by omega) (by omega) (stepOf_bd _ _)
      obtain ⟨hB0, hB1⟩ := byI_bd oy (stepOf kind k) (by omega) (by omega) (stepOf_bd _ _)
      have hB2 := byI_mono oy y (stepOf kind k) (by omega) (stepOf_bd _ _)
      obtain ⟨-, hB3⟩ := byI_bd y (stepOf kind k) (by omega) (by omega) (stepOf_bd _ _)
      rw [← HA.out.1] at hA0 hA2
      rw [← HA.out.2.1] at hB0 hB2
      rw [← HA.out.2.2.1] at hA2 hA3
      rw [← HA.out.2.2.2] at hB2 hB3
      clear hA1 hB1
      obtain ⟨W, hW1, hW2⟩ : ∃ W : Nat, (W : Int) ≤ A2 - A0 ∧ A2 - A0 ≤ W := ⟨(A2 - A0).toNat, by omega, by omega⟩
      obtain ⟨H, hH1, hH2⟩ : ∃ H : Nat, (H : Int) ≤ A3 - A1 ∧ A3 - A1 ≤ H := ⟨(A3 - A1).toNat, by omega, by omega⟩
      have hzR : ZAt wR wa.heap.size depth (stepOf kind k) (.slice none 0 0) := ZAt.of_block ⟨z0, z1, z2, z3, z4, z5⟩ (hbR.block _ hzl)
      obtain ⟨i0, hi, hz0, hz1, hz2⟩ := info_parts Try.info3
      have hWH := (mul_bd W H (by omega) (by omega)).1
      have HC := Lib.hid (And.intro c0 (And.intro c1 (And.intro c2 (And.intro c3 (And.intro c4 (And.intro f1 (And.intro f2 c5)))))))
      have HO := Lib.hid hown
      clear c0 c1 c2 c3 c4 c5 f1 f2 hown b0 b1 b2 b3 b4 z0 z1 z2 z3 z4 z5
      go_wp2_with fail
      go_loopg [20] H (fun g s20 wx => ∃ (J : Nat) (dv : Value), J ≤ H ∧ g = H - J ∧ s20 = .int .i64 J ∧ ZAt wx wa.heap.size depth (stepOf kind k) dv ∧
        wx.ownsRow wR.heap.size 3 1 dv (W * J) ((dataTo kind depth k W J 0).map (Value.int .i64)) ∧ wR.grownBy wx (some wa.heap.size))
      case atStart =>
        exact ⟨0, _, Nat.zero_le _, rfl, rfl, hzR, by simpa [dataTo, dataD] using World.ownsRow_nil _ _ _ _, World.grownBy.refl _ _⟩
      case round =>
        obtain ⟨wb, rfl⟩ : ∃ wb : World, wb = wr := ⟨_, rfl⟩
        obtain ⟨J, dv, hJ, rfl, rfl, hzx, hdx, hgx⟩ := hrel
        have rr := hgx.block rb hrb2 (by simp; omega)
        have q0 := (World.cell?_of_block rr).trans r0
        have q2 := (World.cell?_of_block rr).trans r2
        have q1' := (World.cell?_of_block rr).trans r1
        have q3 := (World.cell?_of_block rr).trans r3
        by_cases hJl : J < H
        · have t1 : decide ((J : Int) < A3 - A1) = true := by simp; omega
          have hWJ : W * J + W ≤ W * H := by have := Nat.mul_le_mul_left W (show J + 1 ≤ H by omega); rw [Nat.mul_succ] at this; exact this
          go_wp2_with fail
          go_loopg [21] W (fun g s21 wy => ∃ (I : Nat) (dv : Value), I ≤ W ∧ g = W - I ∧ s21 = .int .i64 I ∧ ZAt wy wa.heap.size depth (stepOf kind k) dv ∧
            wy.ownsRow wR.heap.size 3 1 dv (W * J + I) ((dataTo kind depth k W J I).map (Value.int .i64)) ∧ wR.grownBy wy (some wa.heap.size))
          case atStart =>
            exact ⟨0, _, Nat.zero_le _, rfl, rfl, hzx, hdx, hgx⟩
          case round =>
            obtain ⟨I, dv2, hI, rfl, rfl, hzy, hdy, hgy⟩ := hrel
            have rr2 := hgy.block rb hrb2 (by simp; omega)
            have p0 := (World.cell?_of_block rr2).trans r0
            have p2 := (World.cell?_of_block rr2).trans r2
            clear rr rr2 q0 q1' q2 q3 r0 r1 r2 r3 hzx hdx hgx hzR
            by_cases hIl : I < W
            · have t2 : decide ((I : Int) < A2 - A0) = true := by simp; omega
              go_wp2_with fail
              have hzl2 : wa.heap.size < wr.heap.size := by have := hgy.size; omega
              have hne2 : some wa.heap.size ≠ dv2.ownBlock := fun e => by have := (hdy.lt _ e.symm).1; omega
              have hrow2 : ∀ j, dv2.ownBlock = some j → wR.heap.size ≤ j := fun j hj => (hdy.lt j hj).1
              have hsz6 := hgy.size
              have HZ := Lib.hid hzy
              obtain ⟨z0, z1, z2, z3, z4, z5⟩ := hzy
              go_region_law (first
                | (go_simp; go_at_call 21; with_reducible refine (rsample_any _ _ _ _ _ _ (by omega) (by omega) (by omega) (by omega) (by omega) (by omega) (by omega) (by omega)).mono ?_; rintro e w5 ⟨rfl, rfl⟩)
                | ((with_reducible refine step_append_own (o := ⟨some 126, _, _, _, _, _⟩) rfl (.tmp 118) (.tmp 125) 39 rfl wR.heap.size 3 i0 (.int .i64 0) 1 8 Try.underlying39 hi hz0 hz1 hz2 rfl (by decide) dv2 (W * J + I) ((dataTo kind depth k W J I).map (Value.int .i64)) ?_ ?_ ⟨wr.heap.size, 0, none⟩ 1 1 [.int .i64 (pix kind depth k I J)] ?_ ?_ ?_ ?_ ?_ ?_ ?_ ?_); simp [Act.eval]; exact World.ownsRow.alloc (owns_drewN _ hdy) _; simp [Act.eval]; rfl; exact news_one (cell_new wr _ _ _); exact ints_oneCell .i64 [_]; unfold maxLen; omega; omega; simp; omega; intro v6 w6 hown6 hg6 hn6; obtain ⟨a6, p6, rfl⟩ := owns_slice hown6; have HZ6 := Lib.hid (HZ.out.app hzl2 hg6 hne2); obtain ⟨y0, y1, y2, y3, y4, y5⟩ := HZ6.out))
              all_goals
                have hgN : wR.grownBy w6 (some wa.heap.size) := grown_step hgy hg6 hrow2
                have hownN : w6.ownsRow wR.heap.size 3 1 (.slice a6 (W * J + I + 1) p6) (W * J + (I + 1)) ((dataTo kind depth k W J (I + 1)).map (Value.int .i64)) := by
                  rw [dataTo_succ, List.map_append]; exact hown6
                clear hown6 hg6 hgy hdy
                go_wp2_with fail
                go_roundg (W - (I + 1))
                case measure => omega
                case rel => exact ⟨I + 1, _, by omega, rfl, by go_num, HZ6.out.setdata _, ownsRow_setCell_below hownN (by simp; omega) _, grown_setCell hgN (.inr rfl) _⟩
            · obtain rfl : W = I := by omega
              have t2 : decide ((W : Int) < A2 - A0) = false := by simp; omega
              go_wp2_with fail
              go_roundg (H - (J + 1))
              case measure => omega
              case rel =>
                refine ⟨J + 1, _, by omega, rfl, by go_num, hzy, ?_, hgy⟩
                rw [dataTo_zero, ← dataTo_row, Nat.mul_succ]
                exact hdy
        · obtain rfl : H = J := by omega
          have t1 : decide ((H : Int) < A3 - A1) = false := by simp; omega
          have hbA : Below wa.heap.size wa wb := (hbz.trans (hbR.mono (by omega))).trans (below_grown hgx (by have := hbR.size; omega) (fun j hj => by simp at hj; omega))
          obtain ⟨dvs, hdl, ho, hds⟩ := HO.out.keep hbA
          obtain ⟨c0, c1, c2, c3, c4, f1, f2, c5⟩ := HC.out
          obtain ⟨i1, ci, cz0, cz1, cz2⟩ := info_parts Try.infoComp
          rw [dataTo_zero] at hdx
          have b0 := (hbA.cell (p := ⟨w.heap.size + 1, 0, none⟩) (by simp; omega)).trans c0
          have b1 := (hbA.cell (p := ⟨w.heap.size + 1, 1, none⟩) (by simp; omega)).trans c1
          have b2 := (hbA.cell (p := ⟨w.heap.size + 1, 2, none⟩) (by simp; omega)).trans c2
          have b3 := (hbA.cell (p := ⟨w.heap.size + 1, 3, none⟩) (by simp; omega)).trans c3
          have b4 := (hbA.cell (p := ⟨w.heap.size + 1, 4, none⟩) (by simp; omega)).trans c4
          have g1 : ∀ j, wb.frozen? ⟨w.heap.size + 1, j, none⟩ = false := fun j => (hbA.frozen (p := ⟨w.heap.size + 1, j, none⟩) (by simp; omega)).trans (f1 j)
          have g2 : ∀ j, wb.frozen? ⟨w.heap.size, j, none⟩ = false := fun j => (hbA.frozen (p := ⟨w.heap.size, j, none⟩) (by simp; omega)).trans (f2 j)
          have b5 : ∀ j, j < 5 → ∃ u, wb.cell? ⟨w.heap.size, j, none⟩ = some u := fun j hj => by rw [hbA.cell (p := ⟨w.heap.size, j, none⟩) (by simp; omega)]; exact c5 j hj
          have hvlt : ∀ j, v.ownBlock = some j → w.heap.size + 2 ≤ j := fun j hj => (ho.lt j hj).1
          have hsb := hbA.size
          have hbw : Below w.heap.size w wb := hbel.trans (hbA.mono hsz)
          have hdrawk : (drawCs x y ox oy depth kind k).length = k := by simp [drawCs]
          have hHO := Lib.hid ho
          have HD := Lib.hid hds
          rw [hdrawk] at ho
          clear hds
          have eW : Hid ((wid x ox (stepOf kind k)).toNat = W) := by unfold Hid wid; rw [← HA.out.1, ← HA.out.2.2.1]; omega
          have eH : Hid ((wid y oy (stepOf kind k)).toNat = H) := by unfold Hid wid; rw [← HA.out.2.1, ← HA.out.2.2.2]; omega
          obtain ⟨z0, z1, z2, z3, z4, z5⟩ := hzx
          obtain ⟨ad, pd, rfl⟩ := owns_slice hdx
          have hdx2 : wb.ownsRow (w.heap.size + 2) 3 1 (.slice ad (W * H) pd) (W * H) ((dataD kind depth k W H).map (Value.int .i64)) := owns_base hdx (by omega)
          clear c0 c1 c2 c3 c4 c5 f1 f2 hgx hbA hbel hdx
          go_wp2_with (at_builtin; go_must (refine wpList_append_own _ rfl _ _ 23 rfl (w.heap.size + 2) 41 i1 (.agg #[.int .i64 0, .bool false, .int .i64 0, .int .i64 0, .slice none 0 0]) 5 56 Try.underlying23 ci cz0 cz1 cz2 rfl (by decide) _ _ _ rfl (ho.alloc _) ⟨wb.heap.size, 0, none⟩ 1 1 [.int .i64 depth, .bool false, .int .i64 (stepOf kind k), .int .i64 (stepOf kind k), .slice ad (W * H) pd] rfl rfl (news_block _ _ _) (by simp [Value.oneCell']) (by unfold maxLen; omega) (by omega) (by simp; omega) ?_; intro v' w7 hown7 hg7 hn7; obtain ⟨a7, p7, rfl⟩ := owns_slice hown7; have hk7 : ∀ b, b < w.heap.size + 2 → w7.heap[b]? = wb.heap[b]? := fun b hb => (hg7.block b (by simp; omega) (fun e => by have := hvlt b e.symm; omega)).trans (Below.heap_alloc wb _ b (by omega)); have q4 : w7.cell? ⟨w.heap.size + 1, 4, none⟩ = some v := (World.cell?_of_block (hk7 _ (by simp))).trans b4; have q5 : w7.frozen? ⟨w.heap.size + 1, 4, none⟩ = false := (World.frozen?_of_block (hk7 _ (by simp))).trans (g1 4); have H7 := Lib.hid hk7; clear hk7 hn7))
          go_roundg (comps.toNat - (k + 1))
          case measure => omega
          case rel =>
            have hk7 := H7.out
            have hc7 : ∀ j : Nat, w7.cell? ⟨w.heap.size + 1, j, none⟩ = wb.cell? ⟨w.heap.size + 1, j, none⟩ := fun j => World.cell?_of_block (hk7 _ (by simp))
            have hne : ∀ j : Nat, j ≠ 4 → (⟨w.heap.size + 1, 4, none⟩ : Addr) ≠ ⟨w.heap.size + 1, j, none⟩ := fun j hj h => hj (Addr.mk.inj h).2.1.symm
            refine ⟨k + 1, .slice a7 (k + 1) p7, by omega, rfl, by go_num, ?_, ?_, ?_, ?_, ?_, ?_, ?_, ?_, ?_, ?_⟩
            · rw [World.cell?_setCell_other (h := hne 0 (by omega)), hc7]; exact b0
            · rw [World.cell?_setCell_other (h := hne 1 (by omega)), hc7]; exact b1
            · rw [World.cell?_setCell_other (h := hne 2 (by omega)), hc7]; exact b2
            · rw [World.cell?_setCell_other (h := hne 3 (by omega)), hc7]; exact b3
            · exact World.cell?_setCell_same _ _ _ q4
            · intro j; rw [World.frozen?_setCell, World.frozen?_of_block (hk7 _ (by simp))]; exact g1 j
            · intro j hj
              obtain ⟨u, hu⟩ := b5 j hj
              exact ⟨u, by rw [World.cell?_setCell_other (h := by simp), World.cell?_of_block (hk7 _ (by simp))]; exact hu⟩
            · intro j; rw [World.frozen?_setCell, World.frozen?_of_block (hk7 _ (by simp))]; exact g2 j
            · have e1 : drawCs x y ox oy depth kind (k + 1) = drawCs x y ox oy depth kind k ++ [drawC x y ox oy depth kind k] := by simp [drawCs, List.range_succ]
              rw [e1]
              refine CompsOwn.setCell (CompsOwn.snoc hdl (World.ownsRow.alloc hHO.out _) (fun i c dv hc hd => World.ownsRow.alloc (HD.out i c dv hc hd) _) (dv := .slice ad (W * H) pd) ?_ ?_ hg7) (by simp) _
              · have e2 : (drawC x y ox oy depth kind k).data = dataD kind depth k W H := by unfold drawC; simp only [eW.out, eH.out]
                have e3 : (dataD kind depth k W H).length = W * H := by have := dataTo_length kind depth k W H 0; rw [dataTo_zero] at this; simpa using this
                rw [e2, e3]
                exact World.ownsRow.alloc hdx2 _
              · rw [hdrawk]
                exact hown7
            · exact (((hbw.alloc hbw.size _).trans (below_grown hg7 (by simp; omega) (fun j hj => by have := hvlt j hj; omega))).setCell (by simp) _)
    · obtain rfl : comps = k := by omega
      have hsz2 := World.block_lt_of_cell? wa _ c0
      simp only at hsz2
      obtain ⟨u0, m0⟩ := c5 0 (by omega)
      obtain ⟨u1, m1⟩ := c5 1 (by omega)
      obtain ⟨u2, m2⟩ := c5 2 (by omega)
      obtain ⟨u3, m3⟩ := c5 3 (by omega)
      obtain ⟨u4, m4⟩ := c5 4 (by omega)
      clear c5
      obtain ⟨dvs, hdl, ho, hds⟩ := hown
      have ho2 := ho
      obtain ⟨a7, p7, rfl⟩ := owns_slice ho
      go_wp2_with fail
      refine bodyPost_ret (v := .tuple #[.agg #[.int .i64 x, .int .i64 y, .int .i64 ox, .int .i64 oy, .slice a7 (drawCs x y ox oy depth kind k).length p7], .int .i64 0]) ?_ rfl ?_
      · simp [results, Try.results10, go_sem, m0, m1, m2, m3, m4]
      · refine ⟨_, rfl, ?_, ?_⟩
        · refine CompsOwn.setCell (CompsOwn.setCell (CompsOwn.setCell (CompsOwn.setCell (CompsOwn.setCell ⟨dvs, hdl, ho2, hds⟩ ?_ _) ?_ _) ?_ _) ?_ _) ?_ _ <;> simp
        · exact ((((hbel.setCell (by simp) _).setCell (by simp) _).setCell (by simp) _).setCell (by simp) _).setCell (by simp) _
end Go.Proofs.Ytblcplfgddgkoaa
