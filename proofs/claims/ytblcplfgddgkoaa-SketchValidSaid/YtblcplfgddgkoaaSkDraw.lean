/- sketch.Draw: what it draws. -/
import Derived.Test.YtblcplfgddgkoaaSkA
namespace Go.Proofs.Ytblcplfgddgkoaa
open Go.RowKit

def stepOf (kind c : Int) : Int := if kind = 4 ∧ c % 2 = 1 then 2 else 1
def pix (kind depth c i j : Int) : Int := sampleD kind depth c i j % 2 ^ depth.toNat
def dataD (kind depth c : Int) (W H : Nat) : List Int := (List.range H).flatMap fun (j : Nat) => (List.range W).map fun (i : Nat) => pix kind depth c i j

structure CompD where
  depth : Int
  signed : Bool
  dx : Int
  dy : Int
  data : List Int

def wid (x ox st : Int) : Int := byI x st - byI ox st

def drawC (x y ox oy depth kind : Int) (c : Nat) : CompD :=
  { depth, signed := false, dx := stepOf kind c, dy := stepOf kind c, data := dataD kind depth c (wid x ox (stepOf kind c)).toNat (wid y oy (stepOf kind c)).toNat }
def drawCs (x y ox oy depth kind : Int) (n : Nat) : List CompD := (List.range n).map (drawC x y ox oy depth kind)

def compCells (c : CompD) (dv : Value) : List Value := [.int .i64 c.depth, .bool c.signed, .int .i64 c.dx, .int .i64 c.dy, dv]
def compFlat (cs : List CompD) (dvs : List Value) : List Value := (List.zipWith compCells cs dvs).flatten

/-- the slice value v owns these components, and each its samples -/
def CompsOwn (w : World) (B : Nat) (v : Value) (cs : List CompD) : Prop :=
  ∃ dvs : List Value, dvs.length = cs.length ∧ w.ownsRow B 41 5 v cs.length (compFlat cs dvs) ∧
    ∀ (i : Nat) c dv, cs[i]? = some c → dvs[i]? = some dv → w.ownsRow B 3 1 dv c.data.length (c.data.map (Value.int .i64))

theorem compFlat_snoc (cs : List CompD) (dvs : List Value) (c : CompD) (dv : Value) (h : dvs.length = cs.length) : compFlat (cs ++ [c]) (dvs ++ [dv]) = compFlat cs dvs ++ compCells c dv := by
  unfold compFlat
  rw [List.zipWith_append h.symm]
  simp

theorem CompsOwn.nil (w : World) (B : Nat) : CompsOwn w B (.slice none 0 0) [] := ⟨[], rfl, World.ownsRow_nil _ _ _ _, by simp⟩

theorem CompsOwn.keep {w w' : World} {B : Nat} {v : Value} {cs : List CompD} (h : CompsOwn w B v cs) (hb : Below w.heap.size w w') : CompsOwn w' B v cs := by
  obtain ⟨dvs, h1, h2, h3⟩ := h
  exact ⟨dvs, h1, owns_keepAll h2 hb, fun i c dv hc hd => owns_keepAll (h3 i c dv hc hd) hb⟩

theorem CompsOwn.setCell {w : World} {B : Nat} {v : Value} {cs : List CompD} (h : CompsOwn w B v cs) {a : Addr} (ha : a.block < B) (u : Value) : CompsOwn (w.setCell a u) B v cs := by
  obtain ⟨dvs, h1, h2, h3⟩ := h
  exact ⟨dvs, h1, ownsRow_setCell_below h2 ha u, fun i c dv hc hd => ownsRow_setCell_below (h3 i c dv hc hd) ha u⟩

theorem CompsOwn.snoc {w w' : World} {B : Nat} {v v' : Value} {cs : List CompD} {c : CompD} {dv : Value} {dvs : List Value} (h1 : dvs.length = cs.length) (h2 : w.ownsRow B 41 5 v cs.length (compFlat cs dvs))
    (h3 : ∀ (i : Nat) c dv, cs[i]? = some c → dvs[i]? = some dv → w.ownsRow B 3 1 dv c.data.length (c.data.map (Value.int .i64)))
    (hd : w.ownsRow B 3 1 dv c.data.length (c.data.map (Value.int .i64)))
    (ho : w'.ownsRow B 41 5 v' (cs.length + 1) (compFlat cs dvs ++ compCells c dv)) (hg : w.grownBy w' v.ownBlock) : CompsOwn w' B v' (cs ++ [c]) := by
  refine ⟨dvs ++ [dv], by simp [h1], ?_, ?_⟩
  · rw [compFlat_snoc _ _ _ _ h1, List.length_append, List.length_singleton]
    exact ho
  · intro i c' dv' hc hdv
    rw [List.getElem?_append] at hc hdv
    by_cases hi : i < cs.length
    · rw [if_pos hi] at hc
      rw [if_pos (by omega)] at hdv
      exact owns_apart (h3 i c' dv' hc hdv) h2 (by decide) hg
    · rw [if_neg hi] at hc
      rw [if_neg (by omega)] at hdv
      have e1 : i - cs.length = 0 := by
        have := (List.getElem?_eq_some_iff.1 hc).1
        simp at this
        omega
      rw [h1] at hdv
      rw [e1] at hc hdv
      simp at hc hdv
      subst hc hdv
      exact owns_apart hd h2 (by decide) hg

/-- the samples of the first rows and of the first places of the next one -/
def dataTo (kind depth c : Int) (W J I : Nat) : List Int := dataD kind depth c W J ++ (List.range I).map fun (i : Nat) => pix kind depth c i J

theorem dataTo_length (kind depth c : Int) (W J I : Nat) : (dataTo kind depth c W J I).length = W * J + I := by
  unfold dataTo dataD
  simp [List.length_flatMap, Nat.mul_comm, List.map_const']
theorem dataTo_zero (kind depth c : Int) (W J : Nat) : dataTo kind depth c W J 0 = dataD kind depth c W J := by simp [dataTo]
theorem dataTo_succ (kind depth c : Int) (W J I : Nat) : dataTo kind depth c W J (I + 1) = dataTo kind depth c W J I ++ [pix kind depth c I J] := by
  simp [dataTo, List.range_succ]
theorem dataTo_row (kind depth c : Int) (W J : Nat) : dataTo kind depth c W J W = dataD kind depth c W (J + 1) := by
  simp [dataTo, dataD, List.range_succ]

theorem sampleD_bd (kind depth c i j : Int) (h1 : 0 ≤ c) (h2 : c ≤ 4) (h3 : 0 ≤ i) (h4 : i ≤ 64) (h5 : 0 ≤ j) (h6 : j ≤ 64) (h7 : 1 ≤ depth) (h8 : depth ≤ 16) : 0 ≤ sampleD kind depth c i j ∧ sampleD kind depth c i j ≤ 1000000 := by
  obtain ⟨p1, p2⟩ := pow_bd depth h7 h8
  unfold sampleD
  split
  · omega
  split
  · omega
  split
  · have : (i + j + c) % 2 = 0 ∨ (i + j + c) % 2 = 1 := by omega
    rcases this with h | h <;> rw [h] <;> omega
  · omega

theorem pix_bits (kind depth c i j : Int) (h1 : 0 ≤ c) (h2 : c ≤ 4) (h3 : 0 ≤ i) (h4 : i ≤ 64) (h5 : 0 ≤ j) (h6 : j ≤ 64) (h7 : 1 ≤ depth) (h8 : depth ≤ 16) :
    bits .and .i64 (sampleD kind depth c i j) (2 ^ depth.toNat - 1) = pix kind depth c i j := by
  obtain ⟨b1, b2⟩ := sampleD_bd kind depth c i j h1 h2 h3 h4 h5 h6 h7 h8
  exact and_mask depth.toNat (by omega) _ b1 (by omega)

theorem pix_wrap (kind depth c i j : Int) (h1 : 0 ≤ c) (h2 : c ≤ 4) (h3 : 0 ≤ i) (h4 : i ≤ 64) (h5 : 0 ≤ j) (h6 : j ≤ 64) (h7 : 1 ≤ depth) (h8 : depth ≤ 16) :
    bits .and .i64 (sampleD kind depth c i j) (IntKind.i64.wrap (IntKind.i64.wrap (2 ^ depth.toNat) - 1)) = pix kind depth c i j := by
  obtain ⟨p1, p2⟩ := pow_bd depth h7 h8
  rw [IntWalk.i64_in (2 ^ depth.toNat) (by omega), IntWalk.i64_in _ (by omega)]
  exact pix_bits kind depth c i j h1 h2 h3 h4 h5 h6 h7 h8

theorem byI_bd (n d : Int) (h1 : 0 ≤ n) (h2 : n ≤ 64) (h3 : d = 1 ∨ d = 2) : 0 ≤ byI n d ∧ byI n d ≤ n := by
  unfold byI
  rcases h3 with rfl | rfl <;> omega
theorem byI_mono (n m d : Int) (h1 : n ≤ m) (h3 : d = 1 ∨ d = 2) : byI n d ≤ byI m d := by
  unfold byI
  rcases h3 with rfl | rfl <;> omega
theorem wid_bd (x ox st : Int) (h1 : 0 ≤ ox) (h2 : ox < x) (h3 : x ≤ 64) (hs : st = 1 ∨ st = 2) : 0 ≤ wid x ox st ∧ wid x ox st ≤ 64 := by
  have a := byI_bd x st (by omega) (by omega) hs
  have b := byI_bd ox st (by omega) (by omega) hs
  have c := byI_mono ox x st (by omega) hs
  unfold wid
  omega
theorem mul_bd (W H : Nat) (h1 : W ≤ 64) (h2 : H ≤ 64) : W * H ≤ 4096 ∧ wrap64 ((W : Int) * (H : Int)) = ((W * H : Nat) : Int) := by
  have h : W * H ≤ 64 * 64 := Nat.mul_le_mul h1 h2
  refine ⟨h, ?_⟩
  rw [← Int.natCast_mul]
  exact IntWalk.wrap64_in _ ⟨by omega, by omega⟩
theorem stepOf_bd (kind c : Int) : stepOf kind c = 1 ∨ stepOf kind c = 2 := by unfold stepOf; split <;> simp

theorem Try.info3 : (Try.prog.info? 3).map (fun i => (i.zero, i.size, i.bytes)) = some (some (.int .i64 0), 1, 8) := by kernel_rfl
theorem Try.infoComp : (Try.prog.info? 41).map (fun i => (i.zero, i.size, i.bytes)) = some (some (.agg #[.int .i64 0, .bool false, .int .i64 0, .int .i64 0, .slice none 0 0]), 5, 56) := by kernel_rfl

set_option maxRecDepth 100000 in
set_option maxHeartbeats 4000000 in
theorem draw_ok (x y ox oy comps depth kind : Int) (w : World) (h1 : 0 ≤ ox) (h2 : 0 ≤ oy) (h3 : ox < x) (h4 : oy < y) (h5 : x ≤ 64) (h6 : y ≤ 64)
   (h7 : 1 ≤ comps) (h8 : comps ≤ 4) (h9 : 1 ≤ depth) (h10 : depth ≤ 16) (h11 : 0 ≤ kind) (h12 : kind ≤ 4) :
    Calls Try.prog 9 #[.int .i64 x, .int .i64 y, .int .i64 ox, .int .i64 oy, .int .i64 comps, .int .i64 depth, .int .i64 kind] w fun e w' =>
      ∃ v, e = .returned (.tuple #[.agg #[.int .i64 x, .int .i64 y, .int .i64 ox, .int .i64 oy, v], .int .i64 0]) ∧ CompsOwn w' (w.heap.size + 2) v (drawCs x y ox oy depth kind comps.toNat) ∧ Below w.heap.size w w' := by
  have d1 : decide (ox < 0) = false := by simp; omega
  have d2 : decide (oy < 0) = false := by simp; omega
  have d3 : decide (x ≤ ox) = false := by simp; omega
  have d4 : decide (y ≤ oy) = false := by simp; omega
  have d5 : decide (64 < x) = false := by simp; omega
  have d6 : decide (64 < y) = false := by simp; omega
  go_enter Try.func9, Try.ntmps9
  go_wp2_with (go_at_call 16; refine (within16 _ _ _ _ (by omega) (by omega)).mono ?_; rintro e w' ⟨rfl, rfl⟩)
  go_loopg [71] comps.toNat (fun g s71 wr => ∃ (k : Nat) (v : Value), (k : Int) ≤ comps ∧ g = comps.toNat - k ∧ s71 = .int .i64 k ∧
    wr.cell? ⟨w.heap.size + 1, 0, none⟩ = some (.int .i64 x) ∧ wr.cell? ⟨w.heap.size + 1, 1, none⟩ = some (.int .i64 y) ∧ wr.cell? ⟨w.heap.size + 1, 2, none⟩ = some (.int .i64 ox) ∧ wr.cell? ⟨w.heap.size + 1, 3, none⟩ = some (.int .i64 oy) ∧
    wr.cell? ⟨w.heap.size + 1, 4, none⟩ = some v ∧ (∀ j, wr.frozen? ⟨w.heap.size + 1, j, none⟩ = false) ∧
    (∀ j, j < 5 → ∃ u, wr.cell? ⟨w.heap.size, j, none⟩ = some u) ∧ (∀ j, wr.frozen? ⟨w.heap.size, j, none⟩ = false) ∧
    CompsOwn wr (w.heap.size + 2) v (drawCs x y ox oy depth kind k) ∧ Below w.heap.size w wr)
  case atStart =>
    refine ⟨0, .slice none 0 0, by omega, rfl, rfl, by simp, by simp, by simp, by simp, by simp, fun j => by simp, fun j hj => ?_, fun j => by simp, by simpa [drawCs] using CompsOwn.nil _ _, ((Below.refl _ _).alloc (Nat.le_refl _) _).alloc (by simp) _⟩
    match j, hj with
    | 0, _ => exact ⟨_, by simp; rfl⟩
    | 1, _ => exact ⟨_, by simp; rfl⟩
    | 2, _ => exact ⟨_, by simp; rfl⟩
    | 3, _ => exact ⟨_, by simp; rfl⟩
    | 4, _ => exact ⟨_, by simp; rfl⟩
  case round =>
    obtain ⟨wa, rfl⟩ : ∃ wa : World, wa = wr := ⟨_, rfl⟩
    obtain ⟨k, v, hk, rfl, rfl, c0, c1, c2, c3, c4, f1, c5, f2, hown, hbel⟩ := hrel
    have hsz := hbel.size
    by_cases hlt : (k : Int) < comps
    · go_upto_region 8 with fail
      go_cut [80] (fun s80 wx => s80 = .bool (decide (kind = 4 ∧ (k : Int) % 2 = 1)) ∧ wa = wx)
      case first =>
        cases g1 : (kind == 4) <;> cases g2 : ((k : Int) % 2 == 1)
        all_goals
          have G : Hid (decide (kind = 4 ∧ (k : Int) % 2 = 1) = ((kind == 4) && ((k : Int) % 2 == 1))) := by unfold Hid; rw [Bool.eq_iff_iff]; simp
          go_wp2
          go_meet
          exact ⟨by rw [G.out, g1, g2]; rfl, rfl⟩
      obtain ⟨rfl, rfl⟩ := hcut
      go_upto_if 80 with fail
      go_cut [18] (fun s18 wx => s18 = .int .i64 (stepOf kind k) ∧ wa = wx)
      case first =>
        cases g1 : decide (kind = 4 ∧ (k : Int) % 2 = 1)
        all_goals
          have G : Hid (stepOf kind k = if decide (kind = 4 ∧ (k : Int) % 2 = 1) = true then 2 else 1) := by unfold Hid stepOf; simp
          go_wp2
          go_meet
          exact ⟨by rw [G.out, g1]; rfl, rfl⟩
      obtain ⟨rfl, rfl⟩ := hcut
      have hst := stepOf_bd kind k
      have hst1 : 1 ≤ stepOf kind k := by omega
      have hst2 : stepOf kind k ≤ 2 := by omega
      clear hst
      go_upto_region 10 with fail
      go_cut [19, 20] (fun s19 s20 wx => ∃ W H : Nat, s19 = .int .i64 W ∧ s20 = .int .i64 H ∧ Hid ((W : Int) = wid x ox (stepOf kind k)) ∧ Hid ((H : Int) = wid y oy (stepOf kind k)) ∧ W ≤ 64 ∧ H ≤ 64 ∧ wa = wx)
      case first =>
        obtain ⟨a1, a2⟩ := byI_bd x (stepOf kind k) (by omega) h5 (stepOf_bd _ _)
        obtain ⟨a3, a4⟩ := byI_bd ox (stepOf kind k) (by omega) (by omega) (stepOf_bd _ _)
        obtain ⟨a5, a6⟩ := byI_bd y (stepOf kind k) (by omega) h6 (stepOf_bd _ _)
        obtain ⟨a7, a8⟩ := byI_bd oy (stepOf kind k) (by omega) (by omega) (stepOf_bd _ _)
        have wx1 := wid_bd x ox (stepOf kind k) h1 h3 h5 (stepOf_bd _ _)
        have wy1 := wid_bd y oy (stepOf kind k) h2 h4 h6 (stepOf_bd _ _)
        unfold wid at wx1 wy1
        obtain ⟨b1, b2⟩ := wx1
        obtain ⟨b3, b4⟩ := wy1
        go_wp2_with (go_at_call 17; refine (by_any _ _ _ (by omega) (by omega) (by omega) (by omega)).mono ?_; rintro e w' ⟨rfl, rfl⟩)
        go_meet
        exact ⟨(wid x ox (stepOf kind k)).toNat, (wid y oy (stepOf kind k)).toNat, by unfold wid; rw [Int.toNat_of_nonneg (by omega)], by unfold wid; rw [Int.toNat_of_nonneg (by omega)],
          by unfold Hid wid; rw [Int.toNat_of_nonneg (by omega)], by unfold Hid wid; rw [Int.toNat_of_nonneg (by omega)], by unfold wid; omega, by unfold wid; omega, rfl⟩
      obtain ⟨W, H, rfl, rfl, hW, hH, hW64, hH64, rfl⟩ := hcut
      have hWH := (mul_bd W H hW64 hH64).1
      have hsz2 := World.block_lt_of_cell? wa _ c0
      simp only at hsz2
      obtain ⟨i0, hi, hz0, hz1, hz2⟩ := info_parts Try.info3
      go_wp2_with (first
        | (at_make; go_loud (refine wpList_make_own _ rfl _ _ 39 rfl (w.heap.size + 2) 3 i0 (.int .i64 0) 1 Try.underlying39 hi hz0 hz1 _ _ _ (W * H) rfl rfl (Int.natCast_mul W H).symm (by rw [hz2]; omega) (by unfold maxLen; omega) (by omega) ?_; intro w3 hd3 hg3))
        | (go_at_call 18; go_loud (refine (sample_any _ _ _ _ (by omega) (by omega) (by omega) (by omega)).mono ?_; rintro e w4 ⟨f, rfl, hclos, hb2⟩)))
      have hsz3 := hg3.size
      have hsz5 := hb2.size
      have hd4 := owns_keepAll hd3 hb2
      have hg4 : wa.grownBy w4 none := ⟨hb2.os.trans hg3.os, hb2.tape.trans hg3.tape, hb2.output.trans hg3.output, Nat.le_trans hg3.size hb2.size, fun j hj _ => (hb2.block j (by omega)).trans (hg3.block j hj (by simp))⟩
      have hdlt := (hd3.lt wa.heap.size rfl).2
      obtain ⟨fn, cap, rfl, hcf, hcall⟩ := hclos
      clear hd3 hg3 hb2
      go_loopg [21, 104] H (fun g s21 s104 wx => ∃ J : Nat, J ≤ H ∧ g = H - J ∧ s104 = .int .i64 J ∧ s21 = .slice (some ⟨wa.heap.size, 0, none⟩) (W * J) (W * H) ∧
        wx.ownsRow (w.heap.size + 2) 3 1 s21 (W * J) ((dataTo kind depth k W J 0).map (Value.int .i64)) ∧ w4.grownBy wx (some wa.heap.size))
      case atStart =>
        exact ⟨0, Nat.zero_le _, rfl, rfl, by simp, by simpa [dataTo, dataD] using hd4, World.grownBy.refl _ _⟩
      case round =>
        obtain ⟨wb, rfl⟩ : ∃ wb : World, wb = wr := ⟨_, rfl⟩
        obtain ⟨J, hJ, rfl, rfl, rfl, hdx, hgx⟩ := hrel
        by_cases hJl : J < H
        · have hWJ : W * J + W ≤ W * H := by have := Nat.mul_le_mul_left W (show J + 1 ≤ H by omega); rw [Nat.mul_succ] at this; exact this
          go_wp2_with fail
          go_loopg [21, 108] W (fun g s21 s108 wy => ∃ I : Nat, I ≤ W ∧ g = W - I ∧ s108 = .int .i64 I ∧ s21 = .slice (some ⟨wa.heap.size, 0, none⟩) (W * J + I) (W * H) ∧
            wy.ownsRow (w.heap.size + 2) 3 1 s21 (W * J + I) ((dataTo kind depth k W J I).map (Value.int .i64)) ∧ w4.grownBy wy (some wa.heap.size))
          case atStart =>
            exact ⟨0, Nat.zero_le _, rfl, rfl, rfl, hdx, hgx⟩
          case round =>
            obtain ⟨I, hI, rfl, rfl, rfl, hdy, hgy⟩ := hrel
            by_cases hIl : I < W
            · go_wp2_with fail
              have hpx := Lib.hid (pix_wrap kind depth k I J (by omega) (by omega) (by omega) (by omega) (by omega) (by omega) h9 h10)
              have hp2 := pow_bd depth h9 h10
              obtain ⟨hp2, hp3⟩ := hp2
              have hcl := Lib.hid (hcall I J)
              clear hcall
              go_region_law (first
                | ((with_reducible refine step_call_closure2 (o := ⟨some 115, _, _, _, _, _⟩) rfl _ _ _ _ rfl fn cap ?_ hcf (.int .i64 I) (.int .i64 J) ?_ ?_ (hcl.out _ ?_ ?_ ?_ ?_ ?_) ?_); simp [Act.eval, Act.put]; simp [Act.eval, Act.put]; simp [Act.eval, Act.put]; omega; omega; omega; omega; exact fun b hb1 hb2 => hgy.block b hb2 (by simp; omega); rintro e w5 ⟨rfl, nq, rfl⟩; refine ⟨_, rfl, ?_⟩)
                | (go_must (with_reducible refine step_append_fits (o := ⟨some 121, _, _, _, _, _⟩) rfl (.tmp 111) (.tmp 120) 39 rfl (w.heap.size + 2) 3 i0 1 Try.underlying39 hi hz1 wa.heap.size (W * J + I) (W * H) ((dataTo kind depth k W J I).map (Value.int .i64)) ?_ ?_ ⟨wr.heap.size, 0, none⟩ 1 1 [.int .i64 (pix kind depth k I J)] ?_ ?_ ?_ ?_ ?_ ?_); simp [Act.eval]; exact World.ownsRow.alloc (owns_drewN _ hdy) _; simp [Act.eval]; rfl; exact news_one (by rw [← hpx.out]; exact cell_new wr _ _ _); exact ints_oneCell .i64 [_]; omega; intro w6 hown6 hg6))
              have hg6' : w4.grownBy w6 (some wa.heap.size) := grown_trans hgy (grown_trans (grown_drewN wr _ _) (grown_trans (World.grownBy_alloc _ _ _) hg6))
              have hown6' : w6.ownsRow (w.heap.size + 2) 3 1 (.slice (some ⟨wa.heap.size, 0, none⟩) (W * J + (I + 1)) (W * H)) (W * J + (I + 1)) ((dataTo kind depth k W J (I + 1)).map (Value.int .i64)) := by
                rw [dataTo_succ, List.map_append]; exact hown6
              clear hown6 hg6 hgy hdy hdx hgx hd4 hg4
              go_wp2_with fail
              go_roundg (W - (I + 1))
              case measure => omega
              case rel => exact ⟨I + 1, by omega, rfl, by go_num, rfl, hown6', hg6'⟩
            · obtain rfl : W = I := by omega
              clear hdx hgx hd4 hg4 hcall
              go_wp2_with fail
              go_roundg (H - (J + 1))
              case measure => omega
              case rel =>
                refine ⟨J + 1, by omega, rfl, by go_num, by rw [Nat.mul_succ], ?_, hgy⟩
                rw [dataTo_zero, ← dataTo_row, Nat.mul_succ]
                exact hdy
        · obtain rfl : H = J := by omega
          have hbA : Below wa.heap.size wa wb := (below_grown hg4 (Nat.le_refl _) (by simp)).trans (below_grown hgx hg4.size (fun j hj => by simp at hj; omega))
          obtain ⟨dvs, hdl, ho, hds⟩ := hown.keep hbA
          obtain ⟨i1, ci, cz0, cz1, cz2⟩ := info_parts Try.infoComp
          rw [dataTo_zero] at hdx
          have b0 := (hbA.cell (p := ⟨w.heap.size + 1, 0, none⟩) (by simp; omega)).trans c0
          have b1 := (hbA.cell (p := ⟨w.heap.size + 1, 1, none⟩) (by simp; omega)).trans c1
          have b2 := (hbA.cell (p := ⟨w.heap.size + 1, 2, none⟩) (by simp; omega)).trans c2
          have b3 := (hbA.cell (p := ⟨w.heap.size + 1, 3, none⟩) (by simp; omega)).trans c3
          have b4 := (hbA.cell (p := ⟨w.heap.size + 1, 4, none⟩) (by simp; omega)).trans c4
          have g1 : ∀ j, wb.frozen? ⟨w.heap.size + 1, j, none⟩ = false := fun j => (hbA.frozen (p := ⟨w.heap.size + 1, j, none⟩) (by simp; omega)).trans (f1 j)
          have g2 : ∀ j, wb.frozen? ⟨w.heap.size, j, none⟩ = false := fun j => (hbA.frozen (p := ⟨w.heap.size, j, none⟩) (by simp; omega)).trans (f2 j)
          have b5 : ∀ j, j < 5 → ∃ u, wb.cell? ⟨w.heap.size, j, none⟩ = some u := fun j hj => by rw [hbA.cell (p := ⟨w.heap.size, j, none⟩) (by simp; omega)]; exact c5 j hj
          have hvlt : ∀ j, v.ownBlock = some j → w.heap.size + 2 ≤ j := fun j hj => (ho.lt j hj).1
          have hsb := hbA.size
          have hbw : Below w.heap.size w wb := hbel.trans (hbA.mono hsz)
          have hdrawk : (drawCs x y ox oy depth kind k).length = k := by simp [drawCs]
          have HO := Lib.hid ho
          have HD := Lib.hid hds
          rw [hdrawk] at ho
          clear hds
          have eW : Hid ((wid x ox (stepOf kind k)).toNat = W) := by unfold Hid; have := hW.out; omega
          have eH : Hid ((wid y oy (stepOf kind k)).toNat = H) := by unfold Hid; have := hH.out; omega
          clear c0 c1 c2 c3 c4 c5 f1 f2 hown hd4 hg4 hgx hcall hcf hbA hbel
          go_wp2_with (at_builtin; go_must (refine wpList_append_own _ rfl _ _ 23 rfl (w.heap.size + 2) 41 i1 (.agg #[.int .i64 0, .bool false, .int .i64 0, .int .i64 0, .slice none 0 0]) 5 56 Try.underlying23 ci cz0 cz1 cz2 rfl (by decide) _ _ _ rfl (ho.alloc _) ⟨wb.heap.size, 0, none⟩ 1 1 [.int .i64 depth, .bool false, .int .i64 (stepOf kind k), .int .i64 (stepOf kind k), .slice (some ⟨wa.heap.size, 0, none⟩) (W * H) (W * H)] rfl rfl (news_block _ _ _) (by simp [Value.oneCell']) (by unfold maxLen; omega) (by omega) (by simp; omega) ?_; intro v' w7 hown7 hg7 hn7; obtain ⟨a7, p7, rfl⟩ := owns_slice hown7; have hk7 : ∀ b, b < w.heap.size + 2 → w7.heap[b]? = wb.heap[b]? := fun b hb => (hg7.block b (by simp; omega) (fun e => by have := hvlt b e.symm; omega)).trans (Below.heap_alloc wb _ b (by omega)); have q4 : w7.cell? ⟨w.heap.size + 1, 4, none⟩ = some v := (World.cell?_of_block (hk7 _ (by simp))).trans b4; have q5 : w7.frozen? ⟨w.heap.size + 1, 4, none⟩ = false := (World.frozen?_of_block (hk7 _ (by simp))).trans (g1 4); have H7 := Lib.hid hk7; clear hk7 hn7))
          go_roundg (comps.toNat - (k + 1))
          case measure => omega
          case rel =>
            have hk7 := H7.out
            have hc7 : ∀ j : Nat, w7.cell? ⟨w.heap.size + 1, j, none⟩ = wb.cell? ⟨w.heap.size + 1, j, none⟩ := fun j => World.cell?_of_block (hk7 _ (by simp))
            have hne : ∀ j : Nat, j ≠ 4 → (⟨w.heap.size + 1, 4, none⟩ : Addr) ≠ ⟨w.heap.size + 1, j, none⟩ := fun j hj h => hj (Addr.mk.inj h).2.1.symm
            refine ⟨k + 1, .slice a7 (k + 1) p7, by omega, rfl, by go_num, ?_, ?_, ?_, ?_, ?_, ?_, ?_, ?_, ?_, ?_⟩
            · rw [World.cell?_setCell_other (h := hne 0 (by omega)), hc7]; exact b0
            · rw [World.cell?_setCell_other (h := hne 1 (by omega)), hc7]; exact b1
            · rw [World.cell?_setCell_other (h := hne 2 (by omega)), hc7]; exact b2
            · rw [World.cell?_setCell_other (h := hne 3 (by omega)), hc7]; exact b3
            · exact World.cell?_setCell_same _ _ _ q4
            · intro j; rw [World.frozen?_setCell, World.frozen?_of_block (hk7 _ (by simp))]; exact g1 j
            · intro j hj
              obtain ⟨u, hu⟩ := b5 j hj
              exact ⟨u, by rw [World.cell?_setCell_other (h := by simp), World.cell?_of_block (hk7 _ (by simp))]; exact hu⟩
            · intro j; rw [World.frozen?_setCell, World.frozen?_of_block (hk7 _ (by simp))]; exact g2 j
            · have e1 : drawCs x y ox oy depth kind (k + 1) = drawCs x y ox oy depth kind k ++ [drawC x y ox oy depth kind k] := by simp [drawCs, List.range_succ]
              rw [e1]
              refine CompsOwn.setCell (CompsOwn.snoc hdl (World.ownsRow.alloc HO.out _) (fun i c dv hc hd => World.ownsRow.alloc (HD.out i c dv hc hd) _) (dv := .slice (some ⟨wa.heap.size, 0, none⟩) (W * H) (W * H)) ?_ ?_ hg7) (by simp) _
              · have e2 : (drawC x y ox oy depth kind k).data = dataD kind depth k W H := by unfold drawC; simp only [eW.out, eH.out]
                have e3 : (dataD kind depth k W H).length = W * H := by have := dataTo_length kind depth k W H 0; rw [dataTo_zero] at this; simpa using this
                rw [e2, e3]
                exact World.ownsRow.alloc hdx _
              · rw [hdrawk]
                exact hown7
            · exact (((hbw.alloc hbw.size _).trans (below_grown hg7 (by simp; omega) (fun j hj => by have := hvlt j hj; omega))).setCell (by simp) _)
    · obtain rfl : comps = k := by omega
      have hsz2 := World.block_lt_of_cell? wa _ c0
      simp only at hsz2
      obtain ⟨u0, m0⟩ := c5 0 (by omega)
      obtain ⟨u1, m1⟩ := c5 1 (by omega)
      obtain ⟨u2, m2⟩ := c5 2 (by omega)
      obtain ⟨u3, m3⟩ := c5 3 (by omega)
      obtain ⟨u4, m4⟩ := c5 4 (by omega)
      clear c5
      obtain ⟨dvs, hdl, ho, hds⟩ := hown
      have ho2 := ho
      obtain ⟨a7, p7, rfl⟩ := owns_slice ho
      go_wp2_with fail
      refine bodyPost_ret (v := .tuple #[.agg #[.int .i64 x, .int .i64 y, .int .i64 ox, .int .i64 oy, .slice a7 (drawCs x y ox oy depth kind k).length p7], .int .i64 0]) ?_ rfl ?_
      · simp [results, Try.results9, go_sem, m0, m1, m2, m3, m4]
      · refine ⟨_, rfl, ?_, ?_⟩
        · refine CompsOwn.setCell (CompsOwn.setCell (CompsOwn.setCell (CompsOwn.setCell (CompsOwn.setCell ⟨dvs, hdl, ho2, hds⟩ ?_ _) ?_ _) ?_ _) ?_ _) ?_ _ <;> simp
        · exact ((((hbel.setCell (by simp) _).setCell (by simp) _).setCell (by simp) _).setCell (by simp) _).setCell (by simp) _
end Go.Proofs.Ytblcplfgddgkoaa
