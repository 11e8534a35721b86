/- Packets of which no block has anything new: written. -/
import Derived.Test.YtnpoakabheeoeaaPe
import Derived.Test.YtnpoakabheeoeaaMba
import Derived.Test.YtnpoakabheeoeaaMrt
namespace Go.Proofs.Ytnpoakabheeoeaa
open Go.RowKit Go.Shelf
attribute [local go_sem] Oper.semAt_some

theorem plantStep_ss (c : Nat) (m : BandM) (k : Nat) : (plantStep c m k).ss = m.ss ∧ (plantStep c m k).planes = m.planes := by unfold plantStep; split <;> exact ⟨rfl, rfl⟩
theorem plantM_ss (c : Nat) (m : BandM) : (plantM c m).ss = m.ss ∧ (plantM c m).planes = m.planes := by
  unfold plantM
  split
  · exact ⟨rfl, rfl⟩
  · have : ∀ (l : List Nat) (n : BandM), (l.foldl (plantStep c) n).ss = n.ss ∧ (l.foldl (plantStep c) n).planes = n.planes := by
      intro l
      induction l with
      | nil => intro n; exact ⟨rfl, rfl⟩
      | cons k l ih => intro n; rw [List.foldl_cons, (ih _).1, (ih _).2]; exact plantStep_ss c n k
    exact this _ _
/-- the bands when the blocks' bands were laid -/
def encM (c : Nat) (M : Nat → BandM) (x : SpotX) : Nat → BandM := updM M x.d.bb (plantM c (M x.d.bb))
theorem encM_ss (c : Nat) (l : List SpotX) (M : Nat → BandM) (b : Nat) : ((l.foldl (encM c) M) b).ss = (M b).ss := by
  induction l generalizing M with
  | nil => rfl
  | cons x l ih =>
    rw [List.foldl_cons, ih]
    unfold encM updM
    split
    · rename_i h; rw [h]; exact (plantM_ss _ _).1
    · rfl
theorem mem_spots {D : List BandA} {x : SpotX} (h : x ∈ spotsOf D) : x.d ∈ D ∧ x.k < x.d.n := by
  simp only [spotsOf, spotsB, List.mem_flatMap, List.mem_map, List.mem_range] at h
  obtain ⟨d, hd, k, hk, rfl⟩ := h
  exact ⟨hd, hk⟩
/-- a list of bands -/
def ListH (v : Value) (D : List BandA) (H : List HB) : Prop := RowH 34 1 v D.length (D.map fun d => .pointer (some ⟨d.bb, 0, none⟩)) H
theorem BandsR.band {D : List BandA} {M : Nat → BandM} {H : List HB} (h : BandsR D M H) {d : BandA} (hd : d ∈ D) : ∃ b : BandG, b.model = M d.bb ∧ b.ok d ∧ ∀ x ∈ b.heap d, x ∈ H := by
  induction D generalizing H with
  | nil => cases hd
  | cons e D ih =>
    obtain ⟨H1, H2, rfl, ⟨b, k1, k2, rfl⟩, h2⟩ := h
    rcases List.mem_cons.1 hd with rfl | hd
    · exact ⟨b, k1, k2, fun x hx => List.mem_append_left _ hx⟩
    · obtain ⟨b, k1, k2, k3⟩ := ih h2 hd
      exact ⟨b, k1, k2, fun x hx => List.mem_append_right _ (k3 x hx)⟩
theorem ListH.sp {A : Option Addr} {c box : Nat} {D : List BandA} {M : Nat → BandM} {HL H Hall : List HB} {W : World} (h : ListH (.slice A D.length c) D HL) (k : BandsR D M H) (hs : Sat W Hall) (hb : (⟨box, 26, #[.slice A D.length c]⟩ : HB) ∈ Hall) (h1 : ∀ x ∈ HL, x ∈ Hall) (h2 : ∀ x ∈ H, x ∈ Hall) : SpR W box A c D := by
  refine ⟨(hs.2 _ hb).cell 0, fun j d hj => ?_, fun d hd => ?_⟩
  · have hn : 0 < D.length := by have := (List.getElem?_eq_some_iff.1 hj).1; omega
    obtain ⟨g, cap, cur, hv, e1, e2, e3, e4, hH⟩ := RowH.form h hn
    cases hv
    refine ⟨g, rfl, ?_⟩
    have := (hs.2 _ (h1 _ (by rw [hH]; exact List.mem_cons_self))).cell j
    rw [this]
    have hj2 := (List.getElem?_eq_some_iff.1 hj).1
    have e5 : (cur.toList.take (D.length * 1))[j]? = some (.pointer (some ⟨d.bb, 0, none⟩)) := by rw [e4, List.getElem?_map, hj]; rfl
    rw [List.getElem?_take, if_pos (by omega), Array.getElem?_toList] at e5
    exact e5
  · obtain ⟨b, k1, k2, k3⟩ := k.band hd
    exact (hs.2 _ (h2 _ (k3 _ (b.mem_band d)))).cell 0
/-- the walk's own blocks -/
def encX (n0 : Nat) (A : Option Addr) (n c : Nat) (style count layer : Int) (more : Bool) : List HB := [⟨n0 + 5, 26, #[.slice A n c]⟩, ⟨n0 + 4, 4, #[.bool more]⟩, ⟨n0 + 3, 30, #[.slice none 0 0]⟩, ⟨n0 + 2, 3, #[.int .i64 layer]⟩, ⟨n0 + 1, 3, #[.int .i64 count]⟩, ⟨n0, 3, #[.int .i64 style]⟩]
theorem encX_no (n0 : Nat) (A : Option Addr) (n c : Nat) (style count layer : Int) (more : Bool) : NoSpot (encX n0 A n c style count layer more) := by
  intro x hx
  simp only [encX, List.mem_cons, List.not_mem_nil, or_false] at hx
  rcases hx with rfl | rfl | rfl | rfl | rfl | rfl
  · exact (show 26 ≠ 67 by decide)
  · exact (show 4 ≠ 67 by decide)
  · exact (show 30 ≠ 67 by decide)
  · exact (show 3 ≠ 67 by decide)
  · exact (show 3 ≠ 67 by decide)
  · exact (show 3 ≠ 67 by decide)
def encP1 (n0 : Nat) (A : Option Addr) (c : Nat) (D : List BandA) (style layer : Int) (count : Nat) (HL : List HB) (M : Nat → BandM) (pre : List (SpotIn D)) (H : List HB) : Prop :=
  ∃ HB', H = encX n0 A D.length c style count layer false ++ (HL ++ HB') ∧ BandsR D ((pre.map (·.1)).foldl (encM count) M) HB'
/-- bands that have nothing new at a layer -/
def NoneNew (D : List BandA) (M : Nat → BandM) (count : Nat) (layer : Int) : Prop := ∀ d ∈ D, ∀ s ∈ (M d.bb).ss, passN s.ps.length count (layer + 1) ≤ s.said

theorem results_tmp_cell {fn : Func} {p u : Tmp} {ty : TypeId} (h : fn.results = #[.tmp u, .cell p ty]) (tmps : Array Value) (P : Program) (w : World) :
    (results fn tmps).run P w = ((asAddr (tmps.getD p undef)).run P w).andThen fun a w₁ => ((loadVar ty a).run P w₁).andThen fun v w₂ => .ok (.tuple #[tmps.getD u undef, v]) w₂ := by
  simp only [results, h]
  simp [Sem.run_bind, Result.andThen]
theorem enc_results (tmps : Array Value) (w : World) (v : Value) (g : Nat) (h8 : tmps.getD 8 undef = v) (h9 : tmps.getD 9 undef = .pointer (some ⟨g, 0, none⟩)) (hb : Blk w g 30 #[.slice none 0 0]) :
    (results Try.f11 tmps).run Try.prog w = .ok (.tuple #[v, .slice none 0 0]) w := by
  rw [results_tmp_cell (u := 8) (p := 9) (ty := 30) rfl, h8, h9]
  have c0 := hb.cell 0
  simp only [asAddr]
  go_simp
set_option maxRecDepth 100000 in
set_option maxHeartbeats 400000 in
theorem enc_none (A : Option Addr) (c : Nat) (D : List BandA) (M : Nat → BandM) (style layer : Int) (count : Nat) (HL HB0 : List HB) (W : World) (hD : D.length ≤ 1000) (hL : ListH (.slice A D.length c) D HL) (hB : BandsR D M HB0) (hs : Sat W (HL ++ HB0)) (hct : count ≤ 100000) (hly : 0 ≤ layer ∧ layer ≤ 10000) (hno : NoneNew D M count layer) :
    Calls Try.prog 11 #[.slice A D.length c, .int .i64 style, .int .i64 (count : Int), .int .i64 layer] W fun e W' => ∃ v H1 HB', e = .returned (.tuple #[v, .slice none 0 0]) ∧ RowB v [0] H1 ∧ BandsR D ((spotsOf D).foldl (encM count) M) HB' ∧ Mv W (HL ++ HB0) W' (H1 ++ (HL ++ HB')) := by
  refine (callsIn_wide (n := 8)).1 ?_
  refine callsIn_of_wp_marks Try.func11 rfl trivial ?_ rfl
  simp only [Try.ntmps11, List.size_toArray, List.length_cons, List.length_nil, Nat.reduceAdd, Nat.reduceSub, Array.replicate_succ, Array.replicate_zero, List.push_toArray, List.append_toArray, List.nil_append, List.cons_append]
  have K1 := ((((((Mv.refl hs).alloc 3 #[.int .i64 style]).alloc 3 #[.int .i64 (count : Int)]).alloc 3 #[.int .i64 layer]).alloc 30 #[.slice none 0 0]).alloc 4 #[.bool false]).alloc 26 #[.slice A D.length c]
  simp only [World.size_alloc] at K1
  have K := Lib.hid K1
  have KI := Lib.hid (And.intro hL (And.intro hB (And.intro hno hs)))
  clear K1 hs hL hB hno
  gi_wp2_with (refine ⟨trivial, ?_⟩; gi_at_call 22; refine (callsIn_wide.2 (spots_any _ _ _ _)).mono ?_; rintro e w' ⟨rfl, rfl⟩)
  refine range_spots1 (by omega) 11 W (HL ++ HB0) (by simp; omega) (box := W.heap.size + 5) (c := c) (A := A) (D := D) rfl (by omega) (fun e he => by obtain ⟨b, -, k2, -⟩ := KI.out.2.1.band he; have := k2.small; omega)
    (encP1 W.heap.size A c D style layer count HL M) (fun _ _ => False) ?sp ?no ⟨_, ⟨HB0, rfl, KI.out.2.1⟩, K.out⟩ ?assign ?body ?done ?stop
  case sp =>
    rintro pre H w ⟨HB', rfl, h2⟩ hs
    exact ListH.sp KI.out.1 h2 hs (List.mem_append_left _ List.mem_cons_self) (fun x hx => List.mem_append_right _ (List.mem_append_left _ hx)) (fun x hx => List.mem_append_right _ (List.mem_append_right _ hx))
  case no =>
    rintro pre H ⟨HB', rfl, h2⟩
    exact (encX_no _ _ _ _ _ _ _ _).append ((NoSpot.row KI.out.1 (by decide)).append h2.noSpot)
  case assign =>
    intro l x y z w K hK
    simp only [List.setIfInBounds_toArray, List.set_cons_succ, List.set_cons_zero] at hK ⊢
    gi_wp2
    exact hK
  case body =>
    intro l pre x hx B w H hr hP hs hlen
    simp only [List.setIfInBounds_toArray, List.set_cons_succ, List.set_cons_zero]
    obtain ⟨HB1, rfl, hBs⟩ := hP
    obtain ⟨hxd, hxk⟩ := mem_spots hx
    obtain ⟨d, k⟩ := x
    simp only at hxd hxk
    obtain ⟨PS, hPS⟩ : ∃ PS, spPost w (⟨B, 67, SpotX.cells ⟨d, k⟩⟩ :: (encX W.heap.size A D.length c style count layer false ++ (HL ++ HB1))) (encP1 W.heap.size A c D style layer count HL M) (fun _ _ => False) (pre ++ [⟨⟨d, k⟩, hx⟩]) = PS := ⟨_, rfl⟩
    have LP : Hid (¬LetsOut PS) := Lib.hid (by rw [← hPS]; rintro ⟨a, w, h⟩; exact h)
    rw [hPS]
    obtain ⟨M1, hM1⟩ : ∃ M1, (pre.map (·.1)).foldl (encM count) M = M1 := ⟨_, rfl⟩
    rw [hM1] at hBs
    obtain ⟨XX, hXX⟩ : ∃ XX, XX = (⟨B, 67, SpotX.cells ⟨d, k⟩⟩ :: encX W.heap.size A D.length c style count layer false : List HB) := ⟨_, rfl⟩
    obtain ⟨HH, hHH⟩ : ∃ HH, HH = XX ++ (HL ++ HB1) := ⟨_, rfl⟩
    have M0 : Mv w HH w HH := Mv.refl (by rw [hHH, hXX]; exact hs)
    have hkn : k < 4096 := by obtain ⟨b, -, k2, -⟩ := hBs.band hxd; exact Nat.lt_of_lt_of_le hxk k2.small
    have PL : Hid (Calls Try.prog 23 #[.pointer (some ⟨d.bb, 0, none⟩), .int .i64 (count : Int)] w fun e w2 => e = .returned (.tuple #[]) ∧ ∃ HB2, BandsR D (encM count M1 ⟨d, k⟩) HB2 ∧ Mv w HH w2 (XX ++ (HL ++ HB2))) := Lib.hid (by
      obtain ⟨H1, R, r1, sm, back⟩ := hBs.split (Sat.right (Sat.right (A := XX) (by rw [← hHH]; exact M0.sat))).1 hxd
      have m1 : Mv w HH w (H1 ++ (XX ++ (HL ++ R))) := by
        refine M0.sub (fun g => ?_) (fun y hy => ?_)
        · have := sm.1 g
          rw [hHH]
          simp only [cnt_append] at this ⊢
          omega
        · have := sm.2 y
          rw [hHH]
          simp only [List.mem_append] at this hy ⊢
          grind
      refine (plant_any d _ w H1 r1 m1.sat.left count hct).mono ?_
      rintro e w2 ⟨rfl, H1', h1, h2⟩
      obtain ⟨HB2, h3, h4⟩ := back _ _ h1
      refine ⟨rfl, HB2, h3, (Mv.call m1 h2).sub (fun g => ?_) (fun y hy => ?_)⟩
      · have := h4.1 g
        simp only [cnt_append] at this ⊢
        omega
      · have := h4.2 y
        simp only [List.mem_append] at this hy ⊢
        grind)
    have BX : Hid (∀ w' HB2, Mv w HH w' (XX ++ (HL ++ HB2)) → w'.cell? ⟨B, 0, none⟩ = some (.pointer (some ⟨d.lb, k * 5, none⟩)) ∧ w'.cell? ⟨B, 1, none⟩ = some (.pointer (some ⟨d.bb, 0, none⟩)) ∧ w'.cell? ⟨B, 2, none⟩ = some (.int .i64 (k : Int)) ∧ w'.cell? ⟨W.heap.size + 1, 0, none⟩ = some (.int .i64 (count : Int)) ∧ w'.cell? ⟨W.heap.size + 2, 0, none⟩ = some (.int .i64 layer) ∧
        w'.cell? ⟨W.heap.size + 4, 0, none⟩ = some (.bool false) ∧ w'.frozen? ⟨W.heap.size + 4, 0, none⟩ = false) := Lib.hid (by
      intro w' HB2 m
      have a1 := Mv.blkm m (List.mem_append_left _ (by rw [hXX]; exact List.mem_cons_self))
      have a2 := Mv.blkm m (x := ⟨W.heap.size + 1, 3, #[.int .i64 (count : Int)]⟩) (List.mem_append_left _ (by rw [hXX]; simp [encX]))
      have a3 := Mv.blkm m (x := ⟨W.heap.size + 2, 3, #[.int .i64 layer]⟩) (List.mem_append_left _ (by rw [hXX]; simp [encX]))
      have a4 := Mv.blkm m (x := ⟨W.heap.size + 4, 4, #[.bool false]⟩) (List.mem_append_left _ (by rw [hXX]; simp [encX]))
      exact ⟨a1.cell 0, a1.cell 1, a1.cell 2, a2.cell 0, a3.cell 0, a4.cell 0, a4.frozen 0⟩)
    have BS : Hid (∀ HB2, BandsR D (encM count M1 ⟨d, k⟩) HB2 → ∃ (np cp : Nat) (A' : Option Addr) (said : Int), np ≤ 1000 ∧ passN np count (layer + 1) ≤ said ∧ ∀ w', Mv w HH w' (XX ++ (HL ++ HB2)) → w'.cell? ⟨d.lb, k * 5 + 1, none⟩ = some (.slice A' np cp) ∧ w'.cell? ⟨d.lb, k * 5 + 3, none⟩ = some (.int .i64 said)) := Lib.hid (by
      intro HB2 h2
      obtain ⟨b, k1, k2, k3⟩ := h2.band hxd
      obtain ⟨st, hst⟩ : ∃ st, b.G[k]? = some st := ⟨_, List.getElem?_eq_getElem (by rw [k2.len]; exact hxk)⟩
      have hso := k2.st st (List.mem_of_getElem? hst)
      obtain ⟨A', cp, hvp⟩ := hso.passes
      refine ⟨st.m.ps.length, cp, A', st.m.said, hso.2.2.np, ?_, fun w' m => ?_⟩
      · refine KI.out.2.2.1 d hxd st.m ?_
        have e1 : (encM count M1 ⟨d, k⟩ d.bb).ss = (M d.bb).ss := by
          have := encM_ss count (pre.map (·.1) ++ [⟨d, k⟩]) M d.bb
          rw [List.foldl_append, hM1] at this
          exact this
        rw [← e1, ← k1]
        exact List.mem_map.2 ⟨st, List.mem_of_getElem? hst, rfl⟩
      · have a5 := Mv.blkm m (List.mem_append_right _ (List.mem_append_right _ (k3 _ (b.mem_states d))))
        have a6 := state_cells a5 hst
        rw [hvp] at a6
        exact ⟨a6.2.1, a6.2.2.2.1⟩)
    have FIN : Hid (∀ (a : Act) (w4 : World) (HB2 : List HB), BandsR D (encM count M1 ⟨d, k⟩) HB2 → Mv w HH w4 (XX ++ (HL ++ HB2)) → PS .normal a w4) := Lib.hid (by
      intro a w4 HB2 h2 m4
      rw [← hPS]
      rw [hHH, hXX] at m4
      refine ⟨encX W.heap.size A D.length c style count layer false ++ (HL ++ HB2), ⟨HB2, rfl, ?_⟩, Mv.drop1 m4⟩
      rw [List.map_append, List.foldl_append, hM1]
      exact h2)
    have ST : Hid (∀ w4 HB2, Mv w HH w4 (XX ++ (HL ++ HB2)) → Mv w HH (w4.setCell ⟨W.heap.size + 4, 0, none⟩ (.bool false)) (XX ++ (HL ++ HB2))) := Lib.hid (by
      intro w4 HB2 m4
      rw [hXX] at m4 ⊢
      exact Mv.setAt (A := [_, _]) m4 0 (.bool false))
    obtain ⟨b0, b1, b2, b3, b4, b5, b6⟩ := BX.out w HB1 (by rw [← hHH]; exact M0)
    clear M0 hs hBs K KI hlen hXX hHH hM1 hPS
    gi_wp2_with (refine ⟨trivial, ?_⟩; gi_at_call 23; refine (CallsIn.inRound l (callsIn_wide.2 PL.out)).mono ?_; rintro e w2 ⟨rfl, HB2, h2, m2⟩; have K2 := Lib.hid (And.intro h2 m2); clear h2 m2)
    clear b0 b1 b2 b3 b4 b5 b6
    obtain ⟨np, cp, A', said, hnp, hsd, BC⟩ := BS.out HB2 K2.out.1
    obtain ⟨b0, b1, b2, b3, b4, b5, b6⟩ := BX.out w2 HB2 K2.out.2
    obtain ⟨c1, c3⟩ := BC w2 K2.out.2
    have BC := Lib.hid BC
    have d1 : decide (said < passN np count (layer + 1)) = false := by simp; omega
    have C1 : Hid (Calls Try.prog 24 #[.agg #[.pointer (some ⟨d.lb, k * 5, none⟩), .pointer (some ⟨d.bb, 0, none⟩), .int .i64 (k : Int)], .int .i64 (count : Int), .int .i64 layer] w2.drew fun e w3 => e = .returned (.int .i64 (passN np count (layer + 1))) ∧ Hid (Mv w HH w3 (XX ++ (HL ++ HB2))) ∧ w3.cell? ⟨B, 0, none⟩ = some (.pointer (some ⟨d.lb, k * 5, none⟩)) ∧
        w3.cell? ⟨W.heap.size + 4, 0, none⟩ = some (.bool false) ∧ w3.frozen? ⟨W.heap.size + 4, 0, none⟩ = false ∧ w3.cell? ⟨d.lb, k * 5 + 3, none⟩ = some (.int .i64 said) ∧ w3.cell? ⟨W.heap.size + 1, 0, none⟩ = some (.int .i64 (count : Int)) ∧ w3.cell? ⟨W.heap.size + 2, 0, none⟩ = some (.int .i64 layer)) := Lib.hid (by
      refine (fresh_any ⟨d, k⟩ count layer w2.drew A' np cp c1 (by simp; omega) (by omega) ⟨by omega, by omega⟩ ⟨by omega, by omega⟩).mono ?_
      rintro e w3 ⟨rfl, m3⟩
      have m4 := Mv.call (H := []) (H' := []) (Mv.drew K2.out.2) m3
      obtain ⟨a0, a1, a2, a3, a4, a5, a6⟩ := BX.out w3 HB2 m4
      exact ⟨rfl, Lib.hid m4, a0, a5, a6, (BC.out w3 m4).2, a3, a4⟩)
    have hmx : Try.prog.follows .mixedOrders = true := by kernel_rfl
    obtain ⟨C, hC⟩ : ∃ C : World → Prop, C = fun w' => Hid (Mv w HH w' (XX ++ (HL ++ HB2))) := ⟨_, rfl⟩
    have CF : ∀ w', C w' → w'.cell? ⟨B, 0, none⟩ = some (.pointer (some ⟨d.lb, k * 5, none⟩)) ∧ w'.cell? ⟨B, 1, none⟩ = some (.pointer (some ⟨d.bb, 0, none⟩)) ∧ w'.cell? ⟨B, 2, none⟩ = some (.int .i64 (k : Int)) ∧ w'.cell? ⟨W.heap.size + 4, 0, none⟩ = some (.bool false) ∧ w'.frozen? ⟨W.heap.size + 4, 0, none⟩ = false ∧ w'.cell? ⟨d.lb, k * 5 + 3, none⟩ = some (.int .i64 said) ∧ w'.cell? ⟨W.heap.size + 1, 0, none⟩ = some (.int .i64 (count : Int)) ∧ w'.cell? ⟨W.heap.size + 2, 0, none⟩ = some (.int .i64 layer) := by
      intro w' h
      rw [hC] at h
      obtain ⟨a0, a1, a2, a3, a4, a5, a6⟩ := BX.out w' HB2 h.out
      exact ⟨a0, a1, a2, a5, a6, (BC.out w' h.out).2, a3, a4⟩
    have CK : ∀ w', C w' → Calls Try.prog 24 #[.agg #[.pointer (some ⟨d.lb, k * 5, none⟩), .pointer (some ⟨d.bb, 0, none⟩), .int .i64 (k : Int)], .int .i64 (count : Int), .int .i64 layer] w' fun e w3 => e = .returned (.int .i64 (passN np count (layer + 1))) ∧ C w3 := by
      intro w' h
      rw [hC] at h ⊢
      refine (fresh_any ⟨d, k⟩ count layer w' A' np cp (BC.out w' h.out).1 (by simp; omega) (by omega) ⟨by omega, by omega⟩ ⟨by omega, by omega⟩).mono ?_
      rintro e w3 ⟨rfl, m3⟩
      exact ⟨rfl, Lib.hid (Mv.call (H := []) (H' := []) h.out m3)⟩
    have CD : C w2.drew := by rw [hC]; exact Lib.hid (Mv.drew K2.out.2)
    replace CF := Lib.hid CF
    replace CK := Lib.hid CK
    have HC := Lib.hid hC
    clear hC
    clear hnp hsd b0 b1 b2 b3 b4 b5 b6 c1 c3 C1
    refine round_quiet_tail 13 C hmx (by kernel_rfl) (fun ⟨a, w, h⟩ => LP.out ⟨a, w, h⟩) CD (by kernel_rfl) ?_
    simp only [List.take_succ_cons, List.take_zero, List.drop_succ_cons, List.drop_zero]
    (first | (refine qc_pass ?hw1 ?nx1; (case hw1 => (go_simp; done)); (try simp only [Act.put, List.setIfInBounds_toArray, List.set_cons_zero, List.set_cons_succ])) | (refine qc_one ?v1 ?hw1 (fun w' hw' => ?hr1) ?nx1; (case hw1 => (go_simp; done)); (case hr1 => (first | (refine qc_val ?_; (obtain ⟨a0, a1, a2, a3, a4, a5, a6, a7⟩ := CF.out w' hw'); clear hw'; go_simp; done) | (refine qc_val ?_; (obtain ⟨a0, a1, a2, a3, a4, a5, a6, a7⟩ := CF.out w' hw'); clear hw'; go_simp; rfl) | (refine qc_call (f := ?f1) (args := ?args1) ?h11 ?h21; (case h11 => ((obtain ⟨a0, a1, a2, a3, a4, a5, a6, a7⟩ := CF.out w' hw'); go_simp; constructor <;> rfl)); (case h21 => (exact CK.out w' hw'))) | (refine qc_skip ?_; (obtain ⟨a0, a1, a2, a3, a4, a5, a6, a7⟩ := CF.out w' hw'); clear hw'; go_simp; done))); (try simp only [Act.put, List.setIfInBounds_toArray, List.set_cons_zero, List.set_cons_succ])))
    (first | (refine qc_pass ?hw2 ?nx2; (case hw2 => (go_simp; done)); (try simp only [Act.put, List.setIfInBounds_toArray, List.set_cons_zero, List.set_cons_succ])) | (refine qc_one ?v2 ?hw2 (fun w' hw' => ?hr2) ?nx2; (case hw2 => (go_simp; done)); (case hr2 => (first | (refine qc_val ?_; (obtain ⟨a0, a1, a2, a3, a4, a5, a6, a7⟩ := CF.out w' hw'); clear hw'; go_simp; done) | (refine qc_val ?_; (obtain ⟨a0, a1, a2, a3, a4, a5, a6, a7⟩ := CF.out w' hw'); clear hw'; go_simp; rfl) | (refine qc_call (f := ?f2) (args := ?args2) ?h12 ?h22; (case h12 => ((obtain ⟨a0, a1, a2, a3, a4, a5, a6, a7⟩ := CF.out w' hw'); go_simp; constructor <;> rfl)); (case h22 => (exact CK.out w' hw'))) | (refine qc_skip ?_; (obtain ⟨a0, a1, a2, a3, a4, a5, a6, a7⟩ := CF.out w' hw'); clear hw'; go_simp; done))); (try simp only [Act.put, List.setIfInBounds_toArray, List.set_cons_zero, List.set_cons_succ])))
    (first | (refine qc_pass ?hw3 ?nx3; (case hw3 => (go_simp; done)); (try simp only [Act.put, List.setIfInBounds_toArray, List.set_cons_zero, List.set_cons_succ])) | (refine qc_one ?v3 ?hw3 (fun w' hw' => ?hr3) ?nx3; (case hw3 => (go_simp; done)); (case hr3 => (first | (refine qc_val ?_; (obtain ⟨a0, a1, a2, a3, a4, a5, a6, a7⟩ := CF.out w' hw'); clear hw'; go_simp; done) | (refine qc_val ?_; (obtain ⟨a0, a1, a2, a3, a4, a5, a6, a7⟩ := CF.out w' hw'); clear hw'; go_simp; rfl) | (refine qc_call (f := ?f3) (args := ?args3) ?h13 ?h23; (case h13 => ((obtain ⟨a0, a1, a2, a3, a4, a5, a6, a7⟩ := CF.out w' hw'); go_simp; constructor <;> rfl)); (case h23 => (exact CK.out w' hw'))) | (refine qc_skip ?_; (obtain ⟨a0, a1, a2, a3, a4, a5, a6, a7⟩ := CF.out w' hw'); clear hw'; go_simp; done))); (try simp only [Act.put, List.setIfInBounds_toArray, List.set_cons_zero, List.set_cons_succ])))
    (first | (refine qc_pass ?hw4 ?nx4; (case hw4 => (go_simp; done)); (try simp only [Act.put, List.setIfInBounds_toArray, List.set_cons_zero, List.set_cons_succ])) | (refine qc_one ?v4 ?hw4 (fun w' hw' => ?hr4) ?nx4; (case hw4 => (go_simp; done)); (case hr4 => (first | (refine qc_val ?_; (obtain ⟨a0, a1, a2, a3, a4, a5, a6, a7⟩ := CF.out w' hw'); clear hw'; go_simp; done) | (refine qc_val ?_; (obtain ⟨a0, a1, a2, a3, a4, a5, a6, a7⟩ := CF.out w' hw'); clear hw'; go_simp; rfl) | (refine qc_call (f := ?f4) (args := ?args4) ?h14 ?h24; (case h14 => ((obtain ⟨a0, a1, a2, a3, a4, a5, a6, a7⟩ := CF.out w' hw'); go_simp; constructor <;> rfl)); (case h24 => (exact CK.out w' hw'))) | (refine qc_skip ?_; (obtain ⟨a0, a1, a2, a3, a4, a5, a6, a7⟩ := CF.out w' hw'); clear hw'; go_simp; done))); (try simp only [Act.put, List.setIfInBounds_toArray, List.set_cons_zero, List.set_cons_succ])))
    (first | (refine qc_pass ?hw5 ?nx5; (case hw5 => (go_simp; done)); (try simp only [Act.put, List.setIfInBounds_toArray, List.set_cons_zero, List.set_cons_succ])) | (refine qc_one ?v5 ?hw5 (fun w' hw' => ?hr5) ?nx5; (case hw5 => (go_simp; done)); (case hr5 => (first | (refine qc_val ?_; (obtain ⟨a0, a1, a2, a3, a4, a5, a6, a7⟩ := CF.out w' hw'); clear hw'; go_simp; done) | (refine qc_val ?_; (obtain ⟨a0, a1, a2, a3, a4, a5, a6, a7⟩ := CF.out w' hw'); clear hw'; go_simp; rfl) | (refine qc_call (f := ?f5) (args := ?args5) ?h15 ?h25; (case h15 => ((obtain ⟨a0, a1, a2, a3, a4, a5, a6, a7⟩ := CF.out w' hw'); go_simp; constructor <;> rfl)); (case h25 => (exact CK.out w' hw'))) | (refine qc_skip ?_; (obtain ⟨a0, a1, a2, a3, a4, a5, a6, a7⟩ := CF.out w' hw'); clear hw'; go_simp; done))); (try simp only [Act.put, List.setIfInBounds_toArray, List.set_cons_zero, List.set_cons_succ])))
    (first | (refine qc_pass ?hw6 ?nx6; (case hw6 => (go_simp; done)); (try simp only [Act.put, List.setIfInBounds_toArray, List.set_cons_zero, List.set_cons_succ])) | (refine qc_one ?v6 ?hw6 (fun w' hw' => ?hr6) ?nx6; (case hw6 => (go_simp; done)); (case hr6 => (first | (refine qc_val ?_; (obtain ⟨a0, a1, a2, a3, a4, a5, a6, a7⟩ := CF.out w' hw'); clear hw'; go_simp; done) | (refine qc_val ?_; (obtain ⟨a0, a1, a2, a3, a4, a5, a6, a7⟩ := CF.out w' hw'); clear hw'; go_simp; rfl) | (refine qc_call (f := ?f6) (args := ?args6) ?h16 ?h26; (case h16 => ((obtain ⟨a0, a1, a2, a3, a4, a5, a6, a7⟩ := CF.out w' hw'); go_simp; constructor <;> rfl)); (case h26 => (exact CK.out w' hw'))) | (refine qc_skip ?_; (obtain ⟨a0, a1, a2, a3, a4, a5, a6, a7⟩ := CF.out w' hw'); clear hw'; go_simp; done))); (try simp only [Act.put, List.setIfInBounds_toArray, List.set_cons_zero, List.set_cons_succ])))
    (first | (refine qc_pass ?hw7 ?nx7; (case hw7 => (go_simp; done)); (try simp only [Act.put, List.setIfInBounds_toArray, List.set_cons_zero, List.set_cons_succ])) | (refine qc_one ?v7 ?hw7 (fun w' hw' => ?hr7) ?nx7; (case hw7 => (go_simp; done)); (case hr7 => (first | (refine qc_val ?_; (obtain ⟨a0, a1, a2, a3, a4, a5, a6, a7⟩ := CF.out w' hw'); clear hw'; go_simp; done) | (refine qc_val ?_; (obtain ⟨a0, a1, a2, a3, a4, a5, a6, a7⟩ := CF.out w' hw'); clear hw'; go_simp; rfl) | (refine qc_call (f := ?f7) (args := ?args7) ?h17 ?h27; (case h17 => ((obtain ⟨a0, a1, a2, a3, a4, a5, a6, a7⟩ := CF.out w' hw'); go_simp; constructor <;> rfl)); (case h27 => (exact CK.out w' hw'))) | (refine qc_skip ?_; (obtain ⟨a0, a1, a2, a3, a4, a5, a6, a7⟩ := CF.out w' hw'); clear hw'; go_simp; done))); (try simp only [Act.put, List.setIfInBounds_toArray, List.set_cons_zero, List.set_cons_succ])))
    (first | (refine qc_pass ?hw8 ?nx8; (case hw8 => (go_simp; done)); (try simp only [Act.put, List.setIfInBounds_toArray, List.set_cons_zero, List.set_cons_succ])) | (refine qc_one ?v8 ?hw8 (fun w' hw' => ?hr8) ?nx8; (case hw8 => (go_simp; done)); (case hr8 => (first | (refine qc_val ?_; (obtain ⟨a0, a1, a2, a3, a4, a5, a6, a7⟩ := CF.out w' hw'); clear hw'; go_simp; done) | (refine qc_val ?_; (obtain ⟨a0, a1, a2, a3, a4, a5, a6, a7⟩ := CF.out w' hw'); clear hw'; go_simp; rfl) | (refine qc_call (f := ?f8) (args := ?args8) ?h18 ?h28; (case h18 => ((obtain ⟨a0, a1, a2, a3, a4, a5, a6, a7⟩ := CF.out w' hw'); go_simp; constructor <;> rfl)); (case h28 => (exact CK.out w' hw'))) | (refine qc_skip ?_; (obtain ⟨a0, a1, a2, a3, a4, a5, a6, a7⟩ := CF.out w' hw'); clear hw'; go_simp; done))); (try simp only [Act.put, List.setIfInBounds_toArray, List.set_cons_zero, List.set_cons_succ])))
    (first | (refine qc_pass ?hw9 ?nx9; (case hw9 => (go_simp; done)); (try simp only [Act.put, List.setIfInBounds_toArray, List.set_cons_zero, List.set_cons_succ])) | (refine qc_one ?v9 ?hw9 (fun w' hw' => ?hr9) ?nx9; (case hw9 => (go_simp; done)); (case hr9 => (first | (refine qc_val ?_; (obtain ⟨a0, a1, a2, a3, a4, a5, a6, a7⟩ := CF.out w' hw'); clear hw'; go_simp; done) | (refine qc_val ?_; (obtain ⟨a0, a1, a2, a3, a4, a5, a6, a7⟩ := CF.out w' hw'); clear hw'; go_simp; rfl) | (refine qc_call (f := ?f9) (args := ?args9) ?h19 ?h29; (case h19 => ((obtain ⟨a0, a1, a2, a3, a4, a5, a6, a7⟩ := CF.out w' hw'); go_simp; constructor <;> rfl)); (case h29 => (exact CK.out w' hw'))) | (refine qc_skip ?_; (obtain ⟨a0, a1, a2, a3, a4, a5, a6, a7⟩ := CF.out w' hw'); clear hw'; go_simp; done))); (try simp only [Act.put, List.setIfInBounds_toArray, List.set_cons_zero, List.set_cons_succ])))
    (first | (refine qc_pass ?hw10 ?nx10; (case hw10 => (go_simp; done)); (try simp only [Act.put, List.setIfInBounds_toArray, List.set_cons_zero, List.set_cons_succ])) | (refine qc_one ?v10 ?hw10 (fun w' hw' => ?hr10) ?nx10; (case hw10 => (go_simp; done)); (case hr10 => (first | (refine qc_val ?_; (obtain ⟨a0, a1, a2, a3, a4, a5, a6, a7⟩ := CF.out w' hw'); clear hw'; go_simp; done) | (refine qc_val ?_; (obtain ⟨a0, a1, a2, a3, a4, a5, a6, a7⟩ := CF.out w' hw'); clear hw'; go_simp; rfl) | (refine qc_call (f := ?f10) (args := ?args10) ?h110 ?h210; (case h110 => ((obtain ⟨a0, a1, a2, a3, a4, a5, a6, a7⟩ := CF.out w' hw'); go_simp; constructor <;> rfl)); (case h210 => (exact CK.out w' hw'))) | (refine qc_skip ?_; (obtain ⟨a0, a1, a2, a3, a4, a5, a6, a7⟩ := CF.out w' hw'); clear hw'; go_simp; done))); (try simp only [Act.put, List.setIfInBounds_toArray, List.set_cons_zero, List.set_cons_succ])))
    (first | (refine qc_pass ?hw11 ?nx11; (case hw11 => (go_simp; done)); (try simp only [Act.put, List.setIfInBounds_toArray, List.set_cons_zero, List.set_cons_succ])) | (refine qc_one ?v11 ?hw11 (fun w' hw' => ?hr11) ?nx11; (case hw11 => (go_simp; done)); (case hr11 => (first | (refine qc_val ?_; (obtain ⟨a0, a1, a2, a3, a4, a5, a6, a7⟩ := CF.out w' hw'); clear hw'; go_simp; done) | (refine qc_val ?_; (obtain ⟨a0, a1, a2, a3, a4, a5, a6, a7⟩ := CF.out w' hw'); clear hw'; go_simp; rfl) | (refine qc_call (f := ?f11) (args := ?args11) ?h111 ?h211; (case h111 => ((obtain ⟨a0, a1, a2, a3, a4, a5, a6, a7⟩ := CF.out w' hw'); go_simp; constructor <;> rfl)); (case h211 => (exact CK.out w' hw'))) | (refine qc_skip ?_; (obtain ⟨a0, a1, a2, a3, a4, a5, a6, a7⟩ := CF.out w' hw'); clear hw'; go_simp; done))); (try simp only [Act.put, List.setIfInBounds_toArray, List.set_cons_zero, List.set_cons_succ])))
    (first | (refine qc_pass ?hw12 ?nx12; (case hw12 => (go_simp; done)); (try simp only [Act.put, List.setIfInBounds_toArray, List.set_cons_zero, List.set_cons_succ])) | (refine qc_one ?v12 ?hw12 (fun w' hw' => ?hr12) ?nx12; (case hw12 => (go_simp; done)); (case hr12 => (first | (refine qc_val ?_; (obtain ⟨a0, a1, a2, a3, a4, a5, a6, a7⟩ := CF.out w' hw'); clear hw'; go_simp; done) | (refine qc_val ?_; (obtain ⟨a0, a1, a2, a3, a4, a5, a6, a7⟩ := CF.out w' hw'); clear hw'; go_simp; rfl) | (refine qc_call (f := ?f12) (args := ?args12) ?h112 ?h212; (case h112 => ((obtain ⟨a0, a1, a2, a3, a4, a5, a6, a7⟩ := CF.out w' hw'); go_simp; constructor <;> rfl)); (case h212 => (exact CK.out w' hw'))) | (refine qc_skip ?_; (obtain ⟨a0, a1, a2, a3, a4, a5, a6, a7⟩ := CF.out w' hw'); clear hw'; go_simp; done))); (try simp only [Act.put, List.setIfInBounds_toArray, List.set_cons_zero, List.set_cons_succ])))
    (first | (refine qc_pass ?hw13 ?nx13; (case hw13 => (go_simp; done)); (try simp only [Act.put, List.setIfInBounds_toArray, List.set_cons_zero, List.set_cons_succ])) | (refine qc_one ?v13 ?hw13 (fun w' hw' => ?hr13) ?nx13; (case hw13 => (go_simp; done)); (case hr13 => (first | (refine qc_val ?_; (obtain ⟨a0, a1, a2, a3, a4, a5, a6, a7⟩ := CF.out w' hw'); clear hw'; go_simp; done) | (refine qc_val ?_; (obtain ⟨a0, a1, a2, a3, a4, a5, a6, a7⟩ := CF.out w' hw'); clear hw'; go_simp; rfl) | (refine qc_call (f := ?f13) (args := ?args13) ?h113 ?h213; (case h113 => ((obtain ⟨a0, a1, a2, a3, a4, a5, a6, a7⟩ := CF.out w' hw'); go_simp; constructor <;> rfl)); (case h213 => (exact CK.out w' hw'))) | (refine qc_skip ?_; (obtain ⟨a0, a1, a2, a3, a4, a5, a6, a7⟩ := CF.out w' hw'); clear hw'; go_simp; done))); (try simp only [Act.put, List.setIfInBounds_toArray, List.set_cons_zero, List.set_cons_succ])))
    refine wpQuiet_nil ?_
    intro w' hw'
    obtain ⟨a0, a1, a2, a3, a4, a5, a6, a7⟩ := CF.out w' hw'
    have m4 : Hid (Mv w HH w' (XX ++ (HL ++ HB2))) := by rw [HC.out] at hw'; exact hw'
    clear hw'
    go_wp2_with fail
    exact FIN.out _ _ HB2 K2.out.1 (ST.out _ HB2 m4.out)
  case done =>
    intro K ys w H hK hy hP hM hd
    obtain ⟨HB2, rfl, h2⟩ := hP
    rw [hy] at h2
    have b9 := (Mv.blkm hM (x := ⟨W.heap.size + 4, 4, #[.bool false]⟩) (List.mem_append_left _ (by simp [encX]))).cell 0
    have KD := Lib.hid (And.intro h2 hd)
    have KD2 := Lib.hid h2
    have NW : Hid (Calls Try.prog 25 #[] w fun e w' => ∃ wb H', e = .returned (.pointer (some ⟨wb, 0, none⟩)) ∧ Hid (WrB wb [] H' ∧ Mv W (HL ++ HB0) w' (H' ++ (encX W.heap.size A D.length c style count layer false ++ (HL ++ HB2))) ∧ w'.heap[K]? = some (.deferred (some []))) ∧ w'.cell? ⟨W.heap.size + 4, 0, none⟩ = some (.bool false)) := Lib.hid (by
      refine (new_writer w).mono ?_
      rintro e w' ⟨wb, H', rfl, h3, m3⟩
      have m4 : Mv W (HL ++ HB0) w' (H' ++ (encX W.heap.size A D.length c style count layer false ++ (HL ++ HB2))) := Mv.call (H := []) hM m3
      exact ⟨wb, H', rfl, Lib.hid ⟨h3, m4, m3.others (Sat.nil _) K _ hd (fun c t f e => by cases e)⟩, (Mv.blkm m4 (x := ⟨W.heap.size + 4, 4, #[.bool false]⟩) (List.mem_append_right _ (List.mem_append_left _ (by simp [encX])))).cell 0⟩)
    clear h2 hd hM
    gi_wp2_with (refine ⟨trivial, ?_⟩; gi_at_call 25; refine (callsIn_wide.2 NW.out).mono ?_; rintro e w2 ⟨wb, HW, rfl, K2, b8⟩)
    obtain ⟨w3, hw3⟩ : ∃ w3, w3 = w2.alloc (.cells #[.pointer (some ⟨wb, 0, none⟩)] 71) := ⟨_, rfl⟩
    have hK2 : w2.heap[K]? = some (.deferred (some [])) := K2.out.2.2
    have M3 : Mv W (HL ++ HB0) w3 (⟨w2.heap.size, 71, #[.pointer (some ⟨wb, 0, none⟩)]⟩ :: (HW ++ (encX W.heap.size A D.length c style count layer false ++ (HL ++ HB2)))) := by rw [hw3]; exact K2.out.2.1.alloc _ _
    have hK3 : w3.heap[K]? = some (.deferred (some [])) := by rw [hw3]; exact (Below.heap_alloc _ _ _ (Array.getElem?_eq_some_iff.1 hK2).1).trans hK2
    have c0 := (Mv.blkm M3 List.mem_cons_self).cell 0
    have c1 : w3.cell? ⟨W.heap.size + 4, 0, none⟩ = some (.bool false) := (Mv.blkm M3 (x := ⟨W.heap.size + 4, 4, #[.bool false]⟩) (List.mem_cons_of_mem _ (List.mem_append_right _ (List.mem_append_left _ (by simp [encX]))))).cell 0
    have BI : Hid (Calls Try.prog 26 #[.pointer (some ⟨wb, 0, none⟩), .int .i64 0, .int .i64 1] w3.drew fun e w4 => e = .returned (.tuple #[]) ∧ ∃ HW', Hid (WrB wb [false] HW' ∧ Mv W (HL ++ HB0) w4 (⟨w2.heap.size, 71, #[.pointer (some ⟨wb, 0, none⟩)]⟩ :: (HW' ++ (encX W.heap.size A D.length c style count layer false ++ (HL ++ HB2)))) ∧ w4.heap[K]? = some (.deferred (some []))) ∧
        w4.cell? ⟨w2.heap.size, 0, none⟩ = some (.pointer (some ⟨wb, 0, none⟩)) ∧ w4.cell? ⟨W.heap.size + 4, 0, none⟩ = some (.bool false)) := Lib.hid (by
      have m1 : Mv W (HL ++ HB0) w3.drew (HW ++ (⟨w2.heap.size, 71, #[.pointer (some ⟨wb, 0, none⟩)]⟩ :: (encX W.heap.size A D.length c style count layer false ++ (HL ++ HB2)))) :=
        (Mv.drew M3).sub (fun g => by simp only [cnt_append, cnt_cons]; omega) (fun c hc => by simp only [List.mem_append, List.mem_cons] at hc ⊢; grind)
      refine (bits_any wb [] 0 1 w3.drew HW K2.out.1 m1.sat.left (by simp)).mono ?_
      rintro e w4 ⟨rfl, HW', h4, m4⟩
      have m5 : Mv W (HL ++ HB0) w4 (⟨w2.heap.size, 71, #[.pointer (some ⟨wb, 0, none⟩)]⟩ :: (HW' ++ (encX W.heap.size A D.length c style count layer false ++ (HL ++ HB2)))) :=
        (Mv.call m1 m4).sub (fun g => by simp only [cnt_append, cnt_cons]; omega) (fun c hc => by simp only [List.mem_append, List.mem_cons] at hc ⊢; grind)
      exact ⟨rfl, HW', Lib.hid ⟨h4, m5, m4.others m1.sat.left K _ hK3 (fun c t f e => by cases e)⟩, (Mv.blkm m5 List.mem_cons_self).cell 0, (Mv.blkm m5 (x := ⟨W.heap.size + 4, 4, #[.bool false]⟩) (List.mem_cons_of_mem _ (List.mem_append_right _ (List.mem_append_left _ (by simp [encX]))))).cell 0⟩)
    simp only [← hw3]
    clear hw3 M3 hK2 hK3 NW KD
    have hmx : Try.prog.follows .mixedOrders = true := by kernel_rfl
    gi_region_with_o (first | (refine ⟨trivial, ?_⟩; gi_at_call 27; refine (callsIn_wide.2 (flag_any false _)).mono ?_; rintro e w' ⟨rfl, rfl⟩) | (refine ⟨trivial, ?_⟩; gi_at_call 26; refine (callsIn_wide.2 BI.out).mono ?_; rintro e w4 ⟨rfl, HW', K4, d0, d1⟩))
    all_goals
      have BY : Hid (Calls Try.prog 28 #[.pointer (some ⟨wb, 0, none⟩)] w4 fun e w5 => ∃ g c5 H1, e = .returned (.slice g 1 c5) ∧ Hid (RowB (.slice g 1 c5) [0] H1 ∧ Mv W (HL ++ HB0) w5 (H1 ++ (encX W.heap.size A D.length c style count layer false ++ (HL ++ HB2))) ∧ w5.heap[K]? = some (.deferred (some []))) ∧
          w5.cell? ⟨W.heap.size + 3, 0, none⟩ = some (.slice none 0 0) ∧ w5.frozen? ⟨W.heap.size + 3, 0, none⟩ = false) := Lib.hid (by
        obtain ⟨q1, q2, q3⟩ := K4.out
        have m1 : Mv W (HL ++ HB0) w4 (HW' ++ (encX W.heap.size A D.length c style count layer false ++ (HL ++ HB2))) := q2.drop1
        refine (bytes_any wb [false] w4 HW' q1 m1.sat.left (by simp)).mono ?_
        rintro e w5 ⟨v', Hn, rfl, h5, m5⟩
        have h6 : RowB v' [0] Hn := h5
        obtain ⟨g, c5, rfl⟩ := h6.slice
        have m6 : Mv W (HL ++ HB0) w5 (Hn ++ (encX W.heap.size A D.length c style count layer false ++ (HL ++ HB2))) :=
          (Mv.call m1 m5).sub (fun g => by simp only [cnt_append]; omega) (fun c hc => by simp only [List.mem_append] at hc ⊢; grind)
        have m7 := Mv.blkm m6 (x := ⟨W.heap.size + 3, 30, #[.slice none 0 0]⟩) (List.mem_append_right _ (List.mem_append_left _ (by simp [encX])))
        exact ⟨g, c5, Hn, rfl, Lib.hid ⟨h6, m6, m5.others m1.sat.left K _ q3 (fun c t f e => by cases e)⟩, m7.cell 0, m7.frozen 0⟩)
      gi_wp2_with (refine ⟨trivial, ?_⟩; gi_at_call 28; refine (callsIn_wide.2 BY.out).mono ?_; rintro e w5 ⟨g5, c5, H1, rfl, K5, e0, e1⟩)
      have hk : (w5.setCell ⟨W.heap.size + 1 + 1 + 1, 0, none⟩ (.slice none 0 0)).heap[K]? = some (.deferred (some [])) := (KeepsOthers.setCell w5 ⟨W.heap.size + 3, 0, none⟩ _).same K _ K5.out.2.2 rfl
      have m8 : Mv W (HL ++ HB0) (w5.setCell ⟨W.heap.size + 1 + 1 + 1, 0, none⟩ (.slice none 0 0)) (H1 ++ (encX W.heap.size A D.length c style count layer false ++ (HL ++ HB2))) := by
        have m9 := K5.out.2.1
        have e9 : H1 ++ (encX W.heap.size A D.length c style count layer false ++ (HL ++ HB2)) = (H1 ++ [⟨W.heap.size + 5, 26, #[.slice A D.length c]⟩, ⟨W.heap.size + 4, 4, #[.bool false]⟩]) ++ ⟨W.heap.size + 3, 30, #[.slice none 0 0]⟩ :: ([⟨W.heap.size + 2, 3, #[.int .i64 layer]⟩, ⟨W.heap.size + 1, 3, #[.int .i64 count]⟩, ⟨W.heap.size, 3, #[.int .i64 style]⟩] ++ (HL ++ HB2)) := by simp [encX]
        rw [e9] at m9 ⊢
        exact Mv.setAt m9 0 (.slice none 0 0)
      have m10 := m8.putObj (.deferred none) hK hk rfl
      refine ⟨by simp, .inl ⟨_, _, rfl, run_takeDeferred hk, ?_⟩⟩
      refine ⟨_, enc_results _ _ _ (W.heap.size + 3) rfl rfl (Mv.blkm m10 (x := ⟨W.heap.size + 3, 30, #[.slice none 0 0]⟩) (List.mem_append_right _ (List.mem_append_left _ (by simp [encX])))), _, H1, HB2, rfl, K5.out.1, KD2.out, ?_⟩
      exact m10.sub (fun g => by simp only [cnt_append]; omega) (fun c hc => by simp only [List.mem_append] at hc ⊢; grind)
  case stop =>
    intro K pre w H _ _ h
    exact h.elim
end Go.Proofs.Ytnpoakabheeoeaa
