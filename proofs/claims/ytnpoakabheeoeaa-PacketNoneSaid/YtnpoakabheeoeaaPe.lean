/- A band's trees are laid: the walk. -/
import Derived.Test.YtnpoakabheeoeaaMpb
import Derived.Test.YtnpoakabheeoeaaMrt
import Derived.Sort.QuietIn
import Derived.Sort.CutIn
import Derived.Sort.LoopGhostIn
namespace Go.Proofs.Ytnpoakabheeoeaa
open Go.RowKit Go.Shelf
attribute [local go_sem] Oper.semAt_some

theorem spots_any (A : Option Addr) (n c : Nat) (w : World) : Calls Try.prog 22 #[.slice A n c] w fun e w' => e = .returned (.func (.func 55) #[] #[.pointer (some ⟨w.heap.size, 0, none⟩)]) ∧ w' = w.alloc (.cells #[.slice A n c] 26) := by
  go_enter Try.func22, Try.ntmps22
  go_wp2_with fail
  go_ret
  exact ⟨rfl, rfl⟩

set_option maxRecDepth 100000 in
set_option maxHeartbeats 2000000 in
theorem plant_set (d : BandA) (b : BandG) (W : World) (H : List HB) (_ : b.ok d) (hH : H = b.heap d) (hs : Sat W H) (hset : b.set = true) (count : Int) :
    Calls Try.prog 23 #[.pointer (some ⟨d.bb, 0, none⟩), .int .i64 count] W fun e W' => e = .returned (.tuple #[]) ∧ Mv W H W' H := by
  subst hH
  have e4 := (hs.2 _ (b.mem_band d)).cell 4
  simp only [bandB, hset] at e4
  have M := ((Mv.refl hs).alloc 34 #[.pointer (some ⟨d.bb, 0, none⟩)]).drop1
  have M2 := (M.alloc 3 #[.int .i64 count]).drop1
  have K := Lib.hid M2
  have c1 := (Mv.blkm M (b.mem_band d)).cell 4
  have c2 := (Mv.blkm M2 (b.mem_band d)).cell 4
  simp only [bandB, hset] at c1 c2
  clear M M2 hs
  go_enter Try.func23, Try.ntmps23
  go_wp2_with fail
  exact bodyPost_ret (results_none rfl _ _ _) rfl ⟨rfl, K.out⟩

/-- the walk's own blocks -/
def planX (n0 : Nat) (d : BandA) (count : Int) : List HB := [⟨n0 + 3, 26, #[.slice (some ⟨n0 + 2, 0, none⟩) 1 1]⟩, ⟨n0 + 2, 34, #[.pointer (some ⟨d.bb, 0, none⟩)]⟩, ⟨n0 + 1, 3, #[.int .i64 count]⟩, ⟨n0, 34, #[.pointer (some ⟨d.bb, 0, none⟩)]⟩]
def planP (n0 : Nat) (d : BandA) (count : Nat) (m : BandM) (pre : List (SpotIn [d])) (H : List HB) : Prop :=
  ∃ b : BandG, b.model = pre.foldl (fun m x => plantStep count m x.1.k) m ∧ b.ok d ∧ H = planX n0 d count ++ b.heap d
theorem planP_sp (n0 : Nat) (d : BandA) (count : Nat) (m : BandM) (pre : List (SpotIn [d])) (H : List HB) (W : World) (h : planP n0 d count m pre H) (hs : Sat W H) : SpR W (n0 + 3) (some ⟨n0 + 2, 0, none⟩) 1 [d] := by
  obtain ⟨b, -, -, rfl⟩ := h
  have k1 := (hs.2 _ (List.mem_append_left _ (show _ ∈ planX n0 d count from List.mem_cons_self))).cell 0
  have k2 := (hs.2 ⟨n0 + 2, 34, #[.pointer (some ⟨d.bb, 0, none⟩)]⟩ (List.mem_append_left _ (show _ ∈ planX n0 d count from List.mem_cons_of_mem _ List.mem_cons_self))).cell 0
  have k3 := (hs.2 _ (List.mem_append_right _ (b.mem_band d))).cell 0
  refine ⟨k1, fun j e hj => ?_, fun e he => ?_⟩
  · obtain ⟨rfl, rfl⟩ : j = 0 ∧ d = e := by
      cases j with
      | zero => simpa using hj
      | succ j => simp at hj
    exact ⟨_, rfl, k2⟩
  · simp only [List.mem_singleton] at he
    subst he
    exact k3
theorem planP_no (n0 : Nat) (d : BandA) (count : Nat) (m : BandM) (pre : List (SpotIn [d])) (H : List HB) (h : planP n0 d count m pre H) : NoSpot H := by
  obtain ⟨b, -, hk, rfl⟩ := h
  refine NoSpot.append ?_ (BandR.noSpot (m := b.model) ⟨b, rfl, hk, rfl⟩)
  intro x hx
  simp only [planX, List.mem_cons, List.not_mem_nil, or_false] at hx
  rcases hx with rfl | rfl | rfl | rfl
  · exact (show 26 ≠ 67 by decide)
  · exact (show 34 ≠ 67 by decide)
  · exact (show 3 ≠ 67 by decide)
  · exact (show 34 ≠ 67 by decide)

theorem frGo_step (count np : Int) (f n : Nat) : frGo count np (f + 1) n = if passN np count ((n : Int) + 1) = 0 then frGo count np f (n + 1) else n := rfl
theorem StG.ok.passes {s : StG} (h : s.ok) : ∃ A c, s.vp = .slice A s.m.ps.length c := h.1.slice
theorem mem_spots1 {d : BandA} {x : SpotX} (h : x ∈ spotsOf [d]) : ∃ k, k < d.n ∧ x = ⟨d, k⟩ := by
  simp only [spotsOf, spotsB, List.flatMap_cons, List.flatMap_nil, List.append_nil, List.mem_map, List.mem_range] at h
  obtain ⟨k, hk, rfl⟩ := h
  exact ⟨k, hk, rfl⟩
/-- a band's tree: a leaf's number is laid -/
theorem band_setF {d : BandA} {b : BandG} {w0 w : World} {H0 X : List HB} (ok : b.ok d) (m : Mv w0 H0 w (X ++ b.heap d)) (k : Nat) (hk : k < d.n) (n : Int) :
    Calls Try.prog 56 #[.pointer (some ⟨b.ft, 0, none⟩), .int .i64 (k : Int), .int .i64 n] w fun e w2 => e = .returned (.tuple #[]) ∧
      ∃ b' : BandG, b'.ok d ∧ b'.model = { b.model with first := setT b.model.first k n } ∧ b'.G = b.G ∧ b'.zt = b.zt ∧ b'.planes = b.planes ∧ Mv w0 H0 w2 (X ++ b'.heap d) := by
  have hkw : k < b.w * b.h := by rw [← ok.n]; exact hk
  obtain ⟨p0, h0, hw, hh⟩ := ok.kf.2.2 (by omega)
  have m1 : Mv w0 H0 w (b.Hf ++ (X ++ bandB b d :: statesB b d :: (b.Hz ++ b.G.flatMap StG.heap))) :=
    m.sub (fun g => by simp only [BandG.heap, cnt_append, cnt_cons]; omega) (fun c hc => by simp only [BandG.heap, List.mem_append, List.mem_cons] at hc ⊢; grind)
  refine (set_tree b.ft b.Pf k n p0 w b.Hf ok.tf m1.sat.left ok.kf.1 ok.kf.2.1 h0 (by rw [hw, hh]; exact hkw)).mono ?_
  rintro e w2 ⟨rfl, H', hT, hM⟩
  have sh := setP_shape b.Pf (k % p0.2.w) (k / p0.2.w) n
  refine ⟨rfl, { b with Pf := setP b.Pf (k % p0.2.w) (k / p0.2.w) n, Hf := H' }, ⟨hT, ok.tz, ok.kf.congr sh.1, ok.kz, ok.st, ok.len, ok.n, ok.pl, ok.hw, ok.hh⟩, ?_, rfl, rfl, rfl, ?_⟩
  · simp only [BandG.model, setP_map b.Pf k n p0 h0]
  · exact (Mv.call m1 hM).sub (fun g => by simp only [BandG.heap, cnt_append, cnt_cons, bandB, statesB]; omega) (fun c hc => by simp only [BandG.heap, List.mem_append, List.mem_cons, bandB, statesB] at hc ⊢; grind)
theorem band_setZ {d : BandA} {b : BandG} {w0 w : World} {H0 X : List HB} (ok : b.ok d) (m : Mv w0 H0 w (X ++ b.heap d)) (k : Nat) (hk : k < d.n) (n : Int) :
    Calls Try.prog 56 #[.pointer (some ⟨b.zt, 0, none⟩), .int .i64 (k : Int), .int .i64 n] w fun e w2 => e = .returned (.tuple #[]) ∧
      ∃ b' : BandG, b'.ok d ∧ b'.model = { b.model with zeros := setT b.model.zeros k n } ∧ b'.G = b.G ∧ Mv w0 H0 w2 (X ++ b'.heap d) := by
  have hkw : k < b.w * b.h := by rw [← ok.n]; exact hk
  obtain ⟨p0, h0, hw, hh⟩ := ok.kz.2.2 (by omega)
  have m1 : Mv w0 H0 w (b.Hz ++ (X ++ bandB b d :: statesB b d :: (b.Hf ++ b.G.flatMap StG.heap))) :=
    m.sub (fun g => by simp only [BandG.heap, cnt_append, cnt_cons]; omega) (fun c hc => by simp only [BandG.heap, List.mem_append, List.mem_cons] at hc ⊢; grind)
  refine (set_tree b.zt b.Pz k n p0 w b.Hz ok.tz m1.sat.left ok.kz.1 ok.kz.2.1 h0 (by rw [hw, hh]; exact hkw)).mono ?_
  rintro e w2 ⟨rfl, H', hT, hM⟩
  have sh := setP_shape b.Pz (k % p0.2.w) (k / p0.2.w) n
  refine ⟨rfl, { b with Pz := setP b.Pz (k % p0.2.w) (k / p0.2.w) n, Hz := H' }, ⟨ok.tf, hT, ok.kf, ok.kz.congr sh.1, ok.st, ok.len, ok.n, ok.pl, ok.hw, ok.hh⟩, ?_, rfl, ?_⟩
  · simp only [BandG.model, setP_map b.Pz k n p0 h0]
  · exact (Mv.call m1 hM).sub (fun g => by simp only [BandG.heap, cnt_append, cnt_cons, bandB, statesB]; omega) (fun c hc => by simp only [BandG.heap, List.mem_append, List.mem_cons, bandB, statesB] at hc ⊢; grind)
set_option maxRecDepth 100000 in
set_option maxHeartbeats 4000000 in
theorem plant_new (d : BandA) (b : BandG) (W : World) (hk : b.ok d) (hs : Sat W (b.heap d)) (hset : b.set = false) (count : Nat) (hct : count ≤ 100000) :
    Calls Try.prog 23 #[.pointer (some ⟨d.bb, 0, none⟩), .int .i64 (count : Int)] W fun e W' => e = .returned (.tuple #[]) ∧ ∃ b' : BandG, b'.model = plantM count b.model ∧ b'.ok d ∧ Mv W (b.heap d) W' (b'.heap d) := by
  refine (callsIn_wide (n := 8)).1 ?_
  refine callsIn_of_wp_marks Try.func23 rfl trivial ?_ rfl
  simp only [Try.ntmps23, List.size_toArray, List.length_cons, List.length_nil, Nat.reduceAdd, Nat.reduceSub, Array.replicate_succ, Array.replicate_zero, List.push_toArray, List.append_toArray, List.nil_append, List.cons_append]
  have e4 := (hs.2 _ (b.mem_band d)).cell 4
  simp only [bandB, hset] at e4
  have M := ((Mv.refl hs).alloc 34 #[.pointer (some ⟨d.bb, 0, none⟩)])
  have M2 := (M.alloc 3 #[.int .i64 (count : Int)])
  have K := Lib.hid M2
  have c1 := (Mv.blkm M (List.mem_cons_of_mem _ (b.mem_band d))).cell 4
  have c2 := (Mv.blkm M2 (List.mem_cons_of_mem _ (List.mem_cons_of_mem _ (b.mem_band d)))).cell 4
  have f2 := (Mv.blkm M2 (List.mem_cons_of_mem _ (List.mem_cons_of_mem _ (b.mem_band d)))).frozen 4
  simp only [bandB, hset] at c1 c2 f2
  have KO := Lib.hid hk
  clear M M2 hs
  gi_wp2_with (refine ⟨trivial, ?_⟩; gi_at_call 22; refine (callsIn_wide.2 (spots_any _ _ _ _)).mono ?_; rintro e w' ⟨rfl, rfl⟩)
  have hs0 : (b.heap d) = bandB b d :: (statesB b d :: (b.Hf ++ (b.Hz ++ b.G.flatMap StG.heap))) := rfl
  obtain ⟨b1, hb1⟩ : ∃ b1 : BandG, b1 = { b with set := true } := ⟨_, rfl⟩
  have K1 := K.out
  rw [hs0] at K1
  unfold bandB at K1
  have K2 := Mv.setAt (A := [_, _]) K1 4 (.bool true)
  have K3 := (K2.alloc 34 #[.pointer (some ⟨d.bb, 0, none⟩)]).alloc 26 #[.slice (some ⟨W.heap.size + 1 + 1, 0, none⟩) 1 1]
  simp only [World.size_alloc, World.size_setCell] at K3
  have hok1 : b1.ok d := by
    subst hb1
    exact ⟨KO.out.tf, KO.out.tz, KO.out.kf, KO.out.kz, KO.out.st, KO.out.len, KO.out.n, KO.out.pl, KO.out.hw, KO.out.hh⟩
  have K4 := Lib.hid (show _ from K3)
  clear K1 K2 K3 e4 c1 c2 f2
  refine range_spots1 (by omega) 4 W (b.heap d) (by simp; omega) (box := W.heap.size + 3) (c := 1) (A := some ⟨W.heap.size + 2, 0, none⟩) (D := [d]) rfl (by simp) (fun e he => by simp only [List.mem_singleton] at he; subst he; have := KO.out.small; omega)
    (planP W.heap.size d count b1.model) (fun _ _ => False) (planP_sp _ _ _ _) (planP_no _ _ _ _) ⟨_, ⟨b1, rfl, hok1, rfl⟩, ?start⟩ ?assign ?body ?done ?stop
  case start =>
    subst hb1
    exact K4.out
  case assign =>
    intro l x y z w K hK
    simp only [List.setIfInBounds_toArray, List.set_cons_succ, List.set_cons_zero] at hK ⊢
    gi_wp2
    exact hK
  case body =>
    intro l pre x hx B w H hr hP hs hlen
    simp only [List.setIfInBounds_toArray, List.set_cons_succ, List.set_cons_zero]
    obtain ⟨bg, hm, ok, rfl⟩ := hP
    obtain ⟨k, hk, hxe⟩ := mem_spots1 hx
    subst hxe
    obtain ⟨PS, hPS⟩ : ∃ PS, spPost w (⟨B, 67, SpotX.cells ⟨d, k⟩⟩ :: (planX W.heap.size d count ++ bg.heap d)) (planP W.heap.size d count b1.model) (fun _ _ => False) (pre ++ [⟨⟨d, k⟩, hx⟩]) = PS := ⟨_, rfl⟩
    rw [hPS]
    have HP := Lib.hid hPS
    have HL : Hid (¬LetsOut PS) := Lib.hid (by rw [← hPS]; rintro ⟨a, w, h⟩; exact h)
    clear hPS
    have hkw := hk
    rw [ok.n] at hkw
    have hkn : k < 4096 := Nat.lt_of_lt_of_le hk ok.small
    obtain ⟨st, hst⟩ : ∃ st, bg.G[k]? = some st := ⟨_, List.getElem?_eq_getElem (by rw [ok.len]; exact hk)⟩
    have hso := ok.st st (List.mem_of_getElem? hst)
    obtain ⟨A, cp, hvp⟩ := hso.passes
    obtain ⟨np, hnp⟩ : ∃ np, st.m.ps.length = np := ⟨_, rfl⟩
    have hnpl : np ≤ 1000000 := by have := hso.2.2.np; omega
    obtain ⟨HH, hHH⟩ : ∃ HH, HH = (⟨B, 67, SpotX.cells ⟨d, k⟩⟩ :: (planX W.heap.size d count ++ bg.heap d) : List HB) := ⟨_, rfl⟩
    have M0 : Mv w HH w HH := Mv.refl (by rw [hHH]; exact hs)
    have BX : Hid (∀ w', Mv w HH w' HH → w'.cell? ⟨B, 0, none⟩ = some (.pointer (some ⟨d.lb, k * 5, none⟩)) ∧ w'.cell? ⟨B, 1, none⟩ = some (.pointer (some ⟨d.bb, 0, none⟩)) ∧ w'.cell? ⟨B, 2, none⟩ = some (.int .i64 (k : Int)) ∧ w'.cell? ⟨W.heap.size + 1, 0, none⟩ = some (.int .i64 (count : Int)) ∧ w'.cell? ⟨W.heap.size, 0, none⟩ = some (.pointer (some ⟨d.bb, 0, none⟩)) ∧
        w'.cell? ⟨d.bb, 2, none⟩ = some (.pointer (some ⟨bg.ft, 0, none⟩)) ∧ w'.cell? ⟨d.lb, k * 5 + 1, none⟩ = some (.slice A np cp)) := Lib.hid (by
      intro w' m
      have a1 := Mv.blkm m (by rw [hHH]; exact List.mem_cons_self)
      have a2 := Mv.blkm m (x := ⟨W.heap.size + 1, 3, #[.int .i64 (count : Int)]⟩) (by rw [hHH]; simp [planX])
      have a3 := Mv.blkm m (x := ⟨W.heap.size, 34, #[.pointer (some ⟨d.bb, 0, none⟩)]⟩) (by rw [hHH]; simp [planX])
      have a4 := Mv.blkm m (by rw [hHH]; exact List.mem_cons_of_mem _ (List.mem_append_right _ (bg.mem_band d)))
      have a5 := Mv.blkm m (by rw [hHH]; exact List.mem_cons_of_mem _ (List.mem_append_right _ (bg.mem_states d)))
      have a6 := state_cells a5 hst
      rw [hvp, hnp] at a6
      exact ⟨a1.cell 0, a1.cell 1, a1.cell 2, a2.cell 0, a3.cell 0, a4.cell 2, a6.2.1⟩)
    have FR : Hid (∀ w', Mv w HH w' HH → ∀ j : Nat, j ≤ count → Calls Try.prog 24 #[.agg #[.pointer (some ⟨d.lb, k * 5, none⟩), .pointer (some ⟨d.bb, 0, none⟩), .int .i64 (k : Int)], .int .i64 (count : Int), .int .i64 (j : Int)] w' fun e w2 => e = .returned (.int .i64 (passN np count ((j : Int) + 1))) ∧ Mv w HH w2 HH) := Lib.hid (by
      intro w' m j hj
      refine (fresh_any ⟨d, k⟩ count j w' A np cp (BX.out w' m).2.2.2.2.2.2 (by simp; omega) hnpl ⟨by omega, by omega⟩ ⟨by omega, by omega⟩).mono ?_
      rintro e w2 ⟨rfl, m2⟩
      exact ⟨rfl, Mv.call (H := []) (H' := []) m m2⟩)
    obtain ⟨XX, hXX⟩ : ∃ XX, XX = (⟨B, 67, SpotX.cells ⟨d, k⟩⟩ :: planX W.heap.size d count : List HB) := ⟨_, rfl⟩
    have hHX : HH = XX ++ bg.heap d := by rw [hHH, hXX]; rfl
    -- what the walk knows of memory behind each Set
    have BY : Hid (∀ (b2 : BandG) w', b2.G = bg.G → Mv w HH w' (XX ++ b2.heap d) → w'.cell? ⟨B, 0, none⟩ = some (.pointer (some ⟨d.lb, k * 5, none⟩)) ∧ w'.cell? ⟨B, 2, none⟩ = some (.int .i64 (k : Int)) ∧ w'.cell? ⟨W.heap.size, 0, none⟩ = some (.pointer (some ⟨d.bb, 0, none⟩)) ∧
        w'.cell? ⟨d.bb, 1, none⟩ = some (.int .i64 b2.planes) ∧ w'.cell? ⟨d.bb, 3, none⟩ = some (.pointer (some ⟨b2.zt, 0, none⟩)) ∧ w'.cell? ⟨d.lb, k * 5, none⟩ = some (.int .i64 st.m.pl)) := Lib.hid (by
      intro b2 w' hG m
      have a1 := Mv.blkm m (List.mem_append_left _ (by rw [hXX]; exact List.mem_cons_self))
      have a3 := Mv.blkm m (x := ⟨W.heap.size, 34, #[.pointer (some ⟨d.bb, 0, none⟩)]⟩) (List.mem_append_left _ (by rw [hXX]; simp [planX]))
      have a4 := Mv.blkm m (List.mem_append_right _ (b2.mem_band d))
      have a5 := Mv.blkm m (List.mem_append_right _ (b2.mem_states d))
      have a6 := state_cells a5 (by rw [hG]; exact hst)
      exact ⟨a1.cell 0, a1.cell 2, a3.cell 0, a4.cell 1, a4.cell 3, a6.1⟩)
    have SF : Hid (∀ w', Mv w HH w' HH → ∀ n : Nat, Calls Try.prog 56 #[.pointer (some ⟨bg.ft, 0, none⟩), .int .i64 (k : Int), .int .i64 (n : Int)] w' fun e w2 => e = .returned (.tuple #[]) ∧
        ∃ b2 : BandG, (b2.ok d ∧ b2.model = { bg.model with first := setT bg.model.first k n } ∧ b2.G = bg.G ∧ Mv w HH w2 (XX ++ b2.heap d)) ∧ b2.planes = bg.planes ∧ w2.cell? ⟨B, 0, none⟩ = some (.pointer (some ⟨d.lb, k * 5, none⟩)) ∧ w2.cell? ⟨B, 2, none⟩ = some (.int .i64 (k : Int)) ∧ w2.cell? ⟨W.heap.size, 0, none⟩ = some (.pointer (some ⟨d.bb, 0, none⟩)) ∧
        w2.cell? ⟨d.bb, 1, none⟩ = some (.int .i64 b2.planes) ∧ w2.cell? ⟨d.bb, 3, none⟩ = some (.pointer (some ⟨b2.zt, 0, none⟩)) ∧ w2.cell? ⟨d.lb, k * 5, none⟩ = some (.int .i64 st.m.pl)) := Lib.hid (by
      intro w' m n
      refine (band_setF ok (by rw [← hHX]; exact m) k hk n).mono ?_
      rintro e w2 ⟨rfl, b2, o1, o2, o3, -, o5, o6⟩
      exact ⟨rfl, b2, ⟨o1, o2, o3, o6⟩, o5, BY.out b2 w2 o3 o6⟩)
    have SZ : Hid (∀ (b2 : BandG) w', b2.ok d → Mv w HH w' (XX ++ b2.heap d) → ∀ n : Int, Calls Try.prog 56 #[.pointer (some ⟨b2.zt, 0, none⟩), .int .i64 (k : Int), .int .i64 n] w' fun e w2 => e = .returned (.tuple #[]) ∧
        ∃ b3 : BandG, b3.ok d ∧ b3.model = { b2.model with zeros := setT b2.model.zeros k n } ∧ b3.G = b2.G ∧ Mv w HH w2 (XX ++ b3.heap d)) := Lib.hid (by
      intro b2 w' o1 m n
      exact band_setZ o1 m k hk n)
    have hpl := ok.pl
    have hspl := hso.2.2.pl
    obtain ⟨spl, hspe⟩ : ∃ spl, st.m.pl = spl := ⟨_, rfl⟩
    obtain ⟨pls, hpls⟩ : ∃ pls, bg.planes = pls := ⟨_, rfl⟩
    rw [hspe] at hspl SF
    rw [hpls] at hpl SF
    have FIN : Hid (∀ (a : Act) (bz b3 : BandG) (j : Nat) (z : Int) (w4 : World), frGo count np count 0 = j → z = max (pls - spl) 0 → bz.model = { bg.model with first := setT bg.model.first k j } → b3.ok d → b3.model = { bz.model with zeros := setT bz.model.zeros k z } → Mv w HH w4 (XX ++ b3.heap d) → PS .normal a w4) := Lib.hid (by
      intro a bz b3 j z w4 e1 e2 e3 e4 e5 m4
      rw [← HP.out]
      rw [hHH, hXX] at m4
      refine ⟨planX W.heap.size d count ++ b3.heap d, ⟨b3, ?_, e4, rfl⟩, Mv.drop1 m4⟩
      rw [List.foldl_append]
      show b3.model = plantStep count (pre.foldl _ b1.model) k
      rw [← hm, e5, e3, e2, ← e1]
      unfold plantStep frN
      rw [show bg.model.ss[k]? = some st.m from by simp [BandG.model, hst]]
      simp only [hnp, hspe, show bg.model.planes = pls from hpls])
    have KM := Lib.hid M0
    have KS := Lib.hid (And.intro hm (And.intro ok (And.intro hst (And.intro hso (And.intro hkw (And.intro hHX (And.intro hHH (And.intro hspe hpls))))))))
    obtain ⟨NN, hNN⟩ : ∃ NN, frGo count np count 0 = NN := ⟨_, rfl⟩
    have HN := Lib.hid hNN
    obtain ⟨b0, b1', b2, b3, b4, b5, b6⟩ := BX.out w M0
    clear M0 hs hm ok hso hvp hnp hkw hst K KO K4 hok1 hb1 hs0 hlen hHX hHH hXX hspe hpls BY
    gi_wp2_with fail
    gi_loopw [5] (fun s5 wr => ∃ j : Nat, j ≤ count ∧ s5 = .int .i64 (j : Int) ∧ frGo count np (count - j) j = NN ∧ Mv w HH wr HH) (fun s5 _ => count - (intOf s5).toNat)
    case atStart => exact ⟨0, by omega, rfl, hNN, KM.out⟩
    case round =>
      obtain ⟨wa, rfl⟩ : ∃ wa : World, wa = wr := ⟨_, rfl⟩
      obtain ⟨j, hj, rfl, hfr, ma⟩ := hrel
      clear b0 b1' b2 b3 b4 b5 b6
      obtain ⟨b0, b1', b2, b3, b4, b5, b6⟩ := BX.out wa ma
      have FJ := Lib.hid (FR.out wa ma j hj)
      have KA := Lib.hid (And.intro hfr ma)
      clear ma hfr hNN
      by_cases hlt : j < count
      · have d1 : decide ((j : Int) < (count : Int)) = true := by simp; omega
        have EF := Lib.hid (frGo_step count np (count - j - 1) j)
        gi_wp2_with (refine ⟨trivial, ?_⟩; gi_at_call 24; refine (CallsIn.inRound l (callsIn_wide.2 FJ.out)).mono ?_; rintro e w2 ⟨rfl, m2⟩; have K2 := Lib.hid m2; clear m2)
        case roundEnd =>
          rename_i hz
          have hz2 : passN np count ((j : Int) + 1) = 0 := by simpa using hz
          refine ⟨⟨j + 1, by omega, by push_cast; rfl, ?_, K2.out⟩, by simp [intOf]; omega⟩
          have h1 := KA.out.1
          rw [show count - j = count - j - 1 + 1 from by omega, EF.out, if_pos hz2] at h1
          rw [show count - (j + 1) = count - j - 1 from by omega]
          exact h1
        rename_i hz kk hq
        have hjn : j = NN := by
          have hz2 : ¬passN np count ((j : Int) + 1) = 0 := by simpa using hz
          have h1 := KA.out.1
          rw [show count - j = count - j - 1 + 1 from by omega, EF.out, if_neg hz2] at h1
          exact h1
        subst hjn
        clear b0 b1' b2 b3 b4 b5 b6 hz EF FJ KA
        obtain ⟨b0, b1', b2, b3, b4, b5, b6⟩ := BX.out w2 K2.out
        have hmx : Try.prog.follows .mixedOrders = true := by kernel_rfl
        have C1 := Lib.hid (SF.out w2.drew K2.out.drew j)
        (refine round_still_tail 7 hmx (by kernel_rfl) ((fun ⟨a, w, h⟩ => HL.out ⟨a, w, h⟩)) (by kernel_rfl) ?_; simp only [List.take_succ_cons, List.take_zero, List.drop_succ_cons, List.drop_zero]; (repeat still_step); (try refine wpStill_nil ?_))
        go_wp2_with (go_at_call 56; refine C1.out.mono ?_; rintro e w3 ⟨rfl, bz, o1, o2, o3, o4, o6, o5, o7, o8⟩; have K3 := Lib.hid o1; clear o1)
        rw [o2] at o5
        have C2 := Lib.hid fun n => SZ.out bz w3.drew K3.out.1 (Mv.drew K3.out.2.2.2) n
        clear b0 b1' b2 b3 b4 b5 b6 C1
        (refine round_still_tail 18 hmx (by kernel_rfl) ((fun ⟨a, w, h⟩ => HL.out ⟨a, w, h⟩)) (by kernel_rfl) ?_; simp only [List.take_succ_cons, List.take_zero, List.drop_succ_cons, List.drop_zero]; (repeat still_step); (try refine wpStill_nil ?_))
        go_wp2_with (go_at_call 56; refine (C2.out _).mono ?_; rintro e w4 ⟨rfl, b3, p1, p2, p3, p4⟩; have K4 := Lib.hid (And.intro p1 (And.intro p2 (And.intro p3 p4))); clear p1 p2 p3 p4)
        all_goals
          rename_i hmx2
          refine FIN.out _ bz b3 j _ w4 HN.out ?_ K3.out.2.1 K4.out.1 K4.out.2.1 K4.out.2.2.2
          split <;> omega
      · have d1 : decide ((j : Int) < (count : Int)) = false := by simp; omega
        gi_wp2_with fail
        refine ⟨trivial, ?_⟩
        gi_wp2_with fail
        have hjn : j = NN := by
          have h1 := KA.out.1
          rw [show count - j = 0 from by omega] at h1
          exact h1
        subst hjn
        have K2 := Lib.hid KA.out.2
        obtain ⟨w2, rfl⟩ : ∃ w2 : World, w2 = wa := ⟨_, rfl⟩
        clear b0 b1' b2 b3 b4 b5 b6 FJ KA
        obtain ⟨b0, b1', b2, b3, b4, b5, b6⟩ := BX.out w2 K2.out
        have hmx : Try.prog.follows .mixedOrders = true := by kernel_rfl
        have C1 := Lib.hid (SF.out w2.drew K2.out.drew j)
        (refine round_still_tail 7 hmx (by kernel_rfl) ((fun ⟨a, w, h⟩ => HL.out ⟨a, w, h⟩)) (by kernel_rfl) ?_; simp only [List.take_succ_cons, List.take_zero, List.drop_succ_cons, List.drop_zero]; (repeat still_step); (try refine wpStill_nil ?_))
        go_wp2_with (go_at_call 56; refine C1.out.mono ?_; rintro e w3 ⟨rfl, bz, o1, o2, o3, o4, o6, o5, o7, o8⟩; have K3 := Lib.hid o1; clear o1)
        rw [o2] at o5
        have C2 := Lib.hid fun n => SZ.out bz w3.drew K3.out.1 (Mv.drew K3.out.2.2.2) n
        clear b0 b1' b2 b3 b4 b5 b6 C1
        (refine round_still_tail 18 hmx (by kernel_rfl) ((fun ⟨a, w, h⟩ => HL.out ⟨a, w, h⟩)) (by kernel_rfl) ?_; simp only [List.take_succ_cons, List.take_zero, List.drop_succ_cons, List.drop_zero]; (repeat still_step); (try refine wpStill_nil ?_))
        go_wp2_with (go_at_call 56; refine (C2.out _).mono ?_; rintro e w4 ⟨rfl, b3, p1, p2, p3, p4⟩; have K4 := Lib.hid (And.intro p1 (And.intro p2 (And.intro p3 p4))); clear p1 p2 p3 p4)
        all_goals
          rename_i hmx2
          refine FIN.out _ bz b3 j _ w4 HN.out ?_ K3.out.2.1 K4.out.1 K4.out.2.1 K4.out.2.2.2
          split <;> omega
  case done =>
    intro K ys w H hK hy hP hM hd
    gi_wp2
    obtain ⟨b2, e1, e2, rfl⟩ := hP
    refine ⟨by simp, .inl ⟨_, _, rfl, run_takeDeferred hd, ?_⟩⟩
    refine ⟨_, results_none rfl _ _ _, rfl, b2, ?_, e2, (Mv.drop hM).putObj _ hK hd rfl⟩
    rw [e1]
    unfold plantM
    rw [show b.model.set = false from hset, if_neg (by simp), show b1.model = { b.model with set := true } from by rw [hb1]; rfl]
    rw [show b.model.ss.length = d.n from by simp [BandG.model, KO.out.len]]
    have e3 : (fun (m : BandM) (x : SpotIn [d]) => plantStep count m x.1.k) = fun m x => (fun (m : BandM) (k : Nat) => plantStep count m k) m ((fun x : SpotX => x.k) x.1) := rfl
    rw [e3, ← List.foldl_map (f := fun x : SpotIn [d] => x.1.k), show ys.map (fun x => x.1.k) = List.range d.n from ?_]
    have e4 := congrArg (List.map (fun x : SpotX => x.k)) hy
    rw [List.map_map] at e4
    refine e4.trans ?_
    simp [spotsOf, spotsB, Function.comp_def]
  case stop =>
    intro K pre w H _ _ h
    exact h.elim
theorem plantM_set (count : Nat) (m : BandM) (h : m.set = true) : plantM count m = m := by unfold plantM; rw [if_pos h]
theorem plant_any (d : BandA) (m : BandM) (W : World) (H : List HB) (h : BandR d m H) (hs : Sat W H) (count : Nat) (hct : count ≤ 100000) :
    Calls Try.prog 23 #[.pointer (some ⟨d.bb, 0, none⟩), .int .i64 (count : Int)] W fun e W' => e = .returned (.tuple #[]) ∧ ∃ H', BandR d (plantM count m) H' ∧ Mv W H W' H' := by
  obtain ⟨b, rfl, hk, rfl⟩ := h
  cases hset : b.set with
  | true =>
    refine (plant_set d b W _ hk rfl hs hset count).mono ?_
    rintro e W' ⟨rfl, hM⟩
    exact ⟨rfl, _, ⟨b, (plantM_set count _ hset).symm, hk, rfl⟩, hM⟩
  | false =>
    refine (plant_new d b W hk hs hset count hct).mono ?_
    rintro e W' ⟨rfl, b', h1, h2, hM⟩
    exact ⟨rfl, _, ⟨b', h1, h2, rfl⟩, hM⟩
end Go.Proofs.Ytnpoakabheeoeaa
