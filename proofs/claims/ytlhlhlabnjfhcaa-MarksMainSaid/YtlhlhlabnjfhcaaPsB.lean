/- marks: known; the law's Head. -/
import Derived.Test.YtlhlhlabnjfhcaaPsA
import Derived.Test.YtlhlhlabnjfhcaaFmM
import Derived.Test.YtlhlhlabnjfhcaaMk
namespace Go.Proofs.Ytlhlhlabnjfhcaa
open Go.RowKit Go.Maps

theorem own_lit (w : World) (arr : Array Value) (e : TypeId) (n g : Nat) {base : Nat} (hn : arr.size = n) (hg : g = w.heap.size) (hb : base ≤ w.heap.size) (hm : n ≤ maxLen) :
    (w.alloc (.cells arr e)).ownsRow base e 1 (.slice (some ⟨g, 0, none⟩) n n) n arr.toList := by
  subst hg
  exact ⟨by simp [hn], .inr ⟨w.heap.size, n, arr, rfl, hb, heap_alloc_new w _, Nat.le_refl _, hm, by omega, by rw [Nat.mul_one, ← hn, ← Array.length_toList, List.take_length]⟩⟩

theorem getI_beN (a b : UInt8) : getI [a, b] = (a.toNat * 256 + b.toNat : Nat) := by
  refine getI_small _ _ (by simp [beN]) ?_
  have := a.toNat_lt
  have := b.toNat_lt
  omega

set_option maxRecDepth 100000 in
/-- what does not begin with SOC, is bad -/
theorem all_soc (pb rb mb : Nat) (h : HeadM) (cv mv : Value) (l : List UInt8) (W : World) (hp : Blk W pb 66 (prsA rb mb h cv mv)) (hr : Rdr W rb l 0) (hl : l.length ≤ 1000000000) (h2 : 2 ≤ l.length) (hn : getI (l.take 2) ≠ 65359) :
    Calls Try.prog 27 #[.pointer (some ⟨pb, 0, none⟩)] W fun e W' => e = .returned (.int .i64 10) ∧ W.grownBy W' (some rb) := by
  have c0 : W.cell? ⟨pb, 0, none⟩ = some (.pointer (some ⟨rb, 0, none⟩)) := hp.cell 0
  have G := Lib.hid (get_ok rb l 2 W hr (by omega) (by decide) (by decide) h2)
  have d1 : (getI (l.take 2) != 65359) = true := by simp [hn]
  generalize getI (l.take 2) = n at *
  clear hp hr
  go_enter Try.func27, Try.ntmps27
  go_wp2_with (go_at_call 45; refine G.out.mono ?_; rintro e w1 ⟨rfl, -, hg⟩)
  go_ret
  exact ⟨rfl, hg⟩

set_option maxRecDepth 100000 in
theorem known_any (w : World) : Calls Try.prog 11 #[] w fun e w' => e = .returned (.bool true) ∧ Below w.heap.size w w' := by
  go_enter Try.func11, Try.ntmps11
  go_wp2_with fail
  have ho := own_lit w #[.int .u8 255, .int .u8 217] 5 2 w.heap.size rfl rfl (Nat.le_refl _) (by decide)
  have hv : BV (w.alloc (.cells #[.int .u8 255, .int .u8 217] 5)) (.slice (some ⟨w.heap.size, 0, none⟩) 2 2) [255, 217] := BV.of_owns (l := [255, 217]) ho
  have hb : Below w.heap.size w (w.alloc (.cells #[.int .u8 255, .int .u8 217] 5)) := (Below.refl _ _).alloc (Nat.le_refl _) _
  clear ho
  generalize w.alloc (.cells #[.int .u8 255, .int .u8 217] 5) = w1 at hv hb ⊢
  refine (parse_bad _ [255, 217] 10 w1 hv (by decide) (by decide) fun w0 pb rb mb W hp hr hs hB h1 h2 h3 => ?_).mono ?_
  · refine (all_soc pb rb mb zH nilV nilV [255, 217] W hp hr (by decide) (by decide) (by decide)).mono ?_
    rintro e W' ⟨rfl, hg⟩
    exact ⟨rfl, hB.trans (below_grown hg hB.size (by rintro k ⟨⟩; exact h2))⟩
  · rintro e w2 ⟨rfl, hB2⟩
    have hB3 := hb.trans (hB2.mono hb.size)
    have HB := Lib.hid hB3
    clear hB3 hB2 hb hv
    simp only []
    iterate 16 go_step
    refine wpList_store_row rfl 33 (.tmp 1) (.tmp 7) rfl w2.heap.size (headA ⟨0, 0, 0, 0, []⟩ nilV zP nilV) rfl rfl 33 (headA ⟨0, 0, 0, 0, []⟩ nilV zP nilV) (heap_alloc_new w2 _) (by kernel_rfl) rfl (by kernel_rfl) ?_
    have hB4 := below_row (HB.out.alloc HB.out.size (.cells (headA ⟨0, 0, 0, 0, []⟩ nilV zP nilV) 33)) HB.out.size (headA ⟨0, 0, 0, 0, []⟩ nilV zP nilV)
    have HB4 := Lib.hid hB4
    clear hB4
    go_wp2_with fail
    go_ret
    exact ⟨rfl, HB4.out⟩

set_option maxRecDepth 100000 in
set_option maxHeartbeats 2000000 in
theorem head_is (f : FormD) (ns : Value) (nl : List Int) (cv : Value) (w : World) (hn : RdI w ns nl) (hc : ∃ a n c, cv = .slice a n c) :
    Calls Try.prog 12 #[.agg (formA f ns), cv] w fun e w' => ∃ m p v, e = .returned (.agg (headA m v p cv)) ∧ CompsOwn w' w.heap.size v m.cs ∧ (MadeOk f 8 m p ∧ MadeIs f 8 m p) ∧ Below w.heap.size w w' := by
  have HN := Lib.hid hn
  obtain ⟨na, nc, rfl, -⟩ := hn
  obtain ⟨ca, cn, cc, rfl⟩ := hc
  have M := Lib.hid fun W h => make_is f (.slice na nl.length nc) nl 8 W h (by decide) (by decide)
  unfold formA
  go_enter Try.func12, Try.ntmps12
  go_upto_region 1 with fail
  obtain ⟨wA, hwA⟩ : ∃ wA, wA = (w.alloc (.cells (formA f (.slice na nl.length nc)) 24)).alloc (.cells (headA ⟨0, 0, 0, 0, []⟩ nilV zP nilV) 33) := ⟨_, rfl⟩
  have hh : Blk wA (w.heap.size + 1) 33 (headA ⟨0, 0, 0, 0, []⟩ nilV zP nilV) := by rw [hwA]; exact Blk.snd _ _ _ _
  have hBA : Below w.heap.size w wA := by rw [hwA]; exact ((Below.refl _ _).alloc (Nat.le_refl _) _).alloc (by simp) _
  have hsA : wA.heap.size = w.heap.size + 2 := by rw [hwA]; simp
  have HNA := HN.out.keep hBA
  have HF : Blk wA w.heap.size 24 (formA f (.slice na nl.length nc)) := by rw [hwA]; exact (Blk.new _ _ _).alloc _
  unfold formA headA nilV zP at hwA
  simp only [← hwA]
  clear hwA
  have hf : Blk wA w.heap.size 24 (formA f (.slice na nl.length nc)) := HF
  have HFH := Lib.hid hf
  clear hf HF
  go_step
  refine wpList_load_row rfl 24 (.tmp 2) rfl w.heap.size rfl 24 (formA f (.slice na nl.length nc)) (0, 0) _ HFH.out Try.underlying24 rfl (by kernel_rfl) ?_
  go_wp2_with fail
  refine (M.out wA HNA).mono ?_
  rintro e w1 ⟨m, p, v, rfl, ho, hok1, his1, hB1⟩
  have hok := And.intro hok1 his1
  clear hok1 his1
  obtain ⟨va, vc, rfl⟩ := ho.slice
  have hh1 := hh.below hB1 hh.lt
  have hs1 := hB1.size
  have HH := Lib.hid (And.intro hh1 (And.intro ho (And.intro hok (hBA.trans (hB1.mono hBA.size)))))
  clear M hh hh1 hBA HNA ho hok hB1
  simp only []
  iterate 16 go_step
  obtain ⟨hh1, ho, hok, hB1⟩ := HH.out
  obtain ⟨wB, hwB⟩ : ∃ wB, wB = (w1.alloc (.cells (imgA ⟨0, 0, 0, 0, []⟩ nilV) 29)).alloc (.cells (parA zP) 31) := ⟨_, rfl⟩
  have hi0 : Blk wB w1.heap.size 29 (imgA ⟨0, 0, 0, 0, []⟩ nilV) := by rw [hwB]; exact (Blk.new _ _ _).alloc _
  have hp0 : Blk wB (w1.heap.size + 1) 31 (parA zP) := by rw [hwB]; exact Blk.snd _ _ _ _
  have hb1B : Below w1.heap.size w1 wB := by rw [hwB]; exact ((Below.refl _ _).alloc (Nat.le_refl _) _).alloc (by simp) _
  unfold imgA parA nilV zP at hwB
  simp only [← hwB]
  clear hwB
  refine wpList_store_row rfl 29 (.tmp 5) (.tmp 10) rfl w1.heap.size (imgA m (.slice va m.cs.length vc)) rfl rfl 29 (imgA ⟨0, 0, 0, 0, []⟩ nilV) hi0 (by kernel_rfl) rfl (by simp [imgA, Value.oneCell']) ?_
  have hi1 := Blk.row hi0 (imgA m (.slice va m.cs.length vc))
  have hp1 : Blk (wB.setRow w1.heap.size (imgA m (.slice va m.cs.length vc))) (w1.heap.size + 1) 31 (parA zP) := (setRow_other _ _ _ _ (by omega)).trans hp0
  have hb1 := below_row hb1B (Nat.le_refl _) (imgA m (.slice va m.cs.length vc))
  generalize wB.setRow w1.heap.size (imgA m (.slice va m.cs.length vc)) = wC at hi1 hp1 hb1 ⊢
  refine wpList_store_row rfl 31 (.tmp 6) (.tmp 11) rfl (w1.heap.size + 1) (parA p) rfl rfl 31 (parA zP) hp1 (by kernel_rfl) rfl (by simp [parA, Value.oneCell']) ?_
  have hi2 : Blk (wC.setRow (w1.heap.size + 1) (parA p)) w1.heap.size 29 (imgA m (.slice va m.cs.length vc)) := (setRow_other _ _ _ _ (by omega)).trans hi1
  have hp2 := Blk.row hp1 (parA p)
  have hb2 := below_row hb1 (show w1.heap.size ≤ w1.heap.size + 1 by omega) (parA p)
  generalize wC.setRow (w1.heap.size + 1) (parA p) = w2 at hi2 hp2 hb2 ⊢
  have hh2 := hh1.below hb2 hh1.lt
  have hB2 := hB1.trans (hb2.mono hB1.size)
  have ho2 := ho.keep hb2
  clear hi0 hp0 hb1B hi1 hp1 hb1 hb2 HH hh1 ho hB1
  have HH := Lib.hid (And.intro ho2 (And.intro hok hB2))
  have HG : Hid (w2.heap[w.heap.size + 1]? = some (.cells (headA ⟨0, 0, 0, 0, []⟩ nilV zP nilV) 33 (0, 0))) := hh2
  have HI := Lib.hid hi2
  have HP := Lib.hid hp2
  have hr3 := Blk.row hh2 (headA m (.slice va m.cs.length vc) p (.slice ca cn cc))
  have hB3 := below_row (g := w.heap.size + 1) hB2 (by omega) (headA m (.slice va m.cs.length vc) p (.slice ca cn cc))
  have hs2 := hB2.size
  clear hi2 hp2 hh2 hB2 ho2 hok
  go_upto_region 2 with fail
  go_step
  refine wpList_load_row rfl 29 (.tmp 5) rfl w1.heap.size rfl 29 (imgA m (.slice va m.cs.length vc)) (0, 0) _ HI.out Try.underlying29 rfl (by kernel_rfl) ?_
  refine wpList_load_row rfl 31 (.tmp 6) rfl (w1.heap.size + 1) rfl 31 (parA p) (0, 0) _ HP.out Try.underlying31 rfl (by kernel_rfl) ?_
  unfold imgA parA
  iterate 6 go_step
  refine wpList_store_row rfl 33 (.tmp 4) (.tmp 15) rfl (w.heap.size + 1) (headA m (.slice va m.cs.length vc) p (.slice ca cn cc)) rfl rfl 33 (headA ⟨0, 0, 0, 0, []⟩ nilV zP nilV) HG.out (by kernel_rfl) rfl (by simp [headA, Value.oneCell']) ?_
  have ho3 : CompsOwn (w2.setRow (w.heap.size + 1) (headA m (.slice va m.cs.length vc) p (.slice ca cn cc))) wA.heap.size (.slice va m.cs.length vc) m.cs := HH.out.1.grown (only_row (World.grownBy.refl _ _) _) (by omega)
  generalize w2.setRow (w.heap.size + 1) _ = w3 at hr3 hB3 ho3 ⊢
  have HR := Lib.hid hr3
  clear hr3 HG
  go_wp2_with fail
  exact bodyPost_ret (v := .agg (headA m (.slice va m.cs.length vc) p (.slice ca cn cc))) (results_cell_row Try.results12 _ _ (w.heap.size + 1) 33 _ (0, 0) _ rfl HR.out Try.underlying33 rfl (by kernel_rfl)) rfl ⟨m, p, .slice va m.cs.length vc, rfl, ho3.base (by omega), HH.out.2.1, hB3⟩
theorem head_any (f : FormD) (ns : Value) (nl : List Int) (cv : Value) (w : World) (hn : RdI w ns nl) (hc : ∃ a n c, cv = .slice a n c) :
    Calls Try.prog 12 #[.agg (formA f ns), cv] w fun e w' => ∃ m p v, e = .returned (.agg (headA m v p cv)) ∧ CompsOwn w' w.heap.size v m.cs ∧ MadeOk f 8 m p ∧ Below w.heap.size w w' := by
  refine (head_is f ns nl cv w hn hc).mono ?_
  rintro e w' ⟨m, p, v, h1, h2, h3, h4⟩
  exact ⟨m, p, v, h1, h2, h3.1, h4⟩
end Go.Proofs.Ytlhlhlabnjfhcaa
