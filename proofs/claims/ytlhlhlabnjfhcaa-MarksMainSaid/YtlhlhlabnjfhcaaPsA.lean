/- marks.Parse, where the head is bad. -/
import Derived.Test.YtlhlhlabnjfhcaaMs
import Derived.Test.YtlhlhlabnjfhcaaMk
namespace Go.Proofs.Ytlhlhlabnjfhcaa
open Go.RowKit Go.Maps

theorem Blk.row {w : World} {g : Nat} {t : TypeId} {old : Array Value} (h : Blk w g t old) (cs : Array Value) : Blk (w.setRow g cs) g t cs := setRow_heap w g old cs t (0, 0) h
theorem below_row {B : Nat} {w0 w : World} (h : Below B w0 w) {g : Nat} (hg : B ≤ g) (cs : Array Value) : Below B w0 (w.setRow g cs) :=
  ⟨h.os, h.tape, h.output, by simpa using h.size, fun i hi => (setRow_other w g i cs (by omega)).trans (h.block i hi)⟩
theorem only_row {a w : World} {g : Nat} (h : a.grownBy w (some g)) (cs : Array Value) : a.grownBy (w.setRow g cs) (some g) :=
  ⟨h.os, h.tape, h.output, by simpa using h.size, fun i hi hne => (setRow_other w g i cs (fun e => hne (by rw [e]))).trans (h.block i hi hne)⟩

theorem results_row3 {P : Program} {fn : Func} {p u v : Tmp} {ty : TypeId} (h : fn.results = #[.cell p ty, .tmp u, .tmp v]) (tmps : Array Value) (w : World) (g : Nat) (t : TypeId) (cs : Array Value) (fr : Nat × Nat) (d : TypeDesc)
    (hp : tmps.getD p undef = .pointer (some ⟨g, 0, none⟩)) (hg : w.heap[g]? = some (.cells cs t fr))
    (hu : P.underlying ty = some d) (hd : (match d with | .struct _ | .array _ _ => true | _ => false) = true) (hi : (P.info? ty).map (·.size) = some cs.size) :
    (results fn tmps).run P w = .ok (.tuple #[.agg cs, tmps.getD u undef, tmps.getD v undef]) w := by
  have hp' : tmps[p]?.getD undef = .pointer (some ⟨g, 0, none⟩) := by simpa using hp
  simp [results, h, hp', asAddr, run_loadVar_row w g t ty cs fr d hg hu hd hi, Result.andThen]

def zP : ParD := ⟨0, 0, 0, 0, 0, 0, 0, 0, 0, false, false, false⟩
def zH : HeadM := ⟨0, 0, 0, 0, [], zP, []⟩
def nilV : Value := .slice none 0 0

set_option maxRecDepth 100000 in
set_option maxHeartbeats 2000000 in
theorem parse_bad (v : Value) (l : List UInt8) (er : Int) (w : World) (hv : BV w v l) (hl : l.length ≤ 1000000000) (her : er ≠ 0)
    (hall : ∀ (w0 : World) (pb rb mb : Nat) (W : World), Blk W pb 66 (prsA rb mb zH nilV nilV) → Rdr W rb l 0 → Seen W mb 0 (fun _ => none) → Below w0.heap.size w0 W → w0.heap.size ≤ pb → w0.heap.size ≤ rb → w0.heap.size ≤ mb →
      Calls Try.prog 27 #[.pointer (some ⟨pb, 0, none⟩)] W fun e W' => e = .returned (.int .i64 er) ∧ Below w0.heap.size w0 W') :
    Calls Try.prog 16 #[v] w fun e w' => e = .returned (.tuple #[.agg (headA ⟨0, 0, 0, 0, []⟩ nilV zP nilV), .int .i64 0, .int .i64 er]) ∧ Below w.heap.size w w' := by
  have HV := Lib.hid hv
  have HA := Lib.hid hall
  clear hall
  obtain ⟨va, vc, rfl, -⟩ := hv
  obtain ⟨w0, hw0⟩ : ∃ w0, w0 = w.alloc (.cells (headA ⟨0, 0, 0, 0, []⟩ nilV zP nilV) 33) := ⟨_, rfl⟩
  have hB0 : Below w.heap.size w w0 := by rw [hw0]; exact (Below.refl _ _).alloc (Nat.le_refl _) _
  have hh0 : Blk w0 w.heap.size 33 (headA ⟨0, 0, 0, 0, []⟩ nilV zP nilV) := by rw [hw0]; exact Blk.new _ _ _
  have hs0 : w0.heap.size = w.heap.size + 1 := by rw [hw0]; simp
  unfold headA nilV zP at hw0
  have HE : (er != 0) = true := by simp [her]
  go_enter Try.func16, Try.ntmps16
  go_upto_region 1 with fail
  simp only [← hw0]
  clear hw0
  go_wp2_with fail
  refine (new_any _ l w0 (HV.out.keep hB0) (by omega)).mono ?_
  rintro e w1 ⟨rb, rfl, hrb, hr1, hB1⟩
  have HH := Lib.hid (And.intro hr1 hB1)
  have H0 := Lib.hid (And.intro hB0 hh0)
  clear hB0 hh0 hB1 hr1
  have hmm : ∀ W : World, (Instr.makeMap 64 none).run Try.prog W = .ok (.map (some W.heap.size)) (W.alloc (.map #[] 0)) := fun _ => rfl
  go_upto_region 2 with fail
  obtain ⟨hr1, hB1⟩ := HH.out
  obtain ⟨w2, hw2⟩ : ∃ w2, w2 = (w1.alloc (.map #[] 0)).alloc (.cells (prsA rb w1.heap.size zH nilV nilV) 66) := ⟨_, rfl⟩
  have hp2 : Blk w2 (w1.heap.size + 1) 66 (prsA rb w1.heap.size zH nilV nilV) := by rw [hw2]; exact Blk.snd _ _ _ _
  have hb12 : Below w1.heap.size w1 w2 := by rw [hw2]; exact ((Below.refl _ _).alloc (Nat.le_refl _) _).alloc (by simp) _
  have hs2 : Seen w2 w1.heap.size 0 (fun _ => none) := by
    rw [hw2]
    exact (Seen.made w1).below ((Below.refl _ _).alloc (Nat.le_refl _) _)
  have hr2 := hr1.below hb12 hr1.lt
  have hB2 := hB1.trans (hb12.mono hB1.size)
  have hsz := hB1.size
  unfold prsA zH nilV zP at hw2
  simp only [← hw2]
  clear hw2 HH hr1 hB1 hb12
  have A2 := Lib.hid (HA.out w0 (w1.heap.size + 1) rb w1.heap.size w2 hp2 hr2 hs2 hB2 (by omega) (by omega) (by omega))
  clear hp2 hr2 hs2 hB2 HA
  go_wp2_with fail
  refine A2.out.mono ?_
  rintro e w3 ⟨rfl, hB3⟩
  have hh3 := H0.out.2.below hB3 (by omega)
  have HB3 := Lib.hid hB3
  have hb4 : Below w.heap.size w (w3.setRow w.heap.size (headA ⟨0, 0, 0, 0, []⟩ nilV zP nilV)) := below_row (H0.out.1.trans (hB3.mono H0.out.1.size)) (Nat.le_refl _) _
  have HH3 : Hid (w3.heap[w.heap.size]? = some (.cells (headA ⟨0, 0, 0, 0, []⟩ nilV zP nilV) 33 (0, 0))) := hh3
  have hr4 := Blk.row (w := w3) hh3 (headA ⟨0, 0, 0, 0, []⟩ nilV zP nilV)
  clear hB3 hh3 A2 hmm
  go_upto_region 4 with fail
  iterate 7 go_step
  refine wpList_store_row rfl 33 (.tmp 2) (.tmp 16) rfl w.heap.size (headA ⟨0, 0, 0, 0, []⟩ nilV zP nilV) rfl rfl 33 (headA ⟨0, 0, 0, 0, []⟩ nilV zP nilV) HH3.out (by kernel_rfl) rfl (by kernel_rfl) ?_
  generalize w3.setRow w.heap.size _ = w4 at hr4 hb4 ⊢
  have HR := Lib.hid hr4
  clear hr4
  go_wp2_with fail
  exact bodyPost_ret (v := .tuple #[.agg (headA ⟨0, 0, 0, 0, []⟩ nilV zP nilV), .int .i64 0, .int .i64 er]) (results_row3 Try.results16 _ _ w.heap.size 33 _ (0, 0) _ rfl HR.out Try.underlying33 rfl (by kernel_rfl)) rfl ⟨rfl, hb4⟩
end Go.Proofs.Ytlhlhlabnjfhcaa
