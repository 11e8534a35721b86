/- A new band. A new band: the walk. -/
import Derived.Test.YtnpoakabheeoeaaPf
namespace Go.Proofs.Ytnpoakabheeoeaa
open Go.RowKit

def stNew : StG := ⟨⟨0, [], [], 0, 3⟩, .slice none 0 0, .slice none 0 0, [], []⟩
theorem stNew_ok : stNew.ok := ⟨RowH.nil _ _, RowH.nil _ _, ⟨by simp [stNew], by simp [stNew], by simp [stNew], by simp [stNew], by simp [stNew], by simp [stNew]⟩⟩
theorem infoSt : (Try.prog.info? 70).map (fun i => (i.zero, i.size, i.bytes)) = some (some (.agg #[.int .i64 0, .slice none 0 0, .slice none 0 0, .int .i64 0, .int .i64 0]), 5, 72) := by kernel_rfl
def st0 : StG := ⟨⟨0, [], [], 0, 0⟩, .slice none 0 0, .slice none 0 0, [], []⟩
def newBandM (w h : Nat) (planes : Int) : BandM := ⟨w, h, planes, treeOf w h, treeOf w h, false, List.replicate (w * h) stNew.m⟩
/-- the states when j of them are laid -/
def stMid (n j : Nat) : List StG := List.replicate j stNew ++ List.replicate (n - j) st0
theorem stMid_get (n j : Nat) (h : j < n) : (stMid n j)[j]? = some st0 := by
  unfold stMid
  rw [List.getElem?_append_right (by simp), List.length_replicate, Nat.sub_self, List.getElem?_replicate, if_pos (by omega)]
theorem stMid_set (n j : Nat) (h : j < n) : (stMid n j).set j stNew = stMid n (j + 1) := by
  unfold stMid
  apply List.ext_getElem?
  intro i
  simp only [List.getElem?_set, List.length_append, List.length_replicate, List.getElem?_append, List.getElem?_replicate]
  grind
theorem stMid_step (n j : Nat) (h : j < n) : ((stMid n j).flatMap StG.v).set (j * 5 + 4) (.int .i64 3) = (stMid n (j + 1)).flatMap StG.v := by
  rw [← stMid_set n j h]
  exact flat_set StG.v 5 StG.v_length _ _ st0 stNew (stMid_get n j h) 4 (by omega) _ rfl
theorem stMid_made (n : Nat) : (List.replicate n (Value.agg #[.int .i64 0, .slice none 0 0, .slice none 0 0, .int .i64 0, .int .i64 0]).cells.toList).flatten = (stMid n 0).flatMap StG.v := by
  unfold stMid
  simp only [List.replicate_zero, List.nil_append, Nat.sub_zero]
  induction n with
  | zero => rfl
  | succ n ih => rw [List.replicate_succ, List.replicate_succ, List.flatten_cons, List.flatMap_cons, ih]; rfl
end Go.Proofs.Ytnpoakabheeoeaa
namespace Go.Proofs.Ytnpoakabheeoeaa
open Go.RowKit

set_option maxRecDepth 100000 in
set_option maxHeartbeats 1000000 in
theorem band_new (x y : Nat) (planes : Int) (W : World) (hx : x ≤ 64) (hy : y ≤ 64) (hp : -1000 ≤ planes ∧ planes ≤ 1000) :
    Calls Try.prog 12 #[.int .i64 (x : Int), .int .i64 (y : Int), .int .i64 planes] W fun e W' => ∃ d H, e = .returned (.pointer (some ⟨d.bb, 0, none⟩)) ∧ d.n = x * y ∧ BandR d (newBandM x y planes) H ∧ Mv W [] W' H := by
  have T1 := Lib.hid (tree_new x y)
  obtain ⟨n, hn⟩ : ∃ n, x * y = n := ⟨_, rfl⟩
  have hn4 : n ≤ 4096 := by rw [← hn]; exact Nat.mul_le_mul hx hy
  have hmul : (x : Int) * (y : Int) = (n : Int) := by rw [← hn]; push_cast; rfl
  obtain ⟨i0, hi, hz0, hz1, hz2⟩ := info_parts infoSt
  have MK : ∀ V : World, (Instr.makeSlice 81 (.int .i64 ((x : Int) * (y : Int))) (.int .i64 ((x : Int) * (y : Int)))).run Try.prog V = .ok (.slice (some ⟨V.heap.size, 0, none⟩) n n) (V.alloc (.cells ((stMid n 0).flatMap StG.v).toArray 70)) := by
    intro V
    rw [hmul, ← stMid_made]
    exact run_made _ _ i0 _ 5 72 n Try.underlying81 hi hz0 hz1 hz2 rfl (by omega) (by omega) (by omega) V
  have ub : (x : Int) * (y : Int) ≤ 4096 := by rw [hmul]; omega
  have lb : 0 ≤ (x : Int) * (y : Int) := by rw [hmul]; omega
  have HN := Lib.hid (And.intro hn hmul)
  clear hn hmul hi hz0 hz1 hz2
  have b1 : decide ((x : Int) < 0) = false := by simp
  have b2 : decide ((y : Int) < 0) = false := by simp
  have b3 : decide (64 < (x : Int)) = false := by simp; omega
  have b4 : decide (64 < (y : Int)) = false := by simp; omega
  go_enter Try.func12, Try.ntmps12
  go_upto_region 4 with (go_at_call 32; refine (T1.out _).mono ?_; rintro e w2 ⟨tb, P, H, rfl, q1, q2, q3⟩; have KT := Lib.hid (And.intro q1 (And.intro q2 q3)); clear q1 q2 q3)
  rename_i w1 t1 P1 H1 KT1 kk1 kk2
  have M2 : Mv W [] w2 (H ++ H1) := Mv.call (H := []) (R := H1) KT1.out.2.2 KT.out.2.2
  obtain ⟨w3, hw3⟩ : ∃ w3, w3 = w2.alloc (.cells #[.slice none 0 0, .int .i64 planes, .pointer (some ⟨t1, 0, none⟩), .pointer (some ⟨tb, 0, none⟩), .bool false] 85) := ⟨_, rfl⟩
  have M3 : Mv W [] w3 (⟨w2.heap.size, 85, #[.slice none 0 0, .int .i64 planes, .pointer (some ⟨t1, 0, none⟩), .pointer (some ⟨tb, 0, none⟩), .bool false]⟩ :: (H ++ H1)) := by rw [hw3]; exact M2.alloc _ _
  have M4 := M3.alloc 70 ((stMid n 0).flatMap StG.v).toArray
  have c0 := (Mv.blkm M4 (List.mem_cons_of_mem _ List.mem_cons_self)).cell 0
  have f0 := (Mv.blkm M4 (List.mem_cons_of_mem _ List.mem_cons_self)).frozen 0
  have M5 := Mv.setAt (A := [_]) M4 0 (.slice (some ⟨w3.heap.size, 0, none⟩) n n)
  simp only [← hw3]
  have K5 := Lib.hid M5
  clear hw3 M2 M3 M4 M5
  go_wp2_with fail
  obtain ⟨lb, hlb⟩ : ∃ lb, w3.heap.size = lb := ⟨_, rfl⟩
  obtain ⟨bb, hbb⟩ : ∃ bb, w2.heap.size = bb := ⟨_, rfl⟩
  rw [hlb, hbb] at K5
  simp only [hlb, hbb]
  obtain ⟨BB, hBB⟩ : ∃ BB : HB, BB = ⟨bb, 85, #[.slice (some ⟨lb, 0, none⟩) n n, .int .i64 planes, .pointer (some ⟨t1, 0, none⟩), .pointer (some ⟨tb, 0, none⟩), .bool false]⟩ := ⟨_, rfl⟩
  have K6 : Hid (Mv W [] _ (⟨lb, 70, ((stMid n 0).flatMap StG.v).toArray⟩ :: BB :: (H ++ H1))) := Lib.hid (by rw [hBB]; exact K5.out)
  have FX : Hid (∀ wx j, j < n → Mv W [] wx (⟨lb, 70, ((stMid n j).flatMap StG.v).toArray⟩ :: BB :: (H ++ H1)) → wx.cell? ⟨bb, 0, none⟩ = some (.slice (some ⟨lb, 0, none⟩) n n) ∧ wx.cell? ⟨lb, j * 5 + 4, none⟩ = some (.int .i64 0) ∧ wx.frozen? ⟨lb, j * 5 + 4, none⟩ = false ∧
      Hid (Mv W [] (wx.setCell ⟨lb, j * 5 + 4, none⟩ (.int .i64 3)) (⟨lb, 70, ((stMid n (j + 1)).flatMap StG.v).toArray⟩ :: BB :: (H ++ H1)))) := Lib.hid (by
    intro wx j hj m
    have a1 := Mv.blkm m (x := BB) (List.mem_cons_of_mem _ List.mem_cons_self)
    rw [hBB] at a1
    have a2 := state_cells (Mv.blkm m List.mem_cons_self) (stMid_get n j hj)
    have m2 := m.set (j * 5 + 4) (.int .i64 3)
    rw [← stMid_step n j hj]
    refine ⟨a1.cell 0, a2.2.2.2.2.1, a2.2.2.2.2.2 _, Lib.hid ?_⟩
    simpa using m2)
  clear K5 c0 f0
  go_loopg [46] n (fun m s46 wx => ∃ j : Nat, j ≤ n ∧ m = n - j ∧ s46 = .int .i64 (j : Int) ∧ Mv W [] wx (⟨lb, 70, ((stMid n j).flatMap StG.v).toArray⟩ :: BB :: (H ++ H1)))
  case atStart => exact ⟨0, by omega, rfl, rfl, K6.out⟩
  case round =>
    obtain ⟨j, hj, rfl, rfl, m⟩ := hrel
    have KM := Lib.hid m
    clear m
    by_cases hlt : j < n
    · have d1 : decide ((j : Int) < (n : Int)) = true := by simp; omega
      obtain ⟨e1, e2, e3, e4⟩ := FX.out wr j hlt KM.out
      go_wp2_with fail
      all_goals
        go_roundg (n - (j + 1))
        case measure => omega
        case rel => exact ⟨j + 1, by omega, rfl, by push_cast; rfl, e4.out⟩
    · have d1 : decide ((j : Int) < (n : Int)) = false := by simp; omega
      go_wp2_with fail
      obtain rfl : j = n := by omega
      have e1 : stMid j j = List.replicate j stNew := by simp [stMid]
      have m := KM.out
      rw [e1, hBB] at m
      go_ret
      refine ⟨⟨bb, lb, j⟩, _, rfl, HN.out.1.symm, ⟨⟨t1, tb, P1, P, H1, H, List.replicate j stNew, planes, false, x, y⟩, ?_, ?_, rfl⟩, ?_⟩
      · simp only [BandG.model, newBandM, KT.out.1, KT1.out.1, List.map_replicate, HN.out.1]
      · exact ⟨KT1.out.2.1, KT.out.2.1, treeOk_new _ _ _ hx hy KT1.out.1, treeOk_new _ _ _ hx hy KT.out.1, fun s hs => by rw [List.eq_of_mem_replicate hs]; exact stNew_ok, by simp, HN.out.1.symm, hp, hx, hy⟩
      · have e2 : (List.replicate j stNew).flatMap StG.heap = [] := by
          induction j with
          | zero => rfl
          | succ j ih => simp [StG.heap, stNew]
        refine m.sub (fun g => ?_) (fun c hc => ?_)
        · simp only [BandG.heap, bandB, statesB, e2, cnt_append, cnt_cons, cnt_nil]
          omega
        · simp only [BandG.heap, bandB, statesB, e2, List.mem_append, List.mem_cons, List.not_mem_nil, or_false] at hc ⊢
          grind
end Go.Proofs.Ytnpoakabheeoeaa
