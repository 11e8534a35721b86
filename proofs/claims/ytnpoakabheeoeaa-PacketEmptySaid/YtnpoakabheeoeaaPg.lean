/- A new band. -/
import Derived.Test.YtnpoakabheeoeaaPf
namespace Go.Proofs.Ytnpoakabheeoeaa
open Go.RowKit

def stNew : StG := ⟨⟨0, [], [], 0, 3⟩, .slice none 0 0, .slice none 0 0, [], []⟩
theorem stNew_ok : stNew.ok := ⟨RowH.nil _ _, RowH.nil _ _, ⟨by simp [stNew], by simp [stNew], by simp [stNew], by simp [stNew], by simp [stNew], by simp [stNew]⟩⟩
theorem infoSt : (Try.prog.info? 70).map (fun i => (i.zero, i.size, i.bytes)) = some (some (.agg #[.int .i64 0, .slice none 0 0, .slice none 0 0, .int .i64 0, .int .i64 0]), 5, 72) := by kernel_rfl
def st0 : StG := ⟨⟨0, [], [], 0, 0⟩, .slice none 0 0, .slice none 0 0, [], []⟩
def newBandM (w h : Nat) (planes : Int) : BandM := ⟨w, h, planes, treeOf w h, treeOf w h, false, List.replicate (w * h) stNew.m⟩
/-- the states when j of them are laid -/
def stMid (n j : Nat) : List StG := List.replicate j stNew ++ List.replicate (n - j) st0
theorem stMid_get (n j : Nat) (h : j < n) : (stMid n j)[j]? = some st0 := by
  unfold stMid
  rw [List.getElem?_append_right (by simp), List.length_replicate, Nat.sub_self, List.getElem?_replicate, if_pos (by omega)]
theorem stMid_set (n j : Nat) (h : j < n) : (stMid n j).set j stNew = stMid n (j + 1) := by
  unfold stMid
  apply List.ext_getElem?
  intro i
  simp only [List.getElem?_set, List.length_append, List.length_replicate, List.getElem?_append, List.getElem?_replicate]
  grind
theorem stMid_step (n j : Nat) (h : j < n) : ((stMid n j).flatMap StG.v).set (j * 5 + 4) (.int .i64 3) = (stMid n (j + 1)).flatMap StG.v := by
  rw [← stMid_set n j h]
  exact flat_set StG.v 5 StG.v_length _ _ st0 stNew (stMid_get n j h) 4 (by omega) _ rfl
theorem stMid_made (n : Nat) : (List.replicate n (Value.agg #[.int .i64 0, .slice none 0 0, .slice none 0 0, .int .i64 0, .int .i64 0]).cells.toList).flatten = (stMid n 0).flatMap StG.v := by
  unfold stMid
  simp only [List.replicate_zero, List.nil_append, Nat.sub_zero]
  induction n with
  | zero => rfl
  | succ n ih => rw [List.replicate_succ, List.replicate_succ, List.flatten_cons, List.flatMap_cons, ih]; rfl
end Go.Proofs.Ytnpoakabheeoeaa
