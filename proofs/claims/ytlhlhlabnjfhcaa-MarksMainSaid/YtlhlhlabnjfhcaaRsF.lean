/- waveletref17: Same, of two heads that are the same; bytes as a string. -/
import Derived.Test.YtlhlhlabnjfhcaaHdF
import Derived.Test.YtlhlhlabnjfhcaaRsE
import Derived.Laws.BytesArg
namespace Go.Proofs.Ytlhlhlabnjfhcaa
open Go.RowKit Go.Maps

theorem BV.str {w : World} {v : Value} {l : List UInt8} (h : BV w v l) : (convert 25 9 v).run Try.prog w = .ok (.string ⟨l.toArray⟩) w := by
  obtain ⟨A, c, rfl, h1, h2, h3⟩ := h
  cases l with
  | nil =>
    cases A with
    | none => exact run_convert_bytes_nil w 25 5 Try.underlying25 Try.underlying5 _ _ _ Try.underlying9
    | some x =>
      rw [run_convert_bytes_string w 25 9 5 _ _ _ Try.underlying25 Try.underlying5 Try.underlying9]
      exact run_bytesToString w x 0 c [] (run_loadCells_list (P := Try.prog) w x [] (by simp))
  | cons b l =>
    obtain ⟨x, rfl, -, hx⟩ := h3.2 (by simp)
    rw [run_convert_bytes_string w 25 9 5 _ _ _ Try.underlying25 Try.underlying5 Try.underlying9]
    have hl := run_loadCells_list (P := Try.prog) w x (cellsB (b :: l)) (fun j u hj => hx j u hj)
    rw [cellsB_length] at hl
    have e : cellsB (b :: l) = ((b :: l).map fun z => (z.toNat : Int)).map (Value.int .u8) := by simp [cellsB]
    rw [e] at hl
    rw [run_bytesToString w x _ c _ hl, foldl_push_bytes]
    have e2 : ((b :: l).map fun z => (z.toNat : Int)).map (fun n => UInt8.ofNat n.toNat) = b :: l := by
      rw [List.map_map]
      conv => rhs; rw [← List.map_id (b :: l)]
      refine List.map_congr_left fun z _ => ?_
      simp
    rw [e2]
    simp [ByteArray.empty, ByteArray.emptyWithCapacity]
    rfl

theorem not_ready2 {ops : Array Oper} {md : Region.Mode} {listed : Array Bool} (h : Region.ready md ops listed = []) (i : Nat) (o : Oper) (ho : ops[i]? = some o) (hi : listed.getD i true = false)
    (ha : ∀ e ∈ o.after.toList, Region.binds md e = true → listed.getD e.on false = true) : False := by
  have hl : i < ops.size := (Array.getElem?_eq_some_iff.1 ho).1
  have : i ∈ Region.ready md ops listed := by
    unfold Region.ready
    refine List.mem_filter.2 ⟨List.mem_range.2 hl, ?_⟩
    rw [hi, ho]
    simp only [Bool.not_false, Bool.true_and, Option.map_some, Option.getD_some, Array.all_eq_true_iff_forall_mem]
    intro e he
    have hb := ha e (Array.mem_toList_iff.2 he)
    cases hbe : Region.binds md e
    · simp
    · rw [hb hbe]
      simp
  rw [h] at this
  cases this
theorem step_load_row_want {P : Program} {w : World} {ops : Array Oper} {o : Oper} {a : Act} {K : Act → World → Prop} {Q : Exit → Act → World → Prop} {E : Prop} (hw : Region.wanted o (yielded ops a.tmps) = true) (ty : TypeId) (x : Operand) (ho : o.op = .load ty x)
    (g : Nat) (t : TypeId) (cs : Array Value) (d : TypeDesc) (hu : P.underlying ty = some d) (hd : (match d with | .struct _ | .array _ _ => true | _ => false) = true) (hi : (P.info? ty).map (·.size) = some cs.size)
    (hx : a.eval x = .pointer (some ⟨g, 0, none⟩)) (hg : Blk w g t cs) (h : K (a.put o.dst (.agg cs)) w) :
    if Region.wanted o (yielded ops a.tmps) = true then Oper.wp P o a w K Q else E := by
  rw [if_pos hw]
  exact wp_load_row ty x ho g hx t cs (0, 0) d hg hu hd hi h
end Go.Proofs.Ytlhlhlabnjfhcaa
