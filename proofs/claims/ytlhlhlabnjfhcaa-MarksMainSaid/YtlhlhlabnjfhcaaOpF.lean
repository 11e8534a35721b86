/- a law's Form, opened: its cells, its numbers. -/
import Derived.Test.YtlhlhlabnjfhcaaChecked
import Derived.Test.YtlhlhlabnjfhcaaFmL
import Derived.WalkKit
import Derived.ProofKit
import Derived.OpenShut
import Derived.ShutString
import Derived.ChangeOld
import Derived.Below
import Derived.ChangeSlices
import Derived.ChangeArms
namespace Go.Proofs.Ytlhlhlabnjfhcaa
open Go.ChangeShapes Go.WideShapes Go.ChangeAt Go.RowKit

theorem at_take {cs : List Value} {i : Nat} {v : Value} (h : (cs.drop i).take 1 = [v]) : cs[i]? = some v := by
  have h2 : ((cs.drop i).take 1)[0]? = some v := by rw [h]; rfl
  rw [List.getElem?_take] at h2
  simpa [List.getElem?_drop] using h2
theorem spot_none {w : World} {a : Addr} {v : Value} (h : w.cell? a = some v) : a.spot = none := by
  unfold World.cell? at h
  split at h
  · split at h
    · cases h
    · rename_i h2
      simpa using h2
  · cases h

theorem addr_none {a : Addr} (h : a.spot = none) : some a = some ⟨a.block, a.off, none⟩ := by
  obtain ⟨b, o, s⟩ := a
  simp at h
  rw [h]
theorem add_none {a : Addr} (h : a.spot = none) (k : Nat) : a.add k = ⟨a.block, a.off + k, none⟩ := by
  obtain ⟨b, o, s⟩ := a
  simp at h
  subst h
  unfold Addr.add
  split
  · subst_vars; simp
  · rfl
theorem add_zero_ (a : Addr) : a.add 0 = a := rfl

set_option maxRecDepth 100000 in
set_option maxHeartbeats 4000000 in
theorem open_form {H : Type} {enc : TypeId × Value → H} {W : World} {base b0 : Nat} {r : Reach} {held : Bool} {v : Value} {d : DataW H} {ps : List MemPlace} (hval : Value.okWide Try.prog W r b0 24 v)
    (h : DataW.Trod enc Try.prog W base (fun _ => true) held 24 v d ps) : ∃ (f : FormD) (ns : Value) (nl : List Int), v = .agg (formA f ns) ∧ RdI W ns nl := by
  obtain ⟨cs, rfl, hsz⟩ := okWide_struct Try.underlying24 hval
  have hC : Try.prog.cellsOf 24 = 21 := by kernel_rfl
  have hI : Try.prog.cellsOf 3 = 1 := by kernel_rfl
  have hB : Try.prog.cellsOf 4 = 1 := by kernel_rfl
  have hS : Try.prog.cellsOf 22 = 1 := by kernel_rfl
  rw [hC] at hsz
  obtain ⟨fuel, hf⟩ := h
  obtain ⟨xs, n, rfl, -, hlen, hxl, hall⟩ := DataW.trod_struct Try.underlying24 hf
  have hcs : (Value.agg cs).cells.toList = cs.toList := rfl
  rw [hcs] at hall
  have hxl' : xs.length = 21 := hxl
  have gi : ∀ (i : Nat) (fl : Field), (_ : Array Field)[i]? = some fl → fl.type = 3 → fl.offset = i → i < 21 → ∃ z, cs.toList[i]? = some (.int .i64 z) := fun i fl hfl ht ho hi => by
    have h1 := hall i fl hfl
    rw [ht, ho, hI, List.getElem?_eq_getElem (by omega)] at h1
    obtain ⟨z, hz, -⟩ := DataW.trod_int Try.underlying3 h1
    exact ⟨z, at_take hz⟩
  have gb : ∀ (i : Nat) (fl : Field), (_ : Array Field)[i]? = some fl → fl.type = 4 → fl.offset = i → i < 21 → ∃ z, cs.toList[i]? = some (.bool z) := fun i fl hfl ht ho hi => by
    have h1 := hall i fl hfl
    rw [ht, ho, hB, List.getElem?_eq_getElem (by omega)] at h1
    obtain ⟨z, hz, -⟩ := DataW.trod_bool Try.underlying4 h1
    exact ⟨z, at_take hz⟩
  obtain ⟨z0, e0⟩ := gi 0 _ rfl rfl rfl (by decide)
  obtain ⟨z1, e1⟩ := gi 1 _ rfl rfl rfl (by decide)
  obtain ⟨z2, e2⟩ := gi 2 _ rfl rfl rfl (by decide)
  obtain ⟨z3, e3⟩ := gi 3 _ rfl rfl rfl (by decide)
  obtain ⟨z4, e4⟩ := gi 4 _ rfl rfl rfl (by decide)
  obtain ⟨z5, e5⟩ := gi 5 _ rfl rfl rfl (by decide)
  obtain ⟨z6, e6⟩ := gi 6 _ rfl rfl rfl (by decide)
  obtain ⟨z7, e7⟩ := gb 7 _ rfl rfl rfl (by decide)
  obtain ⟨z8, e8⟩ := gb 8 _ rfl rfl rfl (by decide)
  obtain ⟨z9, e9⟩ := gb 9 _ rfl rfl rfl (by decide)
  obtain ⟨z10, e10⟩ := gb 10 _ rfl rfl rfl (by decide)
  obtain ⟨z11, e11⟩ := gi 11 _ rfl rfl rfl (by decide)
  obtain ⟨z12, e12⟩ := gi 12 _ rfl rfl rfl (by decide)
  obtain ⟨z13, e13⟩ := gi 13 _ rfl rfl rfl (by decide)
  obtain ⟨z14, e14⟩ := gi 14 _ rfl rfl rfl (by decide)
  obtain ⟨z15, e15⟩ := gi 15 _ rfl rfl rfl (by decide)
  obtain ⟨z16, e16⟩ := gi 16 _ rfl rfl rfl (by decide)
  obtain ⟨z17, e17⟩ := gi 17 _ rfl rfl rfl (by decide)
  obtain ⟨z18, e18⟩ := gi 18 _ rfl rfl rfl (by decide)
  obtain ⟨z19, e19⟩ := gi 19 _ rfl rfl rfl (by decide)
  have h20 := hall 20 _ rfl
  rw [List.getElem?_eq_getElem (show 20 < xs.length by omega)] at h20
  have hfin : ∀ sv, cs.toList[20]? = some sv → cs = formA ⟨z0, z1, z2, z3, z4, z5, z6, z7, z8, z9, z10, z11, z12, z13, z14, z15, z16, z17, z18, z19⟩ sv := fun sv es => by
    apply Array.ext'
    apply List.ext_getElem?
    intro k
    unfold formA
    match k with
    | 0 => exact e0
    | 1 => exact e1
    | 2 => exact e2
    | 3 => exact e3
    | 4 => exact e4
    | 5 => exact e5
    | 6 => exact e6
    | 7 => exact e7
    | 8 => exact e8
    | 9 => exact e9
    | 10 => exact e10
    | 11 => exact e11
    | 12 => exact e12
    | 13 => exact e13
    | 14 => exact e14
    | 15 => exact e15
    | 16 => exact e16
    | 17 => exact e17
    | 18 => exact e18
    | 19 => exact e19
    | 20 => exact es
    | k + 21 => rw [List.getElem?_eq_none (by rw [Array.length_toList, hsz]; omega), List.getElem?_eq_none (by simp)]
  rcases open_ints Try.underlying22 Try.underlying3 hI h20 with ⟨hz, -⟩ | ⟨a, l, c, zs, hz, -, hl, hm, hzl, -, hcell, -⟩
  · refine ⟨⟨z0, z1, z2, z3, z4, z5, z6, z7, z8, z9, z10, z11, z12, z13, z14, z15, z16, z17, z18, z19⟩, .slice none 0 0, [], congrArg Value.agg (hfin _ (at_take hz)), none, 0, rfl, Nat.le_refl _, by decide, ?_⟩
    intro k x hx
    simp at hx
  · have hzc : zs.length = c := by simpa using hzl
    have hl2 : (zs.take l).length = l := by rw [List.length_take]; omega
    refine ⟨⟨z0, z1, z2, z3, z4, z5, z6, z7, z8, z9, z10, z11, z12, z13, z14, z15, z16, z17, z18, z19⟩, .slice (some a) (zs.take l).length c, zs.take l, ?_, some a, c, rfl, by omega, hm, ?_⟩
    · rw [hl2]
      exact congrArg Value.agg (hfin _ (at_take hz))
    · intro k x hx
      have hk : k < l := by have := (List.getElem?_eq_some_iff.1 hx).1; omega
      have hx2 : zs.getD k 0 = x := by
        rw [List.getElem?_take] at hx
        simp only [hk, if_true] at hx
        rw [List.getD_eq_getElem?_getD, hx]
        rfl
      have c0 := hcell 0 (by omega)
      rw [add_zero_] at c0
      have hsp := spot_none c0
      have ck := hcell k (by omega)
      rw [hx2, add_none hsp] at ck
      exact ⟨a.block, a.off, addr_none hsp, ck⟩
end Go.Proofs.Ytlhlhlabnjfhcaa
