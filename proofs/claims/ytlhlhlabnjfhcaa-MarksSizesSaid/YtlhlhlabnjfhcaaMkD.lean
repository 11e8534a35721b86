/- marks: are all precincts' bytes alike: the closure, IndexFunc, ContainsFunc. -/
import Derived.Test.YtlhlhlabnjfhcaaMkC
namespace Go.Proofs.Ytlhlhlabnjfhcaa
open Go.RowKit Go.Maps

def offB (pr : Int) (c : UInt8) : Bool := (c.toNat : Int) != 17 * pr

set_option maxRecDepth 100000 in
theorem code1_any (c : UInt8) (pr : Int) (cb pb : Nat) (w : World) (h0 : w.cell? ⟨cb, 0, none⟩ = some (.pointer (some ⟨pb, 6, none⟩))) (h1 : w.cell? ⟨pb, 11, none⟩ = some (.int .i64 pr)) (p1 : 0 ≤ pr) (p2 : pr ≤ 100) :
    Calls Try.prog 69 #[.int .u8 (c.toNat : Int), .pointer (some ⟨cb, 0, none⟩)] w fun e w' => e = .returned (.bool (offB pr c)) ∧ w = w' := by
  have hc := c.toNat_lt
  unfold offB
  go_enter Try.func69, Try.ntmps69
  go_wp2_with fail
  go_ret
  exact ⟨rfl, rfl⟩

set_option maxRecDepth 100000 in
theorem index_any (v : Value) (l : List UInt8) (pr : Int) (cb pb : Nat) (w : World) (hv : BV w v l) (hl : l.length ≤ 1000000000) (h0 : w.cell? ⟨cb, 0, none⟩ = some (.pointer (some ⟨pb, 6, none⟩))) (h1 : w.cell? ⟨pb, 11, none⟩ = some (.int .i64 pr)) (p1 : 0 ≤ pr) (p2 : pr ≤ 100) :
    Calls Try.prog 70 #[v, .func (.func 69) #[] #[.pointer (some ⟨cb, 0, none⟩)]] w fun e w' => ∃ r : Int, e = .returned (.int .i64 r) ∧ decide (0 ≤ r) = l.any (offB pr) ∧ w = w' := by
  have C := Lib.hid (fun c => code1_any c pr cb pb w h0 h1 p1 p2)
  obtain ⟨A, c, rfl, g1, g2, g3⟩ := hv
  have G3 := Lib.hid g3
  clear g3 h0 h1
  go_enter Try.func70, Try.ntmps70
  go_wp2_with fail
  go_loopg [5, 8] l.length (fun g s5 s8 wx => ∃ j : Nat, j ≤ l.length ∧ g = l.length - j ∧ s8 = .int .i64 j ∧ (l.take j).any (offB pr) = false ∧ w = wx)
  case atStart => exact ⟨0, Nat.zero_le _, rfl, rfl, rfl, rfl⟩
  case round =>
    obtain ⟨j, hj, rfl, rfl, han, rfl⟩ := hrel
    have HA := Lib.hid han
    clear han
    by_cases hjl : j < l.length
    · obtain ⟨x, hx⟩ : ∃ x, l[j]? = some x := ⟨_, List.getElem?_eq_getElem hjl⟩
      obtain ⟨ad, rfl, -, hc⟩ := G3.out.cell hx
      have hsn : (l.take (j + 1)).any (offB pr) = offB pr x := by rw [List.take_add_one, hx, List.any_append, HA.out]; simp
      have HS := Lib.hid hsn
      have HX := Lib.hid hx
      clear hsn hx
      cases ho : offB pr x
      · have C1 := C.out x
        rw [ho] at C1
        have HC := Lib.hid C1
        go_wp2_with (go_at_call 69; refine HC.out.mono ?_; rintro e w' ⟨rfl, rfl⟩)
        go_roundg (l.length - (j + 1))
        case measure => omega
        case rel => exact ⟨j + 1, by omega, rfl, by go_num, by rw [HS.out, ho], rfl⟩
      · have C1 := C.out x
        rw [ho] at C1
        have HC := Lib.hid C1
        go_wp2_with (go_at_call 69; refine HC.out.mono ?_; rintro e w' ⟨rfl, rfl⟩)
        go_ret
        refine ⟨_, rfl, ?_, rfl⟩
        have hm : x ∈ l := List.mem_of_getElem? HX.out
        rw [List.any_eq_true.2 ⟨x, hm, ho⟩]
        simp
    · obtain rfl : j = l.length := by omega
      go_wp2_with fail
      go_ret
      refine ⟨_, rfl, ?_, rfl⟩
      have := HA.out
      rw [List.take_length] at this
      rw [this]
      rfl

set_option maxRecDepth 100000 in
theorem contains_any (v : Value) (l : List UInt8) (pr : Int) (cb pb : Nat) (w : World) (hv : BV w v l) (hl : l.length ≤ 1000000000) (h0 : w.cell? ⟨cb, 0, none⟩ = some (.pointer (some ⟨pb, 6, none⟩))) (h1 : w.cell? ⟨pb, 11, none⟩ = some (.int .i64 pr)) (p1 : 0 ≤ pr) (p2 : pr ≤ 100) :
    Calls Try.prog 68 #[v, .func (.func 69) #[] #[.pointer (some ⟨cb, 0, none⟩)]] w fun e w' => e = .returned (.bool (l.any (offB pr))) ∧ w = w' := by
  have I := Lib.hid (index_any v l pr cb pb w hv hl h0 h1 p1 p2)
  obtain ⟨A, c, rfl, -⟩ := hv
  go_enter Try.func68, Try.ntmps68
  go_wp2_with fail
  refine I.out.mono ?_
  rintro e w' ⟨r, rfl, hr, rfl⟩
  go_wp2_with fail
  go_ret
  exact ⟨rfl, rfl⟩
end Go.Proofs.Ytlhlhlabnjfhcaa
