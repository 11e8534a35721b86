/- marks: COD is read. -/
import Derived.Test.YtlhlhlabnjfhcaaMkD
import Derived.Test.YtlhlhlabnjfhcaaFmC
import Derived.Deep.RegionHeld3
namespace Go.Proofs.Ytlhlhlabnjfhcaa
open Go.RowKit Go.Maps

structure HeadM where
  x : Int
  y : Int
  ox : Int
  oy : Int
  comps : List CompD
  p : ParD
  com : List UInt8

def prsA (rb mb : Nat) (h : HeadM) (cv mv : Value) : Array Value :=
  #[.pointer (some ⟨rb, 0, none⟩), .int .i64 h.x, .int .i64 h.y, .int .i64 h.ox, .int .i64 h.oy, cv, .int .i64 h.p.tx, .int .i64 h.p.ty, .int .i64 h.p.lv, .int .i64 h.p.cbw, .int .i64 h.p.cbh, .int .i64 h.p.prec, .int .i64 h.p.style, .int .i64 h.p.order, .int .i64 h.p.layers, .bool h.p.rct, .bool h.p.sop, .bool h.p.eph, mv, .map (some mb)]

/-- COD's bytes -/
structure CodD where
  mks : Nat
  order : Nat
  layers : Nat
  turn : Nat
  lv : Nat
  cbw : Nat
  cbh : Nat
  style : Nat
  prec : Nat
def CodD.ok (d : CodD) : Prop := d.mks < 8 ∧ d.mks % 2 = 1 ∧ d.order < 256 ∧ 1 ≤ d.layers ∧ d.layers ≤ 8 ∧ d.turn ≤ 1 ∧ d.lv < 256 ∧ d.cbw < 256 ∧ d.cbh < 256 ∧ d.style ≤ 63 ∧ 1 ≤ d.prec ∧ d.prec ≤ 15
def codB (d : CodD) (way : UInt8) : List UInt8 :=
  [UInt8.ofNat d.mks, UInt8.ofNat d.order] ++ (putB 2 d.layers ++ ([UInt8.ofNat d.turn, UInt8.ofNat d.lv, UInt8.ofNat d.cbw, UInt8.ofNat d.cbh, UInt8.ofNat d.style, way] ++ List.replicate (d.lv + 1) (UInt8.ofNat (17 * d.prec))))
theorem codB_length (d : CodD) (way : UInt8) : (codB d way).length = 11 + d.lv := by simp [codB, putB_length]; omega
theorem codB_9 (d : CodD) (way : UInt8) : (codB d way)[9]? = some way := by
  unfold codB
  have h : (putB 2 (d.layers : Int)).length = 2 := putB_length _ _
  match hp : putB 2 (d.layers : Int), h with
  | [a, b], _ => rfl

set_option maxRecDepth 100000 in
theorem code_way (pb : Nat) (v : Value) (l : List UInt8) (w : World) (hv : BV w v l) (h9 : l[9]? = some 0) :
    Calls Try.prog 65 #[.pointer (some ⟨pb, 0, none⟩), v] w fun e w' => e = .returned (.int .i64 13) ∧ w = w' := by
  obtain ⟨A, c, rfl, g1, g2, g3⟩ := hv
  obtain ⟨ad, rfl, -, hc⟩ := g3.cell h9
  have hl := (List.getElem?_eq_some_iff.1 h9).1
  have d1 : decide ((9 : Int) < (l.length : Int)) = true := by simp; omega
  have z1 : (9 : Int) < (l.length : Int) := by omega
  replace hc : w.cell? ⟨ad.block, ad.off + 9, none⟩ = some (.int .u8 0) := hc
  clear g3
  go_enter Try.func65, Try.ntmps65
  go_wp2_with fail
  go_ret
  exact ⟨rfl, rfl⟩

def codP (d : CodD) (q : ParD) : ParD := { q with lv := d.lv, cbw := (d.cbw : Int) + 2, cbh := (d.cbh : Int) + 2, prec := d.prec, style := d.style, order := d.order, layers := d.layers, rct := decide (d.turn = 1), sop := decide (d.mks / 2 % 2 = 1), eph := decide (d.mks / 4 % 2 = 1) }
end Go.Proofs.Ytlhlhlabnjfhcaa
