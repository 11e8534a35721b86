/- waveletref8: a block on its way: what is in memory. -/
import Derived.Test.YtnpoakabheeoeaaRac
import Derived.Test.YtnpoakabheeoeaaRad
import Derived.Test.YtnpoakabheeoeaaMqs
import Derived.Test.YtnpoakabheeoeaaMqx
namespace Go.Proofs.Ytnpoakabheeoeaa
open Go.RowKit

theorem Mv.old {w0 w : World} {H : List HB} (h : Mv w0 [] w H) {a : Addr} {u : Value} (hc : w0.cell? a = some u) (hl : a.block < w0.heap.size) : w.cell? a = some u := (h.below0.cell (p := a) hl).trans hc
/-- a coder's cells: t is what stands behind its contexts -/
def codT (A : CodA) (G : GeoM) (cx : List CxM) (t : List Value) : List Value :=
  [.int .i64 (G.w : Int), .int .i64 (G.h : Int), .int .i64 (G.band : Int), .int .i64 (G.style : Int), slV A.gm (G.w * G.h), slV A.gn (G.w * G.h), slV A.gs (G.w * G.h), slV A.ge (G.w * G.h), slV A.ga (G.w * G.h)] ++ (cxV cx ++ t)
def tailP (wr raw : Bool) (pe pr : Value) : List Value := [.bool wr, .bool raw, pe, pr, .pointer none, .pointer none]
def ptr0 (g : Nat) : Value := .pointer (some ⟨g, 0, none⟩)
def codH (A : CodA) (G : GeoM) (cx : List CxM) (t : List Value) : HB := ⟨A.cb, 98, (codT A G cx t).toArray⟩
theorem codI_eq (A : CodA) (G : GeoM) : codI G A.gm A.gn A.gs A.ge A.ga = codT A G cxFresh (tailP false false (.pointer none) (.pointer none)) := rfl
theorem codB_eq (A : CodA) (G : GeoM) (cx : List CxM) (raw : Bool) (eg rg : Nat) : codB A G cx raw eg rg = codH A G cx (tailP true raw (ptr0 eg) (ptr0 rg)) := rfl
theorem codT_set {A : CodA} {G : GeoM} {cx : List CxM} (hl : cx.length = 19) (t : List Value) (i : Nat) (v : Value) : (codT A G cx t).toArray.setIfInBounds (47 + i) v = (codT A G cx (t.set i v)).toArray := by
  have hc := cxV_length cx
  unfold codT
  rw [List.setIfInBounds_toArray, List.set_append_right _ _ (by simp only [List.length_cons, List.length_nil]; omega), List.set_append_right _ _ (by simp only [List.length_cons, List.length_nil]; omega)]
  congr 4
  simp only [List.length_cons, List.length_nil]
  omega
theorem codT_get {A : CodA} {G : GeoM} {cx : List CxM} (hl : cx.length = 19) (t : List Value) (i : Nat) : (codT A G cx t).toArray[47 + i]? = t[i]? := by
  have hc := cxV_length cx
  unfold codT
  rw [List.getElem?_toArray, List.getElem?_append_right (by simp only [List.length_cons, List.length_nil]; omega), List.getElem?_append_right (by simp only [List.length_cons, List.length_nil]; omega)]
  congr 1
  simp only [List.length_cons, List.length_nil]
  omega
theorem zN_eq (g n : Nat) : zN g n = rowN g (List.replicate n 0) := by simp [zN, rowN]
theorem zL_eq (g n : Nat) : zL g n = rowL g (List.replicate n false) := by simp [zL, rowL]
theorem rowN_set (g : Nat) (l : List Nat) (i m : Nat) : (rowN g l).cs.setIfInBounds i (.int .i64 (m : Int)) = (rowN g (l.set i m)).cs := by
  simp [rowN]
/-- a block's cells -/
def bB (bb : Nat) (pl : Nat) (pv bv : Value) : HB := ⟨bb, 38, #[.int .i64 (pl : Int), pv, bv]⟩
def nil0 : Value := .slice none 0 0
/-- a coder whose values are laid up to the i-th -/
def IniH (A : CodA) (bb : Nat) (G : GeoM) (i : Nat) (pl : Nat) (R : List HB) : List HB :=
  codH A G cxFresh (tailP true false (.pointer none) (.pointer none)) :: rowN A.gm (midN G.mag i) :: rowN A.gn (midN G.neg i) :: bB bb pl nil0 nil0 :: R
theorem ini_mag {A : CodA} {w0 w : World} {b0 : HB} {rest : List HB} {l : List Nat} {i m : Nat} (M : Mv w0 [] w (b0 :: rowN A.gm (midN l i) :: rest)) (h : l[i]? = some m) : Mv w0 [] (w.setCell ⟨A.gm, i, none⟩ (.int .i64 (m : Int))) (b0 :: rowN A.gm (midN l (i + 1)) :: rest) := by
  have := Mv.setAt (A := [b0]) (g := A.gm) (t := 3) (cs := (rowN A.gm (midN l i)).cs) M i (.int .i64 (m : Int))
  rw [rowN_set, midN_set l i h] at this
  exact this
theorem ini_neg {A : CodA} {w0 w : World} {b0 b1 : HB} {rest : List HB} {l : List Nat} {i m : Nat} (M : Mv w0 [] w (b0 :: b1 :: rowN A.gn (midN l i) :: rest)) (h : l[i]? = some m) : Mv w0 [] (w.setCell ⟨A.gn, i, none⟩ (.int .i64 (m : Int))) (b0 :: b1 :: rowN A.gn (midN l (i + 1)) :: rest) := by
  have := Mv.setAt (A := [b0, b1]) (g := A.gn) (t := 3) (cs := (rowN A.gn (midN l i)).cs) M i (.int .i64 (m : Int))
  rw [rowN_set, midN_set l i h] at this
  exact this
theorem ini_pl {w0 w : World} {b0 b1 b2 : HB} {rest : List HB} {bb pl : Nat} {pv bv : Value} (M : Mv w0 [] w (b0 :: b1 :: b2 :: bB bb pl pv bv :: rest)) (q : Nat) : Mv w0 [] (w.setCell ⟨bb, 0, none⟩ (.int .i64 (q : Int))) (b0 :: b1 :: b2 :: bB bb q pv bv :: rest) :=
  Mv.setAt (A := [b0, b1, b2]) (g := bb) (t := 38) (cs := #[.int .i64 (pl : Int), pv, bv]) M 0 (.int .i64 (q : Int))
/-- what is read of a coder's front -/
theorem codT_front {w : World} {A : CodA} {G : GeoM} {cx : List CxM} {t : List Value} (b : Blk w A.cb 98 (codT A G cx t).toArray) :
    w.cell? ⟨A.cb, 4, none⟩ = some (slV A.gm (G.w * G.h)) ∧ w.cell? ⟨A.cb, 5, none⟩ = some (slV A.gn (G.w * G.h)) := by
  have c := fun i => b.cell i
  simp only [codT, List.cons_append, List.nil_append] at c
  exact ⟨c 4, c 5⟩
theorem shr_pos {m q : Nat} (h : 0 < m / 2 ^ q) : decide ((0 : Int) < (m : Int) / 2 ^ q) = true := by
  have e : (m : Int) / 2 ^ q = ((m / 2 ^ q : Nat) : Int) := by push_cast; rfl
  rw [e]
  exact decide_eq_true (Int.natCast_pos.2 h)
theorem shr_not {m q : Nat} (h : ¬ 0 < m / 2 ^ q) : decide ((0 : Int) < (m : Int) / 2 ^ q) = false := by
  have e : (m : Int) / 2 ^ q = ((m / 2 ^ q : Nat) : Int) := by push_cast; rfl
  rw [e]
  exact decide_eq_false (fun hh => h (Int.natCast_pos.1 hh))
theorem stepP_le {p m B : Nat} (h : m < 2 ^ B) (hp : p ≤ B) : stepP p m ≤ B := by
  unfold stepP
  split
  · exact hp
  · next h0 =>
    have := (Nat.log2_lt h0 (k := B)).2 h
    omega
theorem stepP_ge (p m : Nat) : p ≤ stepP p m := by
  unfold stepP
  split <;> omega
theorem getD_of {l : List Nat} {i m : Nat} (h : l[i]? = some m) : l.getD i 0 = m := by
  rw [List.getD_eq_getElem?_getD, h]
  rfl
end Go.Proofs.Ytnpoakabheeoeaa
