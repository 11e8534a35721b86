/- A picture's components in memory: own ones, read ones. -/
import Derived.Test.YtlhlhlabnjfhcaaProg
import Derived.Test.YtlhlhlabnjfhcaaLib
import Derived.Test.YtlhlhlabnjfhcaaWords
namespace Go.Proofs.Ytlhlhlabnjfhcaa
open Go.RowKit

structure ParD where
  tx : Int
  ty : Int
  lv : Int
  cbw : Int
  cbh : Int
  prec : Int
  style : Int
  order : Int
  layers : Int
  rct : Bool
  sop : Bool
  eph : Bool
structure CompD where
  depth : Int
  signed : Bool
  dx : Int
  dy : Int
  data : List Int

def compCells (c : CompD) (dv : Value) : List Value := [.int .i64 c.depth, .bool c.signed, .int .i64 c.dx, .int .i64 c.dy, dv]
def compFlat (cs : List CompD) (dvs : List Value) : List Value := (List.zipWith compCells cs dvs).flatten

/-- params as a value -/
def parV (p : ParD) : Value :=
  .agg #[.int .i64 p.tx, .int .i64 p.ty, .int .i64 p.lv, .int .i64 p.cbw, .int .i64 p.cbh, .int .i64 p.prec, .int .i64 p.style, .int .i64 p.order, .int .i64 p.layers, .bool p.rct, .bool p.sop, .bool p.eph]
structure ImgD where
  x : Int
  y : Int
  ox : Int
  oy : Int
  cs : List CompD
def imgV (m : ImgD) (v : Value) : Value := .agg #[.int .i64 m.x, .int .i64 m.y, .int .i64 m.ox, .int .i64 m.oy, v]

/-- the slice value v owns these components, and each its samples -/
def CompsOwn (w : World) (B : Nat) (v : Value) (cs : List CompD) : Prop :=
  ∃ dvs : List Value, dvs.length = cs.length ∧ w.ownsRow B 45 5 v cs.length (compFlat cs dvs) ∧
    ∀ (i : Nat) c dv, cs[i]? = some c → dvs[i]? = some dv → w.ownsRow B 3 1 dv c.data.length (c.data.map (Value.int .i64))

theorem compFlat_snoc (cs : List CompD) (dvs : List Value) (c : CompD) (dv : Value) (h : dvs.length = cs.length) : compFlat (cs ++ [c]) (dvs ++ [dv]) = compFlat cs dvs ++ compCells c dv := by
  unfold compFlat
  rw [List.zipWith_append h.symm]
  simp

theorem CompsOwn.nil (w : World) (B : Nat) : CompsOwn w B (.slice none 0 0) [] := ⟨[], rfl, World.ownsRow_nil _ _ _ _, by simp⟩

theorem CompsOwn.keep {w w' : World} {B : Nat} {v : Value} {cs : List CompD} (h : CompsOwn w B v cs) (hb : Below w.heap.size w w') : CompsOwn w' B v cs := by
  obtain ⟨dvs, h1, h2, h3⟩ := h
  exact ⟨dvs, h1, owns_keepAll h2 hb, fun i c dv hc hd => owns_keepAll (h3 i c dv hc hd) hb⟩

theorem CompsOwn.setCell {w : World} {B : Nat} {v : Value} {cs : List CompD} (h : CompsOwn w B v cs) {a : Addr} (ha : a.block < B) (u : Value) : CompsOwn (w.setCell a u) B v cs := by
  obtain ⟨dvs, h1, h2, h3⟩ := h
  exact ⟨dvs, h1, ownsRow_setCell_below h2 ha u, fun i c dv hc hd => ownsRow_setCell_below (h3 i c dv hc hd) ha u⟩

theorem CompsOwn.snoc {w w' : World} {B : Nat} {v v' : Value} {cs : List CompD} {c : CompD} {dv : Value} {dvs : List Value} (h1 : dvs.length = cs.length) (h2 : w.ownsRow B 45 5 v cs.length (compFlat cs dvs))
    (h3 : ∀ (i : Nat) c dv, cs[i]? = some c → dvs[i]? = some dv → w.ownsRow B 3 1 dv c.data.length (c.data.map (Value.int .i64)))
    (hd : w.ownsRow B 3 1 dv c.data.length (c.data.map (Value.int .i64)))
    (ho : w'.ownsRow B 45 5 v' (cs.length + 1) (compFlat cs dvs ++ compCells c dv)) (hg : w.grownBy w' v.ownBlock) : CompsOwn w' B v' (cs ++ [c]) := by
  refine ⟨dvs ++ [dv], by simp [h1], ?_, ?_⟩
  · rw [compFlat_snoc _ _ _ _ h1, List.length_append, List.length_singleton]
    exact ho
  · intro i c' dv' hc hdv
    rw [List.getElem?_append] at hc hdv
    by_cases hi : i < cs.length
    · rw [if_pos hi] at hc
      rw [if_pos (by omega)] at hdv
      exact owns_apart (h3 i c' dv' hc hdv) h2 (by decide) hg
    · rw [if_neg hi] at hc
      rw [if_neg (by omega)] at hdv
      have e1 : i - cs.length = 0 := by
        have := (List.getElem?_eq_some_iff.1 hc).1
        simp at this
        omega
      rw [h1] at hdv
      rw [e1] at hc hdv
      simp at hc hdv
      subst hc hdv
      exact owns_apart hd h2 (by decide) hg

/-- the slice value v reads as these numbers -/
def RdI (w : World) (v : Value) (xs : List Int) : Prop :=
  ∃ (a : Option Addr) (cap : Nat), v = .slice a xs.length cap ∧ xs.length ≤ cap ∧ cap ≤ maxLen ∧
    ∀ k x, xs[k]? = some x → ∃ b o, a = some ⟨b, o, none⟩ ∧ w.cell? ⟨b, o + k, none⟩ = some (.int .i64 x)

theorem RdI.of_owns {w : World} {B : Nat} {v : Value} {xs : List Int} (h : w.ownsRow B 3 1 v xs.length (xs.map (Value.int .i64))) : RdI w v xs := by
  obtain ⟨a, cap, rfl, h1, h2, h3⟩ := Rd.of_owns h
  exact ⟨a, cap, rfl, h1, h2, fun k x hx => h3 k (.int .i64 x) (by simp [hx])⟩

theorem RdI.keep {w w' : World} {v : Value} {xs : List Int} (h : RdI w v xs) (hb : Below w.heap.size w w') : RdI w' v xs := by
  obtain ⟨a, cap, rfl, h1, h2, h3⟩ := h
  refine ⟨a, cap, rfl, h1, h2, fun k x hx => ?_⟩
  obtain ⟨b, o, rfl, hc⟩ := h3 k x hx
  exact ⟨b, o, rfl, (hb.cell (World.block_lt_of_cell? w _ hc)).trans hc⟩

/-- the slice value v reads as these components -/
def CompsRd (w : World) (v : Value) (cs : List CompD) : Prop :=
  ∃ (a : Option Addr) (cap : Nat), v = .slice a cs.length cap ∧ cs.length ≤ cap ∧ cap ≤ maxLen ∧
    ∀ k c, cs[k]? = some c → ∃ b o dv, a = some ⟨b, o, none⟩ ∧ w.cell? ⟨b, o + k * 5, none⟩ = some (.int .i64 c.depth) ∧ w.cell? ⟨b, o + k * 5 + 1, none⟩ = some (.bool c.signed) ∧
      w.cell? ⟨b, o + k * 5 + 2, none⟩ = some (.int .i64 c.dx) ∧ w.cell? ⟨b, o + k * 5 + 3, none⟩ = some (.int .i64 c.dy) ∧ w.cell? ⟨b, o + k * 5 + 4, none⟩ = some dv ∧ RdI w dv c.data

theorem CompsRd.keep {w w' : World} {v : Value} {cs : List CompD} (h : CompsRd w v cs) (hb : Below w.heap.size w w') : CompsRd w' v cs := by
  obtain ⟨a, cap, rfl, h1, h2, h3⟩ := h
  refine ⟨a, cap, rfl, h1, h2, fun k c hk => ?_⟩
  obtain ⟨b, o, dv, rfl, c0, c1, c2, c3, c4, hd⟩ := h3 k c hk
  exact ⟨b, o, dv, rfl, (hb.cell (World.block_lt_of_cell? w _ c0)).trans c0, (hb.cell (World.block_lt_of_cell? w _ c1)).trans c1, (hb.cell (World.block_lt_of_cell? w _ c2)).trans c2,
    (hb.cell (World.block_lt_of_cell? w _ c3)).trans c3, (hb.cell (World.block_lt_of_cell? w _ c4)).trans c4, hd.keep hb⟩

theorem flat_get : ∀ (cs : List CompD) (dvs : List Value) (k : Nat) (c : CompD) (dv : Value), cs[k]? = some c → dvs[k]? = some dv → ∀ j, j < 5 → (compFlat cs dvs)[k * 5 + j]? = (compCells c dv)[j]?
  | [], _, _, _, _, h, _, _, _ => by simp at h
  | _ :: _, [], _, _, _, _, h, _, _ => by simp at h
  | c0 :: cs, d0 :: dvs, 0, c, dv, hc, hd, j, hj => by
    simp at hc hd
    subst hc hd
    unfold compFlat
    simp only [List.zipWith_cons_cons, List.flatten_cons, Nat.zero_mul, Nat.zero_add]
    rw [List.getElem?_append_left (by simpa [compCells] using hj)]
  | c0 :: cs, d0 :: dvs, k + 1, c, dv, hc, hd, j, hj => by
    have ih := flat_get cs dvs k c dv (by simpa using hc) (by simpa using hd) j hj
    unfold compFlat at ih ⊢
    simp only [List.zipWith_cons_cons, List.flatten_cons]
    rw [List.getElem?_append_right (by simp [compCells]; omega)]
    rw [show (k + 1) * 5 + j - (compCells c0 d0).length = k * 5 + j by simp [compCells]; omega]
    exact ih

theorem CompsRd.of_owns {w : World} {B : Nat} {v : Value} {cs : List CompD} (h : CompsOwn w B v cs) : CompsRd w v cs := by
  obtain ⟨dvs, hl, ho, hd⟩ := h
  obtain ⟨a, cap, rfl, h1, h2, h3⟩ := Rd.of_owns ho
  refine ⟨a, cap, rfl, h1, h2, fun k c hk => ?_⟩
  have hkl : k < cs.length := (List.getElem?_eq_some_iff.1 hk).1
  have hdv : dvs[k]? = some (dvs[k]'(by omega)) := List.getElem?_eq_getElem _
  generalize dvs[k]'(by omega) = dv at hdv
  have hf := flat_get cs dvs k c dv hk hdv
  obtain ⟨b, o, rfl, c0⟩ := h3 (k * 5 + 0) _ ((hf 0 (by omega)).trans rfl)
  have get : ∀ j u, j < 5 → (compCells c dv)[j]? = some u → w.cell? ⟨b, o + k * 5 + j, none⟩ = some u := fun j u hj hu => by
    obtain ⟨b', o', e, c0⟩ := h3 (k * 5 + j) _ ((hf j hj).trans hu)
    simp only [Option.some.injEq, Addr.mk.injEq, and_true] at e
    obtain ⟨rfl, rfl⟩ := e
    rw [Nat.add_assoc]
    exact c0
  exact ⟨b, o, dv, rfl, c0, get 1 _ (by omega) rfl, get 2 _ (by omega) rfl, get 3 _ (by omega) rfl, get 4 _ (by omega) rfl, RdI.of_owns (hd k c dv hk hdv)⟩

end Go.Proofs.Ytlhlhlabnjfhcaa
