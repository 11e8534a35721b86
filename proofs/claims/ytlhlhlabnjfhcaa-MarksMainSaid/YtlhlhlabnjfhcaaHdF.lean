/- MarksSames: two heads of one form, made in any order. -/
import Derived.Test.YtlhlhlabnjfhcaaLwA
import Derived.Test.YtlhlhlabnjfhcaaCsA
namespace Go.Proofs.Ytlhlhlabnjfhcaa
open Go.RowKit Go.Maps

/- a region that draws its order: what each operation keeps, the region keeps -/
section
variable {P : Program} {ops : Array Oper} {Q : Exit → Act → World → Prop} {md : Region.Mode}
theorem mem_ready {listed : Array Bool} {i : Nat} (h : i ∈ Region.ready md ops listed) :
    i < ops.size ∧ listed.getD i true = false ∧ ∀ o, ops[i]? = some o → ∀ e ∈ o.after.toList, Region.binds md e = true → listed.getD e.on false = true := by
  unfold Region.ready at h
  obtain ⟨h1, h2⟩ := List.mem_filter.1 h
  have hl := List.mem_range.1 h1
  simp only [Bool.and_eq_true, Bool.not_eq_true'] at h2
  refine ⟨hl, h2.1, fun o ho e he hb => ?_⟩
  have h3 := h2.2
  rw [ho] at h3
  simp only [Option.map_some, Option.getD_some, Array.all_eq_true_iff_forall_mem] at h3
  have h4 := h3 e (Array.mem_toList_iff.1 he)
  simpa [hb] using h4
theorem not_ready {listed : Array Bool} (h : Region.ready md ops listed = []) (i : Nat) (o : Oper) (ho : ops[i]? = some o) (hi : listed.getD i true = false)
    (ha : ∀ e ∈ o.after.toList, listed.getD e.on false = true) : False := by
  have hl : i < ops.size := (Array.getElem?_eq_some_iff.1 ho).1
  have : i ∈ Region.ready md ops listed := by
    unfold Region.ready
    refine List.mem_filter.2 ⟨List.mem_range.2 hl, ?_⟩
    rw [hi, ho]
    simp only [Bool.not_false, Bool.true_and, Option.map_some, Option.getD_some, Array.all_eq_true_iff_forall_mem]
    intro e he
    rw [ha e (Array.mem_toList_iff.2 he)]
    simp
  rw [h] at this
  cases this
theorem count_set : ∀ (l : List Bool) (i : Nat), l[i]? = some false → (l.set i true).countP (fun b => !b) + 1 = l.countP (fun b => !b)
  | [], i, h => by simp at h
  | b :: l, 0, h => by
    simp at h
    subst h
    simp
  | b :: l, i + 1, h => by
    have ih := count_set l i (by simpa using h)
    rw [List.set_cons_succ, List.countP_cons, List.countP_cons]
    omega
theorem wpAny_inv (I : Array Bool → Act → World → Prop) (hd : ∀ listed a w, I listed a w → Region.ready md ops listed = [] → Q .normal a w)
    (hs : ∀ listed a w i, I listed a w → i ∈ Region.ready md ops listed → wpOp P ops Q i (I (listed.setIfInBounds i true)) a w) :
    ∀ (fuel : Nat) (listed : Array Bool) (a : Act) (w : World), listed.toList.countP (fun b => !b) ≤ fuel → listed.size = ops.size → I listed a w → wpAny P md ops Q fuel listed a w := by
  intro fuel
  induction fuel with
  | zero =>
    intro listed a w hc hz hI
    have hr : Region.ready md ops listed = [] := by
      refine List.eq_nil_iff_forall_not_mem.2 fun i hi => ?_
      obtain ⟨h1, h2, -⟩ := mem_ready hi
      have hl : i < listed.size := by omega
      have h3 : listed.toList[i]? = some false := by
        rw [Array.getElem?_toList, Array.getElem?_eq_getElem hl]
        rw [Array.getD_eq_getD_getElem?, Array.getElem?_eq_getElem hl] at h2
        simpa using h2
      have := count_set _ _ h3
      omega
    exact ⟨hr, hd _ _ _ hI hr⟩
  | succ n ih =>
    intro listed a w hc hz hI
    refine ⟨hd _ _ _ hI, fun i hi => wpOp_mono (fun a w hI => ih _ _ _ ?_ (by simpa using hz) hI) (hs _ _ _ i hI hi)⟩
    obtain ⟨h1, h2, -⟩ := mem_ready hi
    have hl : i < listed.size := by omega
    have h3 : listed.toList[i]? = some false := by
      rw [Array.getElem?_toList, Array.getElem?_eq_getElem hl]
      rw [Array.getD_eq_getD_getElem?, Array.getElem?_eq_getElem hl] at h2
      simpa using h2
    have := count_set _ _ h3
    rw [Array.toList_setIfInBounds]
    omega
theorem wp_region_inv {id : Nat} {a : Act} {w : World} (hm : P.follows .mixedOrders = true) (I : Array Bool → Act → World → Prop) (h0 : I (Array.replicate ops.size false) a w.drew)
    (hd : ∀ listed a w, I listed a w → Region.ready .any ops listed = [] → Q .normal a w)
    (hs : ∀ listed a w i, I listed a w → i ∈ Region.ready .any ops listed → wpOp P ops Q i (I (listed.setIfInBounds i true)) a w) : (Code.region id ops true).wp P Q a w :=
  wp_region_any hm (wpAny_inv I hd hs _ _ _ _ (by have := List.countP_le_length (p := fun b : Bool => !b) (l := (Array.replicate ops.size false).toList); simpa using this) (by simp) h0)
end

/-- a row of one byte 1 -/
def Own1 (B : Nat) (w : World) (u : Value) : Prop := ∃ g, u = .slice (some ⟨g, 0, none⟩) 1 1 ∧ w.ownsRow B 5 1 u 1 [.int .u8 1]
theorem Own1.keep {B : Nat} {w w' : World} {u : Value} (h : Own1 B w u) (hb : Below w.heap.size w w') : Own1 B w' u := by
  obtain ⟨g, rfl, h⟩ := h
  exact ⟨g, rfl, owns_keepAll h hb⟩
theorem Own1.off {B g : Nat} {w w' : World} {u : Value} {A : Array Value} (h : Own1 B w u) (hb : Blk w g 33 A) (hg : w.grownBy w' (some g)) : Own1 B w' u := by
  obtain ⟨g', rfl, h⟩ := h
  exact ⟨g', rfl, World.ownsRow.kept h hg (.inr (own_blk_ne h hb (by decide)))⟩
theorem Own1.bv {B : Nat} {w : World} {u : Value} (h : Own1 B w u) : BV w u [1] := by
  obtain ⟨g, rfl, h⟩ := h
  exact BV.of_owns (l := [1]) h
/-- a head of the form, its components in block g -/
def HdV (f : FormD) (B : Nat) (w : World) (u cu : Value) (g : Nat) : Prop :=
  ∃ m p vc, u = .agg (headA m (.slice (some ⟨g, 0, none⟩) m.cs.length vc) p cu) ∧ CompsOwn w B (.slice (some ⟨g, 0, none⟩) m.cs.length vc) m.cs ∧ MadeOk f 8 m p ∧ MadeIs f 8 m p
theorem HdV.keep {f : FormD} {B g : Nat} {w w' : World} {u cu : Value} (h : HdV f B w u cu g) (hb : Below w.heap.size w w') : HdV f B w' u cu g := by
  obtain ⟨m, p, vc, rfl, h, k⟩ := h
  exact ⟨m, p, vc, rfl, h.keep hb, k⟩
theorem HdV.off {f : FormD} {B g g' : Nat} {w w' : World} {u cu : Value} {A : Array Value} (h : HdV f B w u cu g) (hb : Blk w g' 33 A) (hg : w.grownBy w' (some g')) : HdV f B w' u cu g := by
  obtain ⟨m, p, vc, rfl, h, k⟩ := h
  exact ⟨m, p, vc, rfl, CompsOwn.off h hb (by decide) (by decide) hg, k⟩
theorem made_first {f : FormD} {m : ImgD} {p : ParD} (h : MadeOk f 8 m p) : ∃ c, m.cs[0]? = some c := ⟨_, List.getElem?_eq_getElem (by have := h.n1; omega)⟩
theorem HdV.lt {f : FormD} {B g : Nat} {w : World} {u cu : Value} (h : HdV f B w u cu g) : g < w.heap.size := by
  obtain ⟨m, p, vc, rfl, h, k⟩ := h
  obtain ⟨c, hc⟩ := made_first k.1
  obtain ⟨g', d, e, -, h2, -⟩ := comps_at h hc
  simp only [Option.some.injEq, Addr.mk.injEq, and_true] at e
  rw [e]
  exact h2
theorem HdV.new {f : FormD} {B : Nat} {w : World} {m : ImgD} {p : ParD} {v cu : Value} {B' : Nat} (h : CompsOwn w B v m.cs) (h1 : MadeOk f 8 m p) (h2 : MadeIs f 8 m p) (hB : B' ≤ B) : ∃ g, B ≤ g ∧ HdV f B' w (.agg (headA m v p cu)) cu g := by
  obtain ⟨va, vc, rfl⟩ := h.slice
  obtain ⟨c, hc⟩ := made_first h1
  obtain ⟨g, d, rfl, hg, -⟩ := comps_at h hc
  exact ⟨g, hg, m, p, vc, rfl, h.base hB, h1, h2⟩

/-- where the making of two heads stands: bN says that operation N was done -/
structure Tw (f : FormD) (ns : Value) (nl : List Int) (w0 : World) (b0 b1 b2 b3 b4 b5 b6 b7 b8 b9 : Bool) (u7 u8 u12 u13 u14 u15 u16 u17 : Value) (ga gb g7 g8 : Nat) (w : World) : Prop where
  rg : Rg f ns nl w0 w
  e0 : b0 = true → u12 = .agg (formA f ns)
  e1 : b1 = true → Own1 w0.heap.size w u13
  e2 : b2 = true → b1 = true ∧ HdV f w0.heap.size w u14 u13 ga
  e3 : b3 = true → u15 = .agg (formA f ns)
  e4 : b4 = true → Own1 w0.heap.size w u16
  e5 : b5 = true → b2 = true ∧ b4 = true ∧ HdV f w0.heap.size w u17 u16 gb ∧ ga ≠ gb
  e6 : b6 = true → u7 = .pointer (some ⟨g7, 0, none⟩) ∧ w0.heap.size ≤ g7 ∧ ∃ A, A.size = 18 ∧ Blk w g7 33 A ∧ (b8 = true → u14 = .agg A)
  e7 : b7 = true → u8 = .pointer (some ⟨g8, 0, none⟩) ∧ w0.heap.size ≤ g8 ∧ ∃ A, A.size = 18 ∧ Blk w g8 33 A ∧ (b9 = true → u17 = .agg A)
  e8 : b8 = true → b2 = true ∧ b6 = true
  e9 : b9 = true → b5 = true ∧ b7 = true
  n67 : b6 = true → b7 = true → g7 ≠ g8

section
variable {f : FormD} {ns : Value} {nl : List Int} {w0 w w' : World} {b0 b1 b2 b3 b4 b5 b6 b7 b8 b9 : Bool} {u7 u8 u12 u13 u14 u15 u16 u17 : Value} {ga gb g7 g8 : Nat}
theorem Tw.keep (h : Tw f ns nl w0 b0 b1 b2 b3 b4 b5 b6 b7 b8 b9 u7 u8 u12 u13 u14 u15 u16 u17 ga gb g7 g8 w) (hb : Below w.heap.size w w') :
    Tw f ns nl w0 b0 b1 b2 b3 b4 b5 b6 b7 b8 b9 u7 u8 u12 u13 u14 u15 u16 u17 ga gb g7 g8 w' where
  rg := h.rg.below hb
  e0 := h.e0
  e1 := fun e => (h.e1 e).keep hb
  e2 := fun e => ⟨(h.e2 e).1, (h.e2 e).2.keep hb⟩
  e3 := h.e3
  e4 := fun e => (h.e4 e).keep hb
  e5 := fun e => ⟨(h.e5 e).1, (h.e5 e).2.1, (h.e5 e).2.2.1.keep hb, (h.e5 e).2.2.2⟩
  e6 := fun e => by
    obtain ⟨h1, h2, A, h3, h4, h5⟩ := h.e6 e
    exact ⟨h1, h2, A, h3, h4.below hb h4.lt, h5⟩
  e7 := fun e => by
    obtain ⟨h1, h2, A, h3, h4, h5⟩ := h.e7 e
    exact ⟨h1, h2, A, h3, h4.below hb h4.lt, h5⟩
  e8 := h.e8
  e9 := h.e9
  n67 := h.n67
theorem Tw.off (h : Tw f ns nl w0 b0 b1 b2 b3 b4 b5 b6 b7 b8 b9 u7 u8 u12 u13 u14 u15 u16 u17 ga gb g7 g8 w) {g : Nat} {A : Array Value} (hg : Blk w g 33 A) (hgr : w.grownBy w' (some g)) (hlo : w0.heap.size < g)
    (e6 : b6 = true → u7 = .pointer (some ⟨g7, 0, none⟩) ∧ w0.heap.size ≤ g7 ∧ ∃ A, A.size = 18 ∧ Blk w' g7 33 A ∧ (b8 = true → u14 = .agg A))
    (e7 : b7 = true → u8 = .pointer (some ⟨g8, 0, none⟩) ∧ w0.heap.size ≤ g8 ∧ ∃ A, A.size = 18 ∧ Blk w' g8 33 A ∧ (b9 = true → u17 = .agg A)) (hns : RdI w' ns nl) :
    Tw f ns nl w0 b0 b1 b2 b3 b4 b5 b6 b7 b8 b9 u7 u8 u12 u13 u14 u15 u16 u17 ga gb g7 g8 w' where
  rg := ⟨h.rg.1.trans (below_grown hgr h.rg.1.size (by rintro k ⟨⟩; omega)), h.rg.2.1.grown hgr (by simp; omega), hns⟩
  e0 := h.e0
  e1 := fun e => (h.e1 e).off hg hgr
  e2 := fun e => ⟨(h.e2 e).1, (h.e2 e).2.off hg hgr⟩
  e3 := h.e3
  e4 := fun e => (h.e4 e).off hg hgr
  e5 := fun e => ⟨(h.e5 e).1, (h.e5 e).2.1, (h.e5 e).2.2.1.off hg hgr, (h.e5 e).2.2.2⟩
  e6 := e6
  e7 := e7
  e8 := h.e8
  e9 := h.e9
  n67 := h.n67
end
end Go.Proofs.Ytlhlhlabnjfhcaa
