/- marks: the map of the segments seen, by its bytes; bytes behind a write to one block; any Get. -/
import Derived.Test.YtlhlhlabnjfhcaaByD
import Derived.Maps.OwnSet
import Derived.RangeFuncOwn
namespace Go.Proofs.Ytlhlhlabnjfhcaa
open Go.RowKit Go.Maps

/-- a row of bytes that the call has made -/
def OB (w : World) (v : Value) (l : List UInt8) : Prop := w.ownsRow 0 5 1 v l.length (cellsB l)
/-- a block that holds no bytes -/
def NoB (w : World) (g : Nat) : Prop := ∀ cur, w.heap[g]? ≠ some (.cells cur 5 (0, 0))
theorem OB.of {w : World} {B : Nat} {v : Value} {l : List UInt8} (h : w.ownsRow B 5 1 v l.length (cellsB l)) : OB w v l := by
  obtain ⟨h1, h2⟩ := h
  refine ⟨h1, h2.imp id ?_⟩
  rintro ⟨g, cap, cur, a, b, c⟩
  exact ⟨g, cap, cur, a, Nat.zero_le _, c⟩
theorem OB.bv {w : World} {v : Value} {l : List UInt8} (h : OB w v l) : BV w v l := BV.of_owns h
theorem OB.nil (w : World) : OB w (.slice none 0 0) [] := ⟨rfl, .inl ⟨rfl, rfl⟩⟩
theorem OB.grown {w w' : World} {row : Option Nat} {v : Value} {l : List UInt8} (h : OB w v l) (hb : w.grownBy w' row) (hg : ∀ g, row = some g → NoB w g) : OB w' v l := by
  refine World.ownsRow.kept h hb ?_
  rcases h.2 with ⟨rfl, _⟩ | ⟨g', cap, cur, rfl, _, hh, _⟩
  · exact .inl rfl
  · refine .inr fun he => hg g' ?_ cur hh
    rw [← he]
    rfl
theorem OB.below {w w' : World} {v : Value} {l : List UInt8} (h : OB w v l) (hb : Below w.heap.size w w') : OB w' v l := h.grown (only_of_below hb none) (by simp)
theorem OB.drew {w : World} {v : Value} {l : List UInt8} (h : OB w v l) : OB w.drew v l := h
theorem Blk.noB {w : World} {g : Nat} {t : TypeId} {cs : Array Value} (h : Blk w g t cs) (ht : t ≠ 5) : NoB w g := by
  intro cur he
  unfold Blk at h
  rw [h] at he
  injection he with he
  injection he with _ he
  exact ht he
theorem Rdr.noB {w : World} {rb : Nat} {l : List UInt8} {e : Int} (h : Rdr w rb l e) : NoB w rb := by
  obtain ⟨A, c, h0, -⟩ := h
  exact h0.noB (by decide)

def rawElem (v : Value) : Option (DataW Value × List MemPlace) := some (.held v, [])
theorem lawInt : Keyed Try.prog 3 := int_keyed Try.underlying3
def keyL (k : Int) : Lit := .int .i64 k
def nilE : DataW Value := .held (.slice none 0 0)

/-- the map in block mb: which segments were seen, with which bytes -/
def Seen (w : World) (mb n : Nat) (f : Int → Option (List UInt8)) : Prop :=
  ∃ D : DataW Value, w.ownsMap Try.prog 3 rawElem mb n D ∧
    ∀ k : Int, match f k with
      | none => has D (keyL k) = false
      | some l => has D (keyL k) = true ∧ ∃ v, D.atKey (keyL k) nilE = .held v ∧ OB w v l

theorem Seen.made (w : World) : Seen (w.alloc (.map #[] 0)) w.heap.size 0 (fun _ => none) :=
  ⟨.map [], World.ownsMap_made _ _ _ _, fun _ => rfl⟩
theorem Seen.lt {w : World} {mb n : Nat} {f : Int → Option (List UInt8)} (h : Seen w mb n f) : mb < w.heap.size := by
  obtain ⟨D, h1, -⟩ := h
  exact h1.lt
theorem Seen.isMap {w : World} {mb n : Nat} {f : Int → Option (List UInt8)} (h : Seen w mb n f) : ∃ es clock, w.heap[mb]? = some (.map es clock) := by
  obtain ⟨D, ⟨es, clock, hb, -⟩, -⟩ := h
  exact ⟨es, clock, hb⟩
theorem Seen.mono {w : World} {mb n n' : Nat} {f : Int → Option (List UInt8)} (h : Seen w mb n f) (hn : n ≤ n') : Seen w mb n' f := by
  obtain ⟨D, h1, h2⟩ := h
  exact ⟨D, h1.mono hn, h2⟩
/-- the map stays what it is where bytes do, and its block is not written -/
theorem Seen.keep {w w' : World} {mb n : Nat} {f : Int → Option (List UInt8)} {row : Option Nat} (h : Seen w mb n f) (hg : w.grownBy w' row) (hne : some mb ≠ row) (hv : ∀ g, row = some g → NoB w g) : Seen w' mb n f := by
  obtain ⟨D, h1, h2⟩ := h
  refine ⟨D, h1.kept hg hne, fun k => ?_⟩
  have := h2 k
  revert this
  cases f k with
  | none => exact id
  | some l => exact fun ⟨a, v, b, c⟩ => ⟨a, v, b, c.grown hg hv⟩
theorem Seen.below {w w' : World} {mb n : Nat} {f : Int → Option (List UInt8)} (h : Seen w mb n f) (hb : Below w.heap.size w w') : Seen w' mb n f :=
  h.keep (only_of_below hb none) (by simp) (by simp)
theorem Seen.noB {w : World} {mb n : Nat} {f : Int → Option (List UInt8)} (h : Seen w mb n f) : NoB w mb := by
  obtain ⟨es, clock, hb⟩ := h.isMap
  intro cur he
  rw [hb] at he
  injection he with he
  cases he
theorem Seen.ne_blk {w : World} {mb n g : Nat} {f : Int → Option (List UInt8)} {t : TypeId} {cs : Array Value} (h : Seen w mb n f) (hb : Blk w g t cs) : g ≠ mb := by
  rintro rfl
  obtain ⟨es, clock, h1⟩ := h.isMap
  unfold Blk at hb
  rw [hb] at h1
  injection h1 with h1
  cases h1
theorem Seen.drew {w : World} {mb n : Nat} {f : Int → Option (List UInt8)} (h : Seen w mb n f) : Seen w.drew mb n f := h

def setF (f : Int → Option (List UInt8)) (k : Int) (l : List UInt8) : Int → Option (List UInt8) := fun j => if j = k then some l else f j
theorem setF_same (f : Int → Option (List UInt8)) (k : Int) (l : List UInt8) : setF f k l k = some l := by simp [setF]
theorem setF_ne (f : Int → Option (List UInt8)) {k j : Int} (l : List UInt8) (h : j ≠ k) : setF f k l j = f j := by simp [setF, h]

section
variable {w : World} {ops : Array Oper} {rest : List Oper} {o : Oper} {a : Act} {Q : Exit → Act → World → Prop}
/-- 'v, ok := seen[k]' -/
theorem wpList_seen_lookup (hg : o.guard = none) (m x : Operand) (hop : o.op = Op.lookup 64 m x true) (mb n : Nat) (f : Int → Option (List UInt8)) (hm : a.eval m = .map (some mb)) (h : Seen w mb n f) (k : Int) (hx : a.eval x = .int .i64 k) (hwf : (Lit.int .i64 k).wf = true)
    (hK : ∀ v, OB w v ((f k).getD []) → wpList Try.prog ops Q rest (a.put o.dst (.tuple #[v, .bool (f k).isSome])) w) : wpList Try.prog ops Q (o :: rest) a w := by
  obtain ⟨D, h1, h2⟩ := h
  refine wpList_lookup_own_ok w hg m x _ hop 3 25 lawInt Try.underlying64 rawElem (z := .slice none 0 0) (by kernel_rfl) nilE [] rfl mb n D hm h1 _ (keyL k) hx (keyOf_int_mk Try.underlying3 hwf) (fun v ps hv => ?_)
  have h3 := h2 k
  revert h3
  have hv' : DataW.held v = D.atKey (keyL k) nilE := by
    unfold rawElem at hv
    simp only [Option.some.injEq, Prod.mk.injEq] at hv
    exact hv.1
  cases e : f k with
  | none =>
    intro h3
    rw [h3]
    have := hK v
    rw [e] at this
    refine this ?_
    rw [atKey_of_not_has h3] at hv'
    unfold nilE at hv'
    injection hv' with hv'
    subst hv'
    exact OB.nil w
  | some l =>
    rintro ⟨h3, v', h4, h5⟩
    rw [h3]
    have := hK v
    rw [e] at this
    refine this ?_
    rw [h4] at hv'
    injection hv' with hv'
    subst hv'
    exact h5
/-- 'seen[k] = v' -/
theorem wpList_seen_store (hg : o.guard = none) (m x v : Operand) (hop : o.op = Op.mapUpdate 64 m x v) (mb n : Nat) (f : Int → Option (List UInt8)) (hm : a.eval m = .map (some mb)) (h : Seen w mb n f) (hn : n < maxLen) (k : Int) (hx : a.eval x = .int .i64 k) (hwf : (Lit.int .i64 k).wf = true)
    (val : Value) (l : List UInt8) (hv : a.eval v = val) (hl : OB w val l)
    (hK : ∀ w', Seen w' mb (n + 1) (setF f k l) → w.grownBy w' (some mb) → (∀ u r, OB w u r → OB w' u r) → wpList Try.prog ops Q rest (a.put o.dst undef) w') : wpList Try.prog ops Q (o :: rest) a w := by
  have hno := h.noB
  obtain ⟨D, h1, h2⟩ := h
  refine wpList_mapUpdate_own w hg m x v _ hop 3 25 lawInt Try.underlying64 rawElem mb n D hm h1 hn _ val (keyL k) hx hv (keyOf_int_mk Try.underlying3 hwf) (.held val) [] rfl (fun w' h3 h4 => ?_)
  have hkeep : ∀ u r, OB w u r → OB w' u r := fun u r hu => hu.grown h4 (fun g hg => by cases hg; exact hno)
  refine hK w' ⟨_, h3, fun j => ?_⟩ h4 hkeep
  by_cases hj : j = k
  · subst hj
    rw [setF_same]
    exact ⟨has_put_same h1.isMap (show WideAt.IsKeyLit (keyL j) from trivial) _, val, atKey_put_same h1.isMap (show WideAt.IsKeyLit (keyL j) from trivial) _ _, hkeep _ _ hl⟩
  · rw [setF_ne f l hj]
    have hne : keyL j ≠ keyL k := fun e => hj (by unfold keyL at e; injection e)
    have h5 := h2 j
    revert h5
    cases f j with
    | none => intro h5; show has _ _ = false; rw [has_put_other hne]; exact h5
    | some l' => rintro ⟨a1, v', a2, a3⟩; exact ⟨by rw [has_put_other hne]; exact a1, v', by rw [atKey_put_other hne]; exact a2, hkeep _ _ a3⟩
end

/-- what Get answers, and what it leaves -/
def rOk (k : Nat) (l : List UInt8) (er : Int) : Prop := er = 0 ∧ k ≤ l.length
instance (k : Nat) (l : List UInt8) (er : Int) : Decidable (rOk k l er) := inferInstanceAs (Decidable (_ ∧ _))
def rV (k : Nat) (l : List UInt8) (er : Int) : Int := if rOk k l er then getI (l.take k) else 0
def rL (k : Nat) (l : List UInt8) (er : Int) : List UInt8 := if rOk k l er then l.drop k else l
def rE (k : Nat) (l : List UInt8) (er : Int) : Int := if rOk k l er then 0 else failE er 8

theorem get_any (rb : Nat) (l : List UInt8) (er : Int) (k : Nat) (w : World) (hr : Rdr w rb l er) (hl : l.length ≤ 140737488355328) (h1 : 1 ≤ k) (h8 : k ≤ 8) :
    Calls Try.prog 45 #[.pointer (some ⟨rb, 0, none⟩), .int .i64 k] w fun e w' => e = .returned (.int .i64 (rV k l er)) ∧ Rdr w' rb (rL k l er) (rE k l er) ∧ w.grownBy w' (some rb) := by
  unfold rV rL rE
  by_cases h : rOk k l er
  · simp only [if_pos h]
    obtain ⟨rfl, h⟩ := h
    exact get_ok rb l k w hr hl h1 h8 h
  · simp only [if_neg h]
    exact get_bad rb l er k w hr hl h1 h8 (by unfold rOk at h; omega)
theorem rL_len (k : Nat) (l : List UInt8) (er : Int) : (rL k l er).length ≤ l.length := by unfold rL; split <;> simp
end Go.Proofs.Ytlhlhlabnjfhcaa
