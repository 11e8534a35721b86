/- marks: the map of the segments seen, by its bytes; bytes behind a write to one block; any Get. marks: other, the markers that are none of those read. marks: a segment's length and bytes. marks: are all precincts' bytes alike: the closure, IndexFunc, ContainsFunc. marks: COD is read. marks: COD is read: the way that is known. -/
import Derived.Test.YtlhlhlabnjfhcaaBy
import Derived.Maps.OwnSet
import Derived.RangeFuncOwn
import Derived.Test.YtlhlhlabnjfhcaaFmC
import Derived.Deep.RegionHeld3
namespace Go.Proofs.Ytlhlhlabnjfhcaa
open Go.RowKit Go.Maps

/-- a row of bytes that the call has made -/
def OB (w : World) (v : Value) (l : List UInt8) : Prop := w.ownsRow 0 5 1 v l.length (cellsB l)
/-- a block that holds no bytes -/
def NoB (w : World) (g : Nat) : Prop := ∀ cur, w.heap[g]? ≠ some (.cells cur 5 (0, 0))
theorem OB.of {w : World} {B : Nat} {v : Value} {l : List UInt8} (h : w.ownsRow B 5 1 v l.length (cellsB l)) : OB w v l := by
  obtain ⟨h1, h2⟩ := h
  refine ⟨h1, h2.imp id ?_⟩
  rintro ⟨g, cap, cur, a, b, c⟩
  exact ⟨g, cap, cur, a, Nat.zero_le _, c⟩
theorem OB.bv {w : World} {v : Value} {l : List UInt8} (h : OB w v l) : BV w v l := BV.of_owns h
theorem OB.nil (w : World) : OB w (.slice none 0 0) [] := ⟨rfl, .inl ⟨rfl, rfl⟩⟩
theorem OB.grown {w w' : World} {row : Option Nat} {v : Value} {l : List UInt8} (h : OB w v l) (hb : w.grownBy w' row) (hg : ∀ g, row = some g → NoB w g) : OB w' v l := by
  refine World.ownsRow.kept h hb ?_
  rcases h.2 with ⟨rfl, _⟩ | ⟨g', cap, cur, rfl, _, hh, _⟩
  · exact .inl rfl
  · refine .inr fun he => hg g' ?_ cur hh
    rw [← he]
    rfl
theorem OB.below {w w' : World} {v : Value} {l : List UInt8} (h : OB w v l) (hb : Below w.heap.size w w') : OB w' v l := h.grown (only_of_below hb none) (by simp)
theorem OB.drew {w : World} {v : Value} {l : List UInt8} (h : OB w v l) : OB w.drew v l := h
theorem Blk.noB {w : World} {g : Nat} {t : TypeId} {cs : Array Value} (h : Blk w g t cs) (ht : t ≠ 5) : NoB w g := by
  intro cur he
  unfold Blk at h
  rw [h] at he
  injection he with he
  injection he with _ he
  exact ht he
theorem Rdr.noB {w : World} {rb : Nat} {l : List UInt8} {e : Int} (h : Rdr w rb l e) : NoB w rb := by
  obtain ⟨A, c, h0, -⟩ := h
  exact h0.noB (by decide)

def rawElem (v : Value) : Option (DataW Value × List MemPlace) := some (.held v, [])
theorem lawInt : Keyed Try.prog 3 := int_keyed Try.underlying3
def keyL (k : Int) : Lit := .int .i64 k
def nilE : DataW Value := .held (.slice none 0 0)

/-- the map in block mb: which segments were seen, with which bytes -/
def Seen (w : World) (mb n : Nat) (f : Int → Option (List UInt8)) : Prop :=
  ∃ D : DataW Value, w.ownsMap Try.prog 3 rawElem mb n D ∧
    ∀ k : Int, match f k with
      | none => has D (keyL k) = false
      | some l => has D (keyL k) = true ∧ ∃ v, D.atKey (keyL k) nilE = .held v ∧ OB w v l

theorem Seen.made (w : World) : Seen (w.alloc (.map #[] 0)) w.heap.size 0 (fun _ => none) :=
  ⟨.map [], World.ownsMap_made _ _ _ _, fun _ => rfl⟩
theorem Seen.lt {w : World} {mb n : Nat} {f : Int → Option (List UInt8)} (h : Seen w mb n f) : mb < w.heap.size := by
  obtain ⟨D, h1, -⟩ := h
  exact h1.lt
theorem Seen.isMap {w : World} {mb n : Nat} {f : Int → Option (List UInt8)} (h : Seen w mb n f) : ∃ es clock, w.heap[mb]? = some (.map es clock) := by
  obtain ⟨D, ⟨es, clock, hb, -⟩, -⟩ := h
  exact ⟨es, clock, hb⟩
theorem Seen.mono {w : World} {mb n n' : Nat} {f : Int → Option (List UInt8)} (h : Seen w mb n f) (hn : n ≤ n') : Seen w mb n' f := by
  obtain ⟨D, h1, h2⟩ := h
  exact ⟨D, h1.mono hn, h2⟩
/-- the map stays what it is where bytes do, and its block is not written -/
theorem Seen.keep {w w' : World} {mb n : Nat} {f : Int → Option (List UInt8)} {row : Option Nat} (h : Seen w mb n f) (hg : w.grownBy w' row) (hne : some mb ≠ row) (hv : ∀ g, row = some g → NoB w g) : Seen w' mb n f := by
  obtain ⟨D, h1, h2⟩ := h
  refine ⟨D, h1.kept hg hne, fun k => ?_⟩
  have := h2 k
  revert this
  cases f k with
  | none => exact id
  | some l => exact fun ⟨a, v, b, c⟩ => ⟨a, v, b, c.grown hg hv⟩
theorem Seen.below {w w' : World} {mb n : Nat} {f : Int → Option (List UInt8)} (h : Seen w mb n f) (hb : Below w.heap.size w w') : Seen w' mb n f :=
  h.keep (only_of_below hb none) (by simp) (by simp)
theorem Seen.noB {w : World} {mb n : Nat} {f : Int → Option (List UInt8)} (h : Seen w mb n f) : NoB w mb := by
  obtain ⟨es, clock, hb⟩ := h.isMap
  intro cur he
  rw [hb] at he
  injection he with he
  cases he
theorem Seen.ne_blk {w : World} {mb n g : Nat} {f : Int → Option (List UInt8)} {t : TypeId} {cs : Array Value} (h : Seen w mb n f) (hb : Blk w g t cs) : g ≠ mb := by
  rintro rfl
  obtain ⟨es, clock, h1⟩ := h.isMap
  unfold Blk at hb
  rw [hb] at h1
  injection h1 with h1
  cases h1
theorem Seen.drew {w : World} {mb n : Nat} {f : Int → Option (List UInt8)} (h : Seen w mb n f) : Seen w.drew mb n f := h

def setF (f : Int → Option (List UInt8)) (k : Int) (l : List UInt8) : Int → Option (List UInt8) := fun j => if j = k then some l else f j
theorem setF_same (f : Int → Option (List UInt8)) (k : Int) (l : List UInt8) : setF f k l k = some l := by simp [setF]
theorem setF_ne (f : Int → Option (List UInt8)) {k j : Int} (l : List UInt8) (h : j ≠ k) : setF f k l j = f j := by simp [setF, h]

section
variable {w : World} {ops : Array Oper} {rest : List Oper} {o : Oper} {a : Act} {Q : Exit → Act → World → Prop}
/-- 'v, ok := seen[k]' -/
theorem wpList_seen_lookup (hg : o.guard = none) (m x : Operand) (hop : o.op = Op.lookup 64 m x true) (mb n : Nat) (f : Int → Option (List UInt8)) (hm : a.eval m = .map (some mb)) (h : Seen w mb n f) (k : Int) (hx : a.eval x = .int .i64 k) (hwf : (Lit.int .i64 k).wf = true)
    (hK : ∀ v, OB w v ((f k).getD []) → wpList Try.prog ops Q rest (a.put o.dst (.tuple #[v, .bool (f k).isSome])) w) : wpList Try.prog ops Q (o :: rest) a w := by
  obtain ⟨D, h1, h2⟩ := h
  refine wpList_lookup_own_ok w hg m x _ hop 3 25 lawInt Try.underlying64 rawElem (z := .slice none 0 0) (by kernel_rfl) nilE [] rfl mb n D hm h1 _ (keyL k) hx (keyOf_int_mk Try.underlying3 hwf) (fun v ps hv => ?_)
  have h3 := h2 k
  revert h3
  have hv' : DataW.held v = D.atKey (keyL k) nilE := by
    unfold rawElem at hv
    simp only [Option.some.injEq, Prod.mk.injEq] at hv
    exact hv.1
  cases e : f k with
  | none =>
    intro h3
    rw [h3]
    have := hK v
    rw [e] at this
    refine this ?_
    rw [atKey_of_not_has h3] at hv'
    unfold nilE at hv'
    injection hv' with hv'
    subst hv'
    exact OB.nil w
  | some l =>
    rintro ⟨h3, v', h4, h5⟩
    rw [h3]
    have := hK v
    rw [e] at this
    refine this ?_
    rw [h4] at hv'
    injection hv' with hv'
    subst hv'
    exact h5
/-- 'seen[k] = v' -/
theorem wpList_seen_store (hg : o.guard = none) (m x v : Operand) (hop : o.op = Op.mapUpdate 64 m x v) (mb n : Nat) (f : Int → Option (List UInt8)) (hm : a.eval m = .map (some mb)) (h : Seen w mb n f) (hn : n < maxLen) (k : Int) (hx : a.eval x = .int .i64 k) (hwf : (Lit.int .i64 k).wf = true)
    (val : Value) (l : List UInt8) (hv : a.eval v = val) (hl : OB w val l)
    (hK : ∀ w', Seen w' mb (n + 1) (setF f k l) → w.grownBy w' (some mb) → (∀ u r, OB w u r → OB w' u r) → wpList Try.prog ops Q rest (a.put o.dst undef) w') : wpList Try.prog ops Q (o :: rest) a w := by
  have hno := h.noB
  obtain ⟨D, h1, h2⟩ := h
  refine wpList_mapUpdate_own w hg m x v _ hop 3 25 lawInt Try.underlying64 rawElem mb n D hm h1 hn _ val (keyL k) hx hv (keyOf_int_mk Try.underlying3 hwf) (.held val) [] rfl (fun w' h3 h4 => ?_)
  have hkeep : ∀ u r, OB w u r → OB w' u r := fun u r hu => hu.grown h4 (fun g hg => by cases hg; exact hno)
  refine hK w' ⟨_, h3, fun j => ?_⟩ h4 hkeep
  by_cases hj : j = k
  · subst hj
    rw [setF_same]
    exact ⟨has_put_same h1.isMap (show WideAt.IsKeyLit (keyL j) from trivial) _, val, atKey_put_same h1.isMap (show WideAt.IsKeyLit (keyL j) from trivial) _ _, hkeep _ _ hl⟩
  · rw [setF_ne f l hj]
    have hne : keyL j ≠ keyL k := fun e => hj (by unfold keyL at e; injection e)
    have h5 := h2 j
    revert h5
    cases f j with
    | none => intro h5; show has _ _ = false; rw [has_put_other hne]; exact h5
    | some l' => rintro ⟨a1, v', a2, a3⟩; exact ⟨by rw [has_put_other hne]; exact a1, v', by rw [atKey_put_other hne]; exact a2, hkeep _ _ a3⟩
end

/-- what Get answers, and what it leaves -/
def rOk (k : Nat) (l : List UInt8) (er : Int) : Prop := er = 0 ∧ k ≤ l.length
instance (k : Nat) (l : List UInt8) (er : Int) : Decidable (rOk k l er) := inferInstanceAs (Decidable (_ ∧ _))
def rV (k : Nat) (l : List UInt8) (er : Int) : Int := if rOk k l er then getI (l.take k) else 0
def rL (k : Nat) (l : List UInt8) (er : Int) : List UInt8 := if rOk k l er then l.drop k else l
def rE (k : Nat) (l : List UInt8) (er : Int) : Int := if rOk k l er then 0 else failE er 8

theorem get_any (rb : Nat) (l : List UInt8) (er : Int) (k : Nat) (w : World) (hr : Rdr w rb l er) (hl : l.length ≤ 140737488355328) (h1 : 1 ≤ k) (h8 : k ≤ 8) :
    Calls Try.prog 45 #[.pointer (some ⟨rb, 0, none⟩), .int .i64 k] w fun e w' => e = .returned (.int .i64 (rV k l er)) ∧ Rdr w' rb (rL k l er) (rE k l er) ∧ w.grownBy w' (some rb) := by
  unfold rV rL rE
  by_cases h : rOk k l er
  · simp only [if_pos h]
    obtain ⟨rfl, h⟩ := h
    exact get_ok rb l k w hr hl h1 h8 h
  · simp only [if_neg h]
    exact get_bad rb l er k w hr hl h1 h8 (by unfold rOk at h; omega)
theorem rL_len (k : Nat) (l : List UInt8) (er : Int) : (rL k l er).length ≤ l.length := by unfold rL; split <;> simp
end Go.Proofs.Ytlhlhlabnjfhcaa
namespace Go.Proofs.Ytlhlhlabnjfhcaa
open Go.RowKit Go.Maps

def isWay (m : Int) : Bool := m == 65363 || m == 65373 || m == 65374 || m == 65375 || m == 65376 || m == 65377
def isBad (m : Int) : Bool := m == 65359 || m == 65361 || m == 65425 || m == 65426 || m == 65427 || m == 65497
def otherE (m : Int) : Int := if isWay m then 13 else if isBad m then 10 else if m < 65280 then 10 else 0
def otherL (m : Int) : Bool := !isWay m && !isBad m && decide (65280 ≤ m) && (decide (m < 65328) || decide (65343 < m))

set_option maxRecDepth 100000 in
theorem other_any (m : Int) (w : World) : Calls Try.prog 64 #[.int .i64 m] w fun e w' => e = .returned (.tuple #[.int .i64 (otherE m), .bool (otherL m)]) ∧ w = w' := by
  by_cases h1 : isWay m = true
  · have e1 : otherE m = 13 := by unfold otherE; rw [if_pos h1]
    have e2 : otherL m = false := by unfold otherL; rw [h1]; rfl
    rw [e1, e2]
    unfold isWay at h1
    have h2 : m = 65363 ∨ m = 65373 ∨ m = 65374 ∨ m = 65375 ∨ m = 65376 ∨ m = 65377 := by simpa [or_assoc] using h1
    rcases h2 with rfl | rfl | rfl | rfl | rfl | rfl
    all_goals
      go_enter Try.func64, Try.ntmps64
      go_wp2_with fail
      go_ret2
      exact ⟨rfl, rfl⟩
  by_cases h2 : isBad m = true
  · have e1 : otherE m = 10 := by unfold otherE; rw [if_neg h1, if_pos h2]
    have e2 : otherL m = false := by unfold otherL; rw [h2]; simp
    rw [e1, e2]
    unfold isBad at h2
    have h3 : m = 65359 ∨ m = 65361 ∨ m = 65425 ∨ m = 65426 ∨ m = 65427 ∨ m = 65497 := by simpa [or_assoc] using h2
    clear h1
    rcases h3 with rfl | rfl | rfl | rfl | rfl | rfl
    all_goals
      go_enter Try.func64, Try.ntmps64
      go_wp2_with fail
      go_ret2
      exact ⟨rfl, rfl⟩
  have h1' : isWay m = false := by simpa using h1
  have h2' : isBad m = false := by simpa using h2
  have ee : otherE m = if m < 65280 then 10 else 0 := by unfold otherE; rw [if_neg h1, if_neg h2]
  have el : otherL m = (decide (65280 ≤ m) && (decide (m < 65328) || decide (65343 < m))) := by unfold otherL; rw [h1', h2']; simp
  rw [ee, el]
  unfold isWay at h1'
  unfold isBad at h2'
  simp only [Bool.or_eq_false_iff] at h1' h2'
  obtain ⟨⟨⟨⟨⟨a1, a2⟩, a3⟩, a4⟩, a5⟩, a6⟩ := h1'
  obtain ⟨⟨⟨⟨⟨b1, b2⟩, b3⟩, b4⟩, b5⟩, b6⟩ := h2'
  clear h1 h2 ee el
  by_cases c1 : m < 65280
  · have d1 : decide (m < 65280) = true := by simpa using c1
    have d2 : decide (65280 ≤ m) = false := by simp; omega
    rw [if_pos c1, d2]
    go_enter Try.func64, Try.ntmps64
    go_wp2_with fail
    go_ret2
    exact ⟨rfl, rfl⟩
  · have d1 : decide (m < 65280) = false := by simpa using c1
    have d2 : decide (65280 ≤ m) = true := by simp; omega
    rw [if_neg c1, d2]
    by_cases c2 : m < 65328
    · have d3 : decide (m < 65328) = true := by simpa using c2
      rw [d3]
      go_enter Try.func64, Try.ntmps64
      go_wp2_with fail
      go_ret2
      exact ⟨rfl, rfl⟩
    · have d3 : decide (m < 65328) = false := by simpa using c2
      rw [d3]
      cases d4 : decide (65343 < m)
      all_goals
        go_enter Try.func64, Try.ntmps64
        go_wp2_with fail
        go_ret2
        exact ⟨rfl, rfl⟩
end Go.Proofs.Ytlhlhlabnjfhcaa
namespace Go.Proofs.Ytlhlhlabnjfhcaa
open Go.RowKit Go.Maps

def bodyF (l : List UInt8) : Option (List UInt8 × List UInt8) :=
  if l.length < 2 ∨ getI (l.take 2) < 2 ∨ (l.length : Int) < getI (l.take 2) then none
  else some ((l.drop 2).take (getI (l.take 2) - 2).toNat, (l.drop 2).drop (getI (l.take 2) - 2).toNat)

theorem getI2 (l : List UInt8) (h : l.length ≤ 2) : 0 ≤ getI l ∧ getI l < 65536 := by
  have := beN_lt8 l 2 h
  unfold getI
  have e : IntKind.i64.wrap (beN l : Int) = (beN l : Int) := by rw [wrapEq]; unfold wrap64; omega
  rw [e]
  omega

set_option maxRecDepth 100000 in
theorem body_bad (pb rb : Nat) (cs : Array Value) (l : List UInt8) (w : World) (hp : Blk w pb 66 cs) (h0 : cs[0]? = some (.pointer (some ⟨rb, 0, none⟩))) (hr : Rdr w rb l 0) (hl : l.length ≤ 1000000000) (hb : bodyF l = none) :
    Calls Try.prog 46 #[.pointer (some ⟨pb, 0, none⟩)] w fun e w' => ∃ v, e = .returned (.tuple #[v, .bool false]) ∧ w.grownBy w' (some rb) := by
  have c0 := (hp.cell 0).trans h0
  have hr' := hr
  obtain ⟨A, c, hb0, -⟩ := hr'
  have hne : pb ≠ rb := hp.ne_ hb0 (by decide)
  clear hb0
  have hc : l.length < 2 ∨ (2 ≤ l.length ∧ (getI (l.take 2) < 2 ∨ (l.length : Int) < getI (l.take 2))) := by
    unfold bodyF at hb
    split at hb
    · omega
    · cases hb
  have HR := Lib.hid hr
  clear hr hb
  have hg2 := getI2 (l.take 2) (by rw [List.length_take]; omega)
  rcases hc with hc | ⟨hc, hc2⟩
  · go_enter Try.func46, Try.ntmps46
    go_wp2_with fail
    refine (get_bad rb l 0 2 _ HR.out (by omega) (by decide) (by decide) (.inr hc)).mono ?_
    rintro e w1 ⟨rfl, -, hg1⟩
    go_wp2_with fail
    go_ret2
    exact ⟨_, rfl, hg1⟩
  · generalize hn : getI (l.take 2) = n at hg2 hc2
    by_cases h2 : n < 2
    · have d1 : decide (n < 2) = true := by simpa using h2
      go_enter Try.func46, Try.ntmps46
      go_wp2_with fail
      refine (get_ok rb l 2 _ HR.out (by omega) (by decide) (by decide) hc).mono ?_
      rw [hn]
      rintro e w1 ⟨rfl, -, hg1⟩
      clear hc2 h2
      go_wp2_with fail
      go_ret2
      exact ⟨_, rfl, hg1⟩
    · have d1 : decide (n < 2) = false := by simpa using h2
      have d2 : ((0 : Int) == n - 2) = false := by simp; omega
      go_enter Try.func46, Try.ntmps46
      go_wp2_with fail
      refine (get_ok rb l 2 _ HR.out (by omega) (by decide) (by decide) hc).mono ?_
      rw [hn]
      rintro e w1 ⟨rfl, hr1, hg1⟩
      have c1 := ((hp.grown hg1 (by simpa using hne)).cell 0).trans h0
      have HR1 := Lib.hid hr1
      clear hr1
      go_wp2_with fail
      refine (take_bad rb _ 0 (n - 2) _ HR1.out (by simp; omega) (.inr (.inr (by simp; omega)))).mono ?_
      rintro e w2 ⟨rfl, -, hg2'⟩
      go_wp2_with fail
      go_ret2
      exact ⟨_, rfl, hg1.trans hg2'⟩

set_option maxRecDepth 100000 in
theorem body_ok (pb rb : Nat) (cs : Array Value) (l b l' : List UInt8) (w : World) (hp : Blk w pb 66 cs) (h0 : cs[0]? = some (.pointer (some ⟨rb, 0, none⟩))) (hr : Rdr w rb l 0) (hl : l.length ≤ 1000000000) (hb : bodyF l = some (b, l')) :
    Calls Try.prog 46 #[.pointer (some ⟨pb, 0, none⟩)] w fun e w' => ∃ v, e = .returned (.tuple #[v, .bool true]) ∧ OB w' v b ∧ Rdr w' rb l' 0 ∧ w.grownBy w' (some rb) := by
  have c0 := (hp.cell 0).trans h0
  have hr' := hr
  obtain ⟨A, c, hb0, -⟩ := hr'
  have hne : pb ≠ rb := hp.ne_ hb0 (by decide)
  clear hb0
  unfold bodyF at hb
  split at hb
  · cases hb
  rename_i hc
  simp only [not_or] at hc
  simp only [Option.some.injEq, Prod.mk.injEq] at hb
  obtain ⟨rfl, rfl⟩ := hb
  have HR := Lib.hid hr
  clear hr
  have hg2 := getI2 (l.take 2) (by rw [List.length_take]; omega)
  generalize hn : getI (l.take 2) = n at hg2 hc ⊢
  obtain ⟨q, hq1, hq2⟩ : ∃ q : Nat, (q : Int) ≤ n - 2 ∧ n - 2 ≤ (q : Int) := ⟨(n - 2).toNat, by omega, by omega⟩
  have hq3 : (n - 2).toNat = q := by omega
  rw [hq3]
  have d1 : decide (n < 2) = false := by simp; omega
  have d2 : ((q : Int) == n - 2) = true := by simp; omega
  have d3 : n - 2 = (q : Int) := by omega
  have HD := Lib.hid d3
  clear d3 hq3
  go_enter Try.func46, Try.ntmps46
  go_wp2_with fail
  refine (get_ok rb l 2 _ HR.out (by omega) (by decide) (by decide) (by omega)).mono ?_
  rw [hn]
  rintro e w1 ⟨rfl, hr1, hg1⟩
  have c1 := ((hp.grown hg1 (by simpa using hne)).cell 0).trans h0
  have HR1 := Lib.hid hr1
  clear hr1
  go_wp2_with fail
  rw [HD.out]
  refine (take_ok rb _ q _ HR1.out (by simp; omega) (by simp; omega)).mono ?_
  rintro e w2 ⟨v, rfl, ho2, hr2, hg2'⟩
  obtain ⟨a2, c2, rfl⟩ := owns_slice ho2
  have HR2 := Lib.hid hr2
  have HO2 := Lib.hid ho2
  clear hr2 ho2
  go_wp2_with fail
  go_ret2
  refine ⟨_, rfl, ?_, HR2.out, hg1.trans hg2'⟩
  have e : ((l.drop 2).take q).length = q := by simp; omega
  exact OB.of (B := w1.heap.size) (by rw [e]; exact HO2.out)
end Go.Proofs.Ytlhlhlabnjfhcaa
namespace Go.Proofs.Ytlhlhlabnjfhcaa
open Go.RowKit Go.Maps

def offB (pr : Int) (c : UInt8) : Bool := (c.toNat : Int) != 17 * pr

set_option maxRecDepth 100000 in
theorem code1_any (c : UInt8) (pr : Int) (cb pb : Nat) (w : World) (h0 : w.cell? ⟨cb, 0, none⟩ = some (.pointer (some ⟨pb, 6, none⟩))) (h1 : w.cell? ⟨pb, 11, none⟩ = some (.int .i64 pr)) (p1 : 0 ≤ pr) (p2 : pr ≤ 100) :
    Calls Try.prog 69 #[.int .u8 (c.toNat : Int), .pointer (some ⟨cb, 0, none⟩)] w fun e w' => e = .returned (.bool (offB pr c)) ∧ w = w' := by
  have hc := c.toNat_lt
  unfold offB
  go_enter Try.func69, Try.ntmps69
  go_wp2_with fail
  go_ret
  exact ⟨rfl, rfl⟩

set_option maxRecDepth 100000 in
theorem index_any (v : Value) (l : List UInt8) (pr : Int) (cb pb : Nat) (w : World) (hv : BV w v l) (hl : l.length ≤ 1000000000) (h0 : w.cell? ⟨cb, 0, none⟩ = some (.pointer (some ⟨pb, 6, none⟩))) (h1 : w.cell? ⟨pb, 11, none⟩ = some (.int .i64 pr)) (p1 : 0 ≤ pr) (p2 : pr ≤ 100) :
    Calls Try.prog 70 #[v, .func (.func 69) #[] #[.pointer (some ⟨cb, 0, none⟩)]] w fun e w' => ∃ r : Int, e = .returned (.int .i64 r) ∧ decide (0 ≤ r) = l.any (offB pr) ∧ w = w' := by
  have C := Lib.hid (fun c => code1_any c pr cb pb w h0 h1 p1 p2)
  obtain ⟨A, c, rfl, g1, g2, g3⟩ := hv
  have G3 := Lib.hid g3
  clear g3 h0 h1
  go_enter Try.func70, Try.ntmps70
  go_wp2_with fail
  go_loopg [5, 8] l.length (fun g s5 s8 wx => ∃ j : Nat, j ≤ l.length ∧ g = l.length - j ∧ s8 = .int .i64 j ∧ (l.take j).any (offB pr) = false ∧ w = wx)
  case atStart => exact ⟨0, Nat.zero_le _, rfl, rfl, rfl, rfl⟩
  case round =>
    obtain ⟨j, hj, rfl, rfl, han, rfl⟩ := hrel
    have HA := Lib.hid han
    clear han
    by_cases hjl : j < l.length
    · obtain ⟨x, hx⟩ : ∃ x, l[j]? = some x := ⟨_, List.getElem?_eq_getElem hjl⟩
      obtain ⟨ad, rfl, -, hc⟩ := G3.out.cell hx
      have hsn : (l.take (j + 1)).any (offB pr) = offB pr x := by rw [List.take_add_one, hx, List.any_append, HA.out]; simp
      have HS := Lib.hid hsn
      have HX := Lib.hid hx
      clear hsn hx
      cases ho : offB pr x
      · have C1 := C.out x
        rw [ho] at C1
        have HC := Lib.hid C1
        go_wp2_with (go_at_call 69; refine HC.out.mono ?_; rintro e w' ⟨rfl, rfl⟩)
        go_roundg (l.length - (j + 1))
        case measure => omega
        case rel => exact ⟨j + 1, by omega, rfl, by go_num, by rw [HS.out, ho], rfl⟩
      · have C1 := C.out x
        rw [ho] at C1
        have HC := Lib.hid C1
        go_wp2_with (go_at_call 69; refine HC.out.mono ?_; rintro e w' ⟨rfl, rfl⟩)
        go_ret
        refine ⟨_, rfl, ?_, rfl⟩
        have hm : x ∈ l := List.mem_of_getElem? HX.out
        rw [List.any_eq_true.2 ⟨x, hm, ho⟩]
        simp
    · obtain rfl : j = l.length := by omega
      go_wp2_with fail
      go_ret
      refine ⟨_, rfl, ?_, rfl⟩
      have := HA.out
      rw [List.take_length] at this
      rw [this]
      rfl

set_option maxRecDepth 100000 in
theorem contains_any (v : Value) (l : List UInt8) (pr : Int) (cb pb : Nat) (w : World) (hv : BV w v l) (hl : l.length ≤ 1000000000) (h0 : w.cell? ⟨cb, 0, none⟩ = some (.pointer (some ⟨pb, 6, none⟩))) (h1 : w.cell? ⟨pb, 11, none⟩ = some (.int .i64 pr)) (p1 : 0 ≤ pr) (p2 : pr ≤ 100) :
    Calls Try.prog 68 #[v, .func (.func 69) #[] #[.pointer (some ⟨cb, 0, none⟩)]] w fun e w' => e = .returned (.bool (l.any (offB pr))) ∧ w = w' := by
  have I := Lib.hid (index_any v l pr cb pb w hv hl h0 h1 p1 p2)
  obtain ⟨A, c, rfl, -⟩ := hv
  go_enter Try.func68, Try.ntmps68
  go_wp2_with fail
  refine I.out.mono ?_
  rintro e w' ⟨r, rfl, hr, rfl⟩
  go_wp2_with fail
  go_ret
  exact ⟨rfl, rfl⟩
end Go.Proofs.Ytlhlhlabnjfhcaa
namespace Go.Proofs.Ytlhlhlabnjfhcaa
open Go.RowKit Go.Maps

structure HeadM where
  x : Int
  y : Int
  ox : Int
  oy : Int
  comps : List CompD
  p : ParD
  com : List UInt8

def prsA (rb mb : Nat) (h : HeadM) (cv mv : Value) : Array Value :=
  #[.pointer (some ⟨rb, 0, none⟩), .int .i64 h.x, .int .i64 h.y, .int .i64 h.ox, .int .i64 h.oy, cv, .int .i64 h.p.tx, .int .i64 h.p.ty, .int .i64 h.p.lv, .int .i64 h.p.cbw, .int .i64 h.p.cbh, .int .i64 h.p.prec, .int .i64 h.p.style, .int .i64 h.p.order, .int .i64 h.p.layers, .bool h.p.rct, .bool h.p.sop, .bool h.p.eph, mv, .map (some mb)]

/-- COD's bytes -/
structure CodD where
  mks : Nat
  order : Nat
  layers : Nat
  turn : Nat
  lv : Nat
  cbw : Nat
  cbh : Nat
  style : Nat
  prec : Nat
def CodD.ok (d : CodD) : Prop := d.mks < 8 ∧ d.mks % 2 = 1 ∧ d.order < 256 ∧ 1 ≤ d.layers ∧ d.layers ≤ 8 ∧ d.turn ≤ 1 ∧ d.lv < 256 ∧ d.cbw < 256 ∧ d.cbh < 256 ∧ d.style ≤ 63 ∧ 1 ≤ d.prec ∧ d.prec ≤ 15
def codB (d : CodD) (way : UInt8) : List UInt8 :=
  [UInt8.ofNat d.mks, UInt8.ofNat d.order] ++ (putB 2 d.layers ++ ([UInt8.ofNat d.turn, UInt8.ofNat d.lv, UInt8.ofNat d.cbw, UInt8.ofNat d.cbh, UInt8.ofNat d.style, way] ++ List.replicate (d.lv + 1) (UInt8.ofNat (17 * d.prec))))
theorem codB_length (d : CodD) (way : UInt8) : (codB d way).length = 11 + d.lv := by simp [codB, putB_length]; omega
theorem codB_9 (d : CodD) (way : UInt8) : (codB d way)[9]? = some way := by
  unfold codB
  have h : (putB 2 (d.layers : Int)).length = 2 := putB_length _ _
  match hp : putB 2 (d.layers : Int), h with
  | [a, b], _ => rfl

set_option maxRecDepth 100000 in
theorem code_way (pb : Nat) (v : Value) (l : List UInt8) (w : World) (hv : BV w v l) (h9 : l[9]? = some 0) :
    Calls Try.prog 65 #[.pointer (some ⟨pb, 0, none⟩), v] w fun e w' => e = .returned (.int .i64 13) ∧ w = w' := by
  obtain ⟨A, c, rfl, g1, g2, g3⟩ := hv
  obtain ⟨ad, rfl, -, hc⟩ := g3.cell h9
  have hl := (List.getElem?_eq_some_iff.1 h9).1
  have d1 : decide ((9 : Int) < (l.length : Int)) = true := by simp; omega
  have z1 : (9 : Int) < (l.length : Int) := by omega
  replace hc : w.cell? ⟨ad.block, ad.off + 9, none⟩ = some (.int .u8 0) := hc
  clear g3
  go_enter Try.func65, Try.ntmps65
  go_wp2_with fail
  go_ret
  exact ⟨rfl, rfl⟩

def codP (d : CodD) (q : ParD) : ParD := { q with lv := d.lv, cbw := (d.cbw : Int) + 2, cbh := (d.cbh : Int) + 2, prec := d.prec, style := d.style, order := d.order, layers := d.layers, rct := decide (d.turn = 1), sop := decide (d.mks / 2 % 2 = 1), eph := decide (d.mks / 4 % 2 = 1) }
end Go.Proofs.Ytlhlhlabnjfhcaa
namespace Go.Proofs.Ytlhlhlabnjfhcaa
open Go.RowKit Go.Maps

/-- a reader stays what it is where a cell that is no byte is written -/
theorem Rdr.stored {w : World} {rb : Nat} {l : List UInt8} {e : Int} (h : Rdr w rb l e) {g k : Nat} {u0 : Value} (u : Value) (hne : g ≠ rb) (h0 : w.cell? ⟨g, k, none⟩ = some u0) (hu : ∀ c, u0 ≠ .int .u8 c) : Rdr (w.setCell ⟨g, k, none⟩ u) rb l e := by
  obtain ⟨A, c, h1, h2, h3, hl, h4⟩ := h
  refine ⟨A, c, h1.far (p := ⟨g, k, none⟩) (fun e => hne e.symm) u, h2, h3, hl, fun hn => ?_⟩
  obtain ⟨ad, rfl, hb, hc⟩ := h4 hn
  refine ⟨ad, rfl, hb, fun j x hx => ?_⟩
  have hx2 := hc j x hx
  rw [World.cell?_setCell_other]
  · exact hx2
  · intro he
    rw [← he, h0] at hx2
    obtain ⟨b, -, rfl⟩ : ∃ b ∈ l, (.int .u8 ((b : UInt8).toNat : Int)) = x := by
      have := List.mem_of_getElem? hx
      simpa [cellsB] using this
    injection hx2 with hx2
    exact hu _ hx2

theorem only_then {w w' w'' : World} {p g : Nat} (h : w.grownBy w' (some p)) (h2 : w'.grownBy w'' (some g)) (hg : w.heap.size ≤ g) : w.grownBy w'' (some p) :=
  ⟨h2.os.trans h.os, h2.tape.trans h.tape, h2.output.trans h.output, Nat.le_trans h.size h2.size, fun i hi hne => (h2.block i (Nat.lt_of_lt_of_le hi h.size) (by intro e; injection e with e; omega)).trans (h.block i hi hne)⟩

theorem take_app (a b : List UInt8) (k : Nat) (h : a.length = k) : (a ++ b).take k = a := by subst h; simp
theorem drop_app (a b : List UInt8) (k : Nat) (h : a.length = k) : (a ++ b).drop k = b := by subst h; simp
theorem getI_small (l : List UInt8) (n : Nat) (h : beN l = n) (hn : n < 9223372036854775808) : getI l = n := by
  unfold getI
  rw [h]
  exact IntWalk.i64_in _ (by omega)
theorem getI_put1 (n : Nat) (hn : n < 256) : getI (putB 1 (n : Int)) = n := by
  refine getI_small _ n ?_ (by omega)
  have e : ((n : Int) % 18446744073709551616).toNat = n := by omega
  simp [putB, putTo, List.range_succ, beN, e]
  omega
theorem getI_put2 (n : Nat) (hn : n < 65536) : getI (putB 2 (n : Int)) = n := by
  refine getI_small _ n ?_ (by omega)
  have e : ((n : Int) % 18446744073709551616).toNat = n := by omega
  simp [putB, putTo, List.range_succ, beN, e]
  omega
theorem getI_put4 (n : Nat) (hn : n < 4294967296) : getI (putB 4 (n : Int)) = n := by
  refine getI_small _ n ?_ (by omega)
  have e : ((n : Int) % 18446744073709551616).toNat = n := by omega
  simp [putB, putTo, List.range_succ, beN, e]
  omega
theorem getI_one (n : Nat) (hn : n < 256) : getI [UInt8.ofNat n] = n := by
  refine getI_small _ n ?_ (by omega)
  simp [beN]
  omega

/-- Get(1) -/
theorem get_one (rb n : Nat) (hn : n < 256) (l : List UInt8) (w : World) (hr : Rdr w rb (UInt8.ofNat n :: l) 0) (hl : l.length ≤ 1000000000) :
    Calls Try.prog 45 #[.pointer (some ⟨rb, 0, none⟩), .int .i64 1] w fun e w' => e = .returned (.int .i64 n) ∧ Rdr w' rb l 0 ∧ w.grownBy w' (some rb) := by
  have h := get_ok rb _ 1 w hr (by simp; omega) (by decide) (by decide) (by simp)
  have e : (UInt8.ofNat n :: l).take 1 = [UInt8.ofNat n] := rfl
  rw [e, getI_one n hn] at h
  exact h
/-- Get(k) of a field that Put has made -/
theorem get_put (rb k n : Nat) (h1 : 1 ≤ k) (h8 : k ≤ 4) (hn : getI (putB k (n : Int)) = n) (l : List UInt8) (w : World) (hr : Rdr w rb (putB k (n : Int) ++ l) 0) (hl : l.length ≤ 1000000000) :
    Calls Try.prog 45 #[.pointer (some ⟨rb, 0, none⟩), .int .i64 k] w fun e w' => e = .returned (.int .i64 n) ∧ Rdr w' rb l 0 ∧ w.grownBy w' (some rb) := by
  have h := get_ok rb _ k w hr (by simp [putB_length]; omega) (by omega) (by omega) (by simp [putB_length])
  have e1 : (putB k (n : Int) ++ l).take k = putB k n := take_app _ _ k (putB_length _ _)
  have e2 : (putB k (n : Int) ++ l).drop k = l := drop_app _ _ k (putB_length _ _)
  have e3 : getI (putB k (n : Int)) = n := hn
  rw [e1, e2, e3] at h
  exact h
theorem get_put2 (rb n : Nat) (hn : n < 65536) (l : List UInt8) (w : World) (hr : Rdr w rb (putB 2 (n : Int) ++ l) 0) (hl : l.length ≤ 1000000000) :
    Calls Try.prog 45 #[.pointer (some ⟨rb, 0, none⟩), .int .i64 2] w fun e w' => e = .returned (.int .i64 n) ∧ Rdr w' rb l 0 ∧ w.grownBy w' (some rb) :=
  get_put rb 2 n (by decide) (by decide) (getI_put2 n hn) l w hr hl
theorem get_put4 (rb n : Nat) (hn : n < 4294967296) (l : List UInt8) (w : World) (hr : Rdr w rb (putB 4 (n : Int) ++ l) 0) (hl : l.length ≤ 1000000000) :
    Calls Try.prog 45 #[.pointer (some ⟨rb, 0, none⟩), .int .i64 4] w fun e w' => e = .returned (.int .i64 n) ∧ Rdr w' rb l 0 ∧ w.grownBy w' (some rb) :=
  get_put rb 4 n (by decide) (by decide) (getI_put4 n hn) l w hr hl
end Go.Proofs.Ytlhlhlabnjfhcaa
