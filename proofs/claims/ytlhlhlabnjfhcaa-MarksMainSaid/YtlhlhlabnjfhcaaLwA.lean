/- Small laws for the laws' walks: bytes appended, cut, of a literal. -/
import Derived.Test.YtlhlhlabnjfhcaaPs
import Derived.Test.YtlhlhlabnjfhcaaLzB
import Derived.OwnWalk
namespace Go.Proofs.Ytlhlhlabnjfhcaa
open Go.RowKit Go.Maps

theorem BV.front {w : World} {a : Option Addr} {c : Nat} {l : List UInt8} (h : BV w (.slice a l.length c) l) (k : Nat) (hk : k ≤ l.length) : BV w (.slice a k c) (l.take k) := by
  obtain ⟨A, c', he, h1, h2, h3⟩ := h
  cases he
  have e : (l.take k).length = k := by rw [List.length_take]; omega
  have e2 : cellsB (l.take k) = (cellsB l).take k := by simp [cellsB, List.map_take]
  refine ⟨a, c, by rw [e], by omega, h2, ?_⟩
  rw [e, e2]
  exact h3.take (by omega)
theorem BV.two (w : World) (x y : UInt8) (g : Nat) (hg : g = w.heap.size) : BV (w.alloc (.cells #[.int .u8 (x.toNat : Int), .int .u8 (y.toNat : Int)] 5)) (.slice (some ⟨g, 0, none⟩) 2 2) [x, y] :=
  BV.of_owns (B := 0) (e := 5) (own_lit w #[.int .u8 (x.toNat : Int), .int .u8 (y.toNat : Int)] 5 2 g rfl hg (Nat.zero_le _) (by decide))

theorem wpList_app {w : World} {ops : Array Oper} {rest : List Oper} {o : Oper} {a : Act} {Q : Exit → Act → World → Prop} (hgd : o.guard = none) (s x : Operand)
    (ho : o.op = .call { callee := .builtin .append, args := #[s, x], argTypes := #[25, 25] })
    (base : Nat) (v : Value) (l r : List UInt8) (hs : a.eval s = v) (hown : w.ownsRow base 5 1 v l.length (cellsB l)) (u : Value) (hx : a.eval x = u) (hu : BV w u r)
    (hl : l.length + r.length ≤ 1000000) (hbase : base ≤ w.heap.size)
    (h : ∀ v' w', w'.ownsRow base 5 1 v' (l ++ r).length (cellsB (l ++ r)) → Below base w w' → w.grownBy w' v.ownBlock → wpList Try.prog ops Q rest (a.put o.dst v') w') : wpList Try.prog ops Q (o :: rest) a w := by
  obtain ⟨A, c, rfl, h1, h2, h3⟩ := hu
  obtain ⟨i0, hti, hz0, hz1, hz2⟩ := info_parts infoU8
  refine wpList_append_any w hgd s x 25 ho base 5 i0 (.int .u8 0) 1 1 Try.underlying25 hti hz0 hz1 hz2 rfl (by decide) v l.length (cellsB l) hs hown w.heap.size A r.length c (cellsB r) hx h3 (cellsB_one r) (by unfold maxLen; omega) (by omega) hbase ?_
  intro v' w' h4 h5 h6
  refine h v' w' ?_ (below_grown h5 hbase (fun j hj => (hown.lt j hj).1)) h5
  rw [List.length_append, cellsB_append]
  exact h4

/-- a head that a law has taken out of a tuple into a variable of its own -/
def newHead (W : World) (A : Array Value) : World := (W.alloc (.cells (headA ⟨0, 0, 0, 0, []⟩ nilV zP nilV) 33)).setCells W.heap.size 0 A.toList
def Head1 (A : Array Value) : Prop := A.size = 18 ∧ ∀ v ∈ A.toList, v.oneCell' = true
theorem newHead_blk (W : World) {A : Array Value} (h : Head1 A) : Blk (newHead W A) W.heap.size 33 A := by
  have hb := Blk.cells_ A.toList 0 (Blk.new W 33 (headA ⟨0, 0, 0, 0, []⟩ nilV zP nilV))
  rw [putAt_all _ _ (by rw [Array.length_toList, h.1]; rfl)] at hb
  exact hb
theorem newHead_below (W : World) (A : Array Value) : Below W.heap.size W (newHead W A) :=
  ((Below.refl _ _).alloc (Nat.le_refl _) _).trans (below_grown (only_cells A.toList 0 (World.grownBy.refl _ (some W.heap.size))) (by simp) (by rintro k ⟨⟩; exact Nat.le_refl _))
theorem store_head {A : Array Value} (h : Head1 A) (W : World) :
    (storeCells ⟨W.heap.size, 0, none⟩ A.toList).run Try.prog (W.alloc (.cells #[.int .i64 0, .int .i64 0, .int .i64 0, .int .i64 0, .slice none 0 0, .int .i64 0, .int .i64 0, .int .i64 0, .int .i64 0, .int .i64 0, .int .i64 0, .int .i64 0, .int .i64 0, .int .i64 0, .bool false, .bool false, .bool false, .slice none 0 0] 33)) = .ok () (newHead W A) := by
  have hb := Blk.new W 33 (headA ⟨0, 0, 0, 0, []⟩ nilV zP nilV)
  refine run_storeCells_cells (P := Try.prog) W.heap.size 0 A.toList 0 _ (fun j hj => ?_) (fun j hj => hb.frozen _) h.2
  rw [Array.length_toList, h.1] at hj
  have hc := hb.cell (0 + 0 + j)
  rw [Array.getElem?_eq_getElem (by simp [headA]; omega)] at hc
  exact Option.isSome_iff_exists.2 ⟨_, hc⟩
theorem head1_zero : Head1 (headA ⟨0, 0, 0, 0, []⟩ nilV zP nilV) := ⟨rfl, by simp [headA, nilV, Value.oneCell']⟩
theorem parse_err1 (v : Value) (l l2 : List UInt8) (er : Int) (h2 : HeadM) (w : World) (hv : BV w v l) (hl : l.length ≤ 1000000000) (ha : All l er h2 l2) (her : er ≠ 0) :
    Calls Try.prog 16 #[v] w fun e w' => ∃ A, Head1 A ∧ e = .returned (.tuple #[.agg A, .int .i64 0, .int .i64 er]) ∧ Below w.heap.size w w' :=
  (parse_err v l l2 er h2 w hv hl ha her).mono fun _e _w' q => ⟨_, head1_zero, q.1, q.2⟩
theorem parse_ok1 (v : Value) (l l2 : List UInt8) (h2 : HeadM) (w : World) (hv : BV w v l) (hl : l.length ≤ 1000000000) (ha : All l 0 h2 l2) :
    Calls Try.prog 16 #[v] w fun e w' => ∃ A cv mv, Head1 A ∧ headA (imgH h2) cv h2.p mv = A ∧ e = .returned (.tuple #[.agg A, .int .i64 ((l.length : Int) - l2.length - 2), .int .i64 0]) ∧ CompsRd w' cv h2.comps ∧ BV w' mv h2.com ∧ Below w.heap.size w w' := by
  refine (parse_ok v l l2 h2 w hv hl ha).mono ?_
  rintro e w' ⟨cv, mv, rfl, h3, h4, h5⟩
  refine ⟨_, cv, mv, ⟨rfl, ?_⟩, rfl, rfl, h3, h4, h5⟩
  obtain ⟨ca, cc, rfl, -⟩ := h3
  obtain ⟨ma, mc, rfl, -⟩ := h4
  simp [headA, Value.oneCell']
theorem headA_one {m : ImgD} {v : Value} {p : ParD} {cv : Value} (hv : ∃ a n c, v = .slice a n c) (hc : ∃ a n c, cv = .slice a n c) : Head1 (headA m v p cv) := by
  obtain ⟨a, n, c, rfl⟩ := hv
  obtain ⟨a', n', c', rfl⟩ := hc
  exact ⟨rfl, by simp [headA, Value.oneCell']⟩
/-- the laws' Head, its head a row of its own name -/
theorem head_any1 (f : FormD) (ns : Value) (nl : List Int) (cv : Value) (w : World) (hn : RdI w ns nl) (hc : ∃ a n c, cv = .slice a n c) :
    Calls Try.prog 12 #[.agg (formA f ns), cv] w fun e w' => ∃ m p va vc A, Head1 A ∧ headA m (.slice va m.cs.length vc) p cv = A ∧ e = .returned (.agg A) ∧ CompsOwn w' w.heap.size (.slice va m.cs.length vc) m.cs ∧ MadeOk f 8 m p ∧ Below w.heap.size w w' := by
  refine (head_any f ns nl cv w hn hc).mono ?_
  rintro e w' ⟨m, p, v, rfl, h1, h2, h3⟩
  obtain ⟨va, vc, rfl⟩ := h1.slice
  exact ⟨m, p, va, vc, _, headA_one ⟨_, _, _, rfl⟩ hc, rfl, rfl, h1, h2, h3⟩
theorem cellsB_set (l : List UInt8) (j : Nat) (c : UInt8) : cellsB (l.set j c) = (cellsB l).set j (.int .u8 (c.toNat : Int)) := by simp [cellsB, List.map_set]
theorem owns_byte {w : World} {base g n cap : Nat} {l : List UInt8} (h : w.ownsRow base 5 1 (.slice (some ⟨g, 0, none⟩) n cap) n (cellsB l)) (j : Nat) (c : UInt8) : (w.setCell ⟨g, j, none⟩ (.int .u8 (c.toNat : Int))).ownsRow base 5 1 (.slice (some ⟨g, 0, none⟩) n cap) n (cellsB (l.set j c)) := by
  rw [cellsB_set]
  exact (h.stored j _).1
theorem owns_byte_at {w : World} {base g n cap : Nat} {l : List UInt8} (h : w.ownsRow base 5 1 (.slice (some ⟨g, 0, none⟩) n cap) n (cellsB l)) {j : Nat} {c : UInt8} (hc : l[j]? = some c) : w.cell? ⟨g, j, none⟩ = some (.int .u8 (c.toNat : Int)) ∧ w.frozen? ⟨g, j, none⟩ = false := by
  have hl : (cellsB l).length = n * 1 := h.1
  rw [cellsB_length] at hl
  have hj := (List.getElem?_eq_some_iff.1 hc).1
  refine ⟨?_, h.frozenAt j⟩
  rw [h.cellAt j (by omega)]
  exact cellsB_get l j c hc

theorem u8_bd {n : Int} (h : (Lit.int .u8 n).wf = true) : 0 ≤ n ∧ n < 256 := by
  simp [Lit.wf, IntKind.min, IntKind.max, IntKind.signed, IntKind.bits] at h
  omega

/-- a row of bytes that came in reads as bytes -/
theorem BV.of_row {w : World} {a : Option Addr} {len cap : Nat} {zs : List Int} (h : (a = none ∧ len = 0 ∧ cap = 0 ∧ zs = []) ∨
    ∃ x, a = some x ∧ len ≤ cap ∧ cap ≤ maxLen ∧ zs.length = cap ∧ (∀ i, i < zs.length → w.cell? (x.add i) = some (.int .u8 (zs.getD i 0))) ∧ ∀ n ∈ zs, (Lit.int .u8 n).wf = true) :
    ∃ d : List UInt8, d.length = len ∧ BV w (.slice a len cap) d := by
  rcases h with ⟨rfl, rfl, rfl, rfl⟩ | ⟨x, rfl, hl, hm, hz, hc, hw⟩
  · exact ⟨[], rfl, BV.nil _⟩
  · refine ⟨(zs.take len).map fun n => UInt8.ofNat n.toNat, by rw [List.length_map, List.length_take]; omega, some x, cap, by rw [List.length_map, List.length_take, Nat.min_eq_left (by omega)], by rw [List.length_map, List.length_take]; omega, hm, ?_⟩
    have hlen : ((zs.take len).map fun n => UInt8.ofNat n.toNat).length = len := by rw [List.length_map, List.length_take]; omega
    refine ⟨by rw [cellsB_length, Nat.mul_one], fun hn => ⟨x, rfl, ?_, fun j u hu => ?_⟩⟩
    · have h0 := World.block_lt_of_cell? w _ (hc 0 (by omega))
      rwa [block_of_add] at h0
    · have hj : j < len := by have := (List.getElem?_eq_some_iff.1 hu).1; rw [cellsB_length, hlen] at this; exact this
      rw [hc j (by omega)]
      have hzj : zs[j]? = some (zs[j]'(by omega)) := List.getElem?_eq_getElem _
      have hb := u8_bd (hw _ (List.getElem_mem (l := zs) (n := j) (by omega)))
      rw [← hu]
      have e : (zs.take len)[j]? = some (zs[j]'(by omega)) := by rw [List.getElem?_take, if_pos hj, hzj]
      have e2 : ((zs.take len).map fun n => UInt8.ofNat n.toNat)[j]? = some (UInt8.ofNat (zs[j]'(by omega)).toNat) := by rw [List.getElem?_map, e]; rfl
      rw [cellsB_get _ _ _ e2, UInt8.toNat_ofNat']
      simp [List.getD, hzj]
      omega
theorem slice_cap {w : World} {base n cap : Nat} {a : Option Addr} {xs : List Value} (h : w.ownsRow base 5 1 (.slice a n cap) n xs) : n ≤ cap ∧ cap ≤ maxLen := by
  rcases h.2 with ⟨h1, h2⟩ | ⟨g, c, cur, h1, -, -, h2, h3, -⟩
  · injection h1 with e1 e2 e3
    subst e3
    exact ⟨by omega, by simp [maxLen]⟩
  · injection h1 with e1 e2 e3
    subst e3
    exact ⟨h2, h3⟩
/-- a middle of bytes that are read -/
theorem BV.mid {w : World} {g o n c : Nat} {l : List UInt8} (h : BV w (.slice (some ⟨g, o, none⟩) n c) l) (a b : Nat) (hab : a ≤ b) (hb : b ≤ n) : BV w (.slice (some ⟨g, o + a, none⟩) (b - a) (c - a)) ((l.drop a).take (b - a)) := by
  obtain ⟨A, c', he, h1, h2, h3⟩ := h
  cases he
  have e : ((l.drop a).take (b - a)).length = b - a := by rw [List.length_take, List.length_drop]; omega
  refine ⟨some ⟨g, o + a, none⟩, c - a, by rw [e], by omega, by omega, ?_⟩
  rw [e]
  refine ⟨by rw [cellsB_length, e, Nat.mul_one], fun hn => ?_⟩
  obtain ⟨ad, e1, hb1, hc⟩ := h3.2 (by omega)
  cases e1
  refine ⟨_, rfl, hb1, fun j u hu => ?_⟩
  have hj : j < b - a := by
    have := (List.getElem?_eq_some_iff.1 hu).1
    rwa [cellsB_length, e] at this
  have hu2 : (cellsB l)[a + j]? = some u := by
    rw [← hu]
    simp only [cellsB, List.map_take, List.map_drop]
    rw [List.getElem?_take, if_pos hj, List.getElem?_drop]
  have := hc (a + j) u hu2
  rw [Addr.add_mid] at this ⊢
  rw [Nat.add_assoc]
  exact this
end Go.Proofs.Ytlhlhlabnjfhcaa
