/- Heaplets at this program's types: rows of bytes, appended to. -/
import Derived.Test.YtnpoakabheeoeaaProg
import Derived.Test.YtnpoakabheeoeaaSt
import Derived.Laws.Rows
import Derived.Laws.Bits64b
import Derived.RegionTactic
import Derived.BigRegion
import Derived.OwnWalk
import Derived.StillTailTactics
namespace Go.Proofs.Ytnpoakabheeoeaa
open Go.RowKit

theorem infoU8 : (Try.prog.info? 5).map (fun i => (i.zero, i.size, i.bytes)) = some (some (.int .u8 0), 1, 1) := by kernel_rfl

/-- bytes, as a heaplet -/
def RowB (v : Value) (l : List UInt8) (H : List HB) : Prop := RowH 5 1 v l.length (cellsB l) H
theorem RowB.slice {v : Value} {l : List UInt8} {H : List HB} (h : RowB v l H) : ∃ a c, v = .slice a l.length c := RowH.slice h
theorem RowB.lit (g : Nat) (l : List UInt8) (n : Nat) (hn : n = l.length) (hm : n ≤ maxLen) : RowB (.slice (some ⟨g, 0, none⟩) n n) l [⟨g, 5, (cellsB l).toArray⟩] := by
  subst hn
  have := RowH.new 5 g l.length (cellsB l).toArray (size := 1) (by simp [cellsB]) hm
  simpa [RowB] using this
/-- what a row that is read asks -/
theorem RowB.bv {w : World} {v : Value} {l : List UInt8} {H : List HB} (h : RowB v l H) (hs : Sat w H) : BV w v l := BV.of_owns (RowH.owns h hs (B := 0) (fun _ _ => Nat.zero_le _))
/-- the last byte -/
theorem RowB.last {w : World} {v : Value} {l : List UInt8} {H : List HB} (h : RowB v l H) (hs : Sat w H) (hl : 0 < l.length) :
    ∃ g c, v = .slice (some ⟨g, 0, none⟩) l.length c ∧ w.cell? ⟨g, l.length - 1, none⟩ = some (.int .u8 ((l.getLastD 0).toNat : Int)) ∧ w.frozen? ⟨g, l.length - 1, none⟩ = false := by
  obtain ⟨g, cap, cur, rfl, -⟩ := RowH.form h hl
  obtain ⟨h1, h2⟩ := RowH.cell h hs rfl (l.length - 1) (by omega)
  refine ⟨g, cap, rfl, ?_, h2⟩
  rw [h1]
  refine cellsB_get l _ _ ?_
  rw [List.getLastD_eq_getLast?, List.getLast?_eq_getElem?, List.getElem?_eq_getElem (by omega)]
  rfl
theorem RowB.at_last {w : World} {g c n : Nat} {l : List UInt8} {H : List HB} (h : RowB (.slice (some ⟨g, 0, none⟩) n c) l H) (hs : Sat w H) (hn : l.length = n) (hl : 0 < n) :
    w.cell? ⟨g, n - 1, none⟩ = some (.int .u8 ((l.getLastD 0).toNat : Int)) ∧ w.frozen? ⟨g, n - 1, none⟩ = false := by
  subst hn
  obtain ⟨g', c', e, h1, h2⟩ := h.last hs hl
  cases e
  exact ⟨h1, h2⟩
theorem RowB.len {g : Option Addr} {c n : Nat} {l : List UInt8} {H : List HB} (h : RowB (.slice g n c) l H) : n = l.length := by
  obtain ⟨a, c', e⟩ := h.slice
  cases e
  rfl
/-- the last byte is changed -/
theorem RowB.set_last {w : World} {g c : Nat} {l : List UInt8} {H : List HB} (h : RowB (.slice (some ⟨g, 0, none⟩) l.length c) l H) (hs : Sat w H) (hl : 0 < l.length) (x : UInt8) :
    ∃ H', RowB (.slice (some ⟨g, 0, none⟩) l.length c) (l.dropLast ++ [x]) H' ∧ Mv w H (w.setCell ⟨g, l.length - 1, none⟩ (.int .u8 (x.toNat : Int))) H' := by
  obtain ⟨H', h1, h2⟩ := RowH.set h hs rfl (l.length - 1) (.int .u8 (x.toNat : Int)) (by omega)
  refine ⟨H', ?_, h2⟩
  have e2 : (cellsB l).set (l.length - 1) (.int .u8 (x.toNat : Int)) = cellsB (l.dropLast ++ [x]) := by
    have hl2 : l = l.dropLast ++ [l.getLast (List.ne_nil_of_length_pos hl)] := (List.dropLast_concat_getLast _).symm
    generalize l.getLast (List.ne_nil_of_length_pos hl) = y at hl2
    have e3 : l.length - 1 = l.dropLast.length := by simp
    rw [e3]
    conv => lhs; rw [hl2]
    simp only [cellsB, List.map_append]
    rw [List.set_append_right _ _ (by simp)]
    simp
  rw [e2] at h1
  have e1 : (l.dropLast ++ [x]).length = l.length := by simp; omega
  unfold RowB
  rw [e1]
  exact h1
/-- a row of bytes grows by some that read -/
theorem run_app {w : World} {v u : Value} {l r : List UInt8} {H : List HB} (h : RowB v l H) (hs : Sat w H) (hu : BV w u r) (hl : l.length + r.length ≤ 100000000) (ty : TypeId) :
    ∃ v' w' H', (Builtin.append_ #[30, 30] ty #[v, u]).run Try.prog w = .ok v' w' ∧ RowB v' (l ++ r) H' ∧ Mv w H w' H' := by
  obtain ⟨A, c, rfl, h1, h2, h3⟩ := hu
  obtain ⟨i0, hti, hz0, hz1, hz2⟩ := info_parts infoU8
  obtain ⟨v', w', hrun, k1, k2, k3⟩ := run_append_any (P := Try.prog) w 0 30 ty 5 i0 (.int .u8 0) 1 1 Try.underlying30 hti hz0 hz1 hz2 rfl (by decide) v l.length (cellsB l) (RowH.owns h hs (fun _ _ => Nat.zero_le _)) w.heap.size A r.length c (cellsB r) h3 (cellsB_one r) (by unfold maxLen; omega) (by omega) (Nat.zero_le _)
  obtain ⟨H', k4, k5⟩ := mv_owns_grown h k1 k2 k3
  refine ⟨v', w', H', hrun, ?_, k5⟩
  unfold RowB
  rw [List.length_append, cellsB_append]
  exact k4
section
variable {ops : Array Oper} {rest : List Oper} {o : Oper} {a : Act} {w : World} {K : Act → World → Prop} {Q : Exit → Act → World → Prop} {E : Prop}
theorem wp_app (s x : Operand) (ho : o.op = .call { callee := .builtin .append, args := #[s, x], argTypes := #[30, 30] }) (v u : Value) (l r : List UInt8) (H : List HB)
    (hsv : a.eval s = v) (hxu : a.eval x = u) (h : RowB v l H) (hs : Sat w H) (hu : BV w u r) (hl : l.length + r.length ≤ 100000000)
    (hK : ∀ v' w' H', RowB v' (l ++ r) H' → Mv w H w' H' → K (a.put o.dst v') w') : o.wp Try.prog a w K Q := by
  obtain ⟨v', w', H', hrun, h1, h2⟩ := run_app h hs hu hl o.type
  unfold Oper.wp execOp
  simp only [ho, resolve, invoke, builtin, Sem.run_bind, Sem.run_pure, Result.andThen_ok, List.map_toArray, List.map_cons, List.map_nil, hsv, hxu, hrun]
  exact hK v' w' H' h1 h2
theorem wpList_appB (hgd : o.guard = none) (s x : Operand) (ho : o.op = .call { callee := .builtin .append, args := #[s, x], argTypes := #[30, 30] }) (v u : Value) (l r : List UInt8) (H : List HB)
    (hsv : a.eval s = v) (hxu : a.eval x = u) (h : RowB v l H) (hs : Sat w H) (hu : BV w u r) (hl : l.length + r.length ≤ 100000000)
    (hK : ∀ v' w' H', RowB v' (l ++ r) H' → Mv w H w' H' → wpList Try.prog ops Q rest (a.put o.dst v') w') : wpList Try.prog ops Q (o :: rest) a w :=
  wpList_plain hgd fun _ hk => wp_app s x ho v u l r H hsv hxu h hs hu hl fun v' w' H' h1 h2 => hk _ _ (hK v' w' H' h1 h2)
theorem step_appB (hgd : o.guard = none) (s x : Operand) (ho : o.op = .call { callee := .builtin .append, args := #[s, x], argTypes := #[30, 30] }) (v u : Value) (l r : List UInt8) (H : List HB)
    (hsv : a.eval s = v) (hxu : a.eval x = u) (h : RowB v l H) (hs : Sat w H) (hu : BV w u r) (hl : l.length + r.length ≤ 100000000)
    (hK : ∀ v' w' H', RowB v' (l ++ r) H' → Mv w H w' H' → K (a.put o.dst v') w') : if Region.wanted o (yielded ops a.tmps) = true then Oper.wp Try.prog o a w K Q else E := by
  have hw : Region.wanted o (yielded ops a.tmps) = true := by simp [Region.wanted, hgd]
  rw [if_pos hw]
  exact wp_app s x ho v u l r H hsv hxu h hs hu hl hK
end
/-- a byte that was just laid reads -/
theorem bv_one (w : World) (x : UInt8) (g : Nat) (hg : g = w.heap.size) : BV (w.alloc (.cells #[.int .u8 (x.toNat : Int)] 5)) (.slice (some ⟨g, 0, none⟩) 1 1) [x] := by
  subst hg
  have h := RowB.lit w.heap.size [x] 1 rfl (by decide)
  exact h.bv (mv_alloc w 5 _).sat
end Go.Proofs.Ytnpoakabheeoeaa
