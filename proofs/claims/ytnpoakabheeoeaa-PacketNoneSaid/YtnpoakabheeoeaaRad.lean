/- waveletref8: rows of passes: append; one is changed. -/
import Derived.Test.YtnpoakabheeoeaaMpl
import Derived.Test.YtnpoakabheeoeaaQf
namespace Go.Proofs.Ytnpoakabheeoeaa
open Go.RowKit

theorem infoQs : (Try.prog.info? 104).map (fun i => (i.zero, i.size, i.bytes)) = some (some (.agg #[.int .i64 0, .bool false]), 2, 16) := by kernel_rfl
def RowQ (v : Value) (l : List (Int × Bool)) (H : List HB) : Prop := RowH 104 2 v l.length (passesV l) H
/-- passes that are read -/
def QV (w : World) (v : Value) (l : List (Int × Bool)) : Prop := ∃ A c, v = .slice A l.length c ∧ l.length ≤ c ∧ c ≤ maxLen ∧ Reads w w.heap.size 2 A l.length (passesV l)
theorem RowQ.slice {v : Value} {l : List (Int × Bool)} {H : List HB} (h : RowQ v l H) : ∃ a c, v = .slice a l.length c := RowH.slice h
theorem QV.keep {w w' : World} {v : Value} {l : List (Int × Bool)} (h : QV w v l) (hb : Below w.heap.size w w') : QV w' v l := by
  obtain ⟨A, c, h1, h2, h3, h4⟩ := h
  exact ⟨A, c, h1, h2, h3, (h4.below hb).more hb.size⟩
theorem RowQ.qv {w : World} {v : Value} {l : List (Int × Bool)} {H : List HB} (h : RowQ v l H) (hs : Sat w H) : QV w v l := by
  have ho := RowH.owns h hs (B := 0) (fun _ _ => Nat.zero_le _)
  rcases h.2 with ⟨rfl, h2, h3⟩ | ⟨g, cap, cur, rfl, h1, h2, -⟩
  · exact ⟨none, 0, by rw [h2], by omega, by unfold maxLen; omega, Reads.of_own (by rw [h2] at ho ⊢; exact ho)⟩
  · exact ⟨_, cap, rfl, h1, h2, Reads.of_own ho⟩
theorem run_appQ {w : World} {v u : Value} {l r : List (Int × Bool)} {H : List HB} (h : RowQ v l H) (hs : Sat w H) (hu : QV w u r) (hl : l.length + r.length ≤ 100000000) (ty : TypeId) :
    ∃ v' w' H', (Builtin.append_ #[36, 36] ty #[v, u]).run Try.prog w = .ok v' w' ∧ RowQ v' (l ++ r) H' ∧ Mv w H w' H' := by
  obtain ⟨A, c, rfl, h1, h2, h3⟩ := hu
  obtain ⟨i0, hti, hz0, hz1, hz2⟩ := info_parts infoQs
  obtain ⟨v', w', hrun, k1, k2, k3⟩ := run_append_any (P := Try.prog) w 0 36 ty 104 i0 _ 2 16 Try.underlying36 hti hz0 hz1 hz2 rfl (by decide) v l.length (passesV l) (RowH.owns h hs (fun _ _ => Nat.zero_le _)) w.heap.size A r.length c (passesV r) h3 (passesV_one r) (by unfold maxLen; omega) (by omega) (Nat.zero_le _)
  obtain ⟨H', k4, k5⟩ := mv_owns_grown h k1 k2 k3
  refine ⟨v', w', H', hrun, ?_, k5⟩
  unfold RowQ
  rw [List.length_append, passesV_append]
  exact k4
section
variable {ops : Array Oper} {rest : List Oper} {o : Oper} {a : Act} {w : World} {K : Act → World → Prop} {Q : Exit → Act → World → Prop} {E : Prop}
theorem wp_appQ (s x : Operand) (ho : o.op = .call { callee := .builtin .append, args := #[s, x], argTypes := #[36, 36] }) (v u : Value) (l r : List (Int × Bool)) (H : List HB)
    (hsv : a.eval s = v) (hxu : a.eval x = u) (h : RowQ v l H) (hs : Sat w H) (hu : QV w u r) (hl : l.length + r.length ≤ 100000000)
    (hK : ∀ v' w' H', RowQ v' (l ++ r) H' → Mv w H w' H' → K (a.put o.dst v') w') : o.wp Try.prog a w K Q := by
  obtain ⟨v', w', H', hrun, h1, h2⟩ := run_appQ h hs hu hl o.type
  unfold Oper.wp execOp
  simp only [ho, resolve, invoke, builtin, Sem.run_bind, Sem.run_pure, Result.andThen_ok, List.map_toArray, List.map_cons, List.map_nil, hsv, hxu, hrun]
  exact hK v' w' H' h1 h2
theorem wpList_appQ (hgd : o.guard = none) (s x : Operand) (ho : o.op = .call { callee := .builtin .append, args := #[s, x], argTypes := #[36, 36] }) (v u : Value) (l r : List (Int × Bool)) (H : List HB)
    (hsv : a.eval s = v) (hxu : a.eval x = u) (h : RowQ v l H) (hs : Sat w H) (hu : QV w u r) (hl : l.length + r.length ≤ 100000000)
    (hK : ∀ v' w' H', RowQ v' (l ++ r) H' → Mv w H w' H' → wpList Try.prog ops Q rest (a.put o.dst v') w') : wpList Try.prog ops Q (o :: rest) a w :=
  wpList_plain hgd fun _ hk => wp_appQ s x ho v u l r H hsv hxu h hs hu hl fun v' w' H' h1 h2 => hk _ _ (hK v' w' H' h1 h2)
end
theorem passesV_get {l : List (Int × Bool)} {k : Nat} {p : Int × Bool} (h : l[k]? = some p) : (passesV l)[k * 2]? = some (.int .i64 p.1) ∧ (passesV l)[k * 2 + 1]? = some (.bool p.2) := by
  have g := fun j (hj : j < 2) => flat_get passV 2 passV_length l k p h j hj
  exact ⟨g 0 (by omega), g 1 (by omega)⟩
theorem passesV_set {l : List (Int × Bool)} {k : Nat} {p : Int × Bool} (h : l[k]? = some p) (e : Int) : (passesV l).set (k * 2) (.int .i64 e) = passesV (l.set k (e, p.2)) :=
  flat_set passV 2 passV_length l k p (e, p.2) h 0 (by omega) (.int .i64 e) rfl
/-- a row that is no nil stands in a block -/
theorem RowQ.form {a : Option Addr} {n c : Nat} {l : List (Int × Bool)} {H : List HB} (h : RowQ (.slice a n c) l H) (hn : 0 < n) : n = l.length ∧ ∃ g, a = some ⟨g, 0, none⟩ := by
  obtain ⟨a', c', e⟩ := h.slice
  cases e
  obtain ⟨g, cp, cur, hv, -⟩ := RowH.form h hn
  injection hv with ha
  exact ⟨rfl, g, ha⟩
theorem RowQ.at_ {w : World} {g n c : Nat} {l : List (Int × Bool)} {H : List HB} (h : RowQ (.slice (some ⟨g, 0, none⟩) n c) l H) (hs : Sat w H) {k : Nat} {p : Int × Bool} (hk : l[k]? = some p) : w.cell? ⟨g, k * 2, none⟩ = some (.int .i64 p.1) ∧ w.frozen? ⟨g, k * 2, none⟩ = false := by
  obtain ⟨a', c', e⟩ := h.slice
  cases e
  have hi := (List.getElem?_eq_some_iff.1 hk).1
  obtain ⟨h1, h2⟩ := RowH.cell h hs rfl (k * 2) (by omega)
  exact ⟨h1.trans (passesV_get hk).1, h2⟩
theorem RowQ.set_ {w : World} {g n c : Nat} {l : List (Int × Bool)} {H : List HB} (h : RowQ (.slice (some ⟨g, 0, none⟩) n c) l H) (hs : Sat w H) {k : Nat} {p : Int × Bool} (hk : l[k]? = some p) (e : Int) :
    ∃ H', RowQ (.slice (some ⟨g, 0, none⟩) n c) (l.set k (e, p.2)) H' ∧ Mv w H (w.setCell ⟨g, k * 2, none⟩ (.int .i64 e)) H' := by
  obtain ⟨a', c', e'⟩ := h.slice
  cases e'
  have hi := (List.getElem?_eq_some_iff.1 hk).1
  obtain ⟨H', h1, h2⟩ := RowH.set h hs rfl (k * 2) (.int .i64 e) (by omega)
  refine ⟨H', ?_, h2⟩
  rw [passesV_set hk] at h1
  unfold RowQ
  rw [List.length_set]
  exact h1
/-- one pass, just laid -/
theorem qv_one (w : World) (p : Int × Bool) (g : Nat) (hg : g = w.heap.size) : QV (w.alloc (.cells #[.int .i64 p.1, .bool p.2] 104)) (.slice (some ⟨g, 0, none⟩) 1 1) [p] := by
  subst hg
  have h : RowQ (.slice (some ⟨w.heap.size, 0, none⟩) 1 1) [p] [⟨w.heap.size, 104, #[.int .i64 p.1, .bool p.2]⟩] := RowH.new 104 w.heap.size 1 #[.int .i64 p.1, .bool p.2] rfl (by decide)
  exact h.qv (mv_alloc w 104 _).sat
end Go.Proofs.Ytnpoakabheeoeaa
