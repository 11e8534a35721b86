/- Rows of passes: append, a copy. -/
import Derived.Test.YtnpoakabheeoeaaPj
namespace Go.Proofs.Ytnpoakabheeoeaa
open Go.RowKit

theorem infoPs : (Try.prog.info? 108).map (fun i => (i.zero, i.size, i.bytes)) = some (some (.agg #[.int .i64 0, .bool false]), 2, 16) := by kernel_rfl
def RowP (v : Value) (l : List (Int × Bool)) (H : List HB) : Prop := RowH 108 2 v l.length (passesV l) H
/-- passes that are read -/
def PV (w : World) (v : Value) (l : List (Int × Bool)) : Prop := ∃ A c, v = .slice A l.length c ∧ l.length ≤ c ∧ c ≤ maxLen ∧ Reads w w.heap.size 2 A l.length (passesV l)
theorem passesV_append (a b : List (Int × Bool)) : passesV (a ++ b) = passesV a ++ passesV b := by simp [passesV]
theorem passesV_length (l : List (Int × Bool)) : (passesV l).length = l.length * 2 := flat_length passV 2 passV_length l
theorem passesV_one (l : List (Int × Bool)) : ∀ u : Value, u ∈ passesV l → u.oneCell' = true := by
  intro u hu
  simp only [passesV, passV, List.mem_flatMap, List.mem_cons, List.not_mem_nil, or_false] at hu
  obtain ⟨p, -, rfl | rfl⟩ := hu <;> rfl
theorem RowP.slice {v : Value} {l : List (Int × Bool)} {H : List HB} (h : RowP v l H) : ∃ a c, v = .slice a l.length c := RowH.slice h
theorem PV.keep {w w' : World} {v : Value} {l : List (Int × Bool)} (h : PV w v l) (hb : Below w.heap.size w w') : PV w' v l := by
  obtain ⟨A, c, h1, h2, h3, h4⟩ := h
  exact ⟨A, c, h1, h2, h3, (h4.below hb).more hb.size⟩
theorem RowP.pv {w : World} {v : Value} {l : List (Int × Bool)} {H : List HB} (h : RowP v l H) (hs : Sat w H) : PV w v l := by
  have ho := RowH.owns h hs (B := 0) (fun _ _ => Nat.zero_le _)
  rcases h.2 with ⟨rfl, h2, h3⟩ | ⟨g, cap, cur, rfl, h1, h2, -⟩
  · exact ⟨none, 0, by rw [h2], by omega, by unfold maxLen; omega, Reads.of_own (by rw [h2] at ho ⊢; exact ho)⟩
  · exact ⟨_, cap, rfl, h1, h2, Reads.of_own ho⟩
theorem run_appP {w : World} {v u : Value} {l r : List (Int × Bool)} {H : List HB} (h : RowP v l H) (hs : Sat w H) (hu : PV w u r) (hl : l.length + r.length ≤ 100000000) (ty : TypeId) :
    ∃ v' w' H', (Builtin.append_ #[43, 43] ty #[v, u]).run Try.prog w = .ok v' w' ∧ RowP v' (l ++ r) H' ∧ Mv w H w' H' := by
  obtain ⟨A, c, rfl, h1, h2, h3⟩ := hu
  obtain ⟨i0, hti, hz0, hz1, hz2⟩ := info_parts infoPs
  obtain ⟨v', w', hrun, k1, k2, k3⟩ := run_append_any (P := Try.prog) w 0 43 ty 108 i0 _ 2 16 Try.underlying43 hti hz0 hz1 hz2 rfl (by decide) v l.length (passesV l) (RowH.owns h hs (fun _ _ => Nat.zero_le _)) w.heap.size A r.length c (passesV r) h3 (passesV_one r) (by unfold maxLen; omega) (by omega) (Nat.zero_le _)
  obtain ⟨H', k4, k5⟩ := mv_owns_grown h k1 k2 k3
  refine ⟨v', w', H', hrun, ?_, k5⟩
  unfold RowP
  rw [List.length_append, passesV_append]
  exact k4
section
variable {ops : Array Oper} {rest : List Oper} {o : Oper} {a : Act} {w : World} {K : Act → World → Prop} {Q : Exit → Act → World → Prop} {E : Prop}
theorem wp_appP (s x : Operand) (ho : o.op = .call { callee := .builtin .append, args := #[s, x], argTypes := #[43, 43] }) (v u : Value) (l r : List (Int × Bool)) (H : List HB)
    (hsv : a.eval s = v) (hxu : a.eval x = u) (h : RowP v l H) (hs : Sat w H) (hu : PV w u r) (hl : l.length + r.length ≤ 100000000)
    (hK : ∀ v' w' H', RowP v' (l ++ r) H' → Mv w H w' H' → K (a.put o.dst v') w') : o.wp Try.prog a w K Q := by
  obtain ⟨v', w', H', hrun, h1, h2⟩ := run_appP h hs hu hl o.type
  unfold Oper.wp execOp
  simp only [ho, resolve, invoke, builtin, Sem.run_bind, Sem.run_pure, Result.andThen_ok, List.map_toArray, List.map_cons, List.map_nil, hsv, hxu, hrun]
  exact hK v' w' H' h1 h2
theorem wpList_appP (hgd : o.guard = none) (s x : Operand) (ho : o.op = .call { callee := .builtin .append, args := #[s, x], argTypes := #[43, 43] }) (v u : Value) (l r : List (Int × Bool)) (H : List HB)
    (hsv : a.eval s = v) (hxu : a.eval x = u) (h : RowP v l H) (hs : Sat w H) (hu : PV w u r) (hl : l.length + r.length ≤ 100000000)
    (hK : ∀ v' w' H', RowP v' (l ++ r) H' → Mv w H w' H' → wpList Try.prog ops Q rest (a.put o.dst v') w') : wpList Try.prog ops Q (o :: rest) a w :=
  wpList_plain hgd fun _ hk => wp_appP s x ho v u l r H hsv hxu h hs hu hl fun v' w' H' h1 h2 => hk _ _ (hK v' w' H' h1 h2)
end
end Go.Proofs.Ytnpoakabheeoeaa
