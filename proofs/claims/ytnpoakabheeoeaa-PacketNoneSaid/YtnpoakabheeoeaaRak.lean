/- waveletlaw8.Of: a block of the reference becomes the program's. -/
import Derived.Test.YtnpoakabheeoeaaRaj
namespace Go.Proofs.Ytnpoakabheeoeaa
open Go.RowKit

theorem step_appP {ops : Array Oper} {o : Oper} {a : Act} {w : World} {K : Act → World → Prop} {Q : Exit → Act → World → Prop} {E : Prop} (hgd : o.guard = none) (s x : Operand) (ho : o.op = .call { callee := .builtin .append, args := #[s, x], argTypes := #[43, 43] }) (v u : Value) (l r : List (Int × Bool)) (H : List HB)
    (hsv : a.eval s = v) (hxu : a.eval x = u) (h : RowP v l H) (hs : Sat w H) (hu : PV w u r) (hl : l.length + r.length ≤ 100000000)
    (hK : ∀ v' w' H', RowP v' (l ++ r) H' → Mv w H w' H' → K (a.put o.dst v') w') : if Region.wanted o (yielded ops a.tmps) = true then Oper.wp Try.prog o a w K Q else E := by
  have hw : Region.wanted o (yielded ops a.tmps) = true := by simp [Region.wanted, hgd]
  rw [if_pos hw]
  exact wp_appP s x ho v u l r H hsv hxu h hs hu hl hK
theorem pv_one (w : World) (p : Int × Bool) (g : Nat) (hg : g = w.heap.size) : PV (w.alloc (.cells #[.int .i64 p.1, .bool p.2] 108)) (.slice (some ⟨g, 0, none⟩) 1 1) [p] := by
  subst hg
  have h : RowP (.slice (some ⟨w.heap.size, 0, none⟩) 1 1) [p] [⟨w.heap.size, 108, #[.int .i64 p.1, .bool p.2]⟩] := RowH.new 108 w.heap.size 1 #[.int .i64 p.1, .bool p.2] rfl (by decide)
  exact h.pv (mv_alloc w 108 _).sat
theorem RowQ.at2 {w : World} {g n c : Nat} {l : List (Int × Bool)} {H : List HB} (h : RowQ (.slice (some ⟨g, 0, none⟩) n c) l H) (hs : Sat w H) {k : Nat} {p : Int × Bool} (hk : l[k]? = some p) : w.cell? ⟨g, k * 2 + 1, none⟩ = some (.bool p.2) := by
  obtain ⟨a', c', e⟩ := h.slice
  cases e
  have hi := (List.getElem?_eq_some_iff.1 hk).1
  exact (RowH.cell h hs rfl (k * 2 + 1) (by omega)).1.trans (passesV_get hk).2
def blT (g : Nat) (pl : Int) (vp vb : Value) : HB := ⟨g, 45, #[.int .i64 pl, vp, vb]⟩
def blQ (g : Nat) (pl : Int) (vp vb : Value) : HB := ⟨g, 38, #[.int .i64 pl, vp, vb]⟩
set_option maxRecDepth 100000 in
set_option maxHeartbeats 4000000 in
theorem of_any (pl : Int) (vp : Value) (ba : Option Addr) (bn bc : Nat) (ps : List (Int × Bool)) (Hq : List HB) (w : World) (hq : RowQ vp ps Hq) (hs : Sat w Hq) (hn : ps.length ≤ 1000) :
    Calls Try.prog 15 #[.agg #[.int .i64 pl, vp, .slice ba bn bc]] w fun e w' => ∃ vp' Hp, e = .returned (.agg #[.int .i64 pl, vp', .slice ba bn bc]) ∧ RowP vp' ps Hp ∧ Mv w Hq w' (Hp ++ Hq) := by
  obtain ⟨qa, qc, rfl⟩ := hq.slice
  obtain ⟨n, hnn⟩ : ∃ n, ps.length = n := ⟨_, rfl⟩
  rw [hnn] at hq hn ⊢
  have M1 := ((Mv.refl hs).alloc 38 #[.int .i64 pl, .slice qa n qc, .slice ba bn bc]).alloc 45 #[.int .i64 0, .slice none 0 0, .slice none 0 0]
  have M2 := M1.alloc 45 #[.int .i64 pl, .slice none 0 0, .slice ba bn bc]
  simp only [World.size_alloc] at M1 M2
  have K2 : Hid (Mv w Hq _ ([] ++ (blT (w.heap.size + 1 + 1) pl (.slice none 0 0) (.slice ba bn bc) :: blT (w.heap.size + 1) 0 (.slice none 0 0) (.slice none 0 0) :: blQ w.heap.size pl (.slice qa n qc) (.slice ba bn bc) :: Hq))) := Lib.hid M2
  have KQ := Lib.hid (And.intro hq hnn)
  clear M1 M2 hq hs hnn
  go_enter Try.func15, Try.ntmps15
  go_upto_region 2 with fail
  generalize ((w.alloc (.cells #[.int .i64 pl, .slice qa n qc, .slice ba bn bc] 38)).alloc (.cells #[.int .i64 0, .slice none 0 0, .slice none 0 0] 45)).alloc (.cells #[.int .i64 pl, .slice none 0 0, .slice ba bn bc] 45) = w2 at *
  generalize w.heap.size = g at *
  have K3 : Hid (Mv w Hq w2 ([] ++ (blT (g + 2) pl (.slice none 0 0) (.slice ba bn bc) :: blT (g + 1) 0 (.slice none 0 0) (.slice none 0 0) :: blQ g pl (.slice qa n qc) (.slice ba bn bc) :: Hq))) := K2
  clear K2
  go_wp2_with fail
  go_loopg [4] n (fun mm s4 wx => ∃ (k : Nat) (l : List (Int × Bool)) (a : Option Addr) (c : Nat) (H : List HB), k ≤ n ∧ mm = n - k ∧ s4 = .int .i64 (k : Int) ∧ ps.take k = l ∧ l.length = k ∧ RowP (.slice a k c) l H ∧ Mv w Hq wx (H ++ (blT (g + 2) pl (.slice a k c) (.slice ba bn bc) :: blT (g + 1) 0 (.slice none 0 0) (.slice none 0 0) :: blQ g pl (.slice qa n qc) (.slice ba bn bc) :: Hq)))
  case atStart => exact ⟨0, [], none, 0, [], Nat.zero_le _, rfl, rfl, rfl, rfl, RowH.nil _ _, K3.out⟩
  case round =>
    obtain ⟨k, l, a, c, H, hk, rfl, rfl, hl, hll, hp, hm⟩ := hrel
    have c1 : wr.cell? ⟨g, 1, none⟩ = some (.slice qa n qc) := (hm.drop.cell 2 (g := g) rfl 1)
    by_cases hlt : k < n
    · have d1 : decide ((k : Int) < (n : Int)) = true := by simp; omega
      obtain ⟨-, qg, rfl⟩ := KQ.out.1.form (by omega)
      obtain ⟨p, hpk⟩ : ∃ p, ps[k]? = some p := ⟨_, List.getElem?_eq_getElem (by rw [KQ.out.2]; exact hlt)⟩
      have SQ : Sat wr Hq := Sat.right (A := [_, _, _]) hm.drop.sat
      have p1 := (KQ.out.1.at_ SQ hpk).1
      have p2 := KQ.out.1.at2 SQ hpk
      have hkn : (k : Int) < (n : Int) := by omega
      have r0 : wr.drew.cell? ⟨g, 1, none⟩ = some (.slice (some ⟨qg, 0, none⟩) n qc) := c1
      have r1 : wr.drew.cell? ⟨qg, k * 2, none⟩ = some (.int .i64 p.1) := p1
      have r2 : wr.drew.cell? ⟨qg, k * 2 + 1, none⟩ = some (.bool p.2) := p2
      have r3 : wr.drew.cell? ⟨g + 2, 1, none⟩ = some (.slice a k c) := (hm.drop.cell 0 (g := g + 2) rfl 1)
      have M1 := hm.alloc 108 #[.int .i64 p.1, .bool p.2]
      have A1 : Hid (PV (wr.alloc (.cells #[.int .i64 p.1, .bool p.2] 108)).drew (.slice (some ⟨wr.heap.size, 0, none⟩) 1 1) [p]) := Lib.hid (pv_one wr p _ rfl)
      have r4 : (wr.alloc (.cells #[.int .i64 p.1, .bool p.2] 108)).drew.cell? ⟨g + 2, 1, none⟩ = some (.slice a k c) := (M1.drop1.drop.cell 0 (g := g + 2) rfl 1)
      have K1 := Lib.hid M1.drop1.drew
      have KP := Lib.hid hp
      obtain ⟨l6, hl6⟩ : ∃ l6, ps.take (k + 1) = l6 := ⟨_, rfl⟩
      have HL6 : Hid (l ++ [p] = l6) := Lib.hid (by rw [← hl6, List.take_add_one, hl, hpk]; rfl)
      have hl6l : l6.length = k + 1 := by rw [← HL6.out, List.length_append, hll]; rfl
      have HT := Lib.hid hl6
      have hbd : l.length + [p].length ≤ 100000000 := by rw [hll]; simp only [List.length_cons, List.length_nil]; omega
      clear M1 hp hm hl hl6 SQ p1 p2 hpk
      go_upto_region 5 with fail
      clear c1
      go_region_law (first
        | ((with_reducible refine step_appP (o := ⟨some 33, _, _, _, _, _⟩) (v := .slice a k c) (u := .slice (some ⟨wr.heap.size, 0, none⟩) 1 1) (l := l) (r := [p]) (H := H) rfl (.tmp 18) (.tmp 32) rfl ?_ ?_ KP.out K1.out.sat.left A1.out hbd ?_); simp [Act.eval]; simp [Act.eval]; intro v6 w6 H6 hr6 m6; rw [HL6.out] at hr6; obtain ⟨a6, c6, rfl⟩ := hr6.slice; have M6 := Mv.call K1.out m6; (have y3 : w6.cell? ⟨g + 2, 1, none⟩ = some (.slice a k c) := (by first | exact (M6.drop.cell 0 (g := g + 2) rfl 1))); (have z3 : w6.frozen? ⟨g + 2, 1, none⟩ = false := (by first | exact (M6.drop.frozen 0 (g := g + 2) rfl 1))); have K6 := Lib.hid (And.intro hr6 M6); clear hr6 m6 M6))
      all_goals
        have M7 := Lib.hid (Mv.setAt (A := H6) (g := g + 2) (t := 45) (cs := #[.int .i64 pl, .slice a k c, .slice ba bn bc]) K6.out.2 1 (.slice a6 (k + 1) c6))
        go_wp2_with fail
        go_roundg (n - (k + 1))
        case measure => omega
        case rel => exact ⟨k + 1, l6, a6, c6, H6, by omega, rfl, by push_cast; rfl, HT.out, hl6l, by (have := K6.out.1; rw [hl6l] at this; exact this), M7.out⟩
    · have d1 : decide ((k : Int) < (n : Int)) = false := by simp; omega
      obtain rfl : k = n := by omega
      have el : ps = l := by rw [← hl, List.take_of_length_le (by rw [KQ.out.2]; exact Nat.le_refl _)]
      rw [← el] at hp
      have HL := Lib.hid hp
      have m1 : Mv w Hq wr ([blT (g + 1) 0 (.slice none 0 0) (.slice none 0 0)] ++ (blT (g + 2) pl (.slice a k c) (.slice ba bn bc) :: (H ++ Hq))) := hm.sub (fun g => by simp only [cnt_append, cnt_cons, cnt_nil]; omega) (fun b hb => by
        simp only [List.mem_append, List.mem_cons, List.not_mem_nil, or_false] at hb ⊢
        rcases hb with h | h | h | h
        · exact .inr (.inr (.inl h))
        · exact .inr (.inl h)
        · exact .inl h
        · exact .inr (.inr (.inr (.inr h))))
      have K1 := Lib.hid m1
      clear el hl hll hp hm m1
      go_upto_region 6 with fail
      clear c1
      refine wp_region_lit ?_
      refine wpList_load_row rfl 45 (.tmp 3) rfl (g + 2) rfl 45 #[.int .i64 pl, .slice a k c, .slice ba bn bc] (0, 0) _ (K1.out.blk 1 (g := g + 2) (t := 45) (cs := #[.int .i64 pl, .slice a k c, .slice ba bn bc]) rfl) Try.underlying45 rfl (by kernel_rfl) ?_
      refine wpList_store_row rfl 45 (.tmp 2) (.tmp 35) rfl (g + 1) #[.int .i64 pl, .slice a k c, .slice ba bn bc] rfl rfl 45 _ (K1.out.blk 0 (g := g + 1) (t := 45) (cs := #[.int .i64 0, .slice none 0 0, .slice none 0 0]) rfl) (by kernel_rfl) rfl (by simp [Value.oneCell']) ?_
      have M9 := Lib.hid (Mv.call K1.out (setRow_eq (cs := #[.int .i64 pl, .slice a k c, .slice ba bn bc]) (K1.out.blk 0 (g := g + 1) (t := 45) (cs := #[.int .i64 0, .slice none 0 0, .slice none 0 0]) rfl)))
      generalize wr.setRow (g + 1) #[.int .i64 pl, .slice a k c, .slice ba bn bc] = w9 at *
      go_wp2_with fail
      refine bodyPost_ret (v := .agg #[.int .i64 pl, .slice a k c, .slice ba bn bc]) (results_cell_row Try.results15 _ _ (g + 1) 45 _ (0, 0) _ rfl (M9.out.blk 0 rfl) Try.underlying45 rfl (by kernel_rfl)) rfl ?_
      exact ⟨_, H, rfl, HL.out, M9.out.drop1.drop1⟩
end Go.Proofs.Ytnpoakabheeoeaa
