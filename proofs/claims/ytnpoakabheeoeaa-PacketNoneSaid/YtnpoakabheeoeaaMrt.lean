/- A region in a round of a loop over a function: what the plain laws of regions say holds there too. No program in sight. A region that draws its order, its callees moving the world within a class, its end a forced row: one walk serves every order; in a round too. No program in sight. The walk of a region in a class of worlds: its steps. No program in sight. -/
import Derived.Test.YtnpoakabheeoeaaMsp
import Derived.StillTailTactics
import Derived.OrdersIn
import Derived.Deep.Quiet
import Derived.Deep.QuietTactic
namespace Go.Proofs.Ytnpoakabheeoeaa
open Go.RowKit

def noDefer (ops : Array Oper) : Bool := ops.all fun o => match o.op with | .defer _ => false | _ => true
theorem noDefer_at {ops : Array Oper} (h : noDefer ops = true) {i : Nat} {o : Oper} (hi : ops[i]? = some o) : ∀ c, o.op ≠ .defer c := by
  intro c hc
  unfold noDefer at h
  rw [Array.all_eq_true] at h
  obtain ⟨h1, h2⟩ := Array.getElem?_eq_some_iff.1 hi
  have := h i h1
  rw [h2, hc] at this
  cases this
theorem oper_round {P : Program} {o : Oper} {a : Act} {w : World} {K K' : Act → World → Prop} {Q : Exit → Act → World → Prop} {l n : Nat} (hd : ∀ c, o.op ≠ .defer c) (hK : ∀ a w, K a w → K' a w) (h : o.wp P a w K Q) : o.wpIn (Fence.wide.inRound l) n P a w K' Q := by
  unfold Oper.wpIn
  refine ⟨fun f _ => trivial, ?_⟩
  rw [show (Fence.wide.inRound l).round = some l from rfl, Oper.semAt_some l _ _ hd]
  unfold Oper.wp at h
  generalize (execOp a.eval o).run P w = r at h ⊢
  cases r with
  | ok x w' =>
    cases x with
    | value v => exact hK _ _ h
    | skip => exact hK _ _ h
    | defer d => exact hK _ _ h
    | enter f args =>
      refine ⟨fun e => (by simp [Fence.wide] at e), ?_⟩
      refine CallsIn.inRound l (callsIn_wide.2 (Calls.mono h ?_))
      intro e w'' he
      cases e with
      | returned v => exact hK _ _ he
      | panicked c => exact he
      | outgrown => exact he
    | row row args =>
      refine ⟨fun e => (by simp [Fence.wide] at e), ?_⟩
      intro c cs _
      obtain ⟨v, w2, hr, hs⟩ := h c cs
      exact ⟨v, w2, hK _ _ hr, stepsIn_wide.2 hs⟩
    | round l f tmps assign body => exact h.elim
    | _ => exact h.elim
  | halt x w' =>
    cases x with
    | panic v => exact h
    | _ => exact h.elim
theorem any_round {P : Program} {md : Region.Mode} {ops : Array Oper} {Q : Exit → Act → World → Prop} (l n : Nat) (hd : noDefer ops = true) (hl : ¬LetsOut Q) : ∀ (f : Nat) (listed : Array Bool) (a : Act) (w : World), wpAny P md ops Q f listed a w → wpAnyIn (Fence.wide.inRound l) n P md ops Q f listed a w
  | 0, _, _, _, h => h
  | f + 1, listed, a, w, h => by
    refine ⟨h.1, fun i hi => ?_⟩
    have h2 := h.2 i hi
    unfold wpOp at h2
    unfold wpOpIn
    cases ho : ops[i]? with
    | none =>
      rw [ho] at h2
      exact any_round l n hd hl f _ _ _ h2
    | some o =>
      rw [ho] at h2
      simp only at h2 ⊢
      split
      · rename_i hw
        rw [if_pos hw] at h2
        rcases h2 with h2 | h2
        · exact oper_round (noDefer_at hd ho) (fun a w k => any_round l n hd hl f _ a w k) h2
        · exact absurd h2.2 hl
      · rename_i hw
        rw [if_neg hw] at h2
        exact ⟨fun f _ => trivial, any_round l n hd hl f _ _ _ h2⟩
/-- a region that reads and ends in a forced row of operations -/
theorem round_still_tail {P : Program} {l k id : Nat} {Q : Exit → Act → World → Prop} {a : Act} {w : World} {ops : List Oper} (n : Nat) (hm : P.follows .mixedOrders = true) (hd : noDefer ops.toArray = true) (hl : ¬LetsOut Q) (hB : Region.lexTailB .any ops.toArray n = true)
    (h : wpStill P ops.toArray { w with drawn := w.drawn + 1 } (fun a' => wpList P ops.toArray Q (ops.drop n) a' { w with drawn := w.drawn + 1 }) (ops.take n) a) : (Code.region id ops.toArray true).wpIn (Fence.wide.inRound l) k P Q a w := by
  simp only [Region.lexTailB, Bool.and_eq_true, decide_eq_true_eq] at hB
  obtain ⟨⟨⟨⟨hsel, hn⟩, hs⟩, hc⟩, hlex⟩ := hB
  have hn' : n < ops.length := by simpa using hn
  have htl : (ops.take n).length = n := by simp; omega
  have hdl : (ops.drop n).length = ops.toArray.size - n := by simp
  have inv0 : HeadInv .any ops.toArray n (Array.replicate ops.toArray.size false) :=
    ⟨by simp, fun j oj _ hl => (by rw [getD_replicate_false] at hl; cases hl), fun t _ ht => getD_in (by simpa using ht) (getD_replicate_false _ _)⟩
  have H := wpAnyL_lex (md := .any) (g := ops.toArray.size - n) hsel hs hc hn (ops.take n) 0 _ a (fun j hj => by
    have hj' : j < n := by rw [htl] at hj; exact hj
    simp [hj']) (by simpa using htl) inv0 (by rw [htl]; exact hlex) h
  refine wpIn_region_any hm (any_round l k hd hl _ _ _ _ ?_)
  have := wpAny_of_head (Q' := Q) (g := ops.toArray.size - n) (fun listed a' hL => by
    have := wpAny_of_seq (md := .any) (Q' := Q) (ops.drop n) n listed a' { w with drawn := w.drawn + 1 } (fun j => by simp [List.getElem?_drop]) (by rw [hdl]; exact hL.1) hL.2
    rwa [hdl] at this) _ _ _ H
  rw [htl, show n + (ops.toArray.size - n) = ops.toArray.size by omega] at this
  exact this
end Go.Proofs.Ytnpoakabheeoeaa
namespace Go.Proofs.Ytnpoakabheeoeaa
open Go.RowKit
section
variable {P : Program} {ops : Array Oper} {md : Region.Mode} {C : World → Prop}
/-- whatever order is picked among the first n -/
def hdAny (P : Program) (md : Region.Mode) (ops : Array Oper) (C : World → Prop) (n : Nat) (L : Array Bool → Act → Prop) : Nat → Array Bool → Act → Prop
  | 0, listed, a => L listed a
  | f + 1, listed, a => Region.ready md ops listed ≠ [] ∧ ∀ i ∈ Region.ready md ops listed, i < n ∧ qOp P ops C i (hdAny P md ops C n L f (listed.setIfInBounds i true)) a
theorem any_of_hd {n g : Nat} {L : Array Bool → Act → Prop} {Q : Exit → Act → World → Prop} (hL : ∀ listed a w, C w → L listed a → wpAny P md ops Q g listed a w) :
    ∀ (f : Nat) (listed : Array Bool) (a : Act) (w : World), C w → hdAny P md ops C n L f listed a → wpAny P md ops Q (f + g) listed a w
  | 0, listed, a, w, hw, h => by rw [Nat.zero_add]; exact hL _ _ _ hw h
  | f + 1, listed, a, w, hw, h => by
    rw [show f + 1 + g = (f + g) + 1 by omega]
    exact ⟨fun h0 => absurd h0 h.1, fun i hi => wpOp_of_qOp hw (fun a' w' hw' h' => any_of_hd hL f _ a' w' hw' h') (h.2 i hi).2⟩
theorem hd_first {n i : Nat} {oi : Oper} {v : Value} {L : Array Bool → Act → Prop} (hi : ops[i]? = some oi) (hsel : ∀ (j : Nat) (o : Oper) cs b, ops[j]? = some o → o.op ≠ .select cs b)
    (hs : Region.sinkB md ops n = true) (hc : Region.chainB md ops n = true) (hn : n < ops.size) (hin : i < n) (hdone : ∀ listed a, L listed a → ∀ j ∈ Region.ready md ops listed, n ≤ j) :
    ∀ (f : Nat) (listed : Array Bool) (a : Act), HeadInv md ops n listed →
      (∀ j oj, ops[j]? = some oj → j ≠ i → listed.getD j true = false → (∀ e ∈ oj.after, Region.binds md e = true → e.on ≠ i) → oi.apart ops oj = true) →
      i ∈ Region.ready md ops listed → YieldsIn P ops C oi v a → hdAny P md ops C n L f (listed.setIfInBounds i true) (a.put oi.dst v) → hdAny P md ops C n L (f + 1) listed a := by
  intro f
  induction f with
  | zero =>
    intro listed a inv hfree hr hy H
    refine ⟨fun e => (by rw [e] at hr; cases hr), fun j hj => ?_⟩
    have hlt : j < n := Nat.lt_of_not_le fun hge => tail_waits hs hc hn inv _ i rfl hin (mem_ready.1 hr).1 j hge hj
    by_cases e : j = i
    · subst e
      exact ⟨hlt, hy.qOp hi H⟩
    · exact absurd (hdone _ _ H j (ready_mono hj e)) (by omega)
  | succ f ih =>
    intro listed a inv hfree hr hy H
    refine ⟨fun e => (by rw [e] at hr; cases hr), fun j hj => ?_⟩
    have hun := (mem_ready.1 hr).1
    have hlt : j < n := Nat.lt_of_not_le fun hge => tail_waits hs hc hn inv _ i rfl hin hun j hge hj
    by_cases e : j = i
    · subst e
      exact ⟨hlt, hy.qOp hi H⟩
    · obtain ⟨hjun, oj, hoj, hall⟩ := mem_ready.1 hj
      have hnot : ∀ d ∈ oj.after, Region.binds md d = true → d.on ≠ i := by
        intro d hd hb h1
        have h2 := hall d hd hb
        rw [h1, getD_both hun] at h2
        cases h2
      refine ⟨hlt, qOp_mono (fun a' h3 => ?_) (qOp_put hoj (hfree j oj hoj e hjun hnot) (fun cs b => hsel i oi cs b hi) (fun cs b => hsel j oj cs b hoj) hy (H.2 j (ready_mono hj e)).2)⟩
      refine ih _ a' (inv.set hj hlt) (fun k ok hk hki hkun hno => hfree k ok hk hki ?_ hno) (ready_mono hr fun h => e h.symm) h3.1 ?_
      · by_cases hjk : j = k
        · subst hjk; exact hjun
        · rwa [getD_set_ne true hjk] at hkun
      · rw [Array.setIfInBounds_comm _ _ e]
        exact h3.2
theorem hd_lex {n g : Nat} {Lq : Act → Prop} (hsel : Region.noSelect ops = true) (hs : Region.sinkB md ops n = true) (hc : Region.chainB md ops n = true) (hn : n < ops.size) :
    ∀ (l : List Oper) (k : Nat) (listed : Array Bool) (a : Act), (∀ j, j < l.length → l[j]? = ops[k + j]?) → k + l.length = n → HeadInv md ops n listed →
    Region.lexHead md ops g l.length k listed = true → wpQuiet P ops C Lq l a → hdAny P md ops C n (fun listed' a' => Region.seqB md ops g n listed' = true ∧ Lq a') l.length listed a
  | [], k, listed, a, _, hk, _, hB, h => by
    have e : k = n := by simpa using hk
    rw [← e]
    exact ⟨by simpa [Region.lexHead] using hB, h⟩
  | o :: l, k, listed, a, hl, hk, inv, hB, h => by
    have h0 : ops[k]? = some o := by simpa using (hl 0 (by simp)).symm
    rw [List.length_cons] at hk
    have hkn : k < n := by omega
    simp only [List.length_cons, Region.lexHead, Bool.and_eq_true] at hB
    have hr : k ∈ Region.ready md ops listed := by simpa using hB.1.1
    have hq : qOp P ops C k (wpQuiet P ops C Lq l) a := by
      unfold qOp
      simp only [h0]
      exact h
    obtain ⟨v, hy, hK⟩ := yieldsIn_of_qOp h0 hq
    refine hd_first h0 (Region.noSelect_spec hsel) hs hc hn hkn (fun _ _ hL => seqB_ready hL.1) l.length listed a inv (Region.free_spec h0 hB.1.2) hr hy ?_
    refine hd_lex hsel hs hc hn l (k + 1) _ _ (fun j hj => ?_) (by omega) (inv.set hr hkn) hB.2 hK
    have := hl (j + 1) (by simp; omega)
    simpa [Nat.add_assoc, Nat.add_comm 1 j] using this
theorem any_quiet_tail {Q : Exit → Act → World → Prop} {a : Act} {w : World} {l : List Oper} (n : Nat) (hB : Region.lexTailB .any l.toArray n = true) (hC : C w)
    (h : wpQuiet P l.toArray C (fun a' => ∀ w', C w' → wpList P l.toArray Q (l.drop n) a' w') (l.take n) a) : wpAny P .any l.toArray Q l.toArray.size (Array.replicate l.toArray.size false) a w := by
  simp only [Region.lexTailB, Bool.and_eq_true, decide_eq_true_eq] at hB
  obtain ⟨⟨⟨⟨hsel, hn⟩, hs⟩, hc⟩, hlex⟩ := hB
  have hn' : n < l.length := by simpa using hn
  have htl : (l.take n).length = n := by simp; omega
  have hdl : (l.drop n).length = l.toArray.size - n := by simp
  have inv0 : HeadInv .any l.toArray n (Array.replicate l.toArray.size false) :=
    ⟨by simp, fun j oj _ hl => (by rw [getD_replicate_false] at hl; cases hl), fun t _ ht => getD_in (by simpa using ht) (getD_replicate_false _ _)⟩
  have H := hd_lex (C := C) (md := .any) (g := l.toArray.size - n) hsel hs hc hn (l.take n) 0 _ a (fun j hj => by
    have hj' : j < n := by rw [htl] at hj; exact hj
    simp [hj']) (by simpa using htl) inv0 (by rw [htl]; exact hlex) h
  have := any_of_hd (Q := Q) (g := l.toArray.size - n) (fun listed a' w' hw' hL => by
    have := wpAny_of_seq (md := .any) (Q' := Q) (l.drop n) n listed a' w' (fun j => by simp [List.getElem?_drop]) (by rw [hdl]; exact hL.1) (hL.2 w' hw')
    rwa [hdl] at this) _ _ _ w hC H
  rw [htl, show n + (l.toArray.size - n) = l.toArray.size by omega] at this
  exact this
theorem round_quiet_tail {l k id : Nat} {Q : Exit → Act → World → Prop} {a : Act} {w : World} {ops : List Oper} (n : Nat) (C : World → Prop) (hm : P.follows .mixedOrders = true) (hd : noDefer ops.toArray = true) (hl : ¬LetsOut Q) (hC : C { w with drawn := w.drawn + 1 }) (hB : Region.lexTailB .any ops.toArray n = true)
    (h : wpQuiet P ops.toArray C (fun a' => ∀ w', C w' → wpList P ops.toArray Q (ops.drop n) a' w') (ops.take n) a) : (Code.region id ops.toArray true).wpIn (Fence.wide.inRound l) k P Q a w :=
  wpIn_region_any hm (any_round l k hd hl _ _ _ _ (any_quiet_tail n hB hC h))
theorem plain_quiet_tail {id : Nat} {Q : Exit → Act → World → Prop} {a : Act} {w : World} {ops : List Oper} (n : Nat) (C : World → Prop) (hm : P.follows .mixedOrders = true) (hC : C { w with drawn := w.drawn + 1 }) (hB : Region.lexTailB .any ops.toArray n = true)
    (h : wpQuiet P ops.toArray C (fun a' => ∀ w', C w' → wpList P ops.toArray Q (ops.drop n) a' w') (ops.take n) a) : (Code.region id ops.toArray true).wp P Q a w :=
  wp_region_any hm (any_quiet_tail n hB hC h)
/-- a region all of whose operations are quiet, in a round -/
theorem round_quiet {l k id : Nat} {Q : Exit → Act → World → Prop} {a : Act} {w : World} {ops : List Oper} (C : World → Prop) (hm : P.follows .mixedOrders = true) (hd : noDefer ops.toArray = true) (hl : ¬LetsOut Q) (hC : C { w with drawn := w.drawn + 1 }) (hB : Region.lexB .any ops.toArray = true)
    (h : wpQuiet P ops.toArray C (fun a' => ∀ w', C w' → Q .normal a' w') ops a) : (Code.region id ops.toArray true).wpIn (Fence.wide.inRound l) k P Q a w := by
  simp only [Region.lexB, Bool.and_eq_true] at hB
  refine wpIn_region_any hm (any_round l k hd hl _ _ _ _ (wpAny_of_quiet (Q := fun a' => ∀ w', C w' → Q .normal a' w') (fun _ w' hw' h => h w' hw') _ _ _ _ hC ?_))
  have := wpAnyQ_lex (C := C) (md := .any) hB.1 ops.toArray.toList 0 (Array.replicate ops.toArray.size false) a (by simp) (by simpa using hB.2) (by simpa using h)
  simpa using this
end
end Go.Proofs.Ytnpoakabheeoeaa
namespace Go.Proofs.Ytnpoakabheeoeaa
open Go.RowKit
section
variable {P : Program} {ops : Array Oper} {C : World → Prop} {Q : Act → Prop} {a : Act} {o : Oper} {rest : List Oper}
theorem qc_pass (hw : Region.wanted o (yielded ops a.tmps) = false) (h : wpQuiet P ops C Q rest (a.put o.dst undef)) : wpQuiet P ops C Q (o :: rest) a := by
  show if _ then _ else _
  rw [if_neg (by rw [hw]; simp)]
  exact h
theorem qc_one (v : Value) (hw : Region.wanted o (yielded ops a.tmps) = true) (hv : ∀ w, C w → o.quietAt P a C w v) (h : wpQuiet P ops C Q rest (a.put o.dst v)) : wpQuiet P ops C Q (o :: rest) a := by
  show if _ then _ else _
  rw [if_pos hw]
  exact ⟨v, hv, h⟩
theorem qc_val {w : World} {v : Value} (h : (execOp a.eval o).run P w = .ok (.value v) w) : o.quietAt P a C w v := by
  unfold Oper.quietAt
  rw [h]
  exact ⟨rfl, rfl⟩
theorem qc_skip {w : World} (h : (execOp a.eval o).run P w = .ok .skip w) : o.quietAt P a C w undef := by
  unfold Oper.quietAt
  rw [h]
  exact ⟨rfl, rfl⟩
theorem qc_call {w : World} {v : Value} {f : FuncId} {args : Array Value} (h : (execOp a.eval o).run P w = .ok (.enter f args) w) (hc : Calls P f args w fun e w'' => e = .returned v ∧ C w'') : o.quietAt P a C w v := by
  unfold Oper.quietAt
  rw [h]
  exact ⟨rfl, hc⟩
end
end Go.Proofs.Ytnpoakabheeoeaa
