/- All blocks of some bands: the program's iterator over them. A loop over all blocks of some bands: the law, with heaplets. -/
import Derived.Test.YtnpoakabheeoeaaSb
import Derived.RangeFuncNested
import Derived.RangeFuncBound
import Derived.RangeFuncCalls
import Derived.RangeFuncLeaves
import Derived.Shelf.Abstract
import Derived.Shelf.RegionOpen
import Derived.WalkKit
import Derived.OwnWalkIn
import Derived.TacticsInMore
import Derived.LoopNIn
import Derived.LoopIn
namespace Go.Proofs.Ytnpoakabheeoeaa
open Go.RowKit Go.Shelf

attribute [local go_sem] Oper.semAt_some

/-- a band: its block, its states' block, how many -/
structure BandA where
  bb : Nat
  lb : Nat
  n : Nat
/-- a spot: a band, a number -/
structure SpotX where
  d : BandA
  k : Nat
def SpotX.v (x : SpotX) : Value := .agg #[.pointer (some ⟨x.d.lb, x.k * 5, none⟩), .pointer (some ⟨x.d.bb, 0, none⟩), .int .i64 (x.k : Int)]
def spotsB (d : BandA) (k : Nat) : List SpotX := (List.range k).map fun j => ⟨d, j⟩
def spotsOf (D : List BandA) : List SpotX := D.flatMap fun d => spotsB d d.n
/-- what the iterator reads -/
def SpR (W : World) (box : Nat) (A : Option Addr) (c : Nat) (D : List BandA) : Prop :=
  W.cell? ⟨box, 0, none⟩ = some (.slice A D.length c) ∧
  (∀ j d, D[j]? = some d → ∃ ga, A = some ⟨ga, 0, none⟩ ∧ W.cell? ⟨ga, j, none⟩ = some (.pointer (some ⟨d.bb, 0, none⟩))) ∧
  (∀ d ∈ D, W.cell? ⟨d.bb, 0, none⟩ = some (.slice (some ⟨d.lb, 0, none⟩) d.n d.n))
theorem spotsB_succ (d : BandA) (k : Nat) : spotsB d (k + 1) = spotsB d k ++ [⟨d, k⟩] := by simp [spotsB, List.range_succ]
theorem spotsOf_snoc (D : List BandA) (i : Nat) (d : BandA) (h : D[i]? = some d) : spotsOf (D.take (i + 1)) = spotsOf (D.take i) ++ spotsB d d.n := by
  rw [List.take_add_one, h]
  simp [spotsOf]
theorem spotsB_prefix (d : BandA) (k : Nat) (h : k ≤ d.n) : spotsB d k <+: spotsB d d.n := by
  refine ⟨(List.range' k (d.n - k)).map fun j => ⟨d, j⟩, ?_⟩
  unfold spotsB
  rw [← List.map_append]
  congr 1
  apply List.ext_getElem
  · simp; omega
  · intro i h1 h2
    by_cases hi : i < k
    · rw [List.getElem_append_left (by simpa using hi)]; simp
    · rw [List.getElem_append_right (by simp; omega)]; simp; omega
theorem spots_prefix (D : List BandA) (i : Nat) (d : BandA) (h : D[i]? = some d) (k : Nat) (hk : k ≤ d.n) : spotsOf (D.take i) ++ spotsB d k <+: spotsOf D := by
  obtain ⟨t, ht⟩ := spotsB_prefix d k hk
  obtain ⟨hi, hd⟩ := List.getElem?_eq_some_iff.1 h
  have e : D = D.take i ++ d :: D.drop (i + 1) := by rw [← hd]; simp
  refine ⟨t ++ spotsOf (D.drop (i + 1)), ?_⟩
  conv => rhs; rw [e]
  rw [show spotsOf (D.take i ++ d :: D.drop (i + 1)) = spotsOf (D.take i) ++ (spotsB d d.n ++ spotsOf (D.drop (i + 1))) from by simp [spotsOf], ← ht]
  simp

set_option maxRecDepth 100000 in
set_option maxHeartbeats 4000000 in
theorem spots1_in (F : Fence) (n : Nat) (h7 : F.fn 55) (hro : F.round = none) (hn : 1 ≤ n) (l box c : Nat) (A : Option Addr) (D : List BandA) (hD : D.length ≤ 100000) (hDn : ∀ d ∈ D, d.n ≤ 100000) (J Jx : List SpotX → World → Prop)
    (hY : ∀ pre x W, J pre W → x ∈ spotsOf D → pre.length < (spotsOf D).length → YieldAt F (n - 1) Try.prog l #[x.v] W fun e W' =>
      (e = .returned (.bool true) ∧ J (pre ++ [x]) W' ∧ (SpR W box A c D → SpR W' box A c D)) ∨ (e = .returned (.bool false) ∧ Jx (pre ++ [x]) W'))
    (W : World) (hR : SpR W box A c D) (h0 : J [] W) :
    CallsIn F n Try.prog 55 #[.func (.yield l) #[] #[], .pointer (some ⟨box, 0, none⟩)] W fun e W' => (∃ v, e = .returned v) ∧
      ((∃ ys, ys = spotsOf D ∧ J ys W') ∨ (∃ pre, pre <+: spotsOf D ∧ Jx pre W')) := by
  refine callsIn_of_wp Try.func55 rfl h7 ?_ hro
  simp only [Try.ntmps55, List.size_toArray, List.length_cons, List.length_nil, Nat.reduceAdd, Nat.reduceSub, Array.replicate_succ, Array.replicate_zero, List.push_toArray, List.append_toArray, List.nil_append, List.cons_append]
  have c0 := hR.1
  have KR := Lib.hid hR
  clear hR
  gi_wp2
  gi_loopw [4, 8, 18] (fun _ s8 _ wr => ∃ i : Nat, i ≤ D.length ∧ s8 = .int .i64 (i : Int) ∧ J (spotsOf (D.take i)) wr ∧ SpR wr box A c D) (fun _ s8 _ _ => D.length - (intOf s8).toNat)
  case atStart => exact ⟨0, Nat.zero_le _, rfl, by simpa [spotsOf] using h0, KR.out⟩
  case round =>
    obtain ⟨i, hi, rfl, hJ, hr⟩ := hrel
    by_cases hlt : i < D.length
    · obtain ⟨d, hd⟩ : ∃ d, D[i]? = some d := ⟨_, List.getElem?_eq_getElem hlt⟩
      obtain ⟨ga, rfl, e1⟩ := hr.2.1 i d hd
      have hmem : d ∈ D := List.mem_of_getElem? hd
      have e2 := hr.2.2 d hmem
      have hdn := hDn d hmem
      have hii : (i : Int) < (D.length : Int) := by omega
      have KI := Lib.hid (And.intro hd (And.intro hJ (And.intro hr hmem)))
      clear hd hJ hr hmem
      gi_wp2
      gi_loopw [5, 18] (fun _ s18 wx => ∃ k : Nat, k ≤ d.n ∧ s18 = .int .i64 (k : Int) ∧ J (spotsOf (D.take i) ++ spotsB d k) wx ∧ SpR wx box (some ⟨ga, 0, none⟩) c D) (fun _ s18 _ => d.n - (intOf s18).toNat)
      case atStart => exact ⟨0, Nat.zero_le _, rfl, by simpa [spotsB] using KI.out.2.1, KI.out.2.2.1⟩
      case round =>
        obtain ⟨k, hk, rfl, hJ, hr⟩ := hrel
        have e2 := hr.2.2 d KI.out.2.2.2
        by_cases hlk : k < d.n
        · have hkk : (k : Int) < (d.n : Int) := by omega
          have hpl : (spotsOf (D.take i) ++ spotsB d k).length < (spotsOf D).length := by
            have h1 := (spots_prefix D i d KI.out.1 (k + 1) (by omega)).length_le
            rw [spotsB_succ, ← List.append_assoc, List.length_append] at h1
            simp at h1 ⊢
            omega
          have hme : (⟨d, k⟩ : SpotX) ∈ spotsOf D := (spots_prefix D i d KI.out.1 (k + 1) (by omega)).subset (by rw [spotsB_succ]; simp)
          obtain ⟨fn, tmps, assign, body, hy, hR⟩ := hY _ ⟨d, k⟩ wr hJ hme hpl
          simp only [SpotX.v] at hy
          have KK := Lib.hid (And.intro hJ hr)
          clear hJ hr
          gi_wp2
          refine hR.mono ?_
          rintro e W3 (⟨rfl, hJ3, hk3⟩ | ⟨rfl, hJx3⟩)
          · gi_wp2
            go_roundw
            case rel => exact ⟨k + 1, by omega, by simp, by rw [spotsB_succ, ← List.append_assoc]; exact hJ3, hk3 KK.out.2⟩
            case measure => simp [intOf]; omega
          · gi_wp2
            refine bodyPost_ret (results_none rfl _ _ _) rfl ?_
            have hp := spots_prefix D i d KI.out.1 (k + 1) (by omega)
            rw [spotsB_succ, ← List.append_assoc] at hp
            exact ⟨⟨_, rfl⟩, .inr ⟨_, hp, hJx3⟩⟩
        · obtain rfl : k = d.n := by omega
          have KK := Lib.hid (And.intro hJ hr)
          clear hJ hr
          gi_wp2
          go_roundw
          case rel => exact ⟨i + 1, by omega, by simp, by rw [spotsOf_snoc D i d KI.out.1]; exact KK.out.1, KK.out.2⟩
          case measure => simp [intOf]; omega
    · obtain rfl : i = D.length := by omega
      gi_wp2
      go_end0
      exact ⟨⟨_, rfl⟩, .inl ⟨_, rfl, by rw [List.take_length] at hJ; exact hJ⟩⟩

theorem SpR.below {W W' : World} {box c : Nat} {A : Option Addr} {D : List BandA} (h : SpR W box A c D) (hb : Below W.heap.size W W') : SpR W' box A c D := by
  have key : ∀ (p : Addr) (v : Value), W.cell? p = some v → W'.cell? p = some v := fun p v hv => (hb.cell (World.block_lt_of_cell? W p hv)).trans hv
  refine ⟨key _ _ h.1, fun j d hd => ?_, fun d hd => key _ _ (h.2.2 d hd)⟩
  obtain ⟨ga, e, hc⟩ := h.2.1 j d hd
  exact ⟨ga, e, key _ _ hc⟩
abbrev SpotIn (D : List BandA) := { x : SpotX // x ∈ spotsOf D }
theorem spots_stops (n : Nat) (hn : 1 ≤ n) (box c : Nat) (A : Option Addr) (D : List BandA) (hD : D.length ≤ 100000) (hDn : ∀ d ∈ D, d.n ≤ 100000) (w : World) (hR : SpR w box A c D) :
    SeqStopsK Fence.wide n Try.prog 55 #[.pointer (some ⟨box, 0, none⟩)] (fun x : SpotIn D => #[x.1.v]) (fun W W' => SpR W box A c D → SpR W' box A c D) (fun ys => ys.map (·.1) = spotsOf D) (fun pre => pre.map (·.1) <+: spotsOf D) (spotsOf D).length w := by
  intro l J Jx W hW _ _ hY h0
  refine (spots1_in Fence.wide n trivial rfl hn l box c A D hD hDn (fun pre W => ∃ pre' : List (SpotIn D), pre'.map (·.1) = pre ∧ J pre' W) (fun pre W => ∃ pre' : List (SpotIn D), pre'.map (·.1) = pre ∧ Jx pre' W) ?_ W (hR.below hW) ⟨[], rfl, h0⟩).mono ?_
  · rintro pre x W1 ⟨pre', rfl, hJ⟩ hx hlen
    obtain ⟨fn, tmps, assign, body, hy, hr⟩ := hY pre' ⟨x, hx⟩ W1 hJ (by simpa using hlen)
    refine ⟨fn, tmps, assign, body, hy, hr.mono ?_⟩
    rintro e W' (⟨rfl, h1, h2⟩ | ⟨rfl, h1⟩)
    · exact .inl ⟨rfl, ⟨_, by simp, h1⟩, h2⟩
    · exact .inr ⟨rfl, _, by simp, h1⟩
  · rintro e W' ⟨hv, ⟨ys, rfl, ys', h1, h2⟩ | ⟨pre, hp, pre', h1, h2⟩⟩
    · exact ⟨hv, .inl ⟨ys', h1, h2⟩⟩
    · exact ⟨hv, .inr ⟨pre', by show List.map (fun x => x.1) pre' <+: spotsOf D; rw [h1]; exact hp, h2⟩⟩
end Go.Proofs.Ytnpoakabheeoeaa
namespace Go.Proofs.Ytnpoakabheeoeaa
open Go.RowKit Go.Shelf

def SpotX.cells (x : SpotX) : Array Value := #[.pointer (some ⟨x.d.lb, x.k * 5, none⟩), .pointer (some ⟨x.d.bb, 0, none⟩), .int .i64 (x.k : Int)]

theorem Sat.notCells {w : World} {H : List HB} (h : Sat w H) {g : Nat} (hg : g ∈ keys H) {o : Obj} (ho : w.heap[g]? = some o) (hc : o.isCells = false) : False := by
  obtain ⟨b, hb, rfl⟩ := List.mem_map.1 hg
  have h1 := h.2 b hb
  unfold Blk at h1
  rw [ho] at h1
  cases h1
  cases hc
theorem Mv.grown {w0 w w' : World} {H0 H : List HB} (h : Mv w0 H0 w H) {row : Option Nat} (hg : w.grownBy w' row) (hr : ∀ r, row = some r → w0.heap.size ≤ r ∧ ∃ o : Obj, w.heap[r]? = some o ∧ o.isCells = false) : Mv w0 H0 w' H := by
  refine ⟨⟨h.sat.1, fun b hb => ?_⟩, ⟨hg.os.trans h.only.os, hg.tape.trans h.only.tape, hg.output.trans h.only.output, Nat.le_trans h.only.size hg.size, fun k hk hn => ?_⟩, h.new⟩
  · have hl := (h.sat.2 b hb).lt
    refine (hg.block _ hl fun e => ?_).trans (h.sat.2 b hb)
    obtain ⟨-, o, ho, hc⟩ := hr _ e.symm
    exact h.sat.notCells (mem_keys hb) ho hc
  · refine (hg.block k (Nat.lt_of_lt_of_le hk h.only.size) fun e => ?_).trans (h.only.block k hk hn)
    have := (hr _ e.symm).1
    omega
theorem Mv.putObj {w0 w : World} {H0 H : List HB} (h : Mv w0 H0 w H) {l : Nat} {o : Obj} (o' : Obj) (hB : w0.heap.size ≤ l) (hl : w.heap[l]? = some o) (ho : o.isCells = false) : Mv w0 H0 (w.putObj l o') H :=
  h.grown (grownBy_putObj' w l o') (fun r e => by cases e; exact ⟨hB, o, hl, ho⟩)
theorem mv_ownFrom {β : Type} {w0 : World} {H0 : List HB} (P : β → List HB → Prop) {B : Nat} (hB : w0.heap.size ≤ B) : OwnFrom B (fun s W => ∃ H, P s H ∧ Mv w0 H0 W H) := by
  rintro s W W' row ⟨H, hP, hM⟩ hg hr
  exact ⟨H, hP, hM.grown hg fun r e => ⟨Nat.le_trans hB (hr r e).1, (hr r e).2⟩⟩
theorem Mv.keepsFrom {w w' : World} {H H' : List HB} (h : Mv w H w' H') (hs : Sat w H) (B : Nat) : KeepsFrom B w w' :=
  ⟨h.only.size, fun k o _ hk ho => h.others hs k o hk (fun c t f e => by subst e; cases ho)⟩
theorem blk_ownFrom {β : Type} (B g : Nat) (t : TypeId) (cs : Array Value) : OwnFrom B (fun (_ : β) W => Blk W g t cs) := by
  intro s W W' row hs hg hr
  refine (hg.block _ hs.lt fun e => ?_).trans hs
  obtain ⟨-, o, ho, hc⟩ := hr _ e.symm
  unfold Blk at hs
  rw [hs] at ho
  cases ho
  cases hc
theorem SpR.trans_ok {_w : World} {box c : Nat} {A : Option Addr} {D : List BandA} {X Y Z : World} (h : SpR X box A c D → SpR Y box A c D) (k : SpR Y box A c D → SpR Z box A c D) : SpR X box A c D → SpR Z box A c D := fun s => k (h s)
theorem SpR.put {box c : Nat} {A : Option Addr} {D : List BandA} (W : World) (l : Nat) (o o' : Obj) (hl : W.heap[l]? = some o) (ho : o.isCells = false) (h : SpR W box A c D) : SpR (W.putObj l o') box A c D := by
  have key : ∀ (p : Addr) (v : Value), W.cell? p = some v → (W.putObj l o').cell? p = some v := fun p v hv => (cell_kept hv (grownBy_putObj' W l o') (fun r e => by cases e; exact ⟨o, hl, ho⟩))
  refine ⟨key _ _ h.1, fun j d hd => ?_, fun d hd => key _ _ (h.2.2 d hd)⟩
  obtain ⟨ga, e, hc⟩ := h.2.1 j d hd
  exact ⟨ga, e, key _ _ hc⟩

/-- the way out of a round -/
def spPost {D : List BandA} (w0 : World) (H0 : List HB) (P : List (SpotIn D) → List HB → Prop) (PX : List (SpotIn D) → List HB → Prop) (pre : List (SpotIn D)) : Exit → Act → World → Prop
  | .normal, _, W' => ∃ H', P pre H' ∧ Mv w0 H0 W' H'
  | .ret, _, W' => ∃ H', PX pre H' ∧ Mv w0 H0 W' H'
  | _, _, _ => False
theorem range_spots {n : Nat} (hn : 3 ≤ n) {g : Operand} {ps : Array Tmp} {assign body : Code} {Q : Exit → Act → World → Prop} {a : Act} {w : World} (w0 : World) (H0 : List HB) (hsz : w0.heap.size ≤ w.heap.size)
    {box c : Nat} {A : Option Addr} {D : List BandA} (hg : a.eval g = .func (.func 55) #[] #[.pointer (some ⟨box, 0, none⟩)]) (hps : ps.size = 1) (hD : D.length ≤ 100000) (hDn : ∀ d ∈ D, d.n ≤ 100000)
    (P PX : List (SpotIn D) → List HB → Prop) (hP : ∀ pre H W, P pre H → Sat W H → SpR W box A c D) (hT : ∀ pre H, P pre H → ∀ b ∈ H, b.t ≠ 67)
    (h0 : ∃ H, P [] H ∧ Mv w0 H0 w H) (a₁ : SpotIn D → Nat → Act)
    (hassign : ∀ (l : Nat) (x : SpotIn D) (W : World) (K : Act → World → Prop), K (a₁ x W.heap.size) (W.alloc (.cells x.1.cells 67)) →
      assign.wpIn (Fence.wide.inRound l) (n - 1 - 1) Try.prog (Exit.then K (fun _ _ _ => False)) { tmps := (ps.zip #[x.1.v]).foldl (fun t (p, v) => t.setIfInBounds p v) a.tmps, defers := [] } W)
    (hbody : ∀ (l : Nat) (pre : List (SpotIn D)) (x : SpotIn D) (B : Nat) (W : World) (H : List HB), (∃ r, W.heap[l]? = some (.loop r)) → P pre H → Sat W (⟨B, 67, x.1.cells⟩ :: H) → pre.length < (spotsOf D).length →
      body.wpIn (Fence.wide.inRound l) (n - 1 - 1) Try.prog (spPost W (⟨B, 67, x.1.cells⟩ :: H) P PX (pre ++ [x])) (a₁ x B) W)
    (hdone : ∀ (K : Nat) (ys : List (SpotIn D)) (W : World) (H : List HB), w0.heap.size ≤ K → ys.map (·.1) = spotsOf D → P ys H → Mv w0 H0 W H → W.heap[K]? = some (.deferred (some [])) → Q .normal { a with defers := { target := .collected K, args := #[] } :: a.defers } W)
    (hstop : ∀ (K : Nat) (pre : List (SpotIn D)) (W : World) (H : List HB), w0.heap.size ≤ K → pre.map (·.1) <+: spotsOf D → PX pre H → Mv w0 H0 W H → W.heap[K]? = some (.deferred (some [])) → Code.ret.wpIn Fence.wide n Try.prog Q { a with defers := { target := .collected K, args := #[] } :: a.defers } W) :
    (Code.rangeFunc g ps assign body).wpIn Fence.wide n Try.prog Q a w := by
  obtain ⟨Hi, hPi, hMi⟩ := h0
  refine wpIn_rangeFunc_ownH (F := Fence.wide) rfl (by omega) hg trivial (enters_of Try.func55 (by kernel_rfl) rfl) (spots_stops (n - 1) (by omega) box c A D hD hDn w (hP _ _ _ hPi hMi.sat))
    (fun {X Y Z} h k s => k (h s)) (fun W l o o' _ hl ho _ hs => SpR.put W l o o' hl ho hs) (Below.refl _ _) (fun _ => by simpa using hps.symm)
    (fun pre W => ∃ H, P pre H ∧ Mv w0 H0 W H) (fun c pre W => c = .ret ∧ ∃ H, PX pre H ∧ Mv w0 H0 W H) (mv_ownFrom P hsz) (fun c => OwnFrom.and (ownFrom_pure _ (fun _ => c = .ret)) (mv_ownFrom PX hsz)) ⟨Hi, hPi, hMi⟩
    (fun x a' W => ∃ B, w0.heap.size ≤ B ∧ Blk W B 67 x.1.cells ∧ a' = a₁ x B) (fun x a' => ?_) ?_ ?_ ?_ ?_
  · rintro s W W' row ⟨B, h1, h2, h3⟩ hgr hr
    exact ⟨B, h1, blk_ownFrom (β := Unit) _ B _ _ () W W' row h2 hgr hr, h3⟩
  · rintro l pre x W K ⟨H, hPp, hM⟩ hK
    refine hassign l x W K (hK _ _ ((KeepsOthers.alloc _ _).from _) (fun hs => hs.below ((Below.refl _ W).alloc (Nat.le_refl _) _)) ⟨H, hPp, ?_⟩ ⟨W.heap.size, hM.only.size, Blk.new _ _ _, rfl⟩)
    exact (hM.alloc 67 x.1.cells).drop1
  · rintro l pre x a' W hl hr ⟨H, hPp, hM⟩ ⟨B, hB, hBl, rfl⟩ hlen
    have hne : B ∉ keys H := fun e => by
      obtain ⟨b, hb, rfl⟩ := List.mem_map.1 e
      have h1 := hM.sat.2 b hb
      unfold Blk at h1 hBl
      rw [h1] at hBl
      have := hT _ _ hPp b hb
      simp only [Option.some.injEq, Obj.cells.injEq] at hBl
      exact this hBl.2.1
    have hM1 : Mv w0 H0 W (⟨B, 67, x.1.cells⟩ :: H) := ⟨⟨by rw [keys_cons]; exact List.nodup_cons.2 ⟨hne, hM.sat.1⟩, fun b hb => by
      rcases List.mem_cons.1 hb with rfl | hb
      · exact hBl
      · exact hM.sat.2 b hb⟩, hM.only, fun k hk => by
      rw [keys_cons] at hk
      rcases List.mem_cons.1 hk with rfl | hk
      · exact .inr hB
      · exact hM.new k hk⟩
    refine wpIn_mono (hbody l pre x B W H hr hPp hM1.sat hlen) ?_
    rintro e a3 W3 hp
    cases e with
    | normal =>
      obtain ⟨H', h1, h2⟩ := hp
      exact ⟨h2.keepsFrom hM1.sat _, fun _ => hP _ _ _ h1 h2.sat, H', h1, hM1.trans h2⟩
    | ret =>
      obtain ⟨H', h1, h2⟩ := hp
      exact ⟨h2.keepsFrom hM1.sat _, rfl, H', h1, hM1.trans h2⟩
    | exit id => exact hp.elim
    | goto t => exact hp.elim
    | panic ch => exact hp.elim
    | outgrown => exact hp.elim
  · rintro K ys W hK hS ⟨H, h1, h2⟩ hk
    exact hdone K ys W H (by omega) hS h1 h2 hk
  · rintro K c pre W hK hS ⟨rfl, H, h1, h2⟩ hk
    exact hstop K pre W H (by omega) hS h1 h2 hk
/-- likewise, the frame written out: the block comes in slot p, its box's pointer goes to slot q -/
theorem range_spots1 {n : Nat} (hn : 3 ≤ n) {g : Operand} {p : Tmp} (q : Tmp) {assign body : Code} {Q : Exit → Act → World → Prop} {a : Act} {w : World} (w0 : World) (H0 : List HB) (hsz : w0.heap.size ≤ w.heap.size)
    {box c : Nat} {A : Option Addr} {D : List BandA} (hg : a.eval g = .func (.func 55) #[] #[.pointer (some ⟨box, 0, none⟩)]) (hD : D.length ≤ 100000) (hDn : ∀ d ∈ D, d.n ≤ 100000)
    (P PX : List (SpotIn D) → List HB → Prop) (hP : ∀ pre H W, P pre H → Sat W H → SpR W box A c D) (hT : ∀ pre H, P pre H → ∀ b ∈ H, b.t ≠ 67)
    (h0 : ∃ H, P [] H ∧ Mv w0 H0 w H)
    (hassign : ∀ (l : Nat) (x y : Option Addr) (z : Int) (W : World) (K : Act → World → Prop), K { tmps := (a.tmps.setIfInBounds p (.agg #[.pointer x, .pointer y, .int .i64 z])).setIfInBounds q (.pointer (some ⟨W.heap.size, 0, none⟩)), defers := [] } (W.alloc (.cells #[.pointer x, .pointer y, .int .i64 z] 67)) →
      assign.wpIn (Fence.wide.inRound l) (n - 1 - 1) Try.prog (Exit.then K (fun _ _ _ => False)) { tmps := a.tmps.setIfInBounds p (.agg #[.pointer x, .pointer y, .int .i64 z]), defers := [] } W)
    (hbody : ∀ (l : Nat) (pre : List (SpotIn D)) (x : SpotX) (hx : x ∈ spotsOf D) (B : Nat) (W : World) (H : List HB), (∃ r, W.heap[l]? = some (.loop r)) → P pre H → Sat W (⟨B, 67, x.cells⟩ :: H) → pre.length < (spotsOf D).length →
      body.wpIn (Fence.wide.inRound l) (n - 1 - 1) Try.prog (spPost W (⟨B, 67, x.cells⟩ :: H) P PX (pre ++ [⟨x, hx⟩])) { tmps := (a.tmps.setIfInBounds p x.v).setIfInBounds q (.pointer (some ⟨B, 0, none⟩)), defers := [] } W)
    (hdone : ∀ (K : Nat) (ys : List (SpotIn D)) (W : World) (H : List HB), w0.heap.size ≤ K → ys.map (·.1) = spotsOf D → P ys H → Mv w0 H0 W H → W.heap[K]? = some (.deferred (some [])) → Q .normal { a with defers := { target := .collected K, args := #[] } :: a.defers } W)
    (hstop : ∀ (K : Nat) (pre : List (SpotIn D)) (W : World) (H : List HB), w0.heap.size ≤ K → pre.map (·.1) <+: spotsOf D → PX pre H → Mv w0 H0 W H → W.heap[K]? = some (.deferred (some [])) → Code.ret.wpIn Fence.wide n Try.prog Q { a with defers := { target := .collected K, args := #[] } :: a.defers } W) :
    (Code.rangeFunc g #[p] assign body).wpIn Fence.wide n Try.prog Q a w :=
  range_spots hn w0 H0 hsz hg rfl hD hDn P PX hP hT h0 (fun x B => { tmps := (a.tmps.setIfInBounds p x.1.v).setIfInBounds q (.pointer (some ⟨B, 0, none⟩)), defers := [] })
    (fun l x W K hK => by
      have := hassign l _ _ _ W K hK
      simpa [SpotX.v] using this)
    (fun l pre x B W H hr h1 h2 h3 => hbody l pre x.1 x.2 B W H hr h1 h2 h3) hdone hstop
theorem Mv.setAt {w0 w : World} {H0 A R : List HB} {g : Nat} {t : TypeId} {cs : Array Value} (h : Mv w0 H0 w (A ++ ⟨g, t, cs⟩ :: R)) (i : Nat) (v : Value) : Mv w0 H0 (w.setCell ⟨g, i, none⟩ v) (A ++ ⟨g, t, cs.setIfInBounds i v⟩ :: R) := by
  have h1 : Mv w0 H0 w (⟨g, t, cs⟩ :: (A ++ R)) := h.sub (fun k => by simp only [cnt_append, cnt_cons]; omega) (fun b hb => by simp only [List.mem_append, List.mem_cons] at hb ⊢; grind)
  exact (h1.set i v).sub (fun k => by simp only [cnt_append, cnt_cons]; omega) (fun b hb => by simp only [List.mem_append, List.mem_cons] at hb ⊢; grind)
end Go.Proofs.Ytnpoakabheeoeaa
