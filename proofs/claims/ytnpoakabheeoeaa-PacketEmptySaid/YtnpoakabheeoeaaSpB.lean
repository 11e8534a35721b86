/- A loop over all blocks of some bands: the law, with heaplets. -/
import Derived.Test.YtnpoakabheeoeaaSpA
namespace Go.Proofs.Ytnpoakabheeoeaa
open Go.RowKit Go.Shelf

def SpotX.cells (x : SpotX) : Array Value := #[.pointer (some ⟨x.d.lb, x.k * 5, none⟩), .pointer (some ⟨x.d.bb, 0, none⟩), .int .i64 (x.k : Int)]

theorem Sat.notCells {w : World} {H : List HB} (h : Sat w H) {g : Nat} (hg : g ∈ keys H) {o : Obj} (ho : w.heap[g]? = some o) (hc : o.isCells = false) : False := by
  obtain ⟨b, hb, rfl⟩ := List.mem_map.1 hg
  have h1 := h.2 b hb
  unfold Blk at h1
  rw [ho] at h1
  cases h1
  cases hc
theorem Mv.grown {w0 w w' : World} {H0 H : List HB} (h : Mv w0 H0 w H) {row : Option Nat} (hg : w.grownBy w' row) (hr : ∀ r, row = some r → w0.heap.size ≤ r ∧ ∃ o : Obj, w.heap[r]? = some o ∧ o.isCells = false) : Mv w0 H0 w' H := by
  refine ⟨⟨h.sat.1, fun b hb => ?_⟩, ⟨hg.os.trans h.only.os, hg.tape.trans h.only.tape, hg.output.trans h.only.output, Nat.le_trans h.only.size hg.size, fun k hk hn => ?_⟩, h.new⟩
  · have hl := (h.sat.2 b hb).lt
    refine (hg.block _ hl fun e => ?_).trans (h.sat.2 b hb)
    obtain ⟨-, o, ho, hc⟩ := hr _ e.symm
    exact h.sat.notCells (mem_keys hb) ho hc
  · refine (hg.block k (Nat.lt_of_lt_of_le hk h.only.size) fun e => ?_).trans (h.only.block k hk hn)
    have := (hr _ e.symm).1
    omega
theorem Mv.putObj {w0 w : World} {H0 H : List HB} (h : Mv w0 H0 w H) {l : Nat} {o : Obj} (o' : Obj) (hB : w0.heap.size ≤ l) (hl : w.heap[l]? = some o) (ho : o.isCells = false) : Mv w0 H0 (w.putObj l o') H :=
  h.grown (grownBy_putObj' w l o') (fun r e => by cases e; exact ⟨hB, o, hl, ho⟩)
theorem mv_ownFrom {β : Type} {w0 : World} {H0 : List HB} (P : β → List HB → Prop) {B : Nat} (hB : w0.heap.size ≤ B) : OwnFrom B (fun s W => ∃ H, P s H ∧ Mv w0 H0 W H) := by
  rintro s W W' row ⟨H, hP, hM⟩ hg hr
  exact ⟨H, hP, hM.grown hg fun r e => ⟨Nat.le_trans hB (hr r e).1, (hr r e).2⟩⟩
theorem Mv.keepsFrom {w w' : World} {H H' : List HB} (h : Mv w H w' H') (hs : Sat w H) (B : Nat) : KeepsFrom B w w' :=
  ⟨h.only.size, fun k o _ hk ho => h.others hs k o hk (fun c t f e => by subst e; cases ho)⟩
theorem blk_ownFrom {β : Type} (B g : Nat) (t : TypeId) (cs : Array Value) : OwnFrom B (fun (_ : β) W => Blk W g t cs) := by
  intro s W W' row hs hg hr
  refine (hg.block _ hs.lt fun e => ?_).trans hs
  obtain ⟨-, o, ho, hc⟩ := hr _ e.symm
  unfold Blk at hs
  rw [hs] at ho
  cases ho
  cases hc
theorem SpR.trans_ok {_w : World} {box c : Nat} {A : Option Addr} {D : List BandA} {X Y Z : World} (h : SpR X box A c D → SpR Y box A c D) (k : SpR Y box A c D → SpR Z box A c D) : SpR X box A c D → SpR Z box A c D := fun s => k (h s)
theorem SpR.put {box c : Nat} {A : Option Addr} {D : List BandA} (W : World) (l : Nat) (o o' : Obj) (hl : W.heap[l]? = some o) (ho : o.isCells = false) (h : SpR W box A c D) : SpR (W.putObj l o') box A c D := by
  have key : ∀ (p : Addr) (v : Value), W.cell? p = some v → (W.putObj l o').cell? p = some v := fun p v hv => (cell_kept hv (grownBy_putObj' W l o') (fun r e => by cases e; exact ⟨o, hl, ho⟩))
  refine ⟨key _ _ h.1, fun j d hd => ?_, fun d hd => key _ _ (h.2.2 d hd)⟩
  obtain ⟨ga, e, hc⟩ := h.2.1 j d hd
  exact ⟨ga, e, key _ _ hc⟩

/-- the way out of a round -/
def spPost {D : List BandA} (w0 : World) (H0 : List HB) (P : List (SpotIn D) → List HB → Prop) (PX : List (SpotIn D) → List HB → Prop) (pre : List (SpotIn D)) : Exit → Act → World → Prop
  | .normal, _, W' => ∃ H', P pre H' ∧ Mv w0 H0 W' H'
  | .ret, _, W' => ∃ H', PX pre H' ∧ Mv w0 H0 W' H'
  | _, _, _ => False
theorem range_spots {n : Nat} (hn : 3 ≤ n) {g : Operand} {ps : Array Tmp} {assign body : Code} {Q : Exit → Act → World → Prop} {a : Act} {w : World} (w0 : World) (H0 : List HB) (hsz : w0.heap.size ≤ w.heap.size)
    {box c : Nat} {A : Option Addr} {D : List BandA} (hg : a.eval g = .func (.func 55) #[] #[.pointer (some ⟨box, 0, none⟩)]) (hps : ps.size = 1) (hD : D.length ≤ 100000) (hDn : ∀ d ∈ D, d.n ≤ 100000)
    (P PX : List (SpotIn D) → List HB → Prop) (hP : ∀ pre H W, P pre H → Sat W H → SpR W box A c D) (hT : ∀ pre H, P pre H → ∀ b ∈ H, b.t ≠ 67)
    (h0 : ∃ H, P [] H ∧ Mv w0 H0 w H) (a₁ : SpotIn D → Nat → Act)
    (hassign : ∀ (l : Nat) (x : SpotIn D) (W : World) (K : Act → World → Prop), K (a₁ x W.heap.size) (W.alloc (.cells x.1.cells 67)) →
      assign.wpIn (Fence.wide.inRound l) (n - 1 - 1) Try.prog (Exit.then K (fun _ _ _ => False)) { tmps := (ps.zip #[x.1.v]).foldl (fun t (p, v) => t.setIfInBounds p v) a.tmps, defers := [] } W)
    (hbody : ∀ (l : Nat) (pre : List (SpotIn D)) (x : SpotIn D) (B : Nat) (W : World) (H : List HB), (∃ r, W.heap[l]? = some (.loop r)) → P pre H → Sat W (⟨B, 67, x.1.cells⟩ :: H) → pre.length < (spotsOf D).length →
      body.wpIn (Fence.wide.inRound l) (n - 1 - 1) Try.prog (spPost W (⟨B, 67, x.1.cells⟩ :: H) P PX (pre ++ [x])) (a₁ x B) W)
    (hdone : ∀ (K : Nat) (ys : List (SpotIn D)) (W : World) (H : List HB), w0.heap.size ≤ K → ys.map (·.1) = spotsOf D → P ys H → Mv w0 H0 W H → W.heap[K]? = some (.deferred (some [])) → Q .normal { a with defers := { target := .collected K, args := #[] } :: a.defers } W)
    (hstop : ∀ (K : Nat) (pre : List (SpotIn D)) (W : World) (H : List HB), w0.heap.size ≤ K → pre.map (·.1) <+: spotsOf D → PX pre H → Mv w0 H0 W H → W.heap[K]? = some (.deferred (some [])) → Code.ret.wpIn Fence.wide n Try.prog Q { a with defers := { target := .collected K, args := #[] } :: a.defers } W) :
    (Code.rangeFunc g ps assign body).wpIn Fence.wide n Try.prog Q a w := by
  obtain ⟨Hi, hPi, hMi⟩ := h0
  refine wpIn_rangeFunc_ownH (F := Fence.wide) rfl (by omega) hg trivial (enters_of Try.func55 (by kernel_rfl) rfl) (spots_stops (n - 1) (by omega) box c A D hD hDn w (hP _ _ _ hPi hMi.sat))
    (fun {X Y Z} h k s => k (h s)) (fun W l o o' _ hl ho _ hs => SpR.put W l o o' hl ho hs) (Below.refl _ _) (fun _ => by simpa using hps.symm)
    (fun pre W => ∃ H, P pre H ∧ Mv w0 H0 W H) (fun c pre W => c = .ret ∧ ∃ H, PX pre H ∧ Mv w0 H0 W H) (mv_ownFrom P hsz) (fun c => OwnFrom.and (ownFrom_pure _ (fun _ => c = .ret)) (mv_ownFrom PX hsz)) ⟨Hi, hPi, hMi⟩
    (fun x a' W => ∃ B, w0.heap.size ≤ B ∧ Blk W B 67 x.1.cells ∧ a' = a₁ x B) (fun x a' => ?_) ?_ ?_ ?_ ?_
  · rintro s W W' row ⟨B, h1, h2, h3⟩ hgr hr
    exact ⟨B, h1, blk_ownFrom (β := Unit) _ B _ _ () W W' row h2 hgr hr, h3⟩
  · rintro l pre x W K ⟨H, hPp, hM⟩ hK
    refine hassign l x W K (hK _ _ ((KeepsOthers.alloc _ _).from _) (fun hs => hs.below ((Below.refl _ W).alloc (Nat.le_refl _) _)) ⟨H, hPp, ?_⟩ ⟨W.heap.size, hM.only.size, Blk.new _ _ _, rfl⟩)
    exact (hM.alloc 67 x.1.cells).drop1
  · rintro l pre x a' W hl hr ⟨H, hPp, hM⟩ ⟨B, hB, hBl, rfl⟩ hlen
    have hne : B ∉ keys H := fun e => by
      obtain ⟨b, hb, rfl⟩ := List.mem_map.1 e
      have h1 := hM.sat.2 b hb
      unfold Blk at h1 hBl
      rw [h1] at hBl
      have := hT _ _ hPp b hb
      simp only [Option.some.injEq, Obj.cells.injEq] at hBl
      exact this hBl.2.1
    have hM1 : Mv w0 H0 W (⟨B, 67, x.1.cells⟩ :: H) := ⟨⟨by rw [keys_cons]; exact List.nodup_cons.2 ⟨hne, hM.sat.1⟩, fun b hb => by
      rcases List.mem_cons.1 hb with rfl | hb
      · exact hBl
      · exact hM.sat.2 b hb⟩, hM.only, fun k hk => by
      rw [keys_cons] at hk
      rcases List.mem_cons.1 hk with rfl | hk
      · exact .inr hB
      · exact hM.new k hk⟩
    refine wpIn_mono (hbody l pre x B W H hr hPp hM1.sat hlen) ?_
    rintro e a3 W3 hp
    cases e with
    | normal =>
      obtain ⟨H', h1, h2⟩ := hp
      exact ⟨h2.keepsFrom hM1.sat _, fun _ => hP _ _ _ h1 h2.sat, H', h1, hM1.trans h2⟩
    | ret =>
      obtain ⟨H', h1, h2⟩ := hp
      exact ⟨h2.keepsFrom hM1.sat _, rfl, H', h1, hM1.trans h2⟩
    | exit id => exact hp.elim
    | goto t => exact hp.elim
    | panic ch => exact hp.elim
    | outgrown => exact hp.elim
  · rintro K ys W hK hS ⟨H, h1, h2⟩ hk
    exact hdone K ys W H (by omega) hS h1 h2 hk
  · rintro K c pre W hK hS ⟨rfl, H, h1, h2⟩ hk
    exact hstop K pre W H (by omega) hS h1 h2 hk
/-- likewise, the frame written out: the block comes in slot p, its box's pointer goes to slot q -/
theorem range_spots1 {n : Nat} (hn : 3 ≤ n) {g : Operand} {p : Tmp} (q : Tmp) {assign body : Code} {Q : Exit → Act → World → Prop} {a : Act} {w : World} (w0 : World) (H0 : List HB) (hsz : w0.heap.size ≤ w.heap.size)
    {box c : Nat} {A : Option Addr} {D : List BandA} (hg : a.eval g = .func (.func 55) #[] #[.pointer (some ⟨box, 0, none⟩)]) (hD : D.length ≤ 100000) (hDn : ∀ d ∈ D, d.n ≤ 100000)
    (P PX : List (SpotIn D) → List HB → Prop) (hP : ∀ pre H W, P pre H → Sat W H → SpR W box A c D) (hT : ∀ pre H, P pre H → ∀ b ∈ H, b.t ≠ 67)
    (h0 : ∃ H, P [] H ∧ Mv w0 H0 w H)
    (hassign : ∀ (l : Nat) (x y : Option Addr) (z : Int) (W : World) (K : Act → World → Prop), K { tmps := (a.tmps.setIfInBounds p (.agg #[.pointer x, .pointer y, .int .i64 z])).setIfInBounds q (.pointer (some ⟨W.heap.size, 0, none⟩)), defers := [] } (W.alloc (.cells #[.pointer x, .pointer y, .int .i64 z] 67)) →
      assign.wpIn (Fence.wide.inRound l) (n - 1 - 1) Try.prog (Exit.then K (fun _ _ _ => False)) { tmps := a.tmps.setIfInBounds p (.agg #[.pointer x, .pointer y, .int .i64 z]), defers := [] } W)
    (hbody : ∀ (l : Nat) (pre : List (SpotIn D)) (x : SpotX) (hx : x ∈ spotsOf D) (B : Nat) (W : World) (H : List HB), (∃ r, W.heap[l]? = some (.loop r)) → P pre H → Sat W (⟨B, 67, x.cells⟩ :: H) → pre.length < (spotsOf D).length →
      body.wpIn (Fence.wide.inRound l) (n - 1 - 1) Try.prog (spPost W (⟨B, 67, x.cells⟩ :: H) P PX (pre ++ [⟨x, hx⟩])) { tmps := (a.tmps.setIfInBounds p x.v).setIfInBounds q (.pointer (some ⟨B, 0, none⟩)), defers := [] } W)
    (hdone : ∀ (K : Nat) (ys : List (SpotIn D)) (W : World) (H : List HB), w0.heap.size ≤ K → ys.map (·.1) = spotsOf D → P ys H → Mv w0 H0 W H → W.heap[K]? = some (.deferred (some [])) → Q .normal { a with defers := { target := .collected K, args := #[] } :: a.defers } W)
    (hstop : ∀ (K : Nat) (pre : List (SpotIn D)) (W : World) (H : List HB), w0.heap.size ≤ K → pre.map (·.1) <+: spotsOf D → PX pre H → Mv w0 H0 W H → W.heap[K]? = some (.deferred (some [])) → Code.ret.wpIn Fence.wide n Try.prog Q { a with defers := { target := .collected K, args := #[] } :: a.defers } W) :
    (Code.rangeFunc g #[p] assign body).wpIn Fence.wide n Try.prog Q a w :=
  range_spots hn w0 H0 hsz hg rfl hD hDn P PX hP hT h0 (fun x B => { tmps := (a.tmps.setIfInBounds p x.1.v).setIfInBounds q (.pointer (some ⟨B, 0, none⟩)), defers := [] })
    (fun l x W K hK => by
      have := hassign l _ _ _ W K hK
      simpa [SpotX.v] using this)
    (fun l pre x B W H hr h1 h2 h3 => hbody l pre x.1 x.2 B W H hr h1 h2 h3) hdone hstop
theorem Mv.setAt {w0 w : World} {H0 A R : List HB} {g : Nat} {t : TypeId} {cs : Array Value} (h : Mv w0 H0 w (A ++ ⟨g, t, cs⟩ :: R)) (i : Nat) (v : Value) : Mv w0 H0 (w.setCell ⟨g, i, none⟩ v) (A ++ ⟨g, t, cs.setIfInBounds i v⟩ :: R) := by
  have h1 : Mv w0 H0 w (⟨g, t, cs⟩ :: (A ++ R)) := h.sub (fun k => by simp only [cnt_append, cnt_cons]; omega) (fun b hb => by simp only [List.mem_append, List.mem_cons] at hb ⊢; grind)
  exact (h1.set i v).sub (fun k => by simp only [cnt_append, cnt_cons]; omega) (fun b hb => by simp only [List.mem_append, List.mem_cons] at hb ⊢; grind)
end Go.Proofs.Ytnpoakabheeoeaa
