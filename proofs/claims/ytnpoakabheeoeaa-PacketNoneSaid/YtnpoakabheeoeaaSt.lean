/- Heaplets: what is known of memory, as a list of blocks; what a call may turn of it. No program in sight. -/
import Derived.Test.YtnpoakabheeoeaaWords
import Derived.Maps.AppendAt
namespace Go.Proofs.Ytnpoakabheeoeaa
open Go.RowKit

/-- a block: its number, its elements' type, its cells -/
structure HB where
  g : Nat
  t : TypeId
  cs : Array Value
def keys (H : List HB) : List Nat := H.map (·.g)
theorem keys_nil : keys [] = [] := rfl
theorem keys_cons (b : HB) (H : List HB) : keys (b :: H) = b.g :: keys H := rfl
theorem keys_append (A B : List HB) : keys (A ++ B) = keys A ++ keys B := List.map_append
theorem mem_keys {H : List HB} {b : HB} (h : b ∈ H) : b.g ∈ keys H := List.mem_map.2 ⟨b, h, rfl⟩
/-- how often a number stands among the blocks -/
def cnt (g : Nat) (H : List HB) : Nat := (keys H).count g
theorem cnt_nil (g : Nat) : cnt g [] = 0 := rfl
theorem cnt_cons (g : Nat) (b : HB) (H : List HB) : cnt g (b :: H) = (if b.g = g then 1 else 0) + cnt g H := by
  unfold cnt
  rw [keys_cons, List.count_cons]
  simp only [beq_iff_eq]
  omega
theorem cnt_append (g : Nat) (A B : List HB) : cnt g (A ++ B) = cnt g A + cnt g B := by
  unfold cnt
  rw [keys_append, List.count_append]

def Sat (w : World) (H : List HB) : Prop := (keys H).Nodup ∧ ∀ b ∈ H, Blk w b.g b.t b.cs
theorem Sat.nil (w : World) : Sat w [] := ⟨List.nodup_nil, fun _ h => by cases h⟩
theorem Sat.lt {w : World} {H : List HB} (h : Sat w H) {g : Nat} (hg : g ∈ keys H) : g < w.heap.size := by
  obtain ⟨b, hb, rfl⟩ := List.mem_map.1 hg
  exact (h.2 b hb).lt
theorem Sat.sub {w : World} {H H1 : List HB} (h : Sat w H) (hc : ∀ g, cnt g H1 ≤ cnt g H) (hm : ∀ b ∈ H1, b ∈ H) : Sat w H1 :=
  ⟨List.nodup_iff_count.2 fun g => Nat.le_trans (hc g) (List.nodup_iff_count.1 h.1 g), fun b hb => h.2 b (hm b hb)⟩
theorem Sat.left {w : World} {A B : List HB} (h : Sat w (A ++ B)) : Sat w A :=
  h.sub (fun g => by rw [cnt_append]; omega) (fun b hb => List.mem_append_left _ hb)
theorem Sat.right {w : World} {A B : List HB} (h : Sat w (A ++ B)) : Sat w B :=
  h.sub (fun g => by rw [cnt_append]; omega) (fun b hb => List.mem_append_right _ hb)
theorem Sat.apart {w : World} {A B : List HB} (h : Sat w (A ++ B)) {g : Nat} (ha : g ∈ keys A) (hb : g ∈ keys B) : False := by
  have h1 := List.nodup_iff_count.1 h.1 g
  rw [keys_append, List.count_append] at h1
  have h2 := List.count_pos_iff.2 ha
  have h3 := List.count_pos_iff.2 hb
  omega
theorem Sat.drew {w : World} {H : List HB} (h : Sat w H) : Sat w.drew H := h
theorem Sat.drewN {w : World} {H : List HB} (h : Sat w H) (n : Nat) : Sat (w.drewN n) H := h
theorem Sat.at_ {w : World} {H : List HB} (h : Sat w H) (k : Nat) {g : Nat} {t : TypeId} {cs : Array Value} (hk : H[k]? = some ⟨g, t, cs⟩) : Blk w g t cs := h.2 _ (List.mem_of_getElem? hk)
theorem Sat.mem {w : World} {H : List HB} (h : Sat w H) {g : Nat} {t : TypeId} {cs : Array Value} (hk : (⟨g, t, cs⟩ : HB) ∈ H) : Blk w g t cs := h.2 _ hk

/-- but for the blocks of these numbers, and new ones, all is as it was -/
structure Only (K : List Nat) (w w' : World) : Prop where
  os : w'.os = w.os
  tape : w'.tape = w.tape
  output : w'.output = w.output
  size : w.heap.size ≤ w'.heap.size
  block : ∀ k, k < w.heap.size → k ∉ K → w'.heap[k]? = w.heap[k]?
theorem Only.refl (K : List Nat) (w : World) : Only K w w := ⟨rfl, rfl, rfl, Nat.le_refl _, fun _ _ _ => rfl⟩
theorem Only.drewN (K : List Nat) (w : World) (n : Nat) : Only K w (w.drewN n) := ⟨rfl, rfl, rfl, Nat.le_refl _, fun _ _ _ => rfl⟩
theorem Only.below {K : List Nat} {w w' : World} {B : Nat} (h : Only K w w') (hB : B ≤ w.heap.size) (hK : ∀ k ∈ K, B ≤ k) : Below B w w' :=
  ⟨h.os, h.tape, h.output, h.size, fun k hk => h.block k (by omega) (fun e => by have := hK k e; omega)⟩
theorem Only.grown {w w' : World} {K : List Nat} {row : Option Nat} (hg : w.grownBy w' row) (hr : ∀ k, row = some k → k ∈ K) : Only K w w' :=
  ⟨hg.os, hg.tape, hg.output, hg.size, fun k hk hn => hg.block k hk (fun e => hn (hr k e.symm))⟩
theorem Only.blk {K : List Nat} {w w' : World} {g : Nat} {t : TypeId} {cs : Array Value} (h : Only K w w') (hb : Blk w g t cs) (hn : g ∉ K) : Blk w' g t cs := (h.block g hb.lt hn).trans hb

/-- from these blocks to those: what else there is, is as it was -/
structure Mv (w : World) (H : List HB) (w' : World) (H' : List HB) : Prop where
  sat : Sat w' H'
  only : Only (keys H) w w'
  new : ∀ g ∈ keys H', g ∈ keys H ∨ w.heap.size ≤ g

section
variable {w0 w w' : World} {H0 H H' H1 R : List HB}
theorem Mv.refl (h : Sat w H) : Mv w H w H := ⟨h, Only.refl _ _, fun _ hg => .inl hg⟩
theorem Mv.call (h : Mv w0 H0 w (H ++ R)) (m : Mv w H w' H') : Mv w0 H0 w' (H' ++ R) := by
  have hR : ∀ g ∈ keys R, g ∉ keys H := fun g h1 h2 => h.sat.apart h2 h1
  refine ⟨⟨?_, ?_⟩, ⟨m.only.os.trans h.only.os, m.only.tape.trans h.only.tape, m.only.output.trans h.only.output, Nat.le_trans h.only.size m.only.size, fun k hk hn => ?_⟩, fun g hg => ?_⟩
  · rw [keys_append]
    refine List.nodup_append.2 ⟨m.sat.1, h.sat.right.1, fun a ha b hb e => ?_⟩
    subst e
    rcases m.new a ha with h1 | h1
    · exact hR a hb h1
    · have := h.sat.right.lt hb
      omega
  · intro b hb
    rcases List.mem_append.1 hb with h1 | h1
    · exact m.sat.2 b h1
    · exact m.only.blk (h.sat.right.2 b h1) (hR _ (mem_keys h1))
  · have hn2 : k ∉ keys H := fun e => by
      rcases h.new k (by rw [keys_append]; exact List.mem_append_left _ e) with h1 | h1
      · exact hn h1
      · omega
    exact (m.only.block k (Nat.lt_of_lt_of_le hk h.only.size) hn2).trans (h.only.block k hk hn)
  · rw [keys_append] at hg
    rcases List.mem_append.1 hg with h1 | h1
    · rcases m.new g h1 with h2 | h2
      · exact h.new g (by rw [keys_append]; exact List.mem_append_left _ h2)
      · exact .inr (Nat.le_trans h.only.size h2)
    · exact h.new g (by rw [keys_append]; exact List.mem_append_right _ h1)
theorem Mv.sub (h : Mv w0 H0 w H) (hc : ∀ g, cnt g H1 ≤ cnt g H) (hm : ∀ b ∈ H1, b ∈ H) : Mv w0 H0 w H1 :=
  ⟨h.sat.sub hc hm, h.only, fun g hg => by
    obtain ⟨b, hb, rfl⟩ := List.mem_map.1 hg
    exact h.new _ (mem_keys (hm b hb))⟩
theorem Mv.mv1 {A B : List HB} (h : Mv w0 H0 w (A ++ (B ++ R))) : Mv w0 H0 w (B ++ (A ++ R)) :=
  h.sub (fun g => by simp only [cnt_append]; omega) (fun b hb => by simp only [List.mem_append] at hb ⊢; grind)
theorem Mv.mv2 {A B C : List HB} (h : Mv w0 H0 w (A ++ (B ++ (C ++ R)))) : Mv w0 H0 w (C ++ (A ++ (B ++ R))) :=
  h.sub (fun g => by simp only [cnt_append]; omega) (fun b hb => by simp only [List.mem_append] at hb ⊢; grind)
theorem Mv.mv2' {A B C : List HB} (h : Mv w0 H0 w (C ++ (A ++ (B ++ R)))) : Mv w0 H0 w (A ++ (B ++ (C ++ R))) :=
  h.sub (fun g => by simp only [cnt_append]; omega) (fun b hb => by simp only [List.mem_append] at hb ⊢; grind)
theorem Mv.trans (h : Mv w0 H0 w H) (m : Mv w H w' H') : Mv w0 H0 w' H' := by
  have := Mv.call (R := []) (by simpa using h) m
  simpa using this
theorem Mv.drewN (h : Mv w0 H0 w H) (n : Nat) : Mv w0 H0 (w.drewN n) H := ⟨h.sat.drewN n, ⟨h.only.os, h.only.tape, h.only.output, h.only.size, h.only.block⟩, h.new⟩
theorem Mv.drew (h : Mv w0 H0 w H) : Mv w0 H0 w.drew H := ⟨h.sat.drew, ⟨h.only.os, h.only.tape, h.only.output, h.only.size, h.only.block⟩, h.new⟩
theorem Mv.drop1 {b : HB} (h : Mv w0 H0 w (b :: H)) : Mv w0 H0 w H :=
  h.sub (fun g => by rw [cnt_cons]; omega) (fun _ hb => List.mem_cons_of_mem _ hb)
theorem Mv.drop {A : List HB} (h : Mv w0 H0 w (A ++ H)) : Mv w0 H0 w H :=
  h.sub (fun g => by rw [cnt_append]; omega) (fun _ hb => List.mem_append_right _ hb)
theorem Mv.drop2 {A B : List HB} (h : Mv w0 H0 w (A ++ (B ++ H))) : Mv w0 H0 w (A ++ H) :=
  h.sub (fun g => by simp only [cnt_append]; omega) (fun b hb => by simp only [List.mem_append] at hb ⊢; grind)
theorem Mv.of_grown {g : Nat} {t : TypeId} {cs cs' : Array Value} (hg : w.grownBy w' (some g)) (hb : Blk w' g t cs') : Mv w [⟨g, t, cs⟩] w' [⟨g, t, cs'⟩] :=
  ⟨⟨by simp [keys], fun b h => by simp only [List.mem_singleton] at h; subst h; exact hb⟩, Only.grown hg (by rintro k ⟨⟩; simp [keys]), fun g h => .inl (by simpa [keys] using h)⟩
theorem mv_set {g : Nat} {t : TypeId} {cs : Array Value} (hb : Blk w g t cs) (i : Nat) (v : Value) : Mv w [⟨g, t, cs⟩] (w.setCell ⟨g, i, none⟩ v) [⟨g, t, cs.setIfInBounds i v⟩] :=
  Mv.of_grown (only_setCell (World.grownBy.refl _ _) (p := ⟨g, i, none⟩) (.inl rfl) _) (hb.set_ i v)
theorem Mv.set {g : Nat} {t : TypeId} {cs : Array Value} (h : Mv w0 H0 w (⟨g, t, cs⟩ :: R)) (i : Nat) (v : Value) : Mv w0 H0 (w.setCell ⟨g, i, none⟩ v) (⟨g, t, cs.setIfInBounds i v⟩ :: R) :=
  Mv.call (H := [⟨g, t, cs⟩]) (R := R) h (mv_set (h.sat.mem List.mem_cons_self) i v)
theorem mv_alloc (w : World) (t : TypeId) (cs : Array Value) : Mv w [] (w.alloc (.cells cs t)) [⟨w.heap.size, t, cs⟩] :=
  ⟨⟨by simp [keys], fun b h => by simp only [List.mem_singleton] at h; subst h; exact Blk.new w t cs⟩, Only.grown (World.grownBy_alloc w _ none) (by rintro k ⟨⟩), fun g h => .inr (by simp [keys] at h; omega)⟩
theorem Mv.alloc (h : Mv w0 H0 w H) (t : TypeId) (cs : Array Value) : Mv w0 H0 (w.alloc (.cells cs t)) (⟨w.heap.size, t, cs⟩ :: H) :=
  Mv.call (H := []) (R := H) h (mv_alloc w t cs)
theorem Mv.below {B : Nat} (h : Mv w0 H0 w H) (hB : B ≤ w0.heap.size) (hK : ∀ k ∈ keys H0, B ≤ k) : Below B w0 w := h.only.below hB hK
theorem Mv.below0 (h : Mv w0 [] w H) : Below w0.heap.size w0 w := h.below (Nat.le_refl _) (fun k hk => by cases hk)
/-- what stood beside, stands -/
theorem Mv.frame (h : Mv w0 H0 w H) (hs : Sat w0 (H0 ++ R)) : Mv w0 (H0 ++ R) w (H ++ R) := Mv.call (Mv.refl hs) h
theorem Mv.cell {g : Nat} {t : TypeId} {cs : Array Value} (h : Mv w0 H0 w H) (k : Nat) (hk : H[k]? = some ⟨g, t, cs⟩) (i : Nat) : w.cell? ⟨g, i, none⟩ = cs[i]? := (h.sat.at_ k hk).cell i
theorem Mv.frozen {g : Nat} {t : TypeId} {cs : Array Value} (h : Mv w0 H0 w H) (k : Nat) (hk : H[k]? = some ⟨g, t, cs⟩) (i : Nat) : w.frozen? ⟨g, i, none⟩ = false := (h.sat.at_ k hk).frozen i
theorem Mv.blk {g : Nat} {t : TypeId} {cs : Array Value} (h : Mv w0 H0 w H) (k : Nat) (hk : H[k]? = some ⟨g, t, cs⟩) : Blk w g t cs := h.sat.at_ k hk
/-- a round's word: whatever is no cells is as it was -/
theorem Mv.others (h : Mv w0 H0 w H) (hs : Sat w0 H0) : ∀ (k : Nat) (o : Obj), w0.heap[k]? = some o → (∀ c t f, o ≠ .cells c t f) → w.heap[k]? = some o := by
  intro k o hk hn
  refine (h.only.block k (Array.getElem?_eq_some_iff.1 hk).1 fun e => ?_).trans hk
  obtain ⟨b, hb, rfl⟩ := List.mem_map.1 e
  have := hs.2 b hb
  unfold Blk at this
  rw [hk] at this
  cases this
  exact hn _ _ _ rfl
end

/-- a row of elements, as a heaplet -/
def RowH (e : TypeId) (size : Nat) (v : Value) (n : Nat) (xs : List Value) (H : List HB) : Prop :=
  xs.length = n * size ∧
  ((v = .slice none 0 0 ∧ n = 0 ∧ H = []) ∨
   ∃ g cap cur, v = .slice (some ⟨g, 0, none⟩) n cap ∧ n ≤ cap ∧ cap ≤ maxLen ∧ cur.size = cap * size ∧ cur.toList.take (n * size) = xs ∧ H = [⟨g, e, cur⟩])

section
variable {w0 w w' : World} {H0 H R : List HB} {e : TypeId} {size n : Nat} {v : Value} {xs : List Value}
theorem RowH.nil (e : TypeId) (size : Nat) : RowH e size (.slice none 0 0) 0 [] [] := ⟨by simp, .inl ⟨rfl, rfl, rfl⟩⟩
theorem RowH.slice (h : RowH e size v n xs H) : ∃ a c, v = .slice a n c := by
  rcases h.2 with ⟨rfl, rfl, -⟩ | ⟨g, cap, cur, rfl, -⟩
  · exact ⟨none, 0, rfl⟩
  · exact ⟨_, cap, rfl⟩
/-- a row that is not empty -/
theorem RowH.form (h : RowH e size v n xs H) (hn : 0 < n) : ∃ g cap cur, v = .slice (some ⟨g, 0, none⟩) n cap ∧ n ≤ cap ∧ cap ≤ maxLen ∧ cur.size = cap * size ∧ cur.toList.take (n * size) = xs ∧ H = [⟨g, e, cur⟩] := by
  rcases h.2 with ⟨-, rfl, -⟩ | h
  · omega
  · exact h
theorem RowH.new (e : TypeId) (g n : Nat) (arr : Array Value) (hs : arr.size = n * size) (hm : n ≤ maxLen) : RowH e size (.slice (some ⟨g, 0, none⟩) n n) n arr.toList [⟨g, e, arr⟩] :=
  ⟨by simpa using hs, .inr ⟨g, n, arr, rfl, Nat.le_refl _, hm, hs, by rw [← hs, ← Array.length_toList, List.take_length], rfl⟩⟩
theorem RowH.owns (h : RowH e size v n xs H) (hs : Sat w H) {B : Nat} (hB : ∀ g ∈ keys H, B ≤ g) : w.ownsRow B e size v n xs := by
  refine ⟨h.1, ?_⟩
  rcases h.2 with ⟨rfl, rfl, -⟩ | ⟨g, cap, cur, rfl, h1, h2, h3, h4, rfl⟩
  · exact .inl ⟨rfl, rfl⟩
  · exact .inr ⟨g, cap, cur, rfl, hB g (by simp [keys]), hs.mem List.mem_cons_self, h1, h2, h3, h4⟩
theorem RowH.block (h : RowH e size v n xs H) {k : Nat} (hk : v.ownBlock = some k) : k ∈ keys H := by
  rcases h.2 with ⟨rfl, rfl, -⟩ | ⟨g, cap, cur, rfl, h1, h2, h3, h4, rfl⟩
  · simp [Value.ownBlock] at hk
  · simp [Value.ownBlock] at hk; simp [keys, hk]
theorem RowH.of_owns {B : Nat} (h : w.ownsRow B e size v n xs) : ∃ H, RowH e size v n xs H ∧ Sat w H ∧ ∀ g ∈ keys H, B ≤ g ∧ v.ownBlock = some g := by
  obtain ⟨h1, h2⟩ := h
  rcases h2 with ⟨rfl, rfl⟩ | ⟨g, cap, cur, rfl, hb, hg, hn, hc, hs, ht⟩
  · exact ⟨[], ⟨h1, .inl ⟨rfl, rfl, rfl⟩⟩, Sat.nil w, fun g hg => by cases hg⟩
  · exact ⟨[⟨g, e, cur⟩], ⟨h1, .inr ⟨g, cap, cur, rfl, hn, hc, hs, ht, rfl⟩⟩, ⟨by simp [keys], fun b h => by simp only [List.mem_singleton] at h; subst h; exact hg⟩, fun k hk => by simp [keys] at hk; subst hk; exact ⟨hb, rfl⟩⟩
/-- a row that a callee owns, made new -/
theorem mv_owns_new (h : w'.ownsRow w.heap.size e size v n xs) (hb : Below w.heap.size w w') : ∃ H, RowH e size v n xs H ∧ Mv w [] w' H := by
  obtain ⟨H, h1, h2, h3⟩ := RowH.of_owns h
  exact ⟨H, h1, h2, ⟨hb.os, hb.tape, hb.output, hb.size, fun k hk _ => hb.block k hk⟩, fun g hg => .inr (h3 g hg).1⟩
/-- a row that grew -/
theorem mv_owns_grown (h : RowH e size v n xs H) {v' : Value} {n' : Nat} {xs' : List Value} (h' : w'.ownsRow 0 e size v' n' xs') (hg : w.grownBy w' v.ownBlock) (hat : v'.ownBlock = v.ownBlock ∨ v'.ownBlock = some w.heap.size) :
    ∃ H', RowH e size v' n' xs' H' ∧ Mv w H w' H' := by
  obtain ⟨H', h1, h2, h3⟩ := RowH.of_owns h'
  refine ⟨H', h1, h2, Only.grown hg fun k hk => h.block hk, fun g hgk => ?_⟩
  have := (h3 g hgk).2
  rcases hat with e | e
  · exact .inl (h.block (by rw [← e, this]))
  · rw [this] at e
    cases e
    exact .inr (Nat.le_refl _)
/-- a row is written at one cell -/
theorem RowH.set (h : RowH e size v n xs H) (hs : Sat w H) {g c : Nat} (hv : v = .slice (some ⟨g, 0, none⟩) n c) (i : Nat) (u : Value) (_hi : i < n * size) :
    ∃ H', RowH e size v n (xs.set i u) H' ∧ Mv w H (w.setCell ⟨g, i, none⟩ u) H' := by
  have h1 := h.1
  rcases h.2 with ⟨h2, -, -⟩ | ⟨g', cap, cur, rfl, k1, k2, k3, k4, rfl⟩
  · rw [hv] at h2; cases h2
  · cases hv
    refine ⟨[⟨g, e, cur.setIfInBounds i u⟩], ⟨by simpa using h1, .inr ⟨g, _, _, rfl, k1, k2, by simpa using k3, ?_, rfl⟩⟩, mv_set (hs.mem List.mem_cons_self) i u⟩
    rw [Array.toList_setIfInBounds, List.take_set, k4]
theorem RowH.cell (h : RowH e size v n xs H) (hs : Sat w H) {g c : Nat} (hv : v = .slice (some ⟨g, 0, none⟩) n c) (i : Nat) (hi : i < n * size) : w.cell? ⟨g, i, none⟩ = xs[i]? ∧ w.frozen? ⟨g, i, none⟩ = false := by
  rcases h.2 with ⟨h2, -, -⟩ | ⟨g', cap, cur, rfl, k1, k2, k3, k4, rfl⟩
  · rw [hv] at h2; cases h2
  · cases hv
    have hb : Blk w g e cur := hs.mem List.mem_cons_self
    refine ⟨?_, hb.frozen i⟩
    rw [hb.cell i, ← k4, List.getElem?_take, if_pos hi, Array.getElem?_toList]
end
end Go.Proofs.Ytnpoakabheeoeaa
