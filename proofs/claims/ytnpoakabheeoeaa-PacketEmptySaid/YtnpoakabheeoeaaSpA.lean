/- All blocks of some bands: the program's iterator over them. -/
import Derived.Test.YtnpoakabheeoeaaSb
import Derived.RangeFuncNested
import Derived.RangeFuncBound
import Derived.RangeFuncCalls
import Derived.RangeFuncLeaves
import Derived.Shelf.Abstract
import Derived.Shelf.RegionOpen
import Derived.WalkKit
import Derived.OwnWalkIn
import Derived.TacticsInMore
import Derived.LoopNIn
import Derived.LoopIn
namespace Go.Proofs.Ytnpoakabheeoeaa
open Go.RowKit Go.Shelf

attribute [local go_sem] Oper.semAt_some

/-- a band: its block, its states' block, how many -/
structure BandA where
  bb : Nat
  lb : Nat
  n : Nat
/-- a spot: a band, a number -/
structure SpotX where
  d : BandA
  k : Nat
def SpotX.v (x : SpotX) : Value := .agg #[.pointer (some ⟨x.d.lb, x.k * 5, none⟩), .pointer (some ⟨x.d.bb, 0, none⟩), .int .i64 (x.k : Int)]
def spotsB (d : BandA) (k : Nat) : List SpotX := (List.range k).map fun j => ⟨d, j⟩
def spotsOf (D : List BandA) : List SpotX := D.flatMap fun d => spotsB d d.n
/-- what the iterator reads -/
def SpR (W : World) (box : Nat) (A : Option Addr) (c : Nat) (D : List BandA) : Prop :=
  W.cell? ⟨box, 0, none⟩ = some (.slice A D.length c) ∧
  (∀ j d, D[j]? = some d → ∃ ga, A = some ⟨ga, 0, none⟩ ∧ W.cell? ⟨ga, j, none⟩ = some (.pointer (some ⟨d.bb, 0, none⟩))) ∧
  (∀ d ∈ D, W.cell? ⟨d.bb, 0, none⟩ = some (.slice (some ⟨d.lb, 0, none⟩) d.n d.n))
theorem spotsB_succ (d : BandA) (k : Nat) : spotsB d (k + 1) = spotsB d k ++ [⟨d, k⟩] := by simp [spotsB, List.range_succ]
theorem spotsOf_snoc (D : List BandA) (i : Nat) (d : BandA) (h : D[i]? = some d) : spotsOf (D.take (i + 1)) = spotsOf (D.take i) ++ spotsB d d.n := by
  rw [List.take_add_one, h]
  simp [spotsOf]
theorem spotsB_prefix (d : BandA) (k : Nat) (h : k ≤ d.n) : spotsB d k <+: spotsB d d.n := by
  refine ⟨(List.range' k (d.n - k)).map fun j => ⟨d, j⟩, ?_⟩
  unfold spotsB
  rw [← List.map_append]
  congr 1
  apply List.ext_getElem
  · simp; omega
  · intro i h1 h2
    by_cases hi : i < k
    · rw [List.getElem_append_left (by simpa using hi)]; simp
    · rw [List.getElem_append_right (by simp; omega)]; simp; omega
theorem spots_prefix (D : List BandA) (i : Nat) (d : BandA) (h : D[i]? = some d) (k : Nat) (hk : k ≤ d.n) : spotsOf (D.take i) ++ spotsB d k <+: spotsOf D := by
  obtain ⟨t, ht⟩ := spotsB_prefix d k hk
  obtain ⟨hi, hd⟩ := List.getElem?_eq_some_iff.1 h
  have e : D = D.take i ++ d :: D.drop (i + 1) := by rw [← hd]; simp
  refine ⟨t ++ spotsOf (D.drop (i + 1)), ?_⟩
  conv => rhs; rw [e]
  rw [show spotsOf (D.take i ++ d :: D.drop (i + 1)) = spotsOf (D.take i) ++ (spotsB d d.n ++ spotsOf (D.drop (i + 1))) from by simp [spotsOf], ← ht]
  simp

set_option maxRecDepth 100000 in
set_option maxHeartbeats 4000000 in
theorem spots1_in (F : Fence) (n : Nat) (h7 : F.fn 55) (hro : F.round = none) (hn : 1 ≤ n) (l box c : Nat) (A : Option Addr) (D : List BandA) (hD : D.length ≤ 100000) (hDn : ∀ d ∈ D, d.n ≤ 100000) (J Jx : List SpotX → World → Prop)
    (hY : ∀ pre x W, J pre W → x ∈ spotsOf D → pre.length < (spotsOf D).length → YieldAt F (n - 1) Try.prog l #[x.v] W fun e W' =>
      (e = .returned (.bool true) ∧ J (pre ++ [x]) W' ∧ (SpR W box A c D → SpR W' box A c D)) ∨ (e = .returned (.bool false) ∧ Jx (pre ++ [x]) W'))
    (W : World) (hR : SpR W box A c D) (h0 : J [] W) :
    CallsIn F n Try.prog 55 #[.func (.yield l) #[] #[], .pointer (some ⟨box, 0, none⟩)] W fun e W' => (∃ v, e = .returned v) ∧
      ((∃ ys, ys = spotsOf D ∧ J ys W') ∨ (∃ pre, pre <+: spotsOf D ∧ Jx pre W')) := by
  refine callsIn_of_wp Try.func55 rfl h7 ?_ hro
  simp only [Try.ntmps55, List.size_toArray, List.length_cons, List.length_nil, Nat.reduceAdd, Nat.reduceSub, Array.replicate_succ, Array.replicate_zero, List.push_toArray, List.append_toArray, List.nil_append, List.cons_append]
  have c0 := hR.1
  have KR := Lib.hid hR
  clear hR
  gi_wp2
  gi_loopw [4, 8, 18] (fun _ s8 _ wr => ∃ i : Nat, i ≤ D.length ∧ s8 = .int .i64 (i : Int) ∧ J (spotsOf (D.take i)) wr ∧ SpR wr box A c D) (fun _ s8 _ _ => D.length - (intOf s8).toNat)
  case atStart => exact ⟨0, Nat.zero_le _, rfl, by simpa [spotsOf] using h0, KR.out⟩
  case round =>
    obtain ⟨i, hi, rfl, hJ, hr⟩ := hrel
    by_cases hlt : i < D.length
    · obtain ⟨d, hd⟩ : ∃ d, D[i]? = some d := ⟨_, List.getElem?_eq_getElem hlt⟩
      obtain ⟨ga, rfl, e1⟩ := hr.2.1 i d hd
      have hmem : d ∈ D := List.mem_of_getElem? hd
      have e2 := hr.2.2 d hmem
      have hdn := hDn d hmem
      have hii : (i : Int) < (D.length : Int) := by omega
      have KI := Lib.hid (And.intro hd (And.intro hJ (And.intro hr hmem)))
      clear hd hJ hr hmem
      gi_wp2
      gi_loopw [5, 18] (fun _ s18 wx => ∃ k : Nat, k ≤ d.n ∧ s18 = .int .i64 (k : Int) ∧ J (spotsOf (D.take i) ++ spotsB d k) wx ∧ SpR wx box (some ⟨ga, 0, none⟩) c D) (fun _ s18 _ => d.n - (intOf s18).toNat)
      case atStart => exact ⟨0, Nat.zero_le _, rfl, by simpa [spotsB] using KI.out.2.1, KI.out.2.2.1⟩
      case round =>
        obtain ⟨k, hk, rfl, hJ, hr⟩ := hrel
        have e2 := hr.2.2 d KI.out.2.2.2
        by_cases hlk : k < d.n
        · have hkk : (k : Int) < (d.n : Int) := by omega
          have hpl : (spotsOf (D.take i) ++ spotsB d k).length < (spotsOf D).length := by
            have h1 := (spots_prefix D i d KI.out.1 (k + 1) (by omega)).length_le
            rw [spotsB_succ, ← List.append_assoc, List.length_append] at h1
            simp at h1 ⊢
            omega
          have hme : (⟨d, k⟩ : SpotX) ∈ spotsOf D := (spots_prefix D i d KI.out.1 (k + 1) (by omega)).subset (by rw [spotsB_succ]; simp)
          obtain ⟨fn, tmps, assign, body, hy, hR⟩ := hY _ ⟨d, k⟩ wr hJ hme hpl
          simp only [SpotX.v] at hy
          have KK := Lib.hid (And.intro hJ hr)
          clear hJ hr
          gi_wp2
          refine hR.mono ?_
          rintro e W3 (⟨rfl, hJ3, hk3⟩ | ⟨rfl, hJx3⟩)
          · gi_wp2
            go_roundw
            case rel => exact ⟨k + 1, by omega, by simp, by rw [spotsB_succ, ← List.append_assoc]; exact hJ3, hk3 KK.out.2⟩
            case measure => simp [intOf]; omega
          · gi_wp2
            refine bodyPost_ret (results_none rfl _ _ _) rfl ?_
            have hp := spots_prefix D i d KI.out.1 (k + 1) (by omega)
            rw [spotsB_succ, ← List.append_assoc] at hp
            exact ⟨⟨_, rfl⟩, .inr ⟨_, hp, hJx3⟩⟩
        · obtain rfl : k = d.n := by omega
          have KK := Lib.hid (And.intro hJ hr)
          clear hJ hr
          gi_wp2
          go_roundw
          case rel => exact ⟨i + 1, by omega, by simp, by rw [spotsOf_snoc D i d KI.out.1]; exact KK.out.1, KK.out.2⟩
          case measure => simp [intOf]; omega
    · obtain rfl : i = D.length := by omega
      gi_wp2
      go_end0
      exact ⟨⟨_, rfl⟩, .inl ⟨_, rfl, by rw [List.take_length] at hJ; exact hJ⟩⟩

theorem SpR.below {W W' : World} {box c : Nat} {A : Option Addr} {D : List BandA} (h : SpR W box A c D) (hb : Below W.heap.size W W') : SpR W' box A c D := by
  have key : ∀ (p : Addr) (v : Value), W.cell? p = some v → W'.cell? p = some v := fun p v hv => (hb.cell (World.block_lt_of_cell? W p hv)).trans hv
  refine ⟨key _ _ h.1, fun j d hd => ?_, fun d hd => key _ _ (h.2.2 d hd)⟩
  obtain ⟨ga, e, hc⟩ := h.2.1 j d hd
  exact ⟨ga, e, key _ _ hc⟩
abbrev SpotIn (D : List BandA) := { x : SpotX // x ∈ spotsOf D }
theorem spots_stops (n : Nat) (hn : 1 ≤ n) (box c : Nat) (A : Option Addr) (D : List BandA) (hD : D.length ≤ 100000) (hDn : ∀ d ∈ D, d.n ≤ 100000) (w : World) (hR : SpR w box A c D) :
    SeqStopsK Fence.wide n Try.prog 55 #[.pointer (some ⟨box, 0, none⟩)] (fun x : SpotIn D => #[x.1.v]) (fun W W' => SpR W box A c D → SpR W' box A c D) (fun ys => ys.map (·.1) = spotsOf D) (fun pre => pre.map (·.1) <+: spotsOf D) (spotsOf D).length w := by
  intro l J Jx W hW _ _ hY h0
  refine (spots1_in Fence.wide n trivial rfl hn l box c A D hD hDn (fun pre W => ∃ pre' : List (SpotIn D), pre'.map (·.1) = pre ∧ J pre' W) (fun pre W => ∃ pre' : List (SpotIn D), pre'.map (·.1) = pre ∧ Jx pre' W) ?_ W (hR.below hW) ⟨[], rfl, h0⟩).mono ?_
  · rintro pre x W1 ⟨pre', rfl, hJ⟩ hx hlen
    obtain ⟨fn, tmps, assign, body, hy, hr⟩ := hY pre' ⟨x, hx⟩ W1 hJ (by simpa using hlen)
    refine ⟨fn, tmps, assign, body, hy, hr.mono ?_⟩
    rintro e W' (⟨rfl, h1, h2⟩ | ⟨rfl, h1⟩)
    · exact .inl ⟨rfl, ⟨_, by simp, h1⟩, h2⟩
    · exact .inr ⟨rfl, _, by simp, h1⟩
  · rintro e W' ⟨hv, ⟨ys, rfl, ys', h1, h2⟩ | ⟨pre, hp, pre', h1, h2⟩⟩
    · exact ⟨hv, .inl ⟨ys', h1, h2⟩⟩
    · exact ⟨hv, .inr ⟨pre', by show List.map (fun x => x.1) pre' <+: spotsOf D; rw [h1]; exact hp, h2⟩⟩
end Go.Proofs.Ytnpoakabheeoeaa
