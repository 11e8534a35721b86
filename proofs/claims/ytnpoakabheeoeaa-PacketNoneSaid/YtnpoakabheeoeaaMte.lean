/- Tag trees of the program: the way down to a leaf. Tag trees of the program: the way down to a leaf that is there. -/
import Derived.Test.YtnpoakabheeoeaaTd
import Derived.Deep.QuietTactic
import Derived.BigQuiet
namespace Go.Proofs.Ytnpoakabheeoeaa
open Go.RowKit

/-- the nodes over a place, the leaf first: pointers -/
def wayV (P : List LvG) (x y : Nat) : List Value := P.mapIdx fun i p => .pointer (some ⟨p.1, 3 * ((y / 2 ^ i) * p.2.w + x / 2 ^ i), none⟩)
theorem wayV_length (P : List LvG) (x y : Nat) : (wayV P x y).length = P.length := by simp [wayV]
theorem wayV_get (P : List LvG) (x y i : Nat) (p : LvG) (h : P[i]? = some p) : (wayV P x y)[i]? = some (.pointer (some ⟨p.1, 3 * ((y / 2 ^ i) * p.2.w + x / 2 ^ i), none⟩)) := by simp [wayV, h]
/-- how a tree's levels lie to each other -/
def PDims (P : List LvG) : Prop := Dims (P.map (·.2)) ∧ ∀ p ∈ P, 1 ≤ p.2.w ∧ p.2.w ≤ 64 ∧ 1 ≤ p.2.h ∧ p.2.h ≤ 64
theorem PDims.get {P : List LvG} (h : PDims P) {i : Nat} {p : LvG} (hp : P[i]? = some p) : p.2.l.length = p.2.w * p.2.h ∧ 1 ≤ p.2.w ∧ p.2.w ≤ 64 ∧ 1 ≤ p.2.h ∧ p.2.h ≤ 64 :=
  ⟨h.1.len (i := i) (by simp [hp]), h.2 p (List.mem_of_getElem? hp)⟩
theorem PDims.at_ {P : List LvG} (h : PDims P) {p0 : LvG} {x y : Nat} (h0 : P[0]? = some p0) (hx : x < p0.2.w) (hy : y < p0.2.h) {i : Nat} {p : LvG} (hp : P[i]? = some p) : x / 2 ^ i < p.2.w ∧ y / 2 ^ i < p.2.h :=
  h.1.at_ (L0 := p0.2) (by simp [h0]) hx hy (by simp [hp])
theorem infoPN : (Try.prog.info? 166).map (fun i => (i.zero, i.size, i.bytes)) = some (some (.pointer none), 1, 8) := by kernel_rfl

/-- a row's cell and what it says of the world -/
theorem RowH.get {e : TypeId} {size n c : Nat} {A : Option Addr} {xs : List Value} {H : List HB} {w : World} (h : RowH e size (.slice A n c) n xs H) (hs : Sat w H) (hn : 0 < n) :
    ∃ g, A = some ⟨g, 0, none⟩ ∧ (∀ i, i < n * size → w.cell? ⟨g, i, none⟩ = xs[i]?) ∧ ∀ i, w.frozen? ⟨g, i, none⟩ = false := by
  obtain ⟨g, cap, cur, hv, k1, k2, k3, k4, hH⟩ := h.form hn
  cases hv
  subst hH
  have hb : Blk w g e cur := hs.mem List.mem_cons_self
  refine ⟨g, rfl, fun i hi => ?_, fun i => hb.frozen i⟩
  rw [hb.cell i, ← k4, List.getElem?_take, if_pos hi, Array.getElem?_toList]

set_option maxRecDepth 100000 in
set_option maxHeartbeats 2000000 in
theorem way_none (tb : Nat) (P : List LvG) (k : Int) (W : World) (H : List HB) (h : TreeH tb P H) (hs : Sat W H) (hl : P.length ≤ 1000) (hk : ∀ p, P[0]? = some p → k < 0 ∨ (p.2.l.length : Int) ≤ k) :
    Calls Try.prog 79 #[.pointer (some ⟨tb, 0, none⟩), .int .i64 k] W fun e W' => e = .returned (.slice none 0 0) ∧ W = W' := by
  obtain ⟨v, Hl, rfl, hr⟩ := h
  obtain ⟨va, vc, rfl⟩ := hr.slice
  have c0 : W.cell? ⟨tb, 0, none⟩ = some (.slice va P.length vc) := (hs.at_ 0 rfl).cell 0
  by_cases hP : P = []
  · subst hP
    clear hr hs
    go_enter Try.func79, Try.ntmps79
    go_wp2_with fail
    go_ret
    exact ⟨rfl, rfl⟩
  · have hn : 0 < P.length := List.length_pos_iff.2 hP
    obtain ⟨p, hp⟩ : ∃ p, P[0]? = some p := ⟨_, List.getElem?_eq_getElem hn⟩
    have hkk := hk p hp
    obtain ⟨g, rfl, hc, -⟩ := hr.get (hs.right (A := [_])).left hn
    have c2 := hc 2 (by omega)
    rw [(levsV_get P 0 p hp).2.2] at c2
    have d0 : ((P.length : Int) == 0) = false := by simp; omega
    generalize P.length = n at *
    generalize p.2.l.length = m at *
    generalize p.1 = g0 at *
    have hn0 : (0 : Int) < (n : Int) := by omega
    clear hr hs hc hk hp
    by_cases h1 : k < 0
    · have d1 : decide (k < 0) = true := by simpa using h1
      clear hkk h1
      go_enter Try.func79, Try.ntmps79
      go_wp2_with fail
      go_ret
      exact ⟨rfl, rfl⟩
    · have d1 : decide (k < 0) = false := by simpa using h1
      have d2 : decide ((m : Int) ≤ k) = true := by simp; omega
      clear hkk h1
      go_enter Try.func79, Try.ntmps79
      go_wp2_with fail
      go_ret
      exact ⟨rfl, rfl⟩
end Go.Proofs.Ytnpoakabheeoeaa
namespace Go.Proofs.Ytnpoakabheeoeaa
open Go.RowKit

theorem flat_ptr (n : Nat) : (List.replicate n (Value.pointer none).cells.toList).flatten = List.replicate n (.pointer none) := by
  induction n with
  | zero => rfl
  | succ n ih => rw [List.replicate_succ, List.replicate_succ, List.flatten_cons, ih]; rfl

theorem set_way (n : Nat) (L : List Value) (i q : Nat) (v : Value) (hi : i < n) (hL : L.length = n) (hq : n - 1 - i = q) (hv : L[i]? = some v) :
    (List.replicate (n - i) (Value.pointer none) ++ (L.take i).reverse).set q v = List.replicate (n - (i + 1)) (Value.pointer none) ++ (L.take (i + 1)).reverse := by
  have e1 : n - i = (n - (i + 1)) + 1 := by omega
  have e2 : q = n - (i + 1) := by omega
  have e3 : L.take (i + 1) = L.take i ++ [v] := by
    rw [List.take_add_one, hv]
    rfl
  rw [e3, List.reverse_append, e1, List.replicate_succ', e2]
  rw [List.append_assoc, List.set_append_right _ _ (by simp)]
  simp
set_option maxRecDepth 100000 in
set_option maxHeartbeats 2000000 in
theorem way_ok (tb : Nat) (P : List LvG) (k : Nat) (p0 : LvG) (W : World) (H : List HB) (h : TreeH tb P H) (hs : Sat W H) (hl : P.length ≤ 20) (hd : PDims P) (h0 : P[0]? = some p0) (hk : k < p0.2.w * p0.2.h) :
    Calls Try.prog 79 #[.pointer (some ⟨tb, 0, none⟩), .int .i64 (k : Int)] W fun e W' => ∃ v Hn, e = .returned v ∧ RowH 166 1 v P.length (wayV P (k % p0.2.w) (k / p0.2.w)).reverse Hn ∧ Mv W H W' (Hn ++ H) := by
  obtain ⟨i0, hti, hz0, hz1, hz2⟩ := info_parts infoPN
  have hm := fun W => run_made (P := Try.prog) 164 166 i0 _ 1 8 P.length Try.underlying164 hti hz0 hz1 hz2 rfl (by decide) (by omega) (by omega) W
  rw [flat_ptr] at hm
  obtain ⟨v, Hl, rfl, hr⟩ := h
  obtain ⟨va, vc, rfl⟩ := hr.slice
  have hn : 0 < P.length := (List.getElem?_eq_some_iff.1 h0).1
  obtain ⟨g, rfl, hc, hfz⟩ := hr.get (hs.right (A := [_])).left hn
  have c0 : W.cell? ⟨tb, 0, none⟩ = some (.slice (some ⟨g, 0, none⟩) P.length vc) := (hs.at_ 0 rfl).cell 0
  obtain ⟨l1, l2, l3⟩ := levsV_get P 0 p0 h0
  have c1 := hc 0 (by omega)
  have c2 := hc 2 (by omega)
  rw [l1] at c1
  rw [l3, (hd.get h0).1] at c2
  have hw0 := (hd.get h0).2
  have hx : k % p0.2.w < p0.2.w := Nat.mod_lt _ (by omega)
  have hy : k / p0.2.w < p0.2.h := Nat.div_lt_of_lt_mul hk
  have hat := fun i p hp => hd.at_ (i := i) (p := p) h0 hx hy hp
  have d0 : ((P.length : Int) == 0) = false := beq_eq_false_iff_ne.2 (by omega)
  have d2 : decide (((p0.2.w * p0.2.h : Nat) : Int) ≤ (k : Int)) = false := decide_eq_false (fun h => Nat.not_le.2 hk (Int.ofNat_le.1 h))
  have hmm : p0.2.w * p0.2.h ≤ 4096 := Nat.mul_le_mul hw0.2.1 hw0.2.2.2
  have hkb : k ≤ 4096 := Nat.le_of_lt (Nat.lt_of_lt_of_le hk hmm)
  have hkm : ¬ p0.2.w * p0.2.h ≤ k := Nat.not_le.2 hk
  have d1 : decide ((k : Int) < 0) = false := by simp
  have hk0 : (0 : Int) ≤ (k : Int) := by omega
  have KP := Lib.hid (And.intro hr (And.intro hs (And.intro hd (And.intro hat (And.intro hx hy)))))
  have hn0 : (0 : Int) < (P.length : Int) := by omega
  obtain ⟨x, hxx⟩ : ∃ x, k % p0.2.w = x := ⟨_, rfl⟩
  obtain ⟨y, hyy⟩ : ∃ y, k / p0.2.w = y := ⟨_, rfl⟩
  generalize p0.1 = g0 at *
  generalize hww : p0.2.w = w0 at *
  generalize p0.2.h = h00 at *
  generalize w0 * h00 = m0 at *
  have hw1 : (w0 : Int) ≠ 0 := by omega
  have hx64 : x ≤ 64 := by rw [← hxx]; have := Nat.mod_lt k (show 0 < w0 by omega); omega
  have hy64 : y ≤ 4096 := by rw [← hyy]; have := Nat.div_le_self k w0; omega
  have hxi : (k : Int) % (w0 : Int) = (x : Int) := by rw [← hxx]; push_cast; rfl
  have hyi : wrap64 ((k : Int) / (w0 : Int)) = (y : Int) := by
    have e : (k : Int) / (w0 : Int) = (y : Int) := by rw [← hyy]; push_cast; rfl
    rw [e, ← IntWalk.i64_left, IntWalk.i64_in _ (by omega)]
  rw [hxx, hyy] at KP ⊢
  clear hxx hyy
  clear hr hs hd hat hc hfz hx hy h0 l1 l2 l3 hk
  go_enter Try.func79, Try.ntmps79
  go_upto_region 3 with fail
  go_quiet (fail)
  go_upto_region 6 with fail
  simp only [hxi, hyi]
  have M0 : Mv W _ ((W.drewN nq).alloc (.cells (Array.replicate P.length (.pointer none)) 166)) (⟨W.heap.size, 166, Array.replicate P.length (.pointer none)⟩ :: (⟨tb, 139, #[.slice (some ⟨g, 0, none⟩) P.length vc]⟩ :: (Hl ++ P.map levB))) := ((Mv.refl KP.out.2.1).drewN nq).alloc _ _
  have R0 : RowH 166 1 (.slice (some ⟨W.heap.size, 0, none⟩) P.length P.length) P.length (List.replicate (P.length - 0) (.pointer none) ++ ((wayV P x y).take 0).reverse) [⟨W.heap.size, 166, Array.replicate P.length (.pointer none)⟩] := by
    have := RowH.new 166 W.heap.size P.length (size := 1) (Array.replicate P.length (.pointer none)) (by simp) (by unfold maxLen; omega)
    simpa using this
  have K0 := Lib.hid (And.intro R0 M0)
  obtain ⟨w1, hw1'⟩ : ∃ w1, w1 = (W.drewN nq).alloc (.cells (Array.replicate P.length (.pointer none)) 166) := ⟨_, rfl⟩
  rw [← hw1'] at K0
  simp only [← hw1']
  clear R0 M0 c0 c1 c2 hm hw1' d0 d1 d2 hkm hmm hxi hyi
  go_wp2_with fail
  go_loopg [9, 58, 72, 79] P.length (fun m s9 s58 s72 s79 wx => ∃ (i : Nat) (Hn : List HB), i ≤ P.length ∧ m = P.length - i ∧ s58 = .int .i64 (i : Int) ∧ RowH 166 1 (.slice (some ⟨W.heap.size, 0, none⟩) P.length P.length) P.length (List.replicate (P.length - i) (.pointer none) ++ ((wayV P x y).take i).reverse) Hn ∧ Mv W _ wx (Hn ++ (⟨tb, 139, #[.slice (some ⟨g, 0, none⟩) P.length vc]⟩ :: (Hl ++ P.map levB))))
  case atStart => exact ⟨0, _, Nat.zero_le _, rfl, rfl, K0.out.1, K0.out.2⟩
  case round =>
    obtain ⟨wa, rfl⟩ : ∃ wa : World, wa = wr := ⟨_, rfl⟩
    obtain ⟨i, Hn, hi, rfl, rfl, hrn, mn⟩ := hrel
    by_cases hlt : i < P.length
    · obtain ⟨p, hp⟩ : ∃ p, P[i]? = some p := ⟨_, List.getElem?_eq_getElem hlt⟩
      have mt := Mv.mv1 (A := Hn) (B := [_]) mn
      have c0 : wa.cell? ⟨tb, 0, none⟩ = some (.slice (some ⟨g, 0, none⟩) P.length vc) := mt.cell 0 rfl 0
      have sHl : Sat wa Hl := (Mv.mv2 (A := Hn) (B := [_]) (C := Hl) mn).sat.left
      obtain ⟨g', eg, hc, -⟩ := KP.out.1.get sHl hn
      obtain rfl : g = g' := by cases eg; rfl
      obtain ⟨l1, l2, l3⟩ := levsV_get P i p hp
      have e1 := hc (3 * i) (by omega)
      have e2 := hc (3 * i + 1) (by omega)
      have e3 := hc (3 * i + 2) (by omega)
      rw [l1, Nat.mul_comm 3 i] at e1
      rw [l2, Nat.mul_comm 3 i] at e2
      rw [l3, (KP.out.2.2.1.get hp).1, Nat.mul_comm 3 i] at e3
      obtain ⟨q1, q2⟩ := KP.out.2.2.2.1 i p hp
      have q3 := (KP.out.2.2.1.get hp).2
      have hii : (i : Int) < (P.length : Int) := by omega
      have hxq : x / 2 ^ i ≤ 64 := Nat.le_trans (Nat.div_le_self _ _) hx64
      have hyq : y / 2 ^ i ≤ 64 := by omega
      have hpl : y / 2 ^ i * p.2.w + x / 2 ^ i < p.2.w * p.2.h := place_lt q1 q2
      have G0 := fun V => grid_at p.2.w p.2.h p.1 (p.2.w * p.2.h) (p.2.w * p.2.h) (x / 2 ^ i) (y / 2 ^ i) V hpl (by omega) (by omega) (by omega) (by have := Nat.mul_le_mul q3.2.1 q3.2.2.2; omega)
      simp only [Int.natCast_ediv, Int.natCast_pow, Int.cast_ofNat_Int] at G0
      have G := Lib.hid G0
      clear G0
      have EP := Lib.hid (And.intro hp (And.intro hrn mn))
      have hi20 : i ≤ 20 := by omega
      obtain ⟨q, hq⟩ : ∃ q, P.length - 1 - i = q := ⟨_, rfl⟩
      have hwi : IntKind.i64.wrap (IntKind.i64.wrap ((P.length : Int) - 1) - (i : Int)) = (q : Int) := by
        rw [IntWalk.i64_in ((P.length : Int) - 1) (by omega), IntWalk.i64_in _ (by omega)]
        omega
      have hql : (q : Int) < (P.length : Int) := by omega
      have hqn : q < P.length - i := by omega
      have HQ := Lib.hid (And.intro hq hqn)
      clear hq hqn
      have FX : Hid (∀ w2, Mv wa.drew [] w2 [] → Mv W (⟨tb, 139, #[.slice (some ⟨g, 0, none⟩) P.length vc]⟩ :: (Hl ++ P.map levB)) w2 (Hn ++ (⟨tb, 139, #[.slice (some ⟨g, 0, none⟩) P.length vc]⟩ :: (Hl ++ P.map levB))) ∧ w2.cell? ⟨W.heap.size, q, none⟩ = some (.pointer none) ∧ w2.frozen? ⟨W.heap.size, q, none⟩ = false) := Lib.hid (by
        intro w2 m2
        have m3 : Mv W _ w2 (Hn ++ (⟨tb, 139, #[.slice (some ⟨g, 0, none⟩) P.length vc]⟩ :: (Hl ++ P.map levB))) := Mv.call (H := []) (H' := []) (Mv.drew EP.out.2.2) m2
        have z := RowH.cell EP.out.2.1 m3.sat.left rfl q (by omega)
        refine ⟨m3, ?_, z.2⟩
        rw [z.1, List.getElem?_append_left (by simpa using HQ.out.2), List.getElem?_replicate, if_pos HQ.out.2])
      have d7 : decide ((i : Int) < (P.length : Int)) = true := by simpa using hlt
      generalize hpw : p.2.w * p.2.h = pn at *
      generalize hpg : p.1 = pg at *
      generalize hpw2 : p.2.w = pw at *
      generalize p.2.h = ph at *
      clear hrn mn mt hc l1 l2 l3 sHl hp q1 q2 hpw eg
      go_upto_region 9 with fail
      go_region_law (first
        | (go_simp; go_at_call 81; (with_reducible refine (G.out _).mono ?_); rintro e w2 ⟨rfl, m2⟩; obtain ⟨m3, y1, y2⟩ := FX.out w2 m2; have K2 := Lib.hid m3; clear m2 m3))
      all_goals
        obtain ⟨H3, r3, m3⟩ := RowH.set EP.out.2.1 K2.out.sat.left rfl q (.pointer (some ⟨pg, 3 * (y / 2 ^ i * pw + x / 2 ^ i), none⟩)) (by omega)
        have m4 := Mv.call K2.out m3
        have K4 := Lib.hid (And.intro r3 m4)
        clear r3 m3 m4 y1 y2 K2
        go_wp2_with fail
        go_roundg (P.length - (i + 1))
        case measure => omega
        case rel =>
          refine ⟨i + 1, H3, by omega, rfl, by go_num, ?_, K4.out.2⟩
          have hv := wayV_get P x y i p EP.out.1
          rw [hpg, hpw2] at hv
          have := K4.out.1
          rw [set_way _ _ i q _ hlt (wayV_length P x y) HQ.out.1 hv] at this
          exact this
    · obtain rfl : i = P.length := by omega
      have d7 : decide ((P.length : Int) < (P.length : Int)) = false := by simp
      have EP := Lib.hid (And.intro hrn mn)
      clear hrn mn
      go_wp2_with fail
      go_ret
      refine ⟨_, Hn, rfl, ?_, EP.out.2⟩
      have := EP.out.1
      rw [Nat.sub_self, List.take_of_length_le (by rw [wayV_length]; exact Nat.le_refl _)] at this
      simpa using this
end Go.Proofs.Ytnpoakabheeoeaa
