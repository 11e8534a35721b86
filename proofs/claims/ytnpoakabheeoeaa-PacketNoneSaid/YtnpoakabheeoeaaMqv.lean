/- waveletref8: a cleanup pass. waveletref3, waveletref4: fresh contexts. -/
import Derived.Test.YtnpoakabheeoeaaQu
import Derived.Test.YtnpoakabheeoeaaMqk
import Derived.Laws.Rows
namespace Go.Proofs.Ytnpoakabheeoeaa
open Go.RowKit

theorem and32 : ∀ s, s < 64 → (s &&& 32) = if s.testBit 5 then 32 else 0 := by decide
theorem style32 (s : Nat) (h : s ≤ 63) : bits .and .i64 (s : Int) 32 = if s.testBit 5 then 32 else 0 := by
  have h1 := i64_and_nat s 32 (by omega) (by omega)
  rw [and32 s (by omega)] at h1
  rw [show ((32 : Nat) : Int) = 32 from rfl] at h1
  rw [h1]
  split <;> rfl
/-- the segment's symbols, so many -/
def symS (raw : Bool) : Nat → WrM → WrM
  | 0, s => s
  | k + 1, s => bitW raw (symS raw k s) 18 (1 - k % 2)
theorem symS_four (raw : Bool) (s : WrM) : symS raw 4 s = symM raw s := rfl
theorem symS_says (raw : Bool) (s : WrM) : ∀ k, Says raw k s (symS raw k s)
  | 0 => .refl _ _
  | k + 1 => .bit 18 _ (by decide) (symS_says raw s k)
theorem seen_step (l : List Bool) (i : Nat) (h : i < l.length) : (List.replicate i false ++ l.drop i).set i false = List.replicate (i + 1) false ++ l.drop (i + 1) := by
  rw [List.set_append_right _ _ (by simp), List.length_replicate, Nat.sub_self, List.drop_eq_getElem_cons h, List.set_cons_zero, List.replicate_succ', List.append_assoc]
  rfl
def seenAt (c : CodM) (i : Nat) : CodM := { c with seen := List.replicate i false ++ c.seen.drop i }
theorem seenAt_ok {G : GeoM} {c : CodM} (h : c.Ok G) {i : Nat} (hi : i ≤ G.w * G.h) : (seenAt c i).Ok G :=
  ⟨h.sig, by have := h.seen; simp only [seenAt, List.length_append, List.length_replicate, List.length_drop]; omega, h.again⟩
theorem runM_succ (f : CS → Nat → CS) (n k : Nat) (q : CS) (h : k < n) : runM f (n - k) k q = runM f (n - (k + 1)) (k + 1) (f q k) := by
  rw [show n - k = (n - (k + 1)) + 1 by omega]
  rfl
set_option maxRecDepth 100000 in
set_option maxHeartbeats 4000000 in
theorem cod_clean (A : CodA) (G : GeoM) (q : CS) (raw : Bool) (eg rg plane : Nat) (H : List HB) (w : World) (hg : G.Ok) (hc : q.c.Ok G) (h : CodR A G q raw eg rg H) (hs : Sat w H) (hq : q.s.Ok) (hz : q.s.size + (192 * (G.w * ((G.h + 3) / 4)) + 100) ≤ 79000000) (hp : plane ≤ 40) :
    Calls Try.prog 70 #[.pointer (some ⟨A.cb, 0, none⟩), .int .i64 (plane : Int)] w fun e w' => e = .returned (.tuple #[]) ∧ ∃ H', CodR A G (cleanM G raw plane q) raw eg rg H' ∧ Mv w H w' H' := by
  have hh2 := hg.h2
  have hw2 := hg.w2
  obtain ⟨T, hT⟩ : ∃ T, (G.h + 3) / 4 = T := ⟨_, rfl⟩
  rw [hT] at hz
  have tb : ∀ t, t < T ↔ 4 * t < G.h := by intro t; omega
  have HT := Lib.hid tb
  have t16 : T ≤ 17 := by omega
  obtain ⟨R1, hR1⟩ : ∃ R1, runM (rowM G raw plane) T 0 q = R1 := ⟨_, rfl⟩
  have EC : Hid (cleanM G raw plane q = ⟨{ R1.c with seen := List.replicate (G.w * G.h) false }, if G.style.testBit 5 then symM raw R1.s else R1.s⟩) := Lib.hid (by unfold cleanM; rw [hT, hR1])
  have K0 := Lib.hid (And.intro h (And.intro (Mv.refl hs) (And.intro hc (And.intro hq (And.intro hz hR1)))))
  have HG := Lib.hid hg
  clear h hs hc hq hz hR1 hg tb hT
  go_enter Try.func70, Try.ntmps70
  go_wp2_with fail
  go_loopg [4] T (fun m s4 wx => ∃ (t : Nat) (q1 : CS) (H1 : List HB), t ≤ T ∧ m = T - t ∧ s4 = .int .i64 ((4 * t : Nat) : Int) ∧ CodR A G q1 raw eg rg H1 ∧ Mv w H wx H1 ∧ q1.c.Ok G ∧ q1.s.Ok ∧ q1.s.size + (192 * (G.w * (T - t)) + 100) ≤ 79000000 ∧ runM (rowM G raw plane) (T - t) t q1 = R1)
  case atStart => exact ⟨0, q, H, by omega, rfl, rfl, K0.out.1, K0.out.2.1, K0.out.2.2.1, K0.out.2.2.2.1, K0.out.2.2.2.2.1, K0.out.2.2.2.2.2⟩
  case round =>
    obtain ⟨t, q1, H1, ht, rfl, rfl, h1, m1, hc1, hq1, hz1, hR⟩ := hrel
    have V := h1.see HG.out hc1 m1.sat
    have c1 := V.h_
    have K1 := Lib.hid (And.intro h1 (And.intro m1 (And.intro hc1 (And.intro hq1 (And.intro hz1 hR)))))
    clear V h1 m1 hc1 hq1 hz1 hR
    obtain ⟨y, hy⟩ : ∃ y, 4 * t = y := ⟨_, rfl⟩
    rw [hy]
    by_cases hlt : t < T
    · have sy : y < G.h := by rw [← hy]; exact (HT.out t).1 hlt
      have d1 : decide ((y : Int) < (G.h : Int)) = true := by simp; omega
      have HY := Lib.hid hy
      have yb : y ≤ 70 := by omega
      clear hy
      obtain ⟨R2, hR2⟩ : ∃ R2, rowM G raw plane q1 t = R2 := ⟨_, rfl⟩
      have R2e : Hid (runM (colM G raw plane y) G.w 0 q1 = R2) := Lib.hid (by rw [← hR2, ← HY.out]; rfl)
      have R3e : Hid (runM (rowM G raw plane) (T - (t + 1)) (t + 1) R2 = R1) := Lib.hid (by have := K1.out.2.2.2.2.2; rw [runM_succ _ _ _ _ hlt, hR2] at this; exact this)
      have ZB : Hid (q1.s.size + (192 * (G.w + G.w * (T - (t + 1))) + 100) ≤ 79000000) := Lib.hid (by
        have := K1.out.2.2.2.2.1
        rw [show T - t = (T - (t + 1)) + 1 by omega, Nat.mul_succ] at this
        omega)
      clear hR2
      go_wp2_with fail
      go_loopg [5] G.w (fun m s5 wx => ∃ (x : Nat) (q2 : CS) (H2 : List HB), x ≤ G.w ∧ m = G.w - x ∧ s5 = .int .i64 (x : Int) ∧ CodR A G q2 raw eg rg H2 ∧ Mv w H wx H2 ∧ q2.c.Ok G ∧ q2.s.Ok ∧ q2.s.size + (192 * ((G.w - x) + G.w * (T - (t + 1))) + 100) ≤ 79000000 ∧ runM (colM G raw plane y) (G.w - x) x q2 = R2)
      case atStart => exact ⟨0, q1, H1, by omega, rfl, rfl, K1.out.1, K1.out.2.1, K1.out.2.2.1, K1.out.2.2.2.1, ZB.out, R2e.out⟩
      case round =>
        rename_i wo
        obtain ⟨x, q2, H2, hx, rfl, rfl, h2, m2, hc2, hq2, hz2, hR⟩ := hrel
        have V := h2.see HG.out hc2 m2.sat
        have c0 := V.w_
        have K2 := Lib.hid (And.intro h2 (And.intro m2 (And.intro hc2 (And.intro hq2 (And.intro hz2 hR)))))
        clear V h2 m2 hc2 hq2 hz2 hR
        by_cases hlx : x < G.w
        · have d2 : decide ((x : Int) < (G.w : Int)) = true := by simp; omega
          have CC := Lib.hid (cod_col A G q2 raw eg rg x y plane H2 _ HG.out K2.out.2.2.1 K2.out.1 K2.out.2.1.sat K2.out.2.2.2.1 (by have := K2.out.2.2.2.2.1; omega) hp hlx sy)
          go_wp2_with (go_at_call 91; refine CC.out.mono ?_; rintro e w3 ⟨rfl, H3, h3, m3⟩; have K3 := Lib.hid (And.intro h3 (K2.out.2.1.trans m3)); clear h3 m3)
          go_roundg (G.w - (x + 1))
          case measure => omega
          case rel =>
            have e2 := colM_says (raw := raw) (G := G) plane y q2 x
            have e3 := (e2.grow K2.out.2.2.2.1).2.2
            have e4 := K2.out.2.2.2.2.2
            rw [runM_succ _ _ _ _ hlx] at e4
            exact ⟨x + 1, _, H3, by omega, rfl, by push_cast; rfl, K3.out.1, K3.out.2, colM_ok K2.out.2.2.1 plane y x, e2.ok K2.out.2.2.2.1, by have := K2.out.2.2.2.2.1; omega, e4⟩
        · have d2 : decide ((x : Int) < (G.w : Int)) = false := by simp; omega
          go_wp2_with fail
          go_roundg (T - (t + 1))
          case measure => omega
          case rel =>
            have e4 := K2.out.2.2.2.2.2
            rw [show G.w - x = 0 by omega] at e4
            have e5 : q2 = R2 := e4
            have z5 := K2.out.2.2.2.2.1
            rw [show G.w - x = 0 by omega, Nat.zero_add] at z5
            exact ⟨t + 1, q2, H2, by omega, rfl, congrArg (Value.int .i64) (by have := HY.out; omega), K2.out.1, K2.out.2.1, K2.out.2.2.1, K2.out.2.2.2.1, z5, by rw [e5]; exact R3e.out⟩
    · have ny : ¬ y < G.h := by rw [← hy]; intro h; exact hlt ((HT.out t).2 h)
      have d1 : decide ((y : Int) < (G.h : Int)) = false := by simp; omega
      have eR : R1 = q1 := by
        have := K1.out.2.2.2.2.2
        rw [show T - t = 0 by omega] at this
        exact this.symm
      have HE := Lib.hid eR
      obtain ⟨n, hn⟩ : ∃ n, G.w * G.h = n := ⟨_, rfl⟩
      have n4 : n ≤ 4096 := by rw [← hn]; exact Nat.mul_le_mul hw2 hh2
      have HN := Lib.hid hn
      clear hy eR hn
      go_wp2_with fail
      go_loopg [6] n (fun m s6 wx => ∃ (i : Nat) (H2 : List HB), i ≤ n ∧ m = n - i ∧ s6 = .int .i64 (i : Int) ∧ CodR A G ⟨seenAt q1.c i, q1.s⟩ raw eg rg H2 ∧ Mv w H wx H2)
      case atStart => exact ⟨0, H1, by omega, rfl, rfl, K1.out.1, K1.out.2.1⟩
      case round =>
        rename_i wo
        obtain ⟨i, H2, hi, rfl, rfl, h2, m2⟩ := hrel
        have oi : (seenAt q1.c i).Ok G := seenAt_ok K1.out.2.2.1 (by rw [HN.out]; exact hi)
        have V := h2.see HG.out oi m2.sat
        have c7 := V.e_
        unfold slV at c7
        rw [HN.out] at c7
        have K2 := Lib.hid (And.intro h2 m2)
        by_cases hli : i < n
        · have d2 : decide ((i : Int) < (n : Int)) = true := by simp; omega
          have ci := V.seen i (by rw [HN.out]; exact hli)
          generalize (seenAt q1.c i).seen.getD i false = u at ci
          have fi := (h2.frozen m2.sat i).2.2.1
          obtain ⟨H3, r3, m3⟩ := h2.setSeen m2 i false
          have K3 := Lib.hid (And.intro r3 m3)
          clear V h2 m2 r3 m3 oi
          have i1 : (i : Int) < (n : Int) := by omega
          go_wp2_with fail
          go_roundg (n - (i + 1))
          case measure => omega
          case rel =>
            have e1 := seen_step q1.c.seen i (by rw [K1.out.2.2.1.seen, HN.out]; exact hli)
            refine ⟨i + 1, H3, by omega, rfl, by push_cast; rfl, ?_, K3.out.2⟩
            have := K3.out.1
            unfold seenAt at this ⊢
            simp only [e1] at this
            exact this
        · have d2 : decide ((i : Int) < (n : Int)) = false := by simp; omega
          have ei : i = n := by omega
          have CQ : Hid (CodR A G ⟨{ q1.c with seen := List.replicate n false }, q1.s⟩ raw eg rg H2) := Lib.hid (by
            have e1 : seenAt q1.c i = { q1.c with seen := List.replicate n false } := by
              unfold seenAt
              rw [ei, List.drop_eq_nil_of_le (by rw [K1.out.2.2.1.seen, HN.out]; exact Nat.le_refl _), List.append_nil]
            rw [← e1]
            exact K2.out.1)
          have c3 := V.style
          have e32 := style32 G.style HG.out.style
          have ZS : Hid (q1.s.size + 100 ≤ 79000000) := Lib.hid (by have := K1.out.2.2.2.2.1; omega)
          clear V h2 m2 oi ei
          rcases (Bool.eq_false_or_eq_true (G.style.testBit 5)).symm with ht | ht
          · rw [ht] at e32
            simp only [Bool.false_eq_true, if_false] at e32
            have HTB := Lib.hid ht
            clear ht
            go_wp2_with fail
            refine bodyPost_end (results_none rfl _ _ _) rfl ⟨rfl, H2, ?_, K2.out.2⟩
            rw [EC.out, HTB.out, HE.out, HN.out]
            exact CQ.out
          · rw [ht] at e32
            simp only [if_true] at e32
            have HTB := Lib.hid ht
            clear ht
            go_wp2_with fail
            go_loopg [7] 4 (fun m s7 wx => ∃ (k : Nat) (H3 : List HB), k ≤ 4 ∧ m = 4 - k ∧ s7 = .int .i64 (k : Int) ∧ CodR A G ⟨{ q1.c with seen := List.replicate n false }, symS raw k q1.s⟩ raw eg rg H3 ∧ Mv w H wx H3)
            case atStart => exact ⟨0, H2, by omega, rfl, rfl, CQ.out, K2.out.2⟩
            case round =>
              rename_i wp
              obtain ⟨k, H3, hk, rfl, rfl, h3, m3⟩ := hrel
              have K3 := Lib.hid (And.intro h3 m3)
              clear h3 m3
              by_cases hlk : k < 4
              · have d3 : decide ((k : Int) < 4) = true := by simp; omega
                obtain ⟨b, hb⟩ : ∃ b, 1 - k % 2 = b := ⟨_, rfl⟩
                have eb : (1 : Int) - (k : Int) % 2 = (b : Int) := by omega
                have SS := symS_says raw q1.s k
                have SO := SS.ok K1.out.2.2.2.1
                have SZ := (SS.grow K1.out.2.2.2.1).2.2
                have BT : Hid (Calls Try.prog 92 #[.pointer (some ⟨A.cb, 0, none⟩), .int .i64 18, .int .i64 (b : Int)] _ fun e w' => e = .returned (.int .i64 (b : Int)) ∧ ∃ H', CodR A G ⟨{ q1.c with seen := List.replicate n false }, symS raw (k + 1) q1.s⟩ raw eg rg H' ∧ Mv _ H3 w' H') := Lib.hid (by
                  have := cod_bit A G ⟨{ q1.c with seen := List.replicate n false }, symS raw k q1.s⟩ raw eg rg 18 b H3 _ K3.out.1 K3.out.2.sat SO (by have := ZS.out; simp only; omega) (by decide) (by omega)
                  rw [← hb] at this ⊢
                  exact this)
                clear hb SS SO SZ
                go_wp2_with (go_at_call 92; refine BT.out.mono ?_; rintro e w4 ⟨rfl, H4, h4, m4⟩; have K4 := Lib.hid (And.intro h4 (K3.out.2.trans m4)); clear h4 m4)
                go_roundg (4 - (k + 1))
                case measure => omega
                case rel => exact ⟨k + 1, H4, by omega, rfl, by push_cast; rfl, K4.out.1, K4.out.2⟩
              · have d3 : decide ((k : Int) < 4) = false := by simp; omega
                have ek : k = 4 := by omega
                have HK := Lib.hid ek
                clear ek
                go_wp2_with fail
                refine bodyPost_end (results_none rfl _ _ _) rfl ⟨rfl, H3, ?_, K3.out.2⟩
                rw [EC.out, HTB.out, HE.out, HN.out]
                have := K3.out.1
                rw [HK.out, symS_four] at this
                exact this
end Go.Proofs.Ytnpoakabheeoeaa
namespace Go.Proofs.Ytnpoakabheeoeaa
open Go.RowKit

def beginN (k : Nat) : Nat := if k = 0 then 4 else if k = 17 then 3 else if k = 18 then 46 else 0
set_option maxRecDepth 100000 in
theorem begin3_any (k : Nat) (w : World) : Calls Try.prog 84 #[.int .i64 (k : Int)] w fun e w' => e = .returned (.int .i64 ((beginN k : Nat) : Int)) ∧ w' = w := by
  by_cases h0 : k = 0
  · subst h0
    go_enter Try.func84, Try.ntmps84
    go_wp2_with fail
    go_ret
    exact ⟨rfl, rfl⟩
  by_cases h1 : k = 17
  · subst h1
    go_enter Try.func84, Try.ntmps84
    go_wp2_with fail
    go_ret
    exact ⟨rfl, rfl⟩
  by_cases h2 : k = 18
  · subst h2
    go_enter Try.func84, Try.ntmps84
    go_wp2_with fail
    go_ret
    exact ⟨rfl, rfl⟩
  have e : beginN k = 0 := by unfold beginN; rw [if_neg h0, if_neg h1, if_neg h2]
  rw [e]
  have d0 : ((k : Int) == 0) = false := beq_eq_false_iff_ne.2 (by omega)
  have d1 : ((k : Int) == 17) = false := beq_eq_false_iff_ne.2 (by omega)
  have d2 : ((k : Int) == 18) = false := beq_eq_false_iff_ne.2 (by omega)
  have n0 : ¬ ((k : Int) = 0) := by omega
  have n1 : ¬ ((k : Int) = 17) := by omega
  have n2 : ¬ ((k : Int) = 18) := by omega
  clear e h0 h1 h2
  go_enter Try.func84, Try.ntmps84
  go_wp2_with fail
  go_ret
  exact ⟨rfl, rfl⟩
/-- contexts on their way: k of them begun -/
def cxMid (k : Nat) : List CxM := (List.range 19).map fun j => if j < k then ⟨beginN j, 0⟩ else ⟨0, 0⟩
theorem cxMid_get (k : Nat) (h : k < 19) : (cxMid k)[k]? = some ⟨0, 0⟩ := by
  unfold cxMid
  rw [List.getElem?_map, List.getElem?_range h]
  simp
theorem cxMid_set (k : Nat) : (cxMid k).set k ⟨beginN k, 0⟩ = cxMid (k + 1) := by
  apply List.ext_getElem?
  intro i
  unfold cxMid
  rw [List.getElem?_set]
  by_cases hi : i < 19
  · by_cases e : k = i
    · subst e
      rw [if_pos rfl, if_pos (by simpa using hi), List.getElem?_map, List.getElem?_range hi]
      simp
    · rw [if_neg e, List.getElem?_map, List.getElem?_map, List.getElem?_range hi]
      simp only [Option.map_some]
      congr 1
      by_cases h1 : i < k
      · rw [if_pos h1, if_pos (by omega)]
      · rw [if_neg h1, if_neg (by omega)]
  · by_cases e : k = i
    · subst e
      rw [if_pos rfl, if_neg (by simpa using hi), List.getElem?_eq_none (by simp; omega)]
    · rw [if_neg e, List.getElem?_eq_none (by simp; omega), List.getElem?_eq_none (by simp; omega)]
theorem cxMid_all : cxMid 19 = cxFresh := rfl
theorem cxV_mid (k : Nat) (h : k < 19) : (cxV (cxMid k)).set (k * 2) (.int .i64 ((beginN k : Nat) : Int)) = cxV (cxMid (k + 1)) := by
  rw [← cxMid_set k]
  exact flat_set (fun c : CxM => [Value.int .i64 (c.i : Int), .int .i64 (c.mps : Int)]) 2 (fun _ => rfl) (cxMid k) k ⟨0, 0⟩ ⟨beginN k, 0⟩ (cxMid_get k h) 0 (by omega) _ rfl
set_option maxRecDepth 100000 in
set_option maxHeartbeats 4000000 in
theorem fresh4_any (w : World) : Calls Try.prog 66 #[] w fun e w' => e = .returned (.agg (cxV cxFresh).toArray) ∧ Mv w [] w' [] := by
  have hz : (#[.int .i64 0, .int .i64 0, .int .i64 0, .int .i64 0, .int .i64 0, .int .i64 0, .int .i64 0, .int .i64 0, .int .i64 0, .int .i64 0, .int .i64 0, .int .i64 0, .int .i64 0, .int .i64 0, .int .i64 0, .int .i64 0, .int .i64 0, .int .i64 0, .int .i64 0, .int .i64 0, .int .i64 0, .int .i64 0, .int .i64 0, .int .i64 0, .int .i64 0, .int .i64 0, .int .i64 0, .int .i64 0, .int .i64 0, .int .i64 0, .int .i64 0, .int .i64 0, .int .i64 0, .int .i64 0, .int .i64 0, .int .i64 0, .int .i64 0, .int .i64 0] : Array Value) = (cxV (cxMid 0)).toArray := by kernel_rfl
  have M0 := mv_alloc w 92 (cxV (cxMid 0)).toArray
  have M1 := M0.alloc 92 (cxV (cxMid 0)).toArray
  rw [World.size_alloc] at M1
  have B1 : Blk ((w.alloc (.cells (cxV (cxMid 0)).toArray 92)).alloc (.cells (cxV (cxMid 0)).toArray 92)) (w.heap.size + 1) 92 (cxV (cxMid 0)).toArray := M1.blk 0 rfl
  have M2 := Mv.call (H := [_]) (R := [⟨w.heap.size, 92, (cxV (cxMid 0)).toArray⟩]) M1 (setRow_eq (cs := (cxV (cxMid 0)).toArray) B1)
  have HB1 := Lib.hid B1
  have K2 := Lib.hid M2
  clear M0 M1 M2 B1
  have HZ := Lib.hid hz
  clear hz
  go_enter Try.func66, Try.ntmps66
  go_upto_region 1 with fail
  refine wp_region_lit ?_
  refine wpList_build_to rfl 92 _ rfl (cxV (cxMid 0)).toArray (by kernel_rfl) ?_
  iterate 3 go_step
  rw [HZ.out]
  refine wpList_store_row rfl 92 (.tmp 1) (.tmp 3) rfl (w.heap.size + 1) (cxV (cxMid 0)).toArray (by simp [Act.eval]) rfl 92 _ HB1.out (by kernel_rfl) rfl (by kernel_rfl) ?_
  generalize (((w.alloc (.cells (cxV (cxMid 0)).toArray 92)).alloc (.cells (cxV (cxMid 0)).toArray 92)).setRow (w.heap.size + 1) (cxV (cxMid 0)).toArray) = w1 at *
  clear HZ HB1
  have BG := Lib.hid fun k W => begin3_any k W
  go_wp2_with fail
  go_loopg [2] 19 (fun m s2 wx => ∃ k : Nat, k ≤ 19 ∧ m = 19 - k ∧ s2 = .int .i64 (k : Int) ∧ Mv w [] wx ([⟨w.heap.size + 1, 92, (cxV (cxMid k)).toArray⟩] ++ [⟨w.heap.size, 92, (cxV (cxMid 0)).toArray⟩]))
  case atStart => exact ⟨0, by omega, rfl, rfl, K2.out⟩
  case round =>
    obtain ⟨k, hk, rfl, rfl, m⟩ := hrel
    have KM := Lib.hid m
    by_cases hlt : k < 19
    · have d1 : decide ((k : Int) < 19) = true := by simp; omega
      have d2 : (k : Int) < 19 := by omega
      have c1 := (((m.blk 0 rfl).cell (k * 2)).trans (by simp only [List.getElem?_toArray]; exact (cxV_get (cxMid_get k hlt)).1))
      have f1 := (m.blk 0 rfl).frozen (k * 2)
      have MS := Lib.hid (m.set (k * 2) (.int .i64 ((beginN k : Nat) : Int)))
      clear m
      go_wp2_with (go_at_call 84; refine (BG.out _ _).mono ?_; rintro e w' ⟨rfl, rfl⟩)
      go_roundg (19 - (k + 1))
      case measure => omega
      case rel =>
        refine ⟨k + 1, by omega, rfl, by push_cast; rfl, ?_⟩
        have := MS.out
        rw [List.setIfInBounds_toArray, cxV_mid k hlt] at this
        exact this
    · have d1 : decide ((k : Int) < 19) = false := by simp; omega
      have ek : k = 19 := by omega
      have HK := Lib.hid ek
      clear m ek
      go_upto_region 6 with fail
      refine wp_region_lit ?_
      refine wpList_load_row rfl 92 (.tmp 1) rfl (w.heap.size + 1) rfl 92 (cxV (cxMid k)).toArray (0, 0) _ (KM.out.blk 0 rfl) Try.underlying92 rfl (by rw [HK.out]; kernel_rfl) ?_
      refine wpList_store_row rfl 92 (.tmp 0) (.tmp 13) rfl w.heap.size (cxV (cxMid k)).toArray rfl rfl 92 _ (KM.out.blk 1 rfl) (by rw [HK.out]; kernel_rfl) (by rw [HK.out]; kernel_rfl) (by rw [HK.out]; kernel_rfl) ?_
      have M9 := Mv.call (H := [⟨w.heap.size, 92, (cxV (cxMid 0)).toArray⟩]) (R := [⟨w.heap.size + 1, 92, (cxV (cxMid k)).toArray⟩]) (KM.out.sub (fun g => by simp only [cnt_append, cnt_cons, cnt_nil]; omega) (fun c hc => by simp only [List.mem_append, List.mem_cons] at hc ⊢; grind)) (setRow_eq (cs := (cxV (cxMid k)).toArray) (KM.out.blk 1 rfl))
      generalize wr.setRow w.heap.size (cxV (cxMid k)).toArray = w9 at *
      obtain ⟨V9, hV9⟩ : ∃ V9, (cxV (cxMid k)).toArray = V9 := ⟨_, rfl⟩
      rw [hV9] at M9 ⊢
      have HV := Lib.hid (hV9.symm.trans (by rw [HK.out, cxMid_all]))
      have KM9 := Lib.hid M9
      clear hV9 M9
      go_wp2_with fail
      rw [← HV.out]
      exact bodyPost_ret (v := .agg V9) (results_cell_row Try.results66 _ _ w.heap.size 92 _ (0, 0) _ rfl (KM9.out.blk 0 rfl) Try.underlying92 rfl (by rw [HV.out]; kernel_rfl)) rfl ⟨rfl, Mv.drop (A := [_, _]) (H := []) (by simpa using KM9.out)⟩
end Go.Proofs.Ytnpoakabheeoeaa
