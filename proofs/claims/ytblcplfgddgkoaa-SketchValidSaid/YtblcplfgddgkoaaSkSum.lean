/- sketch.Sum: the number of a picture whose components are read. -/
import Derived.Test.YtblcplfgddgkoaaSkDraw
namespace Go.Proofs.Ytblcplfgddgkoaa
open Go.RowKit

theorem mod_any (x n : Int) (w : World) (h3 : 1 ≤ n) (h4 : n ≤ 1000003) :
    Calls Try.prog 23 #[.int .i64 x, .int .i64 n] w fun e w' => e = .returned (.int .i64 (x % n)) ∧ w = w' := by
  obtain ⟨h5, h6⟩ := tmod_bd x n h3
  have E := Lib.hid (tmod_adj x n h3)
  go_enter Try.func23, Try.ntmps23
  go_wp2
  all_goals go_ret
  · exact ⟨by rw [← E.out, if_pos (by assumption)]; rfl, rfl⟩
  · exact ⟨by rw [← E.out, if_neg (by omega)]; rfl, rfl⟩

/-- the slice value v reads as these numbers -/
def RdI (w : World) (v : Value) (xs : List Int) : Prop :=
  ∃ (a : Option Addr) (cap : Nat), v = .slice a xs.length cap ∧ xs.length ≤ cap ∧ cap ≤ maxLen ∧
    ∀ k x, xs[k]? = some x → ∃ b o, a = some ⟨b, o, none⟩ ∧ w.cell? ⟨b, o + k, none⟩ = some (.int .i64 x)

theorem RdI.of_owns {w : World} {B : Nat} {v : Value} {xs : List Int} (h : w.ownsRow B 3 1 v xs.length (xs.map (Value.int .i64))) : RdI w v xs := by
  obtain ⟨a, cap, rfl, h1, h2, h3⟩ := Rd.of_owns h
  exact ⟨a, cap, rfl, h1, h2, fun k x hx => h3 k (.int .i64 x) (by simp [hx])⟩

theorem RdI.keep {w w' : World} {v : Value} {xs : List Int} (h : RdI w v xs) (hb : Below w.heap.size w w') : RdI w' v xs := by
  obtain ⟨a, cap, rfl, h1, h2, h3⟩ := h
  refine ⟨a, cap, rfl, h1, h2, fun k x hx => ?_⟩
  obtain ⟨b, o, rfl, hc⟩ := h3 k x hx
  exact ⟨b, o, rfl, (hb.cell (World.block_lt_of_cell? w _ hc)).trans hc⟩

/-- the slice value v reads as these components -/
def CompsRd (w : World) (v : Value) (cs : List CompD) : Prop :=
  ∃ (a : Option Addr) (cap : Nat), v = .slice a cs.length cap ∧ cs.length ≤ cap ∧ cap ≤ maxLen ∧
    ∀ k c, cs[k]? = some c → ∃ b o dv, a = some ⟨b, o, none⟩ ∧ w.cell? ⟨b, o + k * 5, none⟩ = some (.int .i64 c.depth) ∧ w.cell? ⟨b, o + k * 5 + 1, none⟩ = some (.bool c.signed) ∧
      w.cell? ⟨b, o + k * 5 + 2, none⟩ = some (.int .i64 c.dx) ∧ w.cell? ⟨b, o + k * 5 + 3, none⟩ = some (.int .i64 c.dy) ∧ w.cell? ⟨b, o + k * 5 + 4, none⟩ = some dv ∧ RdI w dv c.data

theorem CompsRd.keep {w w' : World} {v : Value} {cs : List CompD} (h : CompsRd w v cs) (hb : Below w.heap.size w w') : CompsRd w' v cs := by
  obtain ⟨a, cap, rfl, h1, h2, h3⟩ := h
  refine ⟨a, cap, rfl, h1, h2, fun k c hk => ?_⟩
  obtain ⟨b, o, dv, rfl, c0, c1, c2, c3, c4, hd⟩ := h3 k c hk
  exact ⟨b, o, dv, rfl, (hb.cell (World.block_lt_of_cell? w _ c0)).trans c0, (hb.cell (World.block_lt_of_cell? w _ c1)).trans c1, (hb.cell (World.block_lt_of_cell? w _ c2)).trans c2,
    (hb.cell (World.block_lt_of_cell? w _ c3)).trans c3, (hb.cell (World.block_lt_of_cell? w _ c4)).trans c4, hd.keep hb⟩

theorem flat_get : ∀ (cs : List CompD) (dvs : List Value) (k : Nat) (c : CompD) (dv : Value), cs[k]? = some c → dvs[k]? = some dv → ∀ j, j < 5 → (compFlat cs dvs)[k * 5 + j]? = (compCells c dv)[j]?
  | [], _, _, _, _, h, _, _, _ => by simp at h
  | _ :: _, [], _, _, _, _, h, _, _ => by simp at h
  | c0 :: cs, d0 :: dvs, 0, c, dv, hc, hd, j, hj => by
    simp at hc hd
    subst hc hd
    unfold compFlat
    simp only [List.zipWith_cons_cons, List.flatten_cons, Nat.zero_mul, Nat.zero_add]
    rw [List.getElem?_append_left (by simpa [compCells] using hj)]
  | c0 :: cs, d0 :: dvs, k + 1, c, dv, hc, hd, j, hj => by
    have ih := flat_get cs dvs k c dv (by simpa using hc) (by simpa using hd) j hj
    unfold compFlat at ih ⊢
    simp only [List.zipWith_cons_cons, List.flatten_cons]
    rw [List.getElem?_append_right (by simp [compCells]; omega)]
    rw [show (k + 1) * 5 + j - (compCells c0 d0).length = k * 5 + j by simp [compCells]; omega]
    exact ih

theorem CompsRd.of_owns {w : World} {B : Nat} {v : Value} {cs : List CompD} (h : CompsOwn w B v cs) : CompsRd w v cs := by
  obtain ⟨dvs, hl, ho, hd⟩ := h
  obtain ⟨a, cap, rfl, h1, h2, h3⟩ := Rd.of_owns ho
  refine ⟨a, cap, rfl, h1, h2, fun k c hk => ?_⟩
  have hkl : k < cs.length := (List.getElem?_eq_some_iff.1 hk).1
  have hdv : dvs[k]? = some (dvs[k]'(by omega)) := List.getElem?_eq_getElem _
  generalize dvs[k]'(by omega) = dv at hdv
  have hf := flat_get cs dvs k c dv hk hdv
  obtain ⟨b, o, rfl, c0⟩ := h3 (k * 5 + 0) _ ((hf 0 (by omega)).trans rfl)
  have get : ∀ j u, j < 5 → (compCells c dv)[j]? = some u → w.cell? ⟨b, o + k * 5 + j, none⟩ = some u := fun j u hj hu => by
    obtain ⟨b', o', e, c0⟩ := h3 (k * 5 + j) _ ((hf j hj).trans hu)
    simp only [Option.some.injEq, Addr.mk.injEq, and_true] at e
    obtain ⟨rfl, rfl⟩ := e
    rw [Nat.add_assoc]
    exact c0
  exact ⟨b, o, dv, rfl, c0, get 1 _ (by omega) rfl, get 2 _ (by omega) rfl, get 3 _ (by omega) rfl, get 4 _ (by omega) rfl, RdI.of_owns (hd k c dv hk hdv)⟩

def sumRow (n : Int) (xs : List Int) : Int := xs.foldl (fun n x => (n * 31 + x) % 1000003) n
def sumD (n : Int) (cs : List CompD) : Int := cs.foldl (fun n c => sumRow n c.data) n

theorem sumRow_bd (n : Int) (xs : List Int) (h0 : 0 ≤ n) (h1 : n < 1000003) : 0 ≤ sumRow n xs ∧ sumRow n xs < 1000003 := by
  induction xs generalizing n with
  | nil => exact ⟨h0, h1⟩
  | cons x xs ih => exact ih _ (Int.emod_nonneg _ (by decide)) (Int.emod_lt_of_pos _ (by decide))
theorem sumD_bd (n : Int) (cs : List CompD) (h0 : 0 ≤ n) (h1 : n < 1000003) : 0 ≤ sumD n cs ∧ sumD n cs < 1000003 := by
  induction cs generalizing n with
  | nil => exact ⟨h0, h1⟩
  | cons c cs ih => exact ih _ (sumRow_bd n c.data h0 h1).1 (sumRow_bd n c.data h0 h1).2
theorem sumRow_take (n : Int) (xs : List Int) (k : Nat) (x : Int) (h : xs[k]? = some x) : sumRow n (xs.take (k + 1)) = (sumRow n (xs.take k) * 31 + x) % 1000003 := by
  unfold sumRow
  rw [List.take_add_one, h]
  simp
theorem sumD_take (n : Int) (cs : List CompD) (k : Nat) (c : CompD) (h : cs[k]? = some c) : sumD n (cs.take (k + 1)) = sumRow (sumD n (cs.take k)) c.data := by
  unfold sumD
  rw [List.take_add_one, h]
  simp

set_option maxHeartbeats 1000000 in
theorem sum_any (X Y Ox Oy : Int) (v : Value) (cs : List CompD) (w : World) (hv : CompsRd w v cs) :
    Calls Try.prog 12 #[.agg #[.int .i64 X, .int .i64 Y, .int .i64 Ox, .int .i64 Oy, v]] w fun e w' => e = .returned (.int .i64 (sumD 7 cs)) ∧ Below w.heap.size w w' := by
  obtain ⟨a, cap, rfl, hl1, hl2, hrd⟩ := hv
  unfold maxLen at hl2
  go_enter Try.func12, Try.ntmps12
  go_wp2
  go_loopg [3, 11] cs.length (fun g s3 s11 wr => ∃ k : Nat, k ≤ cs.length ∧ g = cs.length - k ∧ s11 = .int .i64 k ∧ s3 = .int .i64 (sumD 7 (cs.take k)) ∧ Below w.heap.size w wr)
  case atStart => exact ⟨0, Nat.zero_le _, rfl, rfl, rfl, (Below.refl _ _).alloc (Nat.le_refl _) _⟩
  case round =>
    obtain ⟨wa, rfl⟩ : ∃ wa : World, wa = wr := ⟨_, rfl⟩
    obtain ⟨k, hk, rfl, rfl, rfl, hb⟩ := hrel
    by_cases hlt : k < cs.length
    · obtain ⟨c, hc⟩ : ∃ c, cs[k]? = some c := ⟨_, List.getElem?_eq_getElem hlt⟩
      obtain ⟨b, o, dv, rfl, c0, c1, c2, c3, c4, a', cap', rfl, hd1, hd2, hd3⟩ := hrd k c hc
      have keep : ∀ (q : Addr) u, w.cell? q = some u → wa.cell? q = some u := fun q u h => (hb.cell (World.block_lt_of_cell? w q h)).trans h
      have d0 := keep _ _ c0
      have d1 := keep _ _ c1
      have d2 := keep _ _ c2
      have d3 := keep _ _ c3
      have d4 := keep _ _ c4
      clear c0 c1 c2 c3 c4 keep
      unfold maxLen at hd2
      have hS := Lib.hid hc
      have hT := Lib.hid hrd
      clear hrd hc
      obtain ⟨n1, n2⟩ := sumD_bd 7 (cs.take k) (by omega) (by omega)
      go_wp2_with fail
      go_loopg [3, 18] c.data.length (fun g s3 s18 wx => ∃ i : Nat, i ≤ c.data.length ∧ g = c.data.length - i ∧ s18 = .int .i64 i ∧ s3 = .int .i64 (sumRow (sumD 7 (cs.take k)) (c.data.take i)) ∧ Below w.heap.size w wx)
      case atStart => exact ⟨0, Nat.zero_le _, rfl, rfl, rfl, hb.alloc hb.size _⟩
      case round =>
        obtain ⟨i, hi, rfl, rfl, rfl, hbx⟩ := hrel
        obtain ⟨r1, r2⟩ := sumRow_bd (sumD 7 (cs.take k)) (c.data.take i) n1 n2
        by_cases hil : i < c.data.length
        · obtain ⟨x, hx⟩ : ∃ x, c.data[i]? = some x := ⟨_, List.getElem?_eq_getElem hil⟩
          obtain ⟨b', o', rfl, e0⟩ := hd3 i x hx
          have e1 := (hbx.cell (World.block_lt_of_cell? w _ e0)).trans e0
          have hX := Lib.hid hx
          have hm1 : 0 ≤ x % 1000003 := Int.emod_nonneg _ (by decide)
          have hm2 : x % 1000003 < 1000003 := Int.emod_lt_of_pos _ (by decide)
          clear hd3 e0 hx d0 d1 d2 d3 d4
          go_wp2_with (go_at_call 23; refine (mod_any _ _ _ (by omega) (by omega)).mono ?_; rintro e w' ⟨rfl, rfl⟩)
          go_roundg (c.data.length - (i + 1))
          case measure => omega
          case rel => exact ⟨i + 1, hil, rfl, by go_num, by rw [sumRow_take _ _ _ _ hX.out], hbx⟩
        · obtain rfl : i = c.data.length := by omega
          clear d0 d1 d2 d3 d4 hd3
          go_wp2_with fail
          go_roundg (cs.length - (k + 1))
          case measure => omega
          case rel => exact ⟨k + 1, by omega, rfl, by go_num, by rw [sumD_take _ _ _ _ hS.out, List.take_length], hbx⟩
    · obtain rfl : k = cs.length := by omega
      clear hrd
      go_wp2_with fail
      go_ret
      exact ⟨by rw [List.take_length]; rfl, hb⟩
end Go.Proofs.Ytblcplfgddgkoaa
