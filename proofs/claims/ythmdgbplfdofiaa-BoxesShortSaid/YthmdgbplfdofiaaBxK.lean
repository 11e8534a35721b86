/- The laws of chapter 20: within, known. -/
import Derived.Test.YthmdgbplfdofiaaBxD
namespace Go.Proofs.Ythmdgbplfdofiaa
open Go.RowKit

theorem lwithin (x n : Int) (w : World) (h3 : 1 ≤ n) (h4 : n ≤ 1000000) :
    Calls Try.prog 7 #[.int .i64 x, .int .i64 n] w fun e w' => e = .returned (.int .i64 (x % n)) ∧ w = w' := by
  obtain ⟨h5, h6⟩ := tmod_bd x n h3
  have E := Lib.hid (tmod_adj x n h3)
  go_enter Try.func7, Try.ntmps7
  go_wp2
  all_goals go_ret
  · exact ⟨by rw [← E.out, if_pos (by assumption)]; rfl, rfl⟩
  · exact ⟨by rw [← E.out, if_neg (by omega)]; rfl, rfl⟩

/-- bytes that were just laid -/
theorem BV.made (w : World) (l : List UInt8) (T : TypeId) (g : Nat) (hg : g = w.heap.size) (hl : l.length ≤ maxLen) : BV (w.alloc (.cells (cellsB l).toArray T)) (.slice (some ⟨g, 0, none⟩) l.length l.length) l := by
  subst hg
  refine ⟨_, _, rfl, Nat.le_refl _, hl, by rw [cellsB_length, Nat.mul_one], fun hn => ⟨_, rfl, by simp, ?_⟩⟩
  have := news_block w (cellsB l).toArray T
  simpa using this

theorem BoxesRd.made1 (w : World) (b : BoxD) (dv : Value) (T : TypeId) (g : Nat) (hg : g = w.heap.size) (hd : BV w dv b.data) : BoxesRd (w.alloc (.cells #[strV b.kind, dv] T)) (.slice (some ⟨g, 0, none⟩) 1 1) [b] := by
  subst hg
  refine ⟨_, _, [dv], rfl, Nat.le_refl _, by decide, rfl, Reads.new w #[strV b.kind, dv] T 2 1 _ _ rfl rfl (by simp), fun i b' dv' hb hd' => ?_⟩
  match i, hb, hd' with
  | 0, hb, hd' =>
    simp at hb hd'
    subst hb hd'
    exact hd.keep ((Below.refl _ _).alloc (Nat.le_refl _) _)

theorem u8_bd {n : Int} (h : (Lit.int .u8 n).wf = true) : 0 ≤ n ∧ n < 256 := by
  simp [Lit.wf, IntKind.min, IntKind.max, IntKind.signed, IntKind.bits] at h
  omega

/-- a row of bytes that came in reads as bytes -/
theorem BV.of_row {w : World} {a : Option Addr} {len cap : Nat} {zs : List Int} (h : (a = none ∧ len = 0 ∧ cap = 0 ∧ zs = []) ∨
    ∃ x, a = some x ∧ len ≤ cap ∧ cap ≤ maxLen ∧ zs.length = cap ∧ (∀ i, i < zs.length → w.cell? (x.add i) = some (.int .u8 (zs.getD i 0))) ∧ ∀ n ∈ zs, (Lit.int .u8 n).wf = true) :
    ∃ d : List UInt8, d.length = len ∧ BV w (.slice a len cap) d := by
  rcases h with ⟨rfl, rfl, rfl, rfl⟩ | ⟨x, rfl, hl, hm, hz, hc, hw⟩
  · exact ⟨[], rfl, BV.nil _⟩
  · refine ⟨(zs.take len).map fun n => UInt8.ofNat n.toNat, by rw [List.length_map, List.length_take]; omega, some x, cap, by rw [List.length_map, List.length_take, Nat.min_eq_left (by omega)], by rw [List.length_map, List.length_take]; omega, hm, ?_⟩
    have hlen : ((zs.take len).map fun n => UInt8.ofNat n.toNat).length = len := by rw [List.length_map, List.length_take]; omega
    refine ⟨by rw [cellsB_length, Nat.mul_one], fun hn => ⟨x, rfl, ?_, fun j u hu => ?_⟩⟩
    · have h0 := World.block_lt_of_cell? w _ (hc 0 (by omega))
      rwa [block_of_add] at h0
    · have hj : j < len := by have := (List.getElem?_eq_some_iff.1 hu).1; rw [cellsB_length, hlen] at this; exact this
      rw [hc j (by omega)]
      have hzj : zs[j]? = some (zs[j]'(by omega)) := List.getElem?_eq_getElem _
      have hb := u8_bd (hw _ (List.getElem_mem (l := zs) (n := j) (by omega)))
      rw [← hu]
      have e : (zs.take len)[j]? = some (zs[j]'(by omega)) := by rw [List.getElem?_take, if_pos hj, hzj]
      have e2 : ((zs.take len).map fun n => UInt8.ofNat n.toNat)[j]? = some (UInt8.ofNat (zs[j]'(by omega)).toNat) := by rw [List.getElem?_map, e]; rfl
      rw [cellsB_get _ _ _ e2, UInt8.toNat_ofNat']
      simp [List.getD, hzj]
      omega

def abcd : List UInt8 := [97, 98, 99, 100]

theorem one_err_cut8 (l : List UInt8) (h : l.length < 8) : OneErr l 8 := by
  intro rb w hr
  by_cases h4 : l.length < 4
  · exact one_cut4 rb l w hr (by omega) h4
  · exact one_cut8 rb l w hr (by omega) (by omega) h

set_option maxHeartbeats 1000000 in
theorem known_any (w : World) : Calls Try.prog 6 #[] w fun e w' => e = .returned (.bool true) ∧ Below w.heap.size w w' := by
  go_enter Try.func6, Try.ntmps6
  go_wp2_with fail
  refine (read_err _ [0, 0, 0, 8] [] (fun _ => [0, 0, 0, 8]) _ (BV.made w [0, 0, 0, 8] _ _ rfl (by decide)) (by decide) rfl (fun i b h => by simp at h) (by decide) 8 (by decide) (one_err_cut8 _ (by decide)) (by decide)).mono ?_
  rintro e w1 ⟨rfl, hb1⟩
  have hB1 : Below w.heap.size w w1 := ((Below.refl _ _).alloc (Nat.le_refl _) _).trans (hb1.mono (by simp))
  clear hb1
  go_wp2_with fail
  refine (write_any _ [⟨abcd, []⟩] _ (BoxesRd.made1 w1 ⟨abcd, []⟩ _ _ _ rfl (BV.nil _)) (by decide) (by decide)).mono ?_
  rintro e w2 ⟨v2, rfl, ho, hb2⟩
  have e8 : encN [⟨abcd, []⟩] = 8 := by decide
  rw [e8] at ho
  obtain ⟨a2, c2, rfl⟩ := owns_slice ho
  go_wp2_with fail
  go_ret
  exact ⟨rfl, (hB1.alloc hB1.size _).trans (hb2.mono (by simp; have := hB1.size; omega))⟩

theorem take_app (a b : List UInt8) (k : Nat) (h : a.length = k) : (a ++ b).take k = a := by subst h; simp
theorem drop_app (a b : List UInt8) (k : Nat) (h : a.length = k) : (a ++ b).drop k = b := by subst h; simp

theorem getI_small (l : List UInt8) (n : Nat) (h : beN l = n) (hn : n < 9223372036854775808) : getI l = n := by
  unfold getI
  rw [h]
  exact IntWalk.i64_in _ (by omega)

/-- a box whose length is said as nought goes to the end -/
theorem one_zero (d : List UInt8) (hd : d.length ≤ 70368744177000) : OneOk ([0, 0, 0, 0] ++ (abcd ++ d)) ⟨abcd, d⟩ [] := by
  intro rb w hr
  have e1 : ([0, 0, 0, 0] ++ (abcd ++ d)).drop 4 = abcd ++ d := rfl
  have e2 : (abcd ++ d).drop 4 = d := rfl
  have e3 : (abcd ++ d).take 4 = abcd := rfl
  have h := one_zero_ok rb _ w hr (by simp [abcd]; omega) (by simp [abcd]) (getI_small [0, 0, 0, 0] 0 rfl (by decide)) d.length (by simp [abcd])
  rw [e1, e2, e3, List.take_length, List.drop_length] at h
  exact h

/-- a length in eight bytes -/
def len8 (n : Nat) : List UInt8 := [0, 0, 0, 0, 0, 0, UInt8.ofNat (n / 256), UInt8.ofNat n]
theorem len8_val (n : Nat) (h : n < 65536) : getI (len8 n) = n := by
  have e : beN (len8 n) = n := by
    simp [beN, len8]
    omega
  unfold getI
  rw [e]
  exact IntWalk.i64_in _ (by omega)

theorem one_big (d : List UInt8) (hd : d.length ≤ 60000) : OneOk ([0, 0, 0, 1] ++ (abcd ++ (len8 (d.length + 16) ++ d))) ⟨abcd, d⟩ [] := by
  intro rb w hr
  have e1 : ([0, 0, 0, 1] ++ (abcd ++ (len8 (d.length + 16) ++ d))).drop 4 = abcd ++ (len8 (d.length + 16) ++ d) := rfl
  have e2 : (abcd ++ (len8 (d.length + 16) ++ d)).drop 4 = len8 (d.length + 16) ++ d := rfl
  have e3 : (abcd ++ (len8 (d.length + 16) ++ d)).take 4 = abcd := rfl
  have e4 : (len8 (d.length + 16) ++ d).take 8 = len8 (d.length + 16) := rfl
  have e5 : (len8 (d.length + 16) ++ d).drop 8 = d := rfl
  have h := one_big_ok rb _ w hr (by simp [abcd, len8]; omega) (by simp [abcd, len8]) (getI_small [0, 0, 0, 1] 1 rfl (by decide)) ((d.length + 16 : Nat) : Int) (by rw [e1, e2, e4]; exact len8_val _ (by omega)) (by omega) d.length (by omega) (by simp [abcd, len8]; omega)
  rw [e1, e2, e3, e5, List.take_length, List.drop_length] at h
  exact h
end Go.Proofs.Ythmdgbplfdofiaa
