/- The walk of the law BoxesMany. -/
import Derived.Test.YthmdgbplfdofiaaBxL
namespace Go.Proofs.Ythmdgbplfdofiaa
open Go.RowKit

theorem put4_val (n : Nat) (h : n < 4294967296) : getI (putB 4 (n : Int)) = n := by
  refine getI_small _ n ?_ (by omega)
  have e : ((n : Int) % 18446744073709551616).toNat = n := by omega
  simp [putB, putTo, List.range_succ, beN, e]
  omega

theorem one_plain (b : BoxD) (tail : List UInt8) (hk : b.kind.length = 4) (hd : b.data.length ≤ 1000000) (ht : tail.length ≤ 1000000000) : OneOk (encBox b ++ tail) b tail := by
  intro rb w hr
  have hp : (putB 4 ((8 : Int) + b.data.length)).length = 4 := putB_length _ _
  have e0 : encBox b ++ tail = putB 4 ((8 : Int) + b.data.length) ++ (b.kind ++ (b.data ++ tail)) := by simp [encBox]
  rw [e0] at hr
  have e1 : (putB 4 ((8 : Int) + b.data.length) ++ (b.kind ++ (b.data ++ tail))).drop 4 = b.kind ++ (b.data ++ tail) := drop_app _ _ 4 hp
  have e2 : (b.kind ++ (b.data ++ tail)).drop 4 = b.data ++ tail := drop_app _ _ 4 hk
  have e3 : (b.kind ++ (b.data ++ tail)).take 4 = b.kind := take_app _ _ 4 hk
  have e4 : (putB 4 ((8 : Int) + b.data.length) ++ (b.kind ++ (b.data ++ tail))).take 4 = putB 4 ((8 : Int) + b.data.length) := take_app _ _ 4 hp
  have ev : getI (putB 4 ((8 : Int) + b.data.length)) = ((8 + b.data.length : Nat) : Int) := by
    have := put4_val (8 + b.data.length) (by omega)
    rw [← this]
    simp
  have h := one_plain_ok rb _ w hr (by simp [hp, hk]; omega) (by simp [hp, hk]; omega) ((8 + b.data.length : Nat) : Int) (by rw [e4]; exact ev) (by omega) b.data.length (by omega) (by simp [hp, hk]; omega)
  rw [e1, e2, e3, take_app _ _ _ rfl, drop_app _ _ _ rfl] at h
  exact h

/-- what is left behind i boxes -/
def restOf (bs : List BoxD) (i : Nat) : List UInt8 := (bs.drop i).flatMap encBox
theorem restOf_steps (bs : List BoxD) (h : ∀ b ∈ bs, b.kind.length = 4 ∧ b.data.length ≤ 1000000) (hN : encN bs ≤ 1000000000) : Steps bs (restOf bs) := by
  intro i b hb
  have hd : bs.drop i = b :: bs.drop (i + 1) := by
    obtain ⟨hl, rfl⟩ := List.getElem?_eq_some_iff.1 hb
    exact List.drop_eq_getElem_cons hl
  have hm := h b (List.mem_of_getElem? hb)
  have e : restOf bs i = encBox b ++ restOf bs (i + 1) := by unfold restOf; rw [hd]; simp
  have hl : (restOf bs (i + 1)).length ≤ encN bs := by
    unfold restOf encN
    have e2 : bs = bs.take (i + 1) ++ bs.drop (i + 1) := (List.take_append_drop _ _).symm
    conv => rhs; rw [e2]
    rw [List.flatMap_append, List.length_append]
    omega
  rw [e]
  exact ⟨by simp [encBox, putB_length]; omega, one_plain b _ hm.1 hm.2 (by omega)⟩

theorem BoxesOwn.at_ {w : World} {B : Nat} {v : Value} {b : BoxD} {bs : List BoxD} {i : Nat} (h : BoxesOwn w B v bs) (hi : bs[i]? = some b) :
    ∃ g c a2 c2, v = .slice (some ⟨g, 0, none⟩) bs.length c ∧ bs.length ≤ c ∧ c ≤ maxLen ∧ w.cell? ⟨g, i * 2, none⟩ = some (strV b.kind) ∧ w.cell? ⟨g, i * 2 + 1, none⟩ = some (.slice a2 b.data.length c2) ∧ BV w (.slice a2 b.data.length c2) b.data := by
  obtain ⟨dvs, hd, ho, hs⟩ := h
  have hil := (List.getElem?_eq_some_iff.1 hi).1
  have hdv : dvs[i]? = some (dvs[i]'(by omega)) := List.getElem?_eq_getElem _
  generalize dvs[i]'(by omega) = dv at hdv
  have h0 := hs i b dv hi hdv
  obtain ⟨a2, c2, rfl⟩ := owns_slice h0
  obtain ⟨a, c, hv, hn, hm, -⟩ := Rd.of_owns ho
  obtain ⟨g, cap, hv2, -, -⟩ := ho.form (by omega)
  have hf := boxFlat_get bs dvs i b _ hi hdv
  have add : ∀ j, (⟨g, 0, none⟩ : Addr).add j = ⟨g, j, none⟩ := fun j => by unfold Addr.add; split <;> simp_all
  have k0 := ho.cells (g := g) (by rw [hv2]; rfl) (i * 2 + 0) (strV b.kind) ((hf 0 (by decide)).trans rfl)
  have k1 := ho.cells (g := g) (by rw [hv2]; rfl) (i * 2 + 1) (.slice a2 b.data.length c2) ((hf 1 (by decide)).trans rfl)
  rw [add] at k0 k1
  rw [hv] at hv2
  injection hv2 with e1 e2 e3
  subst e1 e3
  exact ⟨g, c, a2, c2, hv, hn, hm, k0, k1, BV.of_owns h0⟩

def free : List UInt8 := [102, 114, 101, 101]
def manyBs (n : Nat) : List BoxD := (List.range n).map fun k => ⟨free, [UInt8.ofNat k]⟩
theorem manyBs_succ (n : Nat) : manyBs (n + 1) = manyBs n ++ [⟨free, [UInt8.ofNat n]⟩] := by simp [manyBs, List.range_succ]
theorem manyBs_length (n : Nat) : (manyBs n).length = n := by simp [manyBs]
theorem manyBs_ok (n : Nat) : ∀ b ∈ manyBs n, b.kind.length = 4 ∧ b.data.length ≤ 1000000 := by
  intro b hb
  simp only [manyBs, List.mem_map] at hb
  obtain ⟨k, -, rfl⟩ := hb
  exact ⟨rfl, by simp⟩
theorem manyBs_enc : ∀ n : Nat, encN (manyBs n) = n * 9
  | 0 => rfl
  | n + 1 => by
    have ih := manyBs_enc n
    unfold encN at *
    have e : (List.flatMap encBox [⟨free, [UInt8.ofNat n]⟩]).length = 9 := by simp [encBox, putB_length, free]
    rw [manyBs_succ, List.flatMap_append, List.length_append, ih, e]
    omega

set_option maxRecDepth 100000 in
set_option maxHeartbeats 1000000 in
theorem many_any (x : Int) (w : World) : Calls Try.prog 4 #[.int .i64 x] w fun e w' => e = .returned (.bool true) ∧ Below w.heap.size w w' := by
  obtain ⟨i0, hi, hz0, hz1, hz2⟩ := info_parts infoU8
  obtain ⟨i1, ci, cz0, cz1, cz2⟩ := info_parts infoBox
  go_enter Try.func4, Try.ntmps4
  go_wp2_with fail
  refine (known_any _).mono ?_
  rintro e w1 ⟨rfl, hb1⟩
  go_wp2_with fail
  refine (lwithin x 7 _ (by omega) (by omega)).mono ?_
  rintro e w' ⟨rfl, rfl⟩
  obtain ⟨M, hM⟩ : ∃ M : Nat, x % 7 = (M : Int) - 96 := ⟨(x % 7 + 96).toNat, by omega⟩
  have hM1 : 96 ≤ M ∧ M ≤ 102 := by omega
  rw [hM]
  obtain ⟨hM2, hM3⟩ := hM1
  clear hM
  go_wp2_with fail
  rw [show (97 + ((M : Int) - 96)) = (M : Int) + 1 from by omega]
  go_loopg [3, 4] (M + 1) (fun g s3 s4 wx => ∃ k : Nat, k ≤ M + 1 ∧ g = M + 1 - k ∧ s4 = .int .i64 k ∧ BoxesOwn wx w1.heap.size s3 (manyBs k) ∧ Below w1.heap.size w1 wx)
  case atStart => exact ⟨0, Nat.zero_le _, rfl, rfl, BoxesOwn.nil _ _, Below.refl _ _⟩
  case round =>
    obtain ⟨wa, rfl⟩ : ∃ wa : World, wa = wr := ⟨_, rfl⟩
    obtain ⟨k, hk, rfl, rfl, hown, hb⟩ := hrel
    have HO := Lib.hid hown
    obtain ⟨dvs, hdl, ho, hds⟩ := hown
    have HDS := Lib.hid (And.intro hdl (And.intro ho hds))
    rw [manyBs_length] at ho
    obtain ⟨a2, c2, rfl⟩ := owns_slice ho
    have hszb := hb.size
    clear hdl hds
    by_cases hlt : k < M + 1
    · have hu : (UInt8.ofNat k).toNat = k := by rw [UInt8.toNat_ofNat']; omega
      have HU := Lib.hid hu
      clear hu
      have hvlt : ∀ j, (Value.slice a2 k c2).ownBlock = some j → w1.heap.size ≤ j := fun j hj => (ho.lt j hj).1
      go_wp2_with (at_builtin; go_must (refine wpList_append_own _ rfl _ _ 26 rfl w1.heap.size 31 i1 (.agg #[.string ⟨#[]⟩, .slice none 0 0]) 2 40 Try.underlying26 ci cz0 cz1 cz2 rfl (by decide) _ _ _ rfl ((ho.alloc _).alloc _) ⟨wa.heap.size + 1, 0, none⟩ 1 1 [.string ⟨#[102, 114, 101, 101]⟩, .slice (some ⟨wa.heap.size, 0, none⟩) 1 1] rfl rfl (news_block2 wa _ #[_, _] _) (by simp [Value.oneCell']) (by unfold maxLen; omega) (by omega) (by simp; omega) ?_; intro v7 w7 hown7 hg7 hn7; obtain ⟨a7, p7, rfl⟩ := owns_slice hown7))
      go_roundg (M + 1 - (k + 1))
      case measure => omega
      case rel =>
        obtain ⟨hdl, ho', hds⟩ := HDS.out
        have hbel : Below w1.heap.size _ w7 := below_grown hg7 (by simp; omega) (fun j hj => hvlt j hj)
        refine ⟨k + 1, hlt, rfl, by go_num, ?_, ((hb.alloc hb.size _).alloc (by simp; omega) _).trans hbel⟩
        rw [manyBs_succ]
        refine BoxesOwn.snoc (b := ⟨free, [UInt8.ofNat k]⟩) (dv := .slice (some ⟨wa.heap.size, 0, none⟩) 1 1) hdl ((ho'.alloc _).alloc _) (fun j b dv hb hd => ((hds j b dv hb hd).alloc _).alloc _) ?_ (by rw [manyBs_length]; exact hown7) hg7
        have hl := own_lit wa #[.int .u8 k] 5 1 _ (base := w1.heap.size) rfl rfl hszb (by decide)
        have e : cellsB [UInt8.ofNat k] = [.int .u8 k] := by simp [cellsB]; omega
        show World.ownsRow _ _ _ 1 _ 1 (cellsB [UInt8.ofNat k])
        rw [e]
        exact hl.alloc _
    · obtain rfl : k = M + 1 := by omega
      go_wp2_with fail
      refine (write_any _ (manyBs (M + 1)) _ HO.out.rd (by rw [manyBs_enc]; omega) (by rw [manyBs_length]; omega)).mono ?_
      rintro e w2 ⟨v2, rfl, ho2, hb2⟩
      have hB2 : Below w.heap.size w w2 := hb1.trans ((hb.mono hb1.size).trans (hb2.mono (Nat.le_trans hb1.size hb.size)))
      have hbv : BV w2 v2 (encTo (manyBs (M + 1)) (manyBs (M + 1)).length) := by
        have e : (encTo (manyBs (M + 1)) (manyBs (M + 1)).length).length = encN (manyBs (M + 1)) := by unfold encTo encN; rw [List.take_length]
        rw [← e] at ho2
        exact BV.of_owns ho2
      have e0 : restOf (manyBs (M + 1)) 0 = encTo (manyBs (M + 1)) (manyBs (M + 1)).length := by unfold restOf encTo; rw [List.take_length, List.drop_zero]
      have e1 : restOf (manyBs (M + 1)) (manyBs (M + 1)).length = [] := by unfold restOf; rw [List.drop_length]; rfl
      have hlen : (encTo (manyBs (M + 1)) (manyBs (M + 1)).length).length ≤ 140737488355328 := by have := encTo_len (manyBs (M + 1)) (manyBs (M + 1)).length; rw [manyBs_enc] at this; omega
      have hst := restOf_steps (manyBs (M + 1)) (manyBs_ok _) (by rw [manyBs_enc]; omega)
      obtain ⟨a3, c3, rfl⟩ := owns_slice ho2
      have HBV := Lib.hid hbv
      have HE0 := Lib.hid e0
      have HE1 := Lib.hid e1
      have HST := Lib.hid hst
      clear ho2 hbv e0 e1 hst ho
      by_cases h100 : 100 < M + 1
      · have d1 : decide ((100 : Int) < (M : Int) + 1) = true := by simp; omega
        go_wp2_with fail
        refine (read_many _ _ _ (restOf (manyBs (M + 1))) _ HBV.out hlen HE0.out HST.out (by rw [manyBs_length]; omega) HE1.out (by rw [manyBs_length]; exact h100)).mono ?_
        rintro e w3 ⟨rfl, hb3⟩
        go_wp2_with fail
        go_ret
        exact ⟨rfl, hB2.trans (hb3.mono hB2.size)⟩
      · have d1 : decide ((100 : Int) < (M : Int) + 1) = false := by simp; omega
        go_wp2_with fail
        refine (read_ok _ _ _ (restOf (manyBs (M + 1))) _ HBV.out hlen HE0.out HST.out (by rw [manyBs_length]; omega) HE1.out (by rw [manyBs_length]; omega)).mono ?_
        rintro e w3 ⟨v3, rfl, ho3, hb3⟩
        have hgm : (manyBs (M + 1))[M]? = some ⟨free, [UInt8.ofNat M]⟩ := by simp [manyBs]
        obtain ⟨g, c4, a5, c5, rfl, g1, g2, k0, k1, k2⟩ := ho3.at_ hgm
        obtain ⟨A6, c6, e6, -, -, hr6⟩ := k2
        injection e6 with e7 e8 e9
        subst e7 e9
        have hr7 := hr6.plain (by simp) (by decide)
        obtain ⟨b8, o8, rfl, -, hc8⟩ := hr7
        have k3 := hc8 0 (.int .u8 ((UInt8.ofNat M).toNat : Int)) rfl
        have hu : (UInt8.ofNat M).toNat = M := by rw [UInt8.toNat_ofNat']; omega
        rw [hu, Nat.add_zero] at k3
        simp only [List.length_singleton] at k1
        rw [manyBs_length] at g1 ⊢
        unfold maxLen at g2
        have z1 : (M : Int) < ((M + 1 : Nat) : Int) := by omega
        have z0 : (0 : Int) ≤ M := by omega
        clear hu hc8 hr6 ho3 hgm e8
        go_wp2_with fail
        go_ret
        exact ⟨rfl, hB2.trans (hb3.mono hB2.size)⟩
end Go.Proofs.Ythmdgbplfdofiaa
