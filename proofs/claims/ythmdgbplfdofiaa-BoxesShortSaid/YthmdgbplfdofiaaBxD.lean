/- slices.Clone of boxes; wavelet/boxes: Read. -/
import Derived.Test.YthmdgbplfdofiaaBxC
namespace Go.Proofs.Ythmdgbplfdofiaa
open Go.RowKit

theorem infoBox : (Try.prog.info? 31).map (fun i => (i.zero, i.size, i.bytes)) = some (some (.agg #[.string ⟨#[]⟩, .slice none 0 0]), 2, 40) := by kernel_rfl

theorem cloneX (A : Option Addr) (n c : Nat) (xs : List Value) (w : World) (hr : Reads w w.heap.size 2 A n xs) (h1 : ∀ u ∈ xs, u.oneCell' = true) (hn : n ≤ 1000000000) :
    Calls Try.prog 14 #[.slice A n c] w fun e w' => ∃ v, e = .returned v ∧ w'.ownsRow w.heap.size 31 2 v n xs ∧ Below w.heap.size w w' := by
  obtain ⟨i0, hi, hz0, hz1, hz2⟩ := info_parts infoBox
  have hq : ∀ W, (binOp .eql 26 (.slice A n c) (.slice none 0 0)).run Try.prog W = .ok (.bool A.isNone) W := fun W => Lib.run_eql_slice_nil W 26 31 A n c 0 0 Try.underlying26
  rcases A with _ | ad
  · have h0 : n = 0 := by
      rcases Nat.eq_zero_or_pos n with h | h
      · exact h
      · obtain ⟨_, h, _⟩ := hr.2 h; cases h
    subst h0
    have hx : xs = [] := List.eq_nil_of_length_eq_zero (by simpa using hr.1)
    subst hx
    go_enter Try.func14, Try.ntmps14
    go_wp2
    go_ret
    exact ⟨_, rfl, World.ownsRow_nil _ _ _ _, Below.refl _ _⟩
  · go_enter Try.func14, Try.ntmps14
    go_wp2_with (at_builtin; go_must (refine wpList_append_any _ rfl (.tmp 5) (.tmp 6) 26 rfl w.heap.size 31 i0 (.agg #[.string ⟨#[]⟩, .slice none 0 0]) 2 40 Try.underlying26 hi hz0 hz1 hz2 rfl (by decide) (.slice (some ⟨w.heap.size, 0, none⟩) 0 0) 0 [] rfl (own_empty w 31 2 (Nat.le_refl _)) w.heap.size (some ad) n c xs rfl (hr.alloc (Nat.le_refl _) _) h1 (by unfold maxLen; omega) (by omega) (by simp) ?_; intro v' w1 hown hgr hat; obtain ⟨a1, c1, rfl⟩ := owns_slice hown))
    go_ret
    exact ⟨_, rfl, by simpa using hown, ((Below.refl _ _).alloc (Nat.le_refl _) _).trans (below_grown hgr (by simp) (fun k hk => by simp [Value.ownBlock] at hk; omega))⟩

theorem boxFlat_one : ∀ (bs : List BoxD) (dvs : List Value), (∀ dv ∈ dvs, dv.oneCell' = true) → ∀ u ∈ boxFlat bs dvs, u.oneCell' = true
  | [], _, _, u, hu => by simp [boxFlat] at hu
  | _ :: _, [], _, u, hu => by simp [boxFlat] at hu
  | b :: bs, d :: dvs, h, u, hu => by
    have ih := boxFlat_one bs dvs (fun x hx => h x (List.mem_cons_of_mem _ hx)) u
    unfold boxFlat at hu ih
    simp only [List.zipWith_cons_cons, List.flatten_cons, List.mem_append] at hu
    rcases hu with hu | hu
    · simp [boxCells] at hu
      rcases hu with rfl | rfl
      · rfl
      · exact h _ (List.mem_cons_self)
    · exact ih hu

theorem news_block2 (w : World) (o : Obj) (arr : Array Value) (t : TypeId) : ∀ (j : Nat) u, arr.toList[j]? = some u → ((w.alloc o).alloc (.cells arr t)).cell? ((⟨w.heap.size + 1, 0, none⟩ : Addr).add j) = some u := by
  have h := news_block (w.alloc o) arr t
  have e : (w.alloc o).heap.size = w.heap.size + 1 := by simp
  rw [e] at h
  exact h

/-- what one answers to a reader of these bytes -/
def OneOk (l : List UInt8) (b : BoxD) (l' : List UInt8) : Prop :=
  ∀ rb w, Rdr w rb l 0 → Calls Try.prog 13 #[.pointer (some ⟨rb, 0, none⟩)] w fun e w' => ∃ a c, e = .returned (.tuple #[.agg #[strV b.kind, .slice a b.data.length c], .int .i64 0]) ∧
    w'.ownsRow w.heap.size 5 1 (.slice a b.data.length c) b.data.length (cellsB b.data) ∧ Rdr w' rb l' 0 ∧ w.grownBy w' (some rb)
def OneErr (l : List UInt8) (c : Int) : Prop :=
  ∀ rb w, Rdr w rb l 0 → Calls Try.prog 13 #[.pointer (some ⟨rb, 0, none⟩)] w fun e w' => e = .returned (.tuple #[noBox, .int .i64 c]) ∧ w.grownBy w' (some rb)

/-- the bytes l are read as these boxes; what is left behind i of them -/
def Steps (bs : List BoxD) (rest : Nat → List UInt8) : Prop := ∀ (i : Nat) b, bs[i]? = some b → 0 < (rest i).length ∧ OneOk (rest i) b (rest (i + 1))

theorem BoxesOwn.one {w : World} {B : Nat} {bs : List BoxD} {dvs : List Value} (hd : dvs.length = bs.length) (h : ∀ (i : Nat) b dv, bs[i]? = some b → dvs[i]? = some dv → w.ownsRow B 5 1 dv b.data.length (cellsB b.data)) : ∀ dv ∈ dvs, dv.oneCell' = true := by
  intro dv hdv
  obtain ⟨i, hi⟩ := List.getElem?_of_mem hdv
  have hil := (List.getElem?_eq_some_iff.1 hi).1
  obtain ⟨a, c, rfl⟩ := owns_slice (h i _ dv (List.getElem?_eq_getElem (by omega)) hi)
  rfl

set_option maxRecDepth 100000 in
set_option maxHeartbeats 1000000 in
theorem read_ok (v : Value) (l : List UInt8) (bs : List BoxD) (rest : Nat → List UInt8) (w : World) (hv : BV w v l) (hl : l.length ≤ 140737488355328) (h0 : rest 0 = l) (hst : Steps bs rest) (hN : bs.length ≤ 1000000) (hend : rest bs.length = []) (hle : bs.length ≤ 100) :
    Calls Try.prog 8 #[v] w fun e w' => ∃ v', e = .returned (.tuple #[v', .int .i64 0]) ∧ BoxesOwn w' w.heap.size v' bs ∧ Below w.heap.size w w' := by
  obtain ⟨i1, ci, cz0, cz1, cz2⟩ := info_parts infoBox
  have HV := Lib.hid hv
  obtain ⟨A, c, rfl, -, -, -⟩ := hv
  have H0 := Lib.hid h0
  have HS := Lib.hid hst
  have HEND := Lib.hid hend
  clear hend
  clear h0 hst
  go_enter Try.func8, Try.ntmps8
  go_wp2_with fail
  refine (new_any _ l w HV.out hl).mono ?_
  rintro e w1 ⟨rb, rfl, hrb, hr1, hb1⟩
  rw [← H0.out] at hr1
  have hrl := hr1.lt
  have HR1 := Lib.hid hr1
  clear hr1
  go_wp2_with fail
  go_loopg [5] (bs.length + 1) (fun g s5 wx => ∃ i : Nat, i ≤ bs.length ∧ g = bs.length + 1 - i ∧ BoxesOwn wx w1.heap.size s5 (bs.take i) ∧ Rdr wx rb (rest i) 0 ∧ w1.grownBy wx (some rb))
  case atStart => exact ⟨0, Nat.zero_le _, rfl, BoxesOwn.nil _ _, HR1.out, World.grownBy.refl _ _⟩
  case round =>
    obtain ⟨wa, rfl⟩ : ∃ wa : World, wa = wr := ⟨_, rfl⟩
    obtain ⟨i, hi, rfl, hown, hr, hg⟩ := hrel
    have HR := Lib.hid hr
    have HO := Lib.hid hown
    obtain ⟨dvs, hdl, ho, hds⟩ := hown
    have hln : (bs.take i).length = i := by rw [List.length_take]; omega
    rw [hln] at ho
    obtain ⟨a2, c2, rfl⟩ := owns_slice ho
    have hszg := hg.size
    clear hr ho hds hdl hln
    by_cases hlt : i < bs.length
    · obtain ⟨bx, hbx⟩ : ∃ x, bs[i]? = some x := ⟨_, List.getElem?_eq_getElem hlt⟩
      obtain ⟨hpos, hone⟩ := HS.out i bx hbx
      have HONE := Lib.hid hone
      have htk : bs.take (i + 1) = bs.take i ++ [bx] := by rw [List.take_add_one, hbx]; rfl
      have HTK := Lib.hid htk
      clear hone htk hbx
      go_wp2_with fail
      refine (left_any rb (rest i) 0 _ HR.out).mono ?_
      rintro e w' ⟨rfl, rfl⟩
      rw [leftI_ok]
      go_wp2_with fail
      refine (HONE.out rb _ HR.out).mono ?_
      rintro e w3 ⟨a3, c3, rfl, ho3, hr3, hg3⟩
      have HR3 := Lib.hid hr3
      have HO3 := Lib.hid ho3
      have hg13 := grown_trans hg hg3
      obtain ⟨dvs, hdl, ho4, hds4⟩ := HO.out.only hg3 (by omega)
      have hln : (bs.take i).length = i := by rw [List.length_take]; omega
      have HD := Lib.hid (And.intro hdl hds4)
      have HO4 := Lib.hid ho4
      rw [hln] at ho4
      have hsz3 := hg3.size
      have hvlt : ∀ j, (Value.slice a2 i c2).ownBlock = some j → w1.heap.size ≤ j := fun j hj => (ho4.lt j hj).1
      clear hr3 ho3 hdl hds4 hln
      unfold strV
      go_wp2_with (at_builtin; go_must (refine wpList_append_own _ rfl _ _ 26 rfl w1.heap.size 31 i1 (.agg #[.string ⟨#[]⟩, .slice none 0 0]) 2 40 Try.underlying26 ci cz0 cz1 cz2 rfl (by decide) _ _ _ rfl ((ho4.alloc _).alloc _) ⟨w3.heap.size + 1, 0, none⟩ 1 1 [.string ⟨bx.kind.toArray⟩, .slice a3 bx.data.length c3] rfl rfl (news_block2 w3 _ #[_, _] _) (by simp [Value.oneCell']) (by unfold maxLen; omega) (by omega) (by simp; omega) ?_; intro v7 w7 hown7 hg7 hn7; obtain ⟨a7, p7, rfl⟩ := owns_slice hown7))
      go_roundg (bs.length + 1 - (i + 1))
      case measure => omega
      case rel =>
        have hal : Below w3.heap.size w3 ((w3.alloc (.cells #[.string ⟨bx.kind.toArray⟩, .slice a3 bx.data.length c3] 31)).alloc (.cells #[.string ⟨bx.kind.toArray⟩, .slice a3 bx.data.length c3] 31)) := ((Below.refl _ _).alloc (Nat.le_refl _) _).alloc (by simp) _
        have hbel : Below w1.heap.size _ w7 := below_grown hg7 (by simp; omega) (fun j hj => hvlt j hj)
        have hln : (bs.take i).length = i := by rw [List.length_take]; omega
        refine ⟨i + 1, hlt, rfl, ?_, ?_, ?_⟩
        · rw [HTK.out]
          refine BoxesOwn.snoc HD.out.1 ((HO4.out.alloc _).alloc _) (fun j b dv hb hd => ((HD.out.2 j b dv hb hd).alloc _).alloc _) (dv := .slice a3 bx.data.length c3) ?_ (by rw [hln]; exact hown7) hg7
          exact owns_base ((HO3.out.alloc _).alloc _) (by omega)
        · exact (HR3.out.keep hal).below (B := w1.heap.size) hbel hrl
        · refine ⟨hbel.os.trans hg13.os, hbel.tape.trans hg13.tape, hbel.output.trans hg13.output, Nat.le_trans hg13.size (by have := hbel.size; simp at this; omega), fun k hk hne => ?_⟩
          exact (hbel.block k hk).trans ((hal.block k (by omega)).trans (hg13.block k hk hne))
    · obtain rfl : i = bs.length := by omega
      have HE := Lib.hid (show (rest bs.length).length = 0 by rw [HEND.out]; rfl)
      go_wp2_with fail
      refine (left_any rb (rest bs.length) 0 _ HR.out).mono ?_
      rintro e w' ⟨rfl, rfl⟩
      rw [leftI_ok, HE.out]
      have hd0 : decide ((100 : Int) < (bs.length : Int)) = false := by simp; omega
      go_wp2_with fail
      obtain ⟨dvs, hdl, ho, hds⟩ := HO.out
      rw [List.take_length] at hdl ho hds
      have hr5 := Reads.of_own ho
      have h15 := boxFlat_one bs dvs (BoxesOwn.one hdl hds)
      refine (cloneX a2 _ c2 _ _ hr5 h15 (by omega)).mono ?_
      rintro e w5 ⟨v5, rfl, ho5, hb5⟩
      obtain ⟨a5, c5, rfl⟩ := owns_slice ho5
      go_wp2_with fail
      go_ret2
      have hB : Below w.heap.size w wa := hb1.trans (below_grown hg (by omega) (fun j hj => by simp at hj; omega))
      exact ⟨_, rfl, ⟨dvs, hdl, owns_base ho5 hB.size, fun j b dv hb hd => owns_base (owns_keepAll (hds j b dv hb hd) hb5) hb1.size⟩, hB.trans (hb5.mono hB.size)⟩

set_option maxRecDepth 100000 in
set_option maxHeartbeats 1000000 in
theorem read_many (v : Value) (l : List UInt8) (bs : List BoxD) (rest : Nat → List UInt8) (w : World) (hv : BV w v l) (hl : l.length ≤ 140737488355328) (h0 : rest 0 = l) (hst : Steps bs rest) (hN : bs.length ≤ 1000000) (hend : rest bs.length = []) (hle : 100 < bs.length) :
    Calls Try.prog 8 #[v] w fun e w' => e = .returned (.tuple #[.slice none 0 0, .int .i64 4]) ∧ Below w.heap.size w w' := by
  obtain ⟨i1, ci, cz0, cz1, cz2⟩ := info_parts infoBox
  have HV := Lib.hid hv
  obtain ⟨A, c, rfl, -, -, -⟩ := hv
  have H0 := Lib.hid h0
  have HS := Lib.hid hst
  have HEND := Lib.hid hend
  clear hend
  clear h0 hst
  go_enter Try.func8, Try.ntmps8
  go_wp2_with fail
  refine (new_any _ l w HV.out hl).mono ?_
  rintro e w1 ⟨rb, rfl, hrb, hr1, hb1⟩
  rw [← H0.out] at hr1
  have hrl := hr1.lt
  have HR1 := Lib.hid hr1
  clear hr1
  go_wp2_with fail
  go_loopg [5] (bs.length + 1) (fun g s5 wx => ∃ i : Nat, i ≤ bs.length ∧ g = bs.length + 1 - i ∧ BoxesOwn wx w1.heap.size s5 (bs.take i) ∧ Rdr wx rb (rest i) 0 ∧ w1.grownBy wx (some rb))
  case atStart => exact ⟨0, Nat.zero_le _, rfl, BoxesOwn.nil _ _, HR1.out, World.grownBy.refl _ _⟩
  case round =>
    obtain ⟨wa, rfl⟩ : ∃ wa : World, wa = wr := ⟨_, rfl⟩
    obtain ⟨i, hi, rfl, hown, hr, hg⟩ := hrel
    have HR := Lib.hid hr
    have HO := Lib.hid hown
    obtain ⟨dvs, hdl, ho, hds⟩ := hown
    have hln : (bs.take i).length = i := by rw [List.length_take]; omega
    rw [hln] at ho
    obtain ⟨a2, c2, rfl⟩ := owns_slice ho
    have hszg := hg.size
    clear hr ho hds hdl hln
    by_cases hlt : i < bs.length
    · obtain ⟨bx, hbx⟩ : ∃ x, bs[i]? = some x := ⟨_, List.getElem?_eq_getElem hlt⟩
      obtain ⟨hpos, hone⟩ := HS.out i bx hbx
      have HONE := Lib.hid hone
      have htk : bs.take (i + 1) = bs.take i ++ [bx] := by rw [List.take_add_one, hbx]; rfl
      have HTK := Lib.hid htk
      clear hone htk hbx
      go_wp2_with fail
      refine (left_any rb (rest i) 0 _ HR.out).mono ?_
      rintro e w' ⟨rfl, rfl⟩
      rw [leftI_ok]
      go_wp2_with fail
      refine (HONE.out rb _ HR.out).mono ?_
      rintro e w3 ⟨a3, c3, rfl, ho3, hr3, hg3⟩
      have HR3 := Lib.hid hr3
      have HO3 := Lib.hid ho3
      have hg13 := grown_trans hg hg3
      obtain ⟨dvs, hdl, ho4, hds4⟩ := HO.out.only hg3 (by omega)
      have hln : (bs.take i).length = i := by rw [List.length_take]; omega
      have HD := Lib.hid (And.intro hdl hds4)
      have HO4 := Lib.hid ho4
      rw [hln] at ho4
      have hsz3 := hg3.size
      have hvlt : ∀ j, (Value.slice a2 i c2).ownBlock = some j → w1.heap.size ≤ j := fun j hj => (ho4.lt j hj).1
      clear hr3 ho3 hdl hds4 hln
      unfold strV
      go_wp2_with (at_builtin; go_must (refine wpList_append_own _ rfl _ _ 26 rfl w1.heap.size 31 i1 (.agg #[.string ⟨#[]⟩, .slice none 0 0]) 2 40 Try.underlying26 ci cz0 cz1 cz2 rfl (by decide) _ _ _ rfl ((ho4.alloc _).alloc _) ⟨w3.heap.size + 1, 0, none⟩ 1 1 [.string ⟨bx.kind.toArray⟩, .slice a3 bx.data.length c3] rfl rfl (news_block2 w3 _ #[_, _] _) (by simp [Value.oneCell']) (by unfold maxLen; omega) (by omega) (by simp; omega) ?_; intro v7 w7 hown7 hg7 hn7; obtain ⟨a7, p7, rfl⟩ := owns_slice hown7))
      go_roundg (bs.length + 1 - (i + 1))
      case measure => omega
      case rel =>
        have hal : Below w3.heap.size w3 ((w3.alloc (.cells #[.string ⟨bx.kind.toArray⟩, .slice a3 bx.data.length c3] 31)).alloc (.cells #[.string ⟨bx.kind.toArray⟩, .slice a3 bx.data.length c3] 31)) := ((Below.refl _ _).alloc (Nat.le_refl _) _).alloc (by simp) _
        have hbel : Below w1.heap.size _ w7 := below_grown hg7 (by simp; omega) (fun j hj => hvlt j hj)
        have hln : (bs.take i).length = i := by rw [List.length_take]; omega
        refine ⟨i + 1, hlt, rfl, ?_, ?_, ?_⟩
        · rw [HTK.out]
          refine BoxesOwn.snoc HD.out.1 ((HO4.out.alloc _).alloc _) (fun j b dv hb hd => ((HD.out.2 j b dv hb hd).alloc _).alloc _) (dv := .slice a3 bx.data.length c3) ?_ (by rw [hln]; exact hown7) hg7
          exact owns_base ((HO3.out.alloc _).alloc _) (by omega)
        · exact (HR3.out.keep hal).below (B := w1.heap.size) hbel hrl
        · refine ⟨hbel.os.trans hg13.os, hbel.tape.trans hg13.tape, hbel.output.trans hg13.output, Nat.le_trans hg13.size (by have := hbel.size; simp at this; omega), fun k hk hne => ?_⟩
          exact (hbel.block k hk).trans ((hal.block k (by omega)).trans (hg13.block k hk hne))
    · obtain rfl : i = bs.length := by omega
      have HE := Lib.hid (show (rest bs.length).length = 0 by rw [HEND.out]; rfl)
      go_wp2_with fail
      refine (left_any rb (rest bs.length) 0 _ HR.out).mono ?_
      rintro e w' ⟨rfl, rfl⟩
      rw [leftI_ok, HE.out]
      have hd0 : decide ((100 : Int) < (bs.length : Int)) = true := by simp; omega
      go_wp2_with fail
      go_ret2
      exact ⟨rfl, hb1.trans (below_grown hg (by omega) (fun j hj => by simp at hj; omega))⟩

set_option maxRecDepth 100000 in
set_option maxHeartbeats 1000000 in
theorem read_err (v : Value) (l : List UInt8) (bs : List BoxD) (rest : Nat → List UInt8) (w : World) (hv : BV w v l) (hl : l.length ≤ 140737488355328) (h0 : rest 0 = l) (hst : Steps bs rest) (hN : bs.length ≤ 1000000) (er : Int) (hpos : 0 < (rest bs.length).length) (hend : OneErr (rest bs.length) er) (hne : er ≠ 0) :
    Calls Try.prog 8 #[v] w fun e w' => e = .returned (.tuple #[.slice none 0 0, .int .i64 er]) ∧ Below w.heap.size w w' := by
  obtain ⟨i1, ci, cz0, cz1, cz2⟩ := info_parts infoBox
  have HV := Lib.hid hv
  obtain ⟨A, c, rfl, -, -, -⟩ := hv
  have H0 := Lib.hid h0
  have HS := Lib.hid hst
  have HEND := Lib.hid hend
  clear hend
  have hne2 : (er != 0) = true := by simpa using hne
  clear h0 hst
  go_enter Try.func8, Try.ntmps8
  go_wp2_with fail
  refine (new_any _ l w HV.out hl).mono ?_
  rintro e w1 ⟨rb, rfl, hrb, hr1, hb1⟩
  rw [← H0.out] at hr1
  have hrl := hr1.lt
  have HR1 := Lib.hid hr1
  clear hr1
  go_wp2_with fail
  go_loopg [5] (bs.length + 1) (fun g s5 wx => ∃ i : Nat, i ≤ bs.length ∧ g = bs.length + 1 - i ∧ BoxesOwn wx w1.heap.size s5 (bs.take i) ∧ Rdr wx rb (rest i) 0 ∧ w1.grownBy wx (some rb))
  case atStart => exact ⟨0, Nat.zero_le _, rfl, BoxesOwn.nil _ _, HR1.out, World.grownBy.refl _ _⟩
  case round =>
    obtain ⟨wa, rfl⟩ : ∃ wa : World, wa = wr := ⟨_, rfl⟩
    obtain ⟨i, hi, rfl, hown, hr, hg⟩ := hrel
    have HR := Lib.hid hr
    have HO := Lib.hid hown
    obtain ⟨dvs, hdl, ho, hds⟩ := hown
    have hln : (bs.take i).length = i := by rw [List.length_take]; omega
    rw [hln] at ho
    obtain ⟨a2, c2, rfl⟩ := owns_slice ho
    have hszg := hg.size
    clear hr ho hds hdl hln
    by_cases hlt : i < bs.length
    · obtain ⟨bx, hbx⟩ : ∃ x, bs[i]? = some x := ⟨_, List.getElem?_eq_getElem hlt⟩
      obtain ⟨hpos, hone⟩ := HS.out i bx hbx
      have HONE := Lib.hid hone
      have htk : bs.take (i + 1) = bs.take i ++ [bx] := by rw [List.take_add_one, hbx]; rfl
      have HTK := Lib.hid htk
      clear hone htk hbx
      go_wp2_with fail
      refine (left_any rb (rest i) 0 _ HR.out).mono ?_
      rintro e w' ⟨rfl, rfl⟩
      rw [leftI_ok]
      go_wp2_with fail
      refine (HONE.out rb _ HR.out).mono ?_
      rintro e w3 ⟨a3, c3, rfl, ho3, hr3, hg3⟩
      have HR3 := Lib.hid hr3
      have HO3 := Lib.hid ho3
      have hg13 := grown_trans hg hg3
      obtain ⟨dvs, hdl, ho4, hds4⟩ := HO.out.only hg3 (by omega)
      have hln : (bs.take i).length = i := by rw [List.length_take]; omega
      have HD := Lib.hid (And.intro hdl hds4)
      have HO4 := Lib.hid ho4
      rw [hln] at ho4
      have hsz3 := hg3.size
      have hvlt : ∀ j, (Value.slice a2 i c2).ownBlock = some j → w1.heap.size ≤ j := fun j hj => (ho4.lt j hj).1
      clear hr3 ho3 hdl hds4 hln
      unfold strV
      go_wp2_with (at_builtin; go_must (refine wpList_append_own _ rfl _ _ 26 rfl w1.heap.size 31 i1 (.agg #[.string ⟨#[]⟩, .slice none 0 0]) 2 40 Try.underlying26 ci cz0 cz1 cz2 rfl (by decide) _ _ _ rfl ((ho4.alloc _).alloc _) ⟨w3.heap.size + 1, 0, none⟩ 1 1 [.string ⟨bx.kind.toArray⟩, .slice a3 bx.data.length c3] rfl rfl (news_block2 w3 _ #[_, _] _) (by simp [Value.oneCell']) (by unfold maxLen; omega) (by omega) (by simp; omega) ?_; intro v7 w7 hown7 hg7 hn7; obtain ⟨a7, p7, rfl⟩ := owns_slice hown7))
      go_roundg (bs.length + 1 - (i + 1))
      case measure => omega
      case rel =>
        have hal : Below w3.heap.size w3 ((w3.alloc (.cells #[.string ⟨bx.kind.toArray⟩, .slice a3 bx.data.length c3] 31)).alloc (.cells #[.string ⟨bx.kind.toArray⟩, .slice a3 bx.data.length c3] 31)) := ((Below.refl _ _).alloc (Nat.le_refl _) _).alloc (by simp) _
        have hbel : Below w1.heap.size _ w7 := below_grown hg7 (by simp; omega) (fun j hj => hvlt j hj)
        have hln : (bs.take i).length = i := by rw [List.length_take]; omega
        refine ⟨i + 1, hlt, rfl, ?_, ?_, ?_⟩
        · rw [HTK.out]
          refine BoxesOwn.snoc HD.out.1 ((HO4.out.alloc _).alloc _) (fun j b dv hb hd => ((HD.out.2 j b dv hb hd).alloc _).alloc _) (dv := .slice a3 bx.data.length c3) ?_ (by rw [hln]; exact hown7) hg7
          exact owns_base ((HO3.out.alloc _).alloc _) (by omega)
        · exact (HR3.out.keep hal).below (B := w1.heap.size) hbel hrl
        · refine ⟨hbel.os.trans hg13.os, hbel.tape.trans hg13.tape, hbel.output.trans hg13.output, Nat.le_trans hg13.size (by have := hbel.size; simp at this; omega), fun k hk hne => ?_⟩
          exact (hbel.block k hk).trans ((hal.block k (by omega)).trans (hg13.block k hk hne))
    · obtain rfl : i = bs.length := by omega
      go_wp2_with fail
      refine (left_any rb (rest bs.length) 0 _ HR.out).mono ?_
      rintro e w' ⟨rfl, rfl⟩
      rw [leftI_ok]
      go_wp2_with fail
      refine (HEND.out rb _ HR.out).mono ?_
      rintro e w3 ⟨rfl, hg3⟩
      have hsz3 := hg3.size
      have hB : Below w.heap.size w w3 := hb1.trans (below_grown (grown_trans hg hg3) (by omega) (fun j hj => by simp at hj; omega))
      unfold noBox
      go_wp2_with fail
      go_ret2
      exact ⟨rfl, hB.alloc hB.size _⟩

end Go.Proofs.Ythmdgbplfdofiaa
