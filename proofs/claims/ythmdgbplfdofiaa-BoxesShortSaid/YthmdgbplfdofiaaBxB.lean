/- Boxes as they lie; slices.Clone of boxes; wavelet/boxes: Write. -/
import Derived.Test.YthmdgbplfdofiaaBxA
import Derived.Laws.BytesArg
namespace Go.Proofs.Ythmdgbplfdofiaa
open Go.RowKit

theorem bcell {W w1 : World} (hb : Below W.heap.size W w1) : (∀ b o, b < W.heap.size → w1.cell? ⟨b, o, none⟩ = W.cell? ⟨b, o, none⟩) ∧ (∀ b o, b < W.heap.size → w1.frozen? ⟨b, o, none⟩ = W.frozen? ⟨b, o, none⟩) :=
  ⟨fun b o h => hb.cell (p := ⟨b, o, none⟩) h, fun b o h => hb.frozen (p := ⟨b, o, none⟩) h⟩

theorem Reads.new (w : World) (arr : Array Value) (T : TypeId) (size n g B : Nat) (hs : arr.size = n * size) (hg : g = w.heap.size) (hB : w.heap.size < B) : Reads (w.alloc (.cells arr T)) B size (some ⟨g, 0, none⟩) n arr.toList := by
  subst hg
  exact ⟨by simpa using hs, fun _ => ⟨_, rfl, hB, news_block w arr T⟩⟩

theorem bytesWorld_below (w : World) (e : TypeId) (s : ByteArray) : Below w.heap.size w (Lib.bytesWorld w e s) := by
  refine ⟨?_, ?_, ?_, by rw [Lib.bytesWorld_size]; omega, fun i hi => Lib.bytesWorld_at_old w e s i hi⟩
  all_goals
    unfold Lib.bytesWorld World.freeze
    split <;> rfl

theorem bytesWorld_BV (w : World) (e : TypeId) (l : List UInt8) (h : l.length ≤ maxLen) : BV (Lib.bytesWorld w e ⟨l.toArray⟩) (.slice (some ⟨w.heap.size, 0, none⟩) l.length (grownCap w l.length 0 e)) l := by
  refine ⟨_, _, rfl, grownCap_ge _ _ _ _, grownCap_le_maxLen _ _ _ _ h, by rw [cellsB_length, Nat.mul_one], fun hn => ⟨_, rfl, by rw [Lib.bytesWorld_size]; simp, fun j u hu => ?_⟩⟩
  have hj : j < l.length := by have := (List.getElem?_eq_some_iff.1 hu).1; rwa [cellsB_length] at this
  have e1 : (⟨w.heap.size, 0, none⟩ : Addr).add j = ⟨w.heap.size, j, none⟩ := by unfold Addr.add; split <;> simp_all
  rw [e1, Lib.bytesWorld_cell w e ⟨l.toArray⟩ j (by simpa [ByteArray.size] using hj)]
  rw [← hu, cellsB_get l j l[j] (List.getElem?_eq_getElem hj)]
  simp [List.getD, List.getElem?_eq_getElem hj]

theorem conv_bytes (l : List UInt8) (W : World) : (convert 9 22 (.string ⟨l.toArray⟩)).run Try.prog W = .ok (.slice (some ⟨W.heap.size, 0, none⟩) l.length (grownCap W l.length 0 5)) (Lib.bytesWorld W 5 ⟨l.toArray⟩) := by
  have := Lib.run_convert_string_bytes (P := Try.prog) W 9 22 5 ⟨l.toArray⟩ Try.underlying9 Try.underlying22 Try.underlying5
  simpa [ByteArray.size] using this

/-- a string of a slice's bytes -/
theorem conv_string {w : World} {v : Value} {l : List UInt8} (h : BV w v l) : (convert 22 9 v).run Try.prog w = .ok (.string ⟨l.toArray⟩) w := by
  obtain ⟨A, c, rfl, h1, h2, h3⟩ := h
  rcases A with _ | ad
  · have h0 : l.length = 0 := by
      rcases Nat.eq_zero_or_pos l.length with h | h
      · exact h
      · obtain ⟨_, h, _⟩ := h3.2 h; cases h
    obtain rfl : l = [] := List.eq_nil_of_length_eq_zero h0
    exact run_convert_bytes_nil (P := Try.prog) w 22 5 Try.underlying22 Try.underlying5 0 c 9 Try.underlying9
  · exact run_convert_bytes_back (P := Try.prog) w 22 9 5 ad c l Try.underlying22 Try.underlying5 Try.underlying9 (fun j hj => by
      obtain ⟨ad', e, -, hc⟩ := h3.cell (List.getElem?_eq_getElem hj)
      injection e with e
      rw [e]
      exact hc)

structure BoxD where
  kind : List UInt8
  data : List UInt8

def strV (l : List UInt8) : Value := .string ⟨l.toArray⟩
def boxCells (b : BoxD) (dv : Value) : List Value := [strV b.kind, dv]
def boxFlat (bs : List BoxD) (dvs : List Value) : List Value := (List.zipWith boxCells bs dvs).flatten

theorem boxFlat_length : ∀ (bs : List BoxD) (dvs : List Value), dvs.length = bs.length → (boxFlat bs dvs).length = bs.length * 2
  | [], _, _ => by simp [boxFlat]
  | b :: bs, [], h => by simp at h
  | b :: bs, d :: dvs, h => by
    have := boxFlat_length bs dvs (by simpa using h)
    unfold boxFlat at *
    simp only [List.zipWith_cons_cons, List.flatten_cons, List.length_append, List.length_cons, this]
    simp [boxCells]
    omega

theorem boxFlat_snoc (bs : List BoxD) (dvs : List Value) (b : BoxD) (dv : Value) (h : dvs.length = bs.length) : boxFlat (bs ++ [b]) (dvs ++ [dv]) = boxFlat bs dvs ++ boxCells b dv := by
  unfold boxFlat
  rw [List.zipWith_append h.symm]
  simp

theorem boxFlat_get : ∀ (bs : List BoxD) (dvs : List Value) (k : Nat) (b : BoxD) (dv : Value), bs[k]? = some b → dvs[k]? = some dv → ∀ j, j < 2 → (boxFlat bs dvs)[k * 2 + j]? = (boxCells b dv)[j]?
  | [], _, _, _, _, h, _, _, _ => by simp at h
  | _ :: _, [], _, _, _, _, h, _, _ => by simp at h
  | b0 :: bs, d0 :: dvs, 0, b, dv, hb, hd, j, hj => by
    simp at hb hd
    subst hb hd
    unfold boxFlat
    simp only [List.zipWith_cons_cons, List.flatten_cons, Nat.zero_mul, Nat.zero_add]
    rw [List.getElem?_append_left (by simpa [boxCells] using hj)]
  | b0 :: bs, d0 :: dvs, k + 1, b, dv, hb, hd, j, hj => by
    have ih := boxFlat_get bs dvs k b dv (by simpa using hb) (by simpa using hd) j hj
    unfold boxFlat at ih ⊢
    simp only [List.zipWith_cons_cons, List.flatten_cons]
    rw [List.getElem?_append_right (by simp [boxCells]; omega)]
    rw [show (k + 1) * 2 + j - (boxCells b0 d0).length = k * 2 + j by simp [boxCells]; omega]
    exact ih

/-- a plain address, where something is read -/
theorem Reads.plain {w : World} {B size n : Nat} {A : Option Addr} {xs : List Value} (h : Reads w B size A n xs) (hn : 0 < n) (hs : 0 < size) :
    ∃ b o, A = some ⟨b, o, none⟩ ∧ b < B ∧ ∀ j u, xs[j]? = some u → w.cell? ⟨b, o + j, none⟩ = some u := by
  obtain ⟨ad, rfl, hb, hc⟩ := h.2 hn
  have hl : 0 < xs.length := by rw [h.1]; exact Nat.mul_pos hn hs
  have h0 := hc 0 _ (List.getElem?_eq_getElem hl)
  have hsp : ad.spot = none := by
    unfold World.cell? at h0
    have e : ad.add 0 = ad := rfl
    rw [e] at h0
    split at h0
    · split at h0
      · cases h0
      · rename_i hx; simpa using hx
    · cases h0
  obtain ⟨b, o, sp⟩ := ad
  simp only at hsp
  subst hsp
  refine ⟨b, o, rfl, hb, fun j u hu => ?_⟩
  have := hc j u hu
  unfold Addr.add at this
  split at this
  · rename_i hj; subst hj; simpa using this
  · exact this

/-- the slice value v reads as these boxes -/
def BoxesRd (w : World) (v : Value) (bs : List BoxD) : Prop :=
  ∃ A c dvs, v = .slice A bs.length c ∧ bs.length ≤ c ∧ c ≤ maxLen ∧ dvs.length = bs.length ∧ Reads w w.heap.size 2 A bs.length (boxFlat bs dvs) ∧ ∀ (i : Nat) b dv, bs[i]? = some b → dvs[i]? = some dv → BV w dv b.data

theorem BoxesRd.keep {w w' : World} {v : Value} {bs : List BoxD} (h : BoxesRd w v bs) (hb : Below w.heap.size w w') : BoxesRd w' v bs := by
  obtain ⟨A, c, dvs, h1, h2, h3, h4, h5, h6⟩ := h
  exact ⟨A, c, dvs, h1, h2, h3, h4, h5.of_below hb, fun i b dv hb' hd => (h6 i b dv hb' hd).keep hb⟩

/-- the slice value v owns these boxes, and each its bytes -/
def BoxesOwn (w : World) (B : Nat) (v : Value) (bs : List BoxD) : Prop :=
  ∃ dvs : List Value, dvs.length = bs.length ∧ w.ownsRow B 31 2 v bs.length (boxFlat bs dvs) ∧ ∀ (i : Nat) b dv, bs[i]? = some b → dvs[i]? = some dv → w.ownsRow B 5 1 dv b.data.length (cellsB b.data)

theorem BoxesOwn.rd {w : World} {B : Nat} {v : Value} {bs : List BoxD} (h : BoxesOwn w B v bs) : BoxesRd w v bs := by
  obtain ⟨dvs, h1, h2, h3⟩ := h
  obtain ⟨a, c, rfl⟩ := owns_slice h2
  have hr := Reads.of_own h2
  obtain ⟨A, c', e, hn, hc, -⟩ := Rd.of_owns h2
  injection e with e1 e2 e3
  subst e3
  exact ⟨a, c, dvs, rfl, hn, hc, h1, hr, fun i b dv hb hd => BV.of_owns (h3 i b dv hb hd)⟩

theorem BoxesOwn.nil (w : World) (B : Nat) : BoxesOwn w B (.slice none 0 0) [] := ⟨[], rfl, World.ownsRow_nil _ _ _ _, by simp⟩

theorem BoxesOwn.keep {w w' : World} {B : Nat} {v : Value} {bs : List BoxD} (h : BoxesOwn w B v bs) (hb : Below w.heap.size w w') : BoxesOwn w' B v bs := by
  obtain ⟨dvs, h1, h2, h3⟩ := h
  exact ⟨dvs, h1, owns_keepAll h2 hb, fun i c dv hc hd => owns_keepAll (h3 i c dv hc hd) hb⟩

theorem owns_only {w w' : World} {B g : Nat} {e : TypeId} {size n : Nat} {v : Value} {xs : List Value} (h : w.ownsRow B e size v n xs) (hg : w.grownBy w' (some g)) (hlt : g < B) : w'.ownsRow B e size v n xs :=
  h.kept hg (by
    rcases hv : v.ownBlock with _ | k
    · exact .inl rfl
    · right
      intro e
      injection e with e
      have := (h.lt k hv).1
      omega)

theorem BoxesOwn.only {w w' : World} {B g : Nat} {v : Value} {bs : List BoxD} (h : BoxesOwn w B v bs) (hg : w.grownBy w' (some g)) (hlt : g < B) : BoxesOwn w' B v bs := by
  obtain ⟨dvs, h1, h2, h3⟩ := h
  exact ⟨dvs, h1, owns_only h2 hg hlt, fun i c dv hc hd => owns_only (h3 i c dv hc hd) hg hlt⟩

theorem BoxesOwn.snoc {w w' : World} {B : Nat} {v v' : Value} {bs : List BoxD} {b : BoxD} {dv : Value} {dvs : List Value} (h1 : dvs.length = bs.length) (h2 : w.ownsRow B 31 2 v bs.length (boxFlat bs dvs))
    (h3 : ∀ (i : Nat) b dv, bs[i]? = some b → dvs[i]? = some dv → w.ownsRow B 5 1 dv b.data.length (cellsB b.data)) (hd : w.ownsRow B 5 1 dv b.data.length (cellsB b.data))
    (ho : w'.ownsRow B 31 2 v' (bs.length + 1) (boxFlat bs dvs ++ boxCells b dv)) (hg : w.grownBy w' v.ownBlock) : BoxesOwn w' B v' (bs ++ [b]) := by
  refine ⟨dvs ++ [dv], by simp [h1], ?_, ?_⟩
  · rw [boxFlat_snoc _ _ _ _ h1, List.length_append, List.length_singleton]
    exact ho
  · intro i b' dv' hb hdv
    rw [List.getElem?_append] at hb hdv
    by_cases hi : i < bs.length
    · rw [if_pos hi] at hb
      rw [if_pos (by omega)] at hdv
      exact owns_apart (h3 i b' dv' hb hdv) h2 (by decide) hg
    · rw [if_neg hi] at hb
      rw [if_neg (by omega)] at hdv
      have e1 : i - bs.length = 0 := by
        have := (List.getElem?_eq_some_iff.1 hb).1
        simp at this
        omega
      rw [h1] at hdv
      rw [e1] at hb hdv
      simp at hb hdv
      subst hb hdv
      exact owns_apart hd h2 (by decide) hg

theorem boxput1 (v : Value) (l : List UInt8) (k : Nat) (A : Option Addr) (c : Nat) (n : Int) (w : World) (hv : BV w v l) (h1 : 1 ≤ k) (h8 : k ≤ 8) (hr : Reads w w.heap.size 1 A 1 [.int .i64 n]) (hl : l.length + 8 ≤ 70368744177664) :
    Calls Try.prog 15 #[v, .int .i64 k, .slice A 1 c] w fun e w' => ∃ a' c', e = .returned (.slice a' (l.length + k) c') ∧ BV w' (.slice a' (l.length + k) c') (l ++ putB k n) ∧ Below w.heap.size w w' := by
  refine (boxput_any v l k A c [n] w hv h1 h8 hr (by simpa using hl)).mono ?_
  rintro e w' ⟨v', rfl, hb, -, hB⟩
  have e1 : [n].flatMap (putB k) = putB k n := by simp
  rw [e1] at hb
  obtain ⟨A', c', rfl, q⟩ := hb
  rw [List.length_append, putB_length] at *
  exact ⟨A', c', rfl, ⟨A', c', by rw [List.length_append, putB_length], by rw [List.length_append, putB_length]; exact q⟩, hB⟩

/-- a box's bytes; boxes' -/
def encBox (b : BoxD) : List UInt8 := putB 4 ((8 : Int) + b.data.length) ++ b.kind ++ b.data
def encTo (bs : List BoxD) (i : Nat) : List UInt8 := (bs.take i).flatMap encBox
theorem encTo_succ (bs : List BoxD) (i : Nat) (b : BoxD) (h : bs[i]? = some b) : encTo bs (i + 1) = encTo bs i ++ (putB 4 ((8 : Int) + b.data.length) ++ b.kind ++ b.data) := by
  unfold encTo
  rw [List.take_add_one, h]; simp [encBox]
def encN (bs : List BoxD) : Nat := (bs.flatMap encBox).length
theorem encTo_len (bs : List BoxD) (i : Nat) : (encTo bs i).length ≤ encN bs := by
  unfold encN encTo
  have h : bs = bs.take i ++ bs.drop i := (List.take_append_drop i bs).symm
  conv => rhs; rw [h]
  rw [List.flatMap_append, List.length_append]
  omega

set_option maxHeartbeats 1000000 in
theorem write_any (v : Value) (bs : List BoxD) (w : World) (hv : BoxesRd w v bs) (hl : encN bs ≤ 1000000000) (hn : bs.length ≤ 1000000000) :
    Calls Try.prog 9 #[v] w fun e w' => ∃ v', e = .returned v' ∧ w'.ownsRow w.heap.size 5 1 v' (encN bs) (cellsB (encTo bs bs.length)) ∧ Below w.heap.size w w' := by
  obtain ⟨A, c, dvs, rfl, g1, g2, g3, g4, g5⟩ := hv
  have G4 := Lib.hid g4
  have G5 := Lib.hid g5
  have G3 := Lib.hid g3
  clear g3 g4 g5
  unfold maxLen at g2
  go_enter Try.func9, Try.ntmps9
  go_wp2_with fail
  go_loopg [3, 8] bs.length (fun g s3 s8 wx => ∃ i : Nat, i ≤ bs.length ∧ g = bs.length - i ∧ s8 = .int .i64 i ∧ wx.ownsRow w.heap.size 5 1 s3 (encTo bs i).length (cellsB (encTo bs i)) ∧ Below w.heap.size w wx)
  case atStart => exact ⟨0, Nat.zero_le _, rfl, rfl, by simpa [encTo, cellsB] using World.ownsRow_nil _ _ _ _, Below.refl _ _⟩
  case round =>
    obtain ⟨wa, rfl⟩ : ∃ wa : World, wa = wr := ⟨_, rfl⟩
    obtain ⟨i, hi, rfl, rfl, ho, hb⟩ := hrel
    obtain ⟨a1, c1, rfl⟩ := owns_slice ho
    by_cases hlt : i < bs.length
    · obtain ⟨b, o, rfl, hbs, hcell⟩ := G4.out.plain (by omega) (by decide)
      obtain ⟨bx, hbx⟩ : ∃ x, bs[i]? = some x := ⟨_, List.getElem?_eq_getElem hlt⟩
      obtain ⟨dv, hdv⟩ : ∃ x, dvs[i]? = some x := ⟨_, List.getElem?_eq_getElem (by rw [G3.out]; exact hlt)⟩
      have hfl := boxFlat_get bs dvs i bx dv hbx hdv
      have k0 := hcell _ _ ((hfl 0 (by decide)).trans rfl)
      have k1 := hcell _ _ ((hfl 1 (by decide)).trans rfl)
      have hdat := (G5.out i bx dv hbx hdv)
      replace k0 := (hb.cell (p := ⟨b, o + (i * 2 + 0), none⟩) hbs).trans k0
      replace k1 := (hb.cell (p := ⟨b, o + (i * 2 + 1), none⟩) hbs).trans k1
      rw [Nat.add_zero] at k0
      rw [← Nat.add_assoc] at k1
      obtain ⟨A2, c2, rfl, q1, q2, q3⟩ := hdat
      have HS := Lib.hid (encTo_succ bs i bx hbx)
      have hL := encTo_len bs i
      have hL2 := encTo_len bs (i + 1)
      rw [HS.out, List.length_append, List.length_append, List.length_append, putB_length] at hL2
      have HD := Lib.hid (show BV w (.slice A2 bx.data.length c2) bx.data from ⟨A2, c2, rfl, q1, q2, q3⟩)
      have HO := Lib.hid ho
      have z0 : (0 : Int) ≤ i := by omega
      have z1 : (i : Int) < (bs.length : Int) := by omega
      unfold strV at k0
      clear hfl hcell hbx hdv q3
      go_wp2_with fail
      refine (boxput1 _ (encTo bs i) 4 _ _ ((8 : Int) + bx.data.length) _ ((BV.of_owns HO.out).keep (((Below.refl _ _).alloc (Nat.le_refl _) _).alloc (by simp) _)) (by decide) (by decide) (Reads.new (wa.alloc _) #[_] _ 1 1 _ _ rfl (by simp) (by simp)) (by omega)).mono ?_
      rintro e w2 ⟨A3, c3, rfl, hbv2, hb2⟩
      obtain ⟨hc2, hf2⟩ := bcell hb2
      have hsz2 := hb2.size
      simp at hsz2
      have hB2 : Below wa.heap.size wa w2 := (((Below.refl _ _).alloc (Nat.le_refl _) _).alloc (by simp) _).trans (hb2.mono (by simp; omega))
      have hcv := conv_bytes bx.kind
      have m0 : w2.cell? ⟨wa.heap.size, 0, none⟩ = some (.string ⟨bx.kind.toArray⟩) := by rw [hc2 _ _ (by simp; omega)]; simp
      have m1 : w2.cell? ⟨wa.heap.size, 1, none⟩ = some (.slice A2 bx.data.length c2) := by rw [hc2 _ _ (by simp; omega)]; simp
      have m2 : (Lib.bytesWorld w2 5 ⟨bx.kind.toArray⟩).cell? ⟨wa.heap.size, 1, none⟩ = some (.slice A2 bx.data.length c2) := by rw [Lib.bytesWorld_old _ _ _ _ (by simp; omega)]; exact m1
      have HV2 := Lib.hid hbv2
      have hK := bytesWorld_below w2 5 ⟨bx.kind.toArray⟩
      have hKV := bytesWorld_BV w2 5 bx.kind (by unfold maxLen; omega)
      have HK := Lib.hid (And.intro hK hKV)
      clear hbv2 hb2 hc2 hf2 m1 hK hKV
      go_wp2_with fail
      generalize Lib.bytesWorld w2 5 ⟨bx.kind.toArray⟩ = w3 at *
      obtain ⟨hK, hKV⟩ := HK.out
      have hB3 : Below wa.heap.size wa w3 := hB2.trans (hK.mono hB2.size)
      have hA3 := ((Below.refl w3.heap.size w3).alloc (Nat.le_refl _) (.cells #[.slice A3 ((encTo bs i).length + 4) c3, .slice (some ⟨w2.heap.size, 0, none⟩) bx.kind.length (grownCap w2 bx.kind.length 0 5), .slice A2 bx.data.length c2] 22))
      refine (concat_any _ 3 _ [.slice A3 ((encTo bs i).length + 4) c3, .slice (some ⟨w2.heap.size, 0, none⟩) bx.kind.length (grownCap w2 bx.kind.length 0 5), .slice A2 bx.data.length c2] [encTo bs i ++ putB 4 ((8 : Int) + bx.data.length), bx.kind, bx.data] _ (Reads.new w3 #[_, _, _] _ 1 3 _ _ rfl rfl (by simp)) ⟨rfl, fun j v l hj hjl => ?_⟩ ?_ (by omega)).mono ?_
      · match j, hj, hjl with
        | 0, hj, hjl => simp at hj hjl; subst hj hjl; exact (HV2.out.keep hK).keep hA3
        | 1, hj, hjl => simp at hj hjl; subst hj hjl; exact hKV.keep hA3
        | 2, hj, hjl => simp at hj hjl; subst hj hjl; exact ((HD.out.keep (hb.trans (hB3.mono hb.size))).keep hA3)
      · unfold sumLen; simp [putB_length]; omega
      rintro e w4 ⟨v4, rfl, ho4, hb4⟩
      have e4 : [encTo bs i ++ putB 4 ((8 : Int) + bx.data.length), bx.kind, bx.data].flatten = encTo bs (i + 1) := by rw [HS.out]; simp
      rw [e4] at ho4
      obtain ⟨a4, c4, rfl⟩ := owns_slice ho4
      have hBF : Below w.heap.size w w4 := hb.trans ((hB3.mono hb.size).trans ((hA3.mono (Nat.le_trans hb.size hB3.size)).trans (hb4.mono (by simp; have := hb.size; have := hB3.size; omega))))
      have HO4 := Lib.hid ho4
      have hbase : w.heap.size ≤ w3.heap.size := Nat.le_trans hb.size hB3.size
      clear ho ho4 hb4 hA3 hK hKV hB3 hB2 hcv m0 m2 e4
      go_wp2_with fail
      go_roundg (bs.length - (i + 1))
      case measure => omega
      case rel => exact ⟨i + 1, by omega, rfl, by go_num, owns_base HO4.out (by simp; omega), hBF⟩
    · obtain rfl : i = bs.length := by omega
      have hr := Reads.of_own ho
      have hL := encTo_len bs bs.length
      have hE : (encTo bs bs.length).length = encN bs := by unfold encTo encN; rw [List.take_length]
      have HE := Lib.hid hE
      clear hE
      go_wp2_with fail
      refine (cloneB a1 _ c1 _ _ hr (cellsB_one _) (by omega)).mono ?_
      rintro e w5 ⟨v5, rfl, ho5, hb5⟩
      rw [HE.out] at ho5
      obtain ⟨a5, c5, rfl⟩ := owns_slice ho5
      go_wp2_with fail
      go_ret
      exact ⟨_, rfl, owns_base ho5 hb.size, hb.trans (hb5.mono hb.size)⟩
end Go.Proofs.Ythmdgbplfdofiaa
