/- A head with a byte turned that says its way: unknown ways. -/
import Derived.Test.YtlhlhlabnjfhcaaPs
namespace Go.Proofs.Ytlhlhlabnjfhcaa
open Go.RowKit Go.Maps

theorem seg_set (mk : Int) (b rest : List UInt8) (k : Nat) (v : UInt8) (hk : k < b.length) : (segB mk b ++ rest).set (4 + k) v = segB mk (b.set k v) ++ rest := by
  have e : segB mk (b.set k v) = putsB 2 [mk, b.length + 2] ++ b.set k v := by unfold segB; rw [List.length_set]
  have h4 : (putsB 2 [mk, (b.length : Int) + 2]).length = 4 := by rw [putsB_length]; rfl
  rw [e]
  unfold segB
  rw [List.append_assoc, List.set_append_right _ _ (by omega), h4, show 4 + k - 4 = k by omega, List.set_append_left _ _ hk, List.append_assoc]

section
variable {f : Int → Option (List UInt8)} {h : HeadM} {rest : List UInt8}
theorem Run.codway_ {b : List UInt8} (hf : f 65362 = none) (hb : b.length < 65534) (h9 : b[9]? = some 0) : Run f h (segB 65362 b ++ rest) 13 h (segB 65362 b ++ rest) := by
  obtain ⟨h1, h3, h4⟩ := seg_front 65362 (by decide) b rest hb
  exact .bad h1 (by rw [h3]; decide) (OneBad.codWay b rest h3 (by rw [h3]; exact hf) h4 h9)
theorem Run.qcdway_ {b : List UInt8} {c : UInt8} (hf : f 65372 = none) (hb : b.length < 65534) (h0 : b[0]? = some c) (hc : (bits .and .u8 (c.toNat : Int) 31 != 0) = true) : Run f h (segB 65372 b ++ rest) 13 h (segB 65372 b ++ rest) := by
  obtain ⟨h1, h3, h4⟩ := seg_front 65372 (by decide) b rest hb
  exact .bad h1 (by rw [h3]; decide) (OneBad.qcdWay b rest c h3 (by rw [h3]; exact hf) h4 h0 hc)
end

/-- SOC and SIZ -/
def frontM (m : ImgD) (p : ParD) : List UInt8 := putsB 2 [65359] ++ segB 65361 (sizB m p)
theorem frontM_length (m : ImgD) (p : ParD) : (frontM m p).length = 42 + 3 * m.cs.length := by
  unfold frontM
  rw [List.length_append, putsB_length, segB_length, sizB_length]
  simp only [List.length_cons, List.length_nil]
  omega
theorem mainM_front (m : ImgD) (p : ParD) (rest : List UInt8) : mainM m p [] ++ rest = frontM m p ++ (segB 65362 (codM p) ++ (segB 65372 (qcdM m p) ++ rest)) := by
  simp [mainM, frontM, comB]
theorem set_front (m : ImgD) (p : ParD) (l : List UInt8) (k : Nat) (v : UInt8) : (frontM m p ++ l).set (42 + 3 * m.cs.length + k) v = frontM m p ++ l.set k v := by
  rw [List.set_append_right _ _ (by rw [frontM_length]; omega), frontM_length, show 42 + 3 * m.cs.length + k - (42 + 3 * m.cs.length) = k by omega]
theorem set_second (mk : Int) (b l : List UInt8) (k : Nat) (v : UInt8) : (segB mk b ++ l).set (4 + b.length + k) v = segB mk b ++ l.set k v := by
  rw [List.set_append_right _ _ (by rw [segB_length]; omega), segB_length, show 4 + b.length + k - (4 + b.length) = k by omega]
theorem All.front2_ {m : ImgD} {p : ParD} {l l2 : List UInt8} {e : Int} {h2 : HeadM} (hs : SizOk m p) (hn : m.cs.length < 20000) (r : Run (fun _ => none) (sizH m p zH) l e h2 l2) : All (frontM m p ++ l) e h2 l2 := by
  unfold frontM
  rw [List.append_assoc]
  exact All.head_ hs hn r

theorem codM_len (p : ParD) (h : CodFit p) : (codM p).length < 65534 ∧ 9 < (codM p).length := by
  rw [codM_length p h.1.1]
  have := h.1
  omega
theorem ways_x {m : ImgD} {p : ParD} (hs : SizOk m p) (hn : m.cs.length < 20000) (hc : CodFit p) (q rest : List UInt8) : ∃ h2 l2, All (frontM m p ++ (segB 65362 ((codM p).set 9 0) ++ (segB 65372 q ++ rest))) 13 h2 l2 := by
  obtain ⟨h1, h2⟩ := codM_len p hc
  exact ⟨_, _, All.front2_ hs hn (Run.codway_ rfl (by rw [List.length_set]; exact h1) (by rw [List.getElem?_set_self h2]))⟩
theorem and31 : ∀ t : Fin 31, (bits .and .u8 ((UInt8.ofNat (97 + (t : Nat))).toNat : Int) 31 != 0) = true := by decide +kernel
theorem ways_y {m : ImgD} {p : ParD} (hs : SizOk m p) (hn : m.cs.length < 20000) (hc : CodFit p) (t : Nat) (ht : t < 31) (rest : List UInt8) : ∃ h2 l2, All (frontM m p ++ (segB 65362 (codM p) ++ (segB 65372 ((qcdM m p).set 0 (UInt8.ofNat (97 + t))) ++ rest))) 13 h2 l2 := by
  refine ⟨_, _, All.front2_ hs hn (Run.cod_ rfl hc (Run.qcdway_ (c := UInt8.ofNat (97 + t)) (by rw [setF_ne _ _ (by decide)]) (by rw [List.length_set]; exact qcd_len m p hc) ?_ (and31 ⟨t, ht⟩)))⟩
  exact List.getElem?_set_self (by rw [qcdM_length]; omega)

/-- the bytes that MarksWays turns -/
theorem turn_x {m : ImgD} {p : ParD} (hc : CodFit p) (rest : List UInt8) : (mainM m p [] ++ rest).set (42 + 3 * m.cs.length + 13) 0 = frontM m p ++ (segB 65362 ((codM p).set 9 0) ++ (segB 65372 (qcdM m p) ++ rest)) := by
  rw [mainM_front, set_front, show (13 : Nat) = 4 + 9 from rfl, seg_set _ _ _ _ _ (codM_len p hc).2]
theorem turn_y {m : ImgD} {p : ParD} (hc : CodFit p) (v : UInt8) (rest : List UInt8) : (mainM m p [] ++ rest).set (42 + 3 * m.cs.length + 15 + p.lv.toNat + 4) v = frontM m p ++ (segB 65362 (codM p) ++ (segB 65372 ((qcdM m p).set 0 v) ++ rest)) := by
  have e : 42 + 3 * m.cs.length + 15 + p.lv.toNat + 4 = 42 + 3 * m.cs.length + (4 + (codM p).length + (4 + 0)) := by rw [codM_length p hc.1.1]; omega
  rw [mainM_front, e, set_front, set_second, seg_set _ _ _ _ _ (by rw [qcdM_length]; omega)]
theorem turn_xy {m : ImgD} {p : ParD} (hc : CodFit p) (q rest : List UInt8) : (frontM m p ++ (segB 65362 (codM p) ++ (segB 65372 q ++ rest))).set (42 + 3 * m.cs.length + 13) 0 = frontM m p ++ (segB 65362 ((codM p).set 9 0) ++ (segB 65372 q ++ rest)) := by
  rw [set_front, show (13 : Nat) = 4 + 9 from rfl, seg_set _ _ _ _ _ (codM_len p hc).2]
theorem get_q {m : ImgD} {p : ParD} (hc : CodFit p) (rest : List UInt8) : (mainM m p [] ++ rest)[42 + 3 * m.cs.length + 15 + p.lv.toNat + 4]? = some 96 := by
  have e : 42 + 3 * m.cs.length + 15 + p.lv.toNat + 4 = (frontM m p).length + ((segB 65362 (codM p)).length + (4 + 0)) := by rw [frontM_length, segB_length, codM_length p hc.1.1]; omega
  rw [mainM_front, e, List.getElem?_append_right (by omega), Nat.add_sub_cancel_left, List.getElem?_append_right (by omega), Nat.add_sub_cancel_left]
  have h4 : (putsB 2 [65372, ((qcdM m p).length : Int) + 2]).length = 4 := by rw [putsB_length]; rfl
  unfold segB
  rw [List.append_assoc, List.getElem?_append_right (by omega), h4, Nat.add_sub_cancel_left, List.getElem?_append_left (by rw [qcdM_length]; omega)]
  exact qcd0 m p
theorem len_ways {m : ImgD} {p : ParD} (hc : CodFit p) : 42 + 3 * m.cs.length + 15 + p.lv.toNat + 6 ≤ (mainM m p [] ++ [255, 144]).length := by
  rw [mainM_front]
  simp only [List.length_append, frontM_length, segB_length, codM_length p hc.1.1, qcdM_length, List.length_cons, List.length_nil]
  omega
theorem twice_0 {m : ImgD} {p : ParD} (hs : SizOk m p) (hn : m.cs.length < 20000) (hc : CodFit p) (hF : frameE m p = 0) : All (frontM m p ++ (segB 65372 (qcdM m p) ++ (segB 65362 (codM p) ++ [255, 144]))) 0 (headOf m p []) [] := by
  refine All.front2_ hs hn (Run.qcd_ rfl (qcd_len m p hc) (qcd0 m p) q96 (Run.cod_ (by rw [setF_ne _ _ (by decide)]) hc ?_))
  have r := run_com (f := setF (setF (fun _ => none) 65372 (qcdM m p)) 65362 (codM p)) (h := { sizH m p zH with p := { p with tx := p.tx, ty := p.ty } }) (m := m) (p := p) (b := codM p) [] [] (by decide) (by rw [setF_same]) (by rw [setF_ne _ _ (by decide), setF_same]) rfl rfl rfl
  rw [hF] at r
  exact r
theorem twice_1 {m : ImgD} {p : ParD} (hs : SizOk m p) (hn : m.cs.length < 20000) (hc : CodFit p) : ∃ h2 l2, All (frontM m p ++ (segB 65362 (codM p) ++ [255, 144])) 10 h2 l2 := by
  have r := Run.end_ (f := setF (fun _ => none) 65362 (codM p)) (h := { sizH m p zH with p := { p with tx := (sizH m p zH).p.tx, ty := (sizH m p zH).p.ty } }) (rest := [])
  have e : ∀ h, endE (setF (fun _ => none) 65362 (codM p)) h = 10 := fun h => by unfold endE; rw [setF_same, setF_ne _ _ (by decide)]
  rw [e] at r
  exact ⟨_, _, All.front2_ hs hn (Run.cod_ rfl hc r)⟩
theorem twice_2 {m : ImgD} {p : ParD} (hs : SizOk m p) (hn : m.cs.length < 20000) (hc : CodFit p) : ∃ h2 l2, All (frontM m p ++ (segB 65372 (qcdM m p) ++ [255, 144])) 10 h2 l2 := by
  have r := Run.end_ (f := setF (fun _ => none) 65372 (qcdM m p)) (h := sizH m p zH) (rest := [])
  have e : ∀ h, endE (setF (fun _ => none) 65372 (qcdM m p)) h = 10 := fun h => by unfold endE; rw [setF_ne _ _ (by decide)]
  rw [e] at r
  exact ⟨_, _, All.front2_ hs hn (Run.qcd_ rfl (qcd_len m p hc) (qcd0 m p) q96 r)⟩
theorem twice_3 {m : ImgD} {p : ParD} (hs : SizOk m p) (hn : m.cs.length < 20000) (hc : CodFit p) (rest : List UInt8) : ∃ h2 l2, All (frontM m p ++ (segB 65362 (codM p) ++ (segB 65372 (qcdM m p) ++ (segB 65362 (codM p) ++ rest)))) 10 h2 l2 :=
  ⟨_, _, All.front2_ hs hn (Run.cod_ rfl hc (Run.qcd_ (by rw [setF_ne _ _ (by decide)]) (qcd_len m p hc) (qcd0 m p) q96 (Run.twice_ (.inl rfl) (codM_len p hc).1 (by rw [setF_ne _ _ (by decide), setF_same]; simp))))⟩
theorem twice_4 {m : ImgD} {p : ParD} (hs : SizOk m p) (hn : m.cs.length < 20000) (hc : CodFit p) (rest : List UInt8) : ∃ h2 l2, All (frontM m p ++ (segB 65372 (qcdM m p) ++ (segB 65362 (codM p) ++ (segB 65372 (qcdM m p) ++ rest)))) 10 h2 l2 :=
  ⟨_, _, All.front2_ hs hn (Run.qcd_ rfl (qcd_len m p hc) (qcd0 m p) q96 (Run.cod_ (by rw [setF_ne _ _ (by decide)]) hc (Run.twice_ (.inr rfl) (qcd_len m p hc) (by rw [setF_ne _ _ (by decide), setF_same]; simp))))⟩
theorem twice_5 {m : ImgD} {p : ParD} (hs : SizOk m p) (hn : m.cs.length < 20000) : ∃ h2 l2, All (frontM m p ++ [255, 144]) 10 h2 l2 := by
  have r := Run.end_ (f := fun _ => none) (h := sizH m p zH) (rest := [])
  have e : ∀ h, endE (fun _ => none) h = 10 := fun h => rfl
  rw [e] at r
  exact ⟨_, _, All.front2_ hs hn r⟩
end Go.Proofs.Ytlhlhlabnjfhcaa
