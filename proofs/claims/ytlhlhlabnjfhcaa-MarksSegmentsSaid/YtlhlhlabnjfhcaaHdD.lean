/- A head with one more segment, or two alike, behind QCD: what Parse makes of it. -/
import Derived.Test.YtlhlhlabnjfhcaaHdC
namespace Go.Proofs.Ytlhlhlabnjfhcaa
open Go.RowKit Go.Maps

def isWayT (t : Nat) : Bool := t == 83 || t == 93 || t == 94 || t == 95 || t == 96 || t == 97
def isBadT (t : Nat) : Bool := t == 79 || t == 81 || t == 145 || t == 146 || t == 147 || t == 217
def bareT (t : Nat) : Bool := decide (48 ≤ t) && decide (t ≤ 63)
/-- the segment of MarksSegments -/
def segT (t : Nat) (d : List UInt8) : List UInt8 := if bareT t then [255, UInt8.ofNat t] else 255 :: UInt8.ofNat t :: 0 :: UInt8.ofNat (d.length + 2) :: d
def segsT (t : Nat) (d : List UInt8) (tw : Bool) : List UInt8 := if tw then segT t d ++ segT t d else segT t d

theorem putB_2 (n : Nat) (h : n < 65536) : putB 2 (n : Int) = [UInt8.ofNat (n / 256), UInt8.ofNat n] := by
  have e : ((n : Int) % 18446744073709551616).toNat = n := by omega
  simp [putB, putTo, List.range_succ, e]
theorem u8_65280 (t : Nat) (h : t < 256) : UInt8.ofNat (65280 + t) = UInt8.ofNat t := by
  apply UInt8.toNat.inj
  rw [UInt8.toNat_ofNat', UInt8.toNat_ofNat']
  omega
theorem mark_put (t : Nat) (h : t < 256) : putB 2 (65280 + (t : Int)) = [255, UInt8.ofNat t] := by
  have e : (65280 : Int) + (t : Int) = ((65280 + t : Nat) : Int) := by simp
  rw [e, putB_2 _ (by omega), u8_65280 t h, show (65280 + t) / 256 = 255 by omega]
  rfl
theorem segT_segB (t : Nat) (h : t < 256) (d : List UInt8) (hd : d.length ≤ 100) (hb : bareT t = false) : segT t d = segB (65280 + (t : Int)) d := by
  unfold segT segB putsB
  rw [hb]
  have e : ((d.length : Int) + 2) = ((d.length + 2 : Nat) : Int) := by simp
  simp only [List.flatMap_cons, List.flatMap_nil, List.append_nil]
  rw [mark_put t h, e, putB_2 _ (by omega), show (d.length + 2) / 256 = 0 by omega]
  rfl

section
variable {f : Int → Option (List UInt8)} {h h2 : HeadM} {e : Int} {l2 rest : List UInt8} {t : Nat} {d : List UInt8}
theorem front_mark (ht : t < 256) (l : List UInt8) : 2 ≤ (255 :: UInt8.ofNat t :: l : List UInt8).length ∧ getI ((255 :: UInt8.ofNat t :: l : List UInt8).take 2) = 65280 + (t : Int) := by
  refine ⟨by simp, ?_⟩
  show getI [255, UInt8.ofNat t] = _
  rw [← mark_put t ht]
  exact getI_put2' _ (by omega)
theorem segT_front (ht : t < 256) : ∃ l, segT t d ++ rest = 255 :: UInt8.ofNat t :: l := by
  unfold segT
  split
  · exact ⟨_, rfl⟩
  · exact ⟨_, rfl⟩
/-- a marker that is bad by itself -/
theorem Run.mark_ (ht : t < 256) (hs : t ≠ 144) (ho : otherE (65280 + (t : Int)) ≠ 0) : Run f h (segT t d ++ rest) (otherE (65280 + (t : Int))) h (segT t d ++ rest) := by
  obtain ⟨l, hl⟩ := segT_front (t := t) (d := d) (rest := rest) ht
  rw [hl]
  obtain ⟨h1, h3⟩ := front_mark ht l
  have r := Run.bad (f := f) (h := h) (l := 255 :: UInt8.ofNat t :: l) (e := otherE (65280 + (t : Int))) h1 (by rw [h3]; omega) (by rw [h3]; exact OneBad.mark ho)
  exact r
/-- SOT itself -/
theorem Run.sot_ : Run f h (segT 144 d ++ rest) (endE f h) h ((segT 144 d ++ rest).drop 2) := by
  obtain ⟨l, hl⟩ := segT_front (t := 144) (d := d) (rest := rest) (by decide)
  rw [hl]
  obtain ⟨h1, h3⟩ := front_mark (t := 144) (by decide) l
  exact Run.sot h1 h3
/-- a marker without a length -/
theorem Run.bare_ (ht : t < 256) (hb : bareT t = true) (r : Run f h rest e h2 l2) : Run f h (segT t d ++ rest) e h2 l2 := by
  have hb' : 48 ≤ t ∧ t ≤ 63 := by unfold bareT at hb; simpa using hb
  have e1 : segT t d ++ rest = 255 :: UInt8.ofNat t :: rest := by unfold segT; rw [hb]; rfl
  rw [e1]
  obtain ⟨h1, h3⟩ := front_mark ht rest
  have q1 : isWay (65280 + (t : Int)) = false := by unfold isWay; simp; omega
  have q2 : isBad (65280 + (t : Int)) = false := by unfold isBad; simp; omega
  have o1 : otherE (65280 + (t : Int)) = 0 := by unfold otherE; rw [q1, q2]; simp; omega
  have o2 : otherL (65280 + (t : Int)) = false := by unfold otherL; rw [q1, q2]; simp; omega
  refine Run.ok h1 (by rw [h3]; omega) (OneOk.skip (by rw [h3]; exact o1) (by rw [h3]; exact o2)) ?_
  exact r
/-- a segment that is passed over -/
theorem Run.over_ (ht : t < 256) (hd : d.length ≤ 100) (hb : bareT t = false) (hs : t ≠ 144) (hw : isWayT t = false) (hbd : isBadT t = false) (n1 : t ≠ 82) (n2 : t ≠ 92) (n3 : t ≠ 100) (r : Run (setF f (65280 + (t : Int)) d) h rest e h2 l2) : Run f h (segT t d ++ rest) e h2 l2 := by
  rw [segT_segB t ht d hd hb]
  obtain ⟨h1, h3, h4⟩ := seg_front (65280 + (t : Int)) (by omega) d rest (by omega)
  have hb' : ¬(48 ≤ t ∧ t ≤ 63) := by unfold bareT at hb; simp at hb; omega
  have q1 : isWay (65280 + (t : Int)) = false := by unfold isWayT at hw; unfold isWay; simp at hw ⊢; omega
  have q2 : isBad (65280 + (t : Int)) = false := by unfold isBadT at hbd; unfold isBad; simp at hbd ⊢; omega
  have o1 : otherE (65280 + (t : Int)) = 0 := by unfold otherE; rw [q1, q2]; simp; omega
  have o2 : otherL (65280 + (t : Int)) = true := by unfold otherL; rw [q1, q2]; simp; omega
  refine Run.ok h1 (by rw [h3]; omega) (OneOk.other d rest (by rw [h3]; exact o1) (by rw [h3]; exact o2) (by rw [h3]; omega) (by rw [h3]; omega) (by rw [h3]; omega) h4) ?_
  rw [h3]
  exact r
theorem Run.comT_ (hd : d.length ≤ 100) (hd2 : 2 ≤ d.length) (r : Run (setF f 65380 d) { h with com := d.drop 2 } rest e h2 l2) : Run f h (segT 100 d ++ rest) e h2 l2 := by
  rw [segT_segB 100 (by decide) d hd (by decide)]
  exact Run.com_ (by omega) hd2 r
theorem Run.comShort_ (hd2 : d.length < 2) : Run f h (segT 100 d ++ rest) 10 h (segT 100 d ++ rest) := by
  rw [segT_segB 100 (by decide) d (by omega) (by decide)]
  show Run f h (segB 65380 d ++ rest) 10 h (segB 65380 d ++ rest)
  obtain ⟨h1, h3, h4⟩ := seg_front 65380 (by decide) d rest (by omega)
  exact .bad h1 (by rw [h3]; decide) (OneBad.comShort d rest h3 h4 hd2)
end

theorem twice_mark {f : Int → Option (List UInt8)} {h : HeadM} {t : Nat} {d rest : List UInt8} (ht : t = 82 ∨ t = 92) (hd : d.length ≤ 100) (hf : f (65280 + (t : Int)) ≠ none) : Run f h (segT t d ++ rest) 10 h (segT t d ++ rest) := by
  rw [segT_segB t (by omega) d hd (by rcases ht with rfl | rfl <;> decide)]
  exact Run.twice_ (by omega) (by omega) hf

/-- MarksSegments, in plain -/
structure SegsSay (t : Nat) (d M : List UInt8) (tot : Nat) (e : Int) (hd : HeadM) (l2 : List UInt8) : Prop where
  way : isWayT t = true → e = 13
  bad : isBadT t = true → e = 10
  two : t = 82 ∨ t = 92 → e = 10
  sot : t = 144 → e = 0 ∧ l2.length + 2 + M.length = tot
  com : t = 100 → d.length < 2 → e = 10
  rem : t = 100 → 2 ≤ d.length → e = 0 ∧ hd.com = d.drop 2 ∧ l2 = []
  els : isWayT t = false → isBadT t = false → t ≠ 82 → t ≠ 92 → t ≠ 144 → t ≠ 100 → e = 0 ∧ hd.com = [] ∧ l2 = []

theorem front_segs (m : ImgD) (p : ParD) (rest : List UInt8) (h : CodFit p) {e : Int} {hd : HeadM} {l2 : List UInt8} (hs : SizOk m p) (hn : m.cs.length < 20000)
    (r : Run (setF (setF (fun _ => none) 65362 (codM p)) 65372 (qcdM m p)) { sizH m p zH with p := { p with tx := p.tx, ty := p.ty } } rest e hd l2) : All (mainM m p [] ++ rest) e hd l2 := by
  rw [mainM_front]
  exact All.front2_ hs hn (Run.cod_ rfl h (Run.qcd_ (by rw [setF_ne _ _ (by decide)]) (qcd_len m p h) (qcd0 m p) q96 r))

theorem segs_say {m : ImgD} {p : ParD} (hs : SizOk m p) (hn : m.cs.length < 20000) (hc : CodFit p) (hF : frameE m p = 0) (t : Nat) (ht : t < 256) (d : List UInt8) (hd : d.length ≤ 100) (tw : Bool) :
    ∃ e hd2 l2, All (mainM m p [] ++ (segsT t d tw ++ [255, 144])) e hd2 l2 ∧ SegsSay t d (mainM m p []) (mainM m p [] ++ (segsT t d tw ++ [255, 144])).length e hd2 l2 := by
  have E : ∀ (f : Int → Option (List UInt8)) (h : HeadM), f 65362 = some (codM p) → f 65372 = some (qcdM m p) → imgH h = bareM m → h.p = p → endE f h = 0 := fun f h h1 h2 h3 h4 => by rw [endE_head h1 h2 h3 h4, hF]
  have F1 : (setF (setF (fun _ => none) 65362 (codM p)) 65372 (qcdM m p)) 65362 = some (codM p) := by rw [setF_ne _ _ (by decide), setF_same]
  have F2 : (setF (setF (fun _ => none) 65362 (codM p)) 65372 (qcdM m p)) 65372 = some (qcdM m p) := by rw [setF_same]
  have e2 : segsT t d tw ++ [255, 144] = segT t d ++ ((if tw then segT t d else []) ++ [255, 144]) := by
    unfold segsT
    cases tw <;> simp
  rw [e2]
  obtain ⟨R, hR⟩ : ∃ R, (if tw then segT t d else []) ++ [255, 144] = R := ⟨_, rfl⟩
  by_cases hw : isWayT t = true
  · have hw' : isWay (65280 + (t : Int)) = true := by unfold isWayT at hw; unfold isWay; simp at hw ⊢; omega
    have o1 : otherE (65280 + (t : Int)) = 13 := by unfold otherE; rw [hw']; rfl
    have h144 : t ≠ 144 := by rintro rfl; exact absurd hw (by decide)
    have hb : isBadT t = false := by unfold isWayT at hw; unfold isBadT; simp at hw ⊢; omega
    have r := front_segs m p _ hc hs hn (Run.mark_ (d := d) (rest := (if tw then segT t d else []) ++ [255, 144]) ht h144 (by rw [o1]; decide))
    rw [o1] at r
    refine ⟨_, _, _, r, ⟨fun _ => rfl, fun q => ?_, fun q => ?_, fun q => ?_, fun q => ?_, fun q => ?_, fun q => ?_⟩⟩
    · rw [hb] at q; cases q
    · exfalso; rcases q with rfl | rfl <;> exact absurd hw (by decide)
    · exact absurd q h144
    · exfalso; subst q; exact absurd hw (by decide)
    · exfalso; subst q; exact absurd hw (by decide)
    · rw [hw] at q; cases q
  have hw0 : isWayT t = false := by simpa using hw
  by_cases hb : isBadT t = true
  · have hb' : isBad (65280 + (t : Int)) = true := by unfold isBadT at hb; unfold isBad; simp at hb ⊢; omega
    have hw' : isWay (65280 + (t : Int)) = false := by unfold isWayT at hw0; unfold isWay; simp at hw0 ⊢; omega
    have o1 : otherE (65280 + (t : Int)) = 10 := by unfold otherE; rw [hw', hb']; rfl
    have h144 : t ≠ 144 := by rintro rfl; exact absurd hb (by decide)
    have r := front_segs m p _ hc hs hn (Run.mark_ (d := d) (rest := (if tw then segT t d else []) ++ [255, 144]) ht h144 (by rw [o1]; decide))
    rw [o1] at r
    refine ⟨_, _, _, r, ⟨fun q => ?_, fun _ => rfl, fun q => rfl, fun q => absurd q h144, fun q => ?_, fun q => ?_, fun q q2 => ?_⟩⟩
    · exact absurd (hw0.symm.trans q) (by decide)
    · exact fun _ => rfl
    · exfalso; subst q; exact absurd hb (by decide)
    · rw [hb] at q2; cases q2
  have hb0 : isBadT t = false := by simpa using hb
  by_cases h2 : t = 82 ∨ t = 92
  · have hf : (setF (setF (fun _ => none) 65362 (codM p)) 65372 (qcdM m p)) (65280 + (t : Int)) ≠ none := by
      rcases h2 with rfl | rfl
      · rw [show (65280 + ((82 : Nat) : Int)) = 65362 from rfl, F1]
        simp
      · rw [show (65280 + ((92 : Nat) : Int)) = 65372 from rfl, F2]
        simp
    have r := front_segs m p _ hc hs hn (twice_mark (d := d) (rest := (if tw then segT t d else []) ++ [255, 144]) h2 hd hf)
    refine ⟨_, _, _, r, ⟨fun q => ?_, fun q => ?_, fun _ => rfl, fun q => by omega, fun q => by omega, fun q => by omega, fun _ _ q1 q2 => by omega⟩⟩
    · exact absurd (hw0.symm.trans q) (by decide)
    · exact absurd (hb0.symm.trans q) (by decide)
  by_cases h144 : t = 144
  · subst h144
    have r := front_segs m p _ hc hs hn (Run.sot_ (d := d) (rest := (if tw then segT 144 d else []) ++ [255, 144]))
    rw [E _ _ F1 F2 rfl rfl] at r
    refine ⟨_, _, _, r, ⟨fun q => ?_, fun q => ?_, fun q => by omega, fun _ => ⟨rfl, ?_⟩, fun q => by omega, fun q => by omega, fun _ _ _ _ q => absurd rfl q⟩⟩
    · exact absurd (hw0.symm.trans q) (by decide)
    · exact absurd (hb0.symm.trans q) (by decide)
    · rw [List.length_drop]
      have h1 : (mainM m p [] ++ (segT 144 d ++ ((if tw then segT 144 d else []) ++ [255, 144]))).length = (mainM m p []).length + (segT 144 d ++ ((if tw then segT 144 d else []) ++ [255, 144])).length := List.length_append
      have : 2 ≤ (segT 144 d ++ ((if tw then segT 144 d else []) ++ [255, 144])).length := by simp; omega
      omega
  by_cases h100 : t = 100
  · subst h100
    by_cases hd2 : d.length < 2
    · have r := front_segs m p _ hc hs hn (Run.comShort_ (d := d) (rest := (if tw then segT 100 d else []) ++ [255, 144]) hd2)
      refine ⟨_, _, _, r, ⟨fun q => ?_, fun q => ?_, fun q => by omega, fun q => by omega, fun _ _ => rfl, fun _ q => by omega, fun _ _ _ _ _ q => absurd rfl q⟩⟩
      · exact absurd (hw0.symm.trans q) (by decide)
      · exact absurd (hb0.symm.trans q) (by decide)
    · have hX : ∃ f h, Run f h [255, 144] 0 h [] ∧ h.com = d.drop 2 ∧ (∀ e hd2 l2, Run f h [255, 144] e hd2 l2 → Run (setF (setF (fun _ => none) 65362 (codM p)) 65372 (qcdM m p)) { sizH m p zH with p := { p with tx := p.tx, ty := p.ty } } (segT 100 d ++ ((if tw then segT 100 d else []) ++ [255, 144])) e hd2 l2) := by
        cases tw with
        | false =>
          refine ⟨setF (setF (setF (fun _ => none) 65362 (codM p)) 65372 (qcdM m p)) 65380 d, { sizH m p zH with p := { p with tx := p.tx, ty := p.ty }, com := d.drop 2 }, ?_, rfl, fun e hd2 l2 r => Run.comT_ hd (by omega) r⟩
          have r := Run.end_ (f := setF (setF (setF (fun _ => none) 65362 (codM p)) 65372 (qcdM m p)) 65380 d) (h := { sizH m p zH with p := { p with tx := p.tx, ty := p.ty }, com := d.drop 2 }) (rest := [])
          rw [E _ _ (by rw [setF_ne _ _ (by decide)]; exact F1) (by rw [setF_ne _ _ (by decide)]; exact F2) rfl rfl] at r
          exact r
        | true =>
          refine ⟨setF (setF (setF (setF (fun _ => none) 65362 (codM p)) 65372 (qcdM m p)) 65380 d) 65380 d, { sizH m p zH with p := { p with tx := p.tx, ty := p.ty }, com := d.drop 2 }, ?_, rfl, fun e hd2 l2 r => Run.comT_ hd (by omega) (Run.comT_ hd (by omega) r)⟩
          have r := Run.end_ (f := setF (setF (setF (setF (fun _ => none) 65362 (codM p)) 65372 (qcdM m p)) 65380 d) 65380 d) (h := { sizH m p zH with p := { p with tx := p.tx, ty := p.ty }, com := d.drop 2 }) (rest := [])
          rw [E _ _ (by rw [setF_ne _ _ (by decide), setF_ne _ _ (by decide)]; exact F1) (by rw [setF_ne _ _ (by decide), setF_ne _ _ (by decide)]; exact F2) rfl rfl] at r
          exact r
      obtain ⟨f, h, r0, hcom, hr⟩ := hX
      refine ⟨_, _, _, front_segs m p _ hc hs hn (hr _ _ _ r0), ⟨fun q => ?_, fun q => ?_, fun q => by omega, fun q => by omega, fun _ q => by omega, fun _ _ => ⟨rfl, hcom, rfl⟩, fun _ _ _ _ _ q => absurd rfl q⟩⟩
      · exact absurd (hw0.symm.trans q) (by decide)
      · exact absurd (hb0.symm.trans q) (by decide)
  · have hX : ∃ f h, Run f h [255, 144] 0 h [] ∧ h.com = [] ∧ (∀ e hd2 l2, Run f h [255, 144] e hd2 l2 → Run (setF (setF (fun _ => none) 65362 (codM p)) 65372 (qcdM m p)) { sizH m p zH with p := { p with tx := p.tx, ty := p.ty } } (segT t d ++ ((if tw then segT t d else []) ++ [255, 144])) e hd2 l2) := by
      have n1 : t ≠ 82 := fun q => h2 (.inl q)
      have n2 : t ≠ 92 := fun q => h2 (.inr q)
      have ne1 : ∀ g : Int → Option (List UInt8), setF g (65280 + (t : Int)) d 65362 = g 65362 := fun g => setF_ne _ _ (by omega)
      have ne2 : ∀ g : Int → Option (List UInt8), setF g (65280 + (t : Int)) d 65372 = g 65372 := fun g => setF_ne _ _ (by omega)
      by_cases hbt : bareT t = true
      · refine ⟨setF (setF (fun _ => none) 65362 (codM p)) 65372 (qcdM m p), { sizH m p zH with p := { p with tx := p.tx, ty := p.ty } }, ?_, rfl, fun e hd2 l2 r => ?_⟩
        · have r := Run.end_ (f := setF (setF (fun _ => none) 65362 (codM p)) 65372 (qcdM m p)) (h := { sizH m p zH with p := { p with tx := p.tx, ty := p.ty } }) (rest := [])
          rw [E _ _ F1 F2 rfl rfl] at r
          exact r
        · refine Run.bare_ ht hbt ?_
          cases tw with
          | false => exact r
          | true => exact Run.bare_ ht hbt r
      · have hbt0 : bareT t = false := by simpa using hbt
        cases tw with
        | false =>
          refine ⟨setF (setF (setF (fun _ => none) 65362 (codM p)) 65372 (qcdM m p)) (65280 + (t : Int)) d, { sizH m p zH with p := { p with tx := p.tx, ty := p.ty } }, ?_, rfl, fun e hd2 l2 r => Run.over_ ht hd hbt0 h144 hw0 hb0 n1 n2 h100 r⟩
          have r := Run.end_ (f := setF (setF (setF (fun _ => none) 65362 (codM p)) 65372 (qcdM m p)) (65280 + (t : Int)) d) (h := { sizH m p zH with p := { p with tx := p.tx, ty := p.ty } }) (rest := [])
          rw [E _ _ (by rw [ne1]; exact F1) (by rw [ne2]; exact F2) rfl rfl] at r
          exact r
        | true =>
          refine ⟨setF (setF (setF (setF (fun _ => none) 65362 (codM p)) 65372 (qcdM m p)) (65280 + (t : Int)) d) (65280 + (t : Int)) d, { sizH m p zH with p := { p with tx := p.tx, ty := p.ty } }, ?_, rfl, fun e hd2 l2 r => Run.over_ ht hd hbt0 h144 hw0 hb0 n1 n2 h100 (Run.over_ ht hd hbt0 h144 hw0 hb0 n1 n2 h100 r)⟩
          have r := Run.end_ (f := setF (setF (setF (setF (fun _ => none) 65362 (codM p)) 65372 (qcdM m p)) (65280 + (t : Int)) d) (65280 + (t : Int)) d) (h := { sizH m p zH with p := { p with tx := p.tx, ty := p.ty } }) (rest := [])
          rw [E _ _ (by rw [ne1, ne1]; exact F1) (by rw [ne2, ne2]; exact F2) rfl rfl] at r
          exact r
    obtain ⟨f, h, r0, hcom, hr⟩ := hX
    refine ⟨_, _, _, front_segs m p _ hc hs hn (hr _ _ _ r0), ⟨fun q => ?_, fun q => ?_, fun q => absurd q h2, fun q => absurd q h144, fun q => absurd q h100, fun q => absurd q h100, fun _ _ _ _ _ _ => ⟨rfl, hcom, rfl⟩⟩⟩
    · exact absurd (hw0.symm.trans q) (by decide)
    · exact absurd (hb0.symm.trans q) (by decide)
end Go.Proofs.Ytlhlhlabnjfhcaa
