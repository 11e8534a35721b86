/- waveletref8: a pass. waveletref4, waveletref5, waveletref8: where a pass ends; which pass is raw, which one ends a segment; may a block be so? waveletref5: a raw segment is shut. -/
import Derived.Test.YtnpoakabheeoeaaMqv
import Derived.Deep.MidRow
namespace Go.Proofs.Ytnpoakabheeoeaa
open Go.RowKit

def putA (cs : Array Value) : Nat → List Value → Array Value
  | _, [] => cs
  | o, v :: vs => putA (cs.setIfInBounds o v) (o + 1) vs
theorem putA_mid (C : List Value) : ∀ (vs A B : List Value), B.length = vs.length → putA (A ++ (B ++ C)).toArray A.length vs = (A ++ (vs ++ C)).toArray
  | [], A, B, h => by
    have : B = [] := List.eq_nil_of_length_eq_zero h
    subst this
    rfl
  | v :: vs, A, [], h => by simp at h
  | v :: vs, A, b :: B, h => by
    have ih := putA_mid C vs (A ++ [v]) B (by simpa using h)
    rw [List.length_append, List.length_singleton, List.append_assoc, List.append_assoc] at ih
    simp only [putA, List.setIfInBounds_toArray]
    rw [List.set_append_right _ _ (Nat.le_refl _), Nat.sub_self]
    exact ih
theorem Mv.setCells {w0 : World} {H0 R : List HB} {g : Nat} {t : TypeId} : ∀ (vs : List Value) (w : World) (cs : Array Value) (o : Nat), Mv w0 H0 w (⟨g, t, cs⟩ :: R) → Mv w0 H0 (w.setCells g o vs) (⟨g, t, putA cs o vs⟩ :: R)
  | [], _w, _cs, _o, h => h
  | v :: vs, _w, _cs, o, h => Mv.setCells vs _ _ (o + 1) (h.set o v)
theorem CodR.reset {A : CodA} {G : GeoM} {q : CS} {raw : Bool} {eg rg : Nat} {H H0 : List HB} {w0 w : World} (h : CodR A G q raw eg rg H) (hq : q.s.Ok) (m : Mv w0 H0 w H) : ∃ H', CodR A G ⟨q.c, { q.s with cx := cxFresh }⟩ raw eg rg H' ∧ Mv w0 H0 (w.setCells A.cb 9 (cxV cxFresh)) H' := by
  obtain ⟨He, Hr, h1, h2, rfl⟩ := h
  have := Mv.setCells (cxV cxFresh) w _ 9 m
  have e : putA (codV A G q.s.cx raw eg rg).toArray 9 (cxV cxFresh) = (codV A G cxFresh raw eg rg).toArray :=
    putA_mid _ (cxV cxFresh) _ (cxV q.s.cx) (by rw [cxV_length, cxV_length, hq.len]; rfl)
  rw [e] at this
  exact ⟨_, ⟨He, Hr, h1, h2, rfl⟩, this⟩
theorem CodR.there {A : CodA} {G : GeoM} {q : CS} {raw : Bool} {eg rg : Nat} {H : List HB} {w : World} (h : CodR A G q raw eg rg H) (hq : q.s.Ok) (hs : Sat w H) : w.there A.cb 9 38 := by
  obtain ⟨He, Hr, -, -, rfl⟩ := h
  have b : Blk w A.cb 98 (codV A G q.s.cx raw eg rg).toArray := hs.at_ 0 (by rfl)
  intro j hj
  refine ⟨?_, b.frozen _⟩
  rw [b.cell]
  have hl : (codV A G q.s.cx raw eg rg).length = 53 := by
    simp only [codV, List.length_append, List.length_cons, List.length_nil, cxV_length, hq.len]
  rw [List.getElem?_toArray, List.getElem?_eq_getElem (by omega)]
  first | exact ⟨_, rfl⟩ | simp
theorem and2 : ∀ s, s < 64 → (s &&& 2) = if s.testBit 1 then 2 else 0 := by decide
theorem style2 (s : Nat) (h : s ≤ 63) : bits .and .i64 (s : Int) 2 = if s.testBit 1 then 2 else 0 := by
  have h1 := i64_and_nat s 2 (by omega) (by omega)
  rw [and2 s (by omega)] at h1
  rw [show ((2 : Nat) : Int) = 2 from rfl] at h1
  rw [h1]
  split <;> rfl
theorem store_cx {w : World} {b : Nat} {V : Array Value} (ht : w.there b 9 V.size) (h1 : ∀ v ∈ V.toList, v.oneCell' = true) : (storeCells ⟨b, 9, none⟩ V.toList).run Try.prog w = .ok () (w.setCells b 9 V.toList) := by
  have := run_storeCells_cells (P := Try.prog) b 9 V.toList 0 w (fun j hj => by have := (ht j (by simpa using hj)).1; rw [Nat.add_zero]; exact this) (fun j hj => by rw [Nat.add_zero]; exact (ht j (by simpa using hj)).2) h1
  rw [Nat.add_zero] at this
  exact this
theorem cxV_one (l : List CxM) : ∀ v ∈ cxV l, v.oneCell' = true := by
  intro v hv
  simp only [cxV, List.mem_flatMap, List.mem_cons, List.not_mem_nil, or_false] at hv
  obtain ⟨c, -, rfl | rfl⟩ := hv <;> rfl
set_option maxRecDepth 100000 in
set_option maxHeartbeats 2000000 in
theorem cod_pass (A : CodA) (G : GeoM) (q : CS) (raw : Bool) (eg rg planes k : Nat) (H : List HB) (w : World) (hg : G.Ok) (hc : q.c.Ok G) (h : CodR A G q raw eg rg H) (hs : Sat w H) (hq : q.s.Ok) (hz : q.s.size + (192 * (G.w * G.h) + 100) ≤ 79000000) (hp : planes ≤ 40) (hk : k < countM planes) :
    Calls Try.prog 40 #[.pointer (some ⟨A.cb, 0, none⟩), .int .i64 (k : Int), .int .i64 (planes : Int)] w fun e w' => e = .returned (.tuple #[]) ∧ ∃ H', CodR A G (passM G raw planes k q) raw eg rg H' ∧ Mv w H w' H' := by
  have V := h.see hg hc hs
  have c3 := V.style
  have e2 := style2 G.style hg.style
  have kb : k + 2 < 3 * planes := by unfold countM at hk; omega
  obtain ⟨p, hpl⟩ : ∃ p, planes - 1 - (k + 2) / 3 = p := ⟨_, rfl⟩
  have pe : (planes : Int) - 1 - ((k : Int) + 2) / 3 = (p : Int) := by omega
  have p40 : p ≤ 40 := by omega
  obtain ⟨R, hR⟩ : ∃ R, passM G raw planes k q = R := ⟨_, rfl⟩
  rw [hR]
  obtain ⟨kd, hkd⟩ : ∃ kd, kindM k = kd := ⟨_, rfl⟩
  obtain ⟨q1, hq1⟩ : ∃ q1, resetM G q = q1 := ⟨_, rfl⟩
  have RE : Hid (R = if kd = 0 then runM (sigStep G raw p) (G.w * G.h) 0 q1 else if kd = 1 then runM (refStep G raw p) (G.w * G.h) 0 q1 else cleanM G raw p q1) := Lib.hid (by rw [← hR]; unfold passM; rw [hpl, hkd, hq1])
  have QO : Hid (q1.c.Ok G ∧ q1.s.Ok ∧ q1.s.size = q.s.size) := Lib.hid (by
    rw [← hq1]
    unfold resetM
    split
    · exact ⟨hc, ⟨cxFresh_ok.1, cxFresh_ok.2, hq.e, hq.r⟩, rfl⟩
    · exact ⟨hc, hq, rfl⟩)
  have KI : Hid (∀ W, Calls Try.prog 67 #[.int .i64 (k : Int)] W fun e w' => e = .returned (.int .i64 (kd : Int)) ∧ w' = W) := Lib.hid fun W => by
    have := kind_any k W (by omega)
    rw [hkd] at this
    exact this
  have FR : Hid (∀ W, Calls Try.prog 66 #[] W fun e w' => ∃ V, e = .returned (.agg V) ∧ V = (cxV cxFresh).toArray ∧ Mv W [] w' []) := Lib.hid fun W => (fresh4_any W).mono fun _e _w' q => ⟨_, q.1, rfl, q.2⟩
  have K0 := Lib.hid (And.intro h (And.intro (Mv.refl hs) (And.intro hc (And.intro hq hz))))
  have HG := Lib.hid hg
  have HQ := Lib.hid hq1
  have kd3 : kd ≤ 2 := by rw [← hkd]; unfold kindM; split <;> omega
  clear V h hs hc hq hz hR hkd hq1 hg hpl hk
  rcases (Bool.eq_false_or_eq_true (G.style.testBit 1)).symm with ht | ht
  case' inl =>
    rw [ht] at e2
    simp only [Bool.false_eq_true, if_false] at e2
    have Q1 : Hid (q1 = q) := Lib.hid (by rw [← HQ.out]; unfold resetM; rw [ht]; rfl)
  case' inr =>
    rw [ht] at e2
    simp only [if_true] at e2
    have Q1 : Hid (q1 = ⟨q.c, { q.s with cx := cxFresh }⟩) := Lib.hid (by rw [← HQ.out]; unfold resetM; rw [ht]; rfl)
  all_goals
    clear ht
    go_enter Try.func40, Try.ntmps40
  case inl =>
    have KR : Hid (CodR A G q1 raw eg rg H ∧ Mv w H w H) := Lib.hid ⟨by rw [Q1.out]; exact K0.out.1, K0.out.2.1⟩
    go_upto_region 2 with fail
    obtain ⟨hw1, hw2⟩ := And.intro HG.out.w2 HG.out.h2
    have ZN : G.w * ((G.h + 3) / 4) ≤ G.w * G.h := Nat.mul_le_mul_left _ (by have := HG.out.h1; omega)
    have ZQ := K0.out.2.2.2.2
    have ZS := QO.out.2.2
    have S0 : Hid (Calls Try.prog 68 #[.pointer (some ⟨A.cb, 0, none⟩), .int .i64 (p : Int)] w fun e w' => e = .returned (.tuple #[]) ∧ ∃ H', CodR A G (runM (sigStep G raw p) (G.w * G.h) 0 q1) raw eg rg H' ∧ Mv w H w' H') := Lib.hid (cod_sigp A G q1 raw eg rg p H w HG.out QO.out.1 KR.out.1 KR.out.2.sat QO.out.2.1 (by omega) p40)
    have S1 : Hid (Calls Try.prog 69 #[.pointer (some ⟨A.cb, 0, none⟩), .int .i64 (p : Int)] w fun e w' => e = .returned (.tuple #[]) ∧ ∃ H', CodR A G (runM (refStep G raw p) (G.w * G.h) 0 q1) raw eg rg H' ∧ Mv w H w' H') := Lib.hid (cod_refp A G q1 raw eg rg p H w HG.out QO.out.1 KR.out.1 KR.out.2.sat QO.out.2.1 (by omega) p40)
    have S2 : Hid (Calls Try.prog 70 #[.pointer (some ⟨A.cb, 0, none⟩), .int .i64 (p : Int)] w fun e w' => e = .returned (.tuple #[]) ∧ ∃ H', CodR A G (cleanM G raw p q1) raw eg rg H' ∧ Mv w H w' H') := Lib.hid (cod_clean A G q1 raw eg rg p H w HG.out QO.out.1 KR.out.1 KR.out.2.sat QO.out.2.1 (by omega) p40)
    clear hw1 hw2 ZN ZQ ZS
    rcases (show kd = 0 ∨ kd = 1 ∨ kd = 2 by omega) with rfl | rfl | rfl
    · have RE2 := Lib.hid (RE.out.trans (if_pos rfl))
      go_wp2_with (first
        | (go_at_call 67; refine (KI.out _).mono ?_; rintro e w' ⟨rfl, rfl⟩)
        | (go_at_call 68; refine S0.out.mono ?_; rintro e w5 ⟨rfl, H5, h5, m5⟩; have K5 := Lib.hid (And.intro h5 (KR.out.2.trans m5)); clear h5 m5))
      exact bodyPost_end (results_none rfl _ _ _) rfl ⟨rfl, H5, by rw [RE2.out]; exact K5.out.1, K5.out.2⟩
    · have RE2 := Lib.hid (RE.out.trans ((if_neg (by decide)).trans (if_pos rfl)))
      go_wp2_with (first
        | (go_at_call 67; refine (KI.out _).mono ?_; rintro e w' ⟨rfl, rfl⟩)
        | (go_at_call 69; refine S1.out.mono ?_; rintro e w5 ⟨rfl, H5, h5, m5⟩; have K5 := Lib.hid (And.intro h5 (KR.out.2.trans m5)); clear h5 m5))
      exact bodyPost_end (results_none rfl _ _ _) rfl ⟨rfl, H5, by rw [RE2.out]; exact K5.out.1, K5.out.2⟩
    · have RE2 := Lib.hid (RE.out.trans ((if_neg (by decide)).trans (if_neg (by decide))))
      go_wp2_with (first
        | (go_at_call 67; refine (KI.out _).mono ?_; rintro e w' ⟨rfl, rfl⟩)
        | (go_at_call 70; refine S2.out.mono ?_; rintro e w5 ⟨rfl, H5, h5, m5⟩; have K5 := Lib.hid (And.intro h5 (KR.out.2.trans m5)); clear h5 m5))
      exact bodyPost_end (results_none rfl _ _ _) rfl ⟨rfl, H5, by rw [RE2.out]; exact K5.out.1, K5.out.2⟩
  case inr =>
    go_upto_region 2 with (go_at_call 66; refine (FR.out _).mono ?_; rintro e w1 ⟨V, rfl, hV, m1⟩; have M1 := Mv.call (H := []) (H' := []) (R := H) K0.out.2.1 m1; have hsz : V.size = 38 := (by rw [hV]; rfl); have hst := store_cx (w := w1) (b := A.cb) (V := V) (by rw [hsz]; exact K0.out.1.there K0.out.2.2.2.1 M1.sat) (by rw [hV]; exact cxV_one _); have HVV := Lib.hid hV; have KM := Lib.hid M1; clear hV m1 M1)
    have hth := K0.out.1.reset K0.out.2.2.2.1 KM.out
    have evl : V.toList = cxV cxFresh := by rw [HVV.out]
    rw [← evl] at hth
    obtain ⟨H2, r2, m2⟩ := hth
    generalize w1.setCells A.cb 9 V.toList = w2 at *
    have KR : Hid (CodR A G q1 raw eg rg H2 ∧ Mv w H w2 H2) := Lib.hid ⟨by rw [Q1.out]; exact r2, m2⟩
    clear hst evl r2 m2 KM hsz
    obtain ⟨hw1, hw2⟩ := And.intro HG.out.w2 HG.out.h2
    have ZN : G.w * ((G.h + 3) / 4) ≤ G.w * G.h := Nat.mul_le_mul_left _ (by have := HG.out.h1; omega)
    have ZQ := K0.out.2.2.2.2
    have ZS := QO.out.2.2
    have S0 : Hid (Calls Try.prog 68 #[.pointer (some ⟨A.cb, 0, none⟩), .int .i64 (p : Int)] w2 fun e w' => e = .returned (.tuple #[]) ∧ ∃ H', CodR A G (runM (sigStep G raw p) (G.w * G.h) 0 q1) raw eg rg H' ∧ Mv w2 H2 w' H') := Lib.hid (cod_sigp A G q1 raw eg rg p H2 w2 HG.out QO.out.1 KR.out.1 KR.out.2.sat QO.out.2.1 (by omega) p40)
    have S1 : Hid (Calls Try.prog 69 #[.pointer (some ⟨A.cb, 0, none⟩), .int .i64 (p : Int)] w2 fun e w' => e = .returned (.tuple #[]) ∧ ∃ H', CodR A G (runM (refStep G raw p) (G.w * G.h) 0 q1) raw eg rg H' ∧ Mv w2 H2 w' H') := Lib.hid (cod_refp A G q1 raw eg rg p H2 w2 HG.out QO.out.1 KR.out.1 KR.out.2.sat QO.out.2.1 (by omega) p40)
    have S2 : Hid (Calls Try.prog 70 #[.pointer (some ⟨A.cb, 0, none⟩), .int .i64 (p : Int)] w2 fun e w' => e = .returned (.tuple #[]) ∧ ∃ H', CodR A G (cleanM G raw p q1) raw eg rg H' ∧ Mv w2 H2 w' H') := Lib.hid (cod_clean A G q1 raw eg rg p H2 w2 HG.out QO.out.1 KR.out.1 KR.out.2.sat QO.out.2.1 (by omega) p40)
    clear hw1 hw2 ZN ZQ ZS
    rcases (show kd = 0 ∨ kd = 1 ∨ kd = 2 by omega) with rfl | rfl | rfl
    · have RE2 := Lib.hid (RE.out.trans (if_pos rfl))
      go_wp2_with (first
        | (go_at_call 67; refine (KI.out _).mono ?_; rintro e w' ⟨rfl, rfl⟩)
        | (go_at_call 68; refine S0.out.mono ?_; rintro e w5 ⟨rfl, H5, h5, m5⟩; have K5 := Lib.hid (And.intro h5 (KR.out.2.trans m5)); clear h5 m5))
      exact bodyPost_end (results_none rfl _ _ _) rfl ⟨rfl, H5, by rw [RE2.out]; exact K5.out.1, K5.out.2⟩
    · have RE2 := Lib.hid (RE.out.trans ((if_neg (by decide)).trans (if_pos rfl)))
      go_wp2_with (first
        | (go_at_call 67; refine (KI.out _).mono ?_; rintro e w' ⟨rfl, rfl⟩)
        | (go_at_call 69; refine S1.out.mono ?_; rintro e w5 ⟨rfl, H5, h5, m5⟩; have K5 := Lib.hid (And.intro h5 (KR.out.2.trans m5)); clear h5 m5))
      exact bodyPost_end (results_none rfl _ _ _) rfl ⟨rfl, H5, by rw [RE2.out]; exact K5.out.1, K5.out.2⟩
    · have RE2 := Lib.hid (RE.out.trans ((if_neg (by decide)).trans (if_neg (by decide))))
      go_wp2_with (first
        | (go_at_call 67; refine (KI.out _).mono ?_; rintro e w' ⟨rfl, rfl⟩)
        | (go_at_call 70; refine S2.out.mono ?_; rintro e w5 ⟨rfl, H5, h5, m5⟩; have K5 := Lib.hid (And.intro h5 (KR.out.2.trans m5)); clear h5 m5))
      exact bodyPost_end (results_none rfl _ _ _) rfl ⟨rfl, H5, by rw [RE2.out]; exact K5.out.1, K5.out.2⟩
end Go.Proofs.Ytnpoakabheeoeaa
namespace Go.Proofs.Ytnpoakabheeoeaa
open Go.RowKit

set_option maxRecDepth 100000 in
theorem enc_out (eg : Nat) (e : EncM) (w : World) (H : List HB) (h : MqR eg e H) (hs : Sat w H) (hb : e.b ≠ []) (hl : e.b.length ≤ 90000000) :
    Calls Try.prog 41 #[.pointer (some ⟨eg, 0, none⟩)] w fun e0 w' => e0 = .returned (.int .i64 ((e.b.length - 1 : Nat) : Int)) ∧ w' = w := by
  obtain ⟨vb, Hb, rfl, hr⟩ := h
  have h1 : 0 < e.b.length := List.length_pos_iff.2 hb
  obtain ⟨a, c, rfl⟩ := hr.slice
  have c3 : w.cell? ⟨eg, 3, none⟩ = some (.slice a e.b.length c) := (Mv.refl hs).cell 0 rfl 3
  obtain ⟨n, hn⟩ : ∃ n, e.b.length = n := ⟨_, rfl⟩
  rw [hn] at c3 hl h1 ⊢
  have d1 : (n : Int) - 1 = ((n - 1 : Nat) : Int) := by omega
  clear hr hs hn hb
  go_enter Try.func41, Try.ntmps41
  go_wp2_with fail
  go_ret
  exact ⟨rfl, rfl⟩
set_option maxRecDepth 100000 in
theorem raw_out (rg : Nat) (r : RawM) (w : World) (H : List HB) (h : RawR rg r H) (hs : Sat w H) (hl : r.b.length ≤ 90000000) :
    Calls Try.prog 42 #[.pointer (some ⟨rg, 0, none⟩)] w fun e0 w' => e0 = .returned (.int .i64 ((rawOut r : Nat) : Int)) ∧ ∃ n, w' = w.drewN n := by
  obtain ⟨vb, Hb, rfl, hr⟩ := h
  obtain ⟨a, c, rfl⟩ := hr.slice
  have c0 : w.cell? ⟨rg, 0, none⟩ = some (.slice a r.b.length c) := (Mv.refl hs).cell 0 rfl 0
  have c2 : w.cell? ⟨rg, 2, none⟩ = some (.int .i64 (r.free : Int)) := (Mv.refl hs).cell 0 rfl 2
  have c3 : w.cell? ⟨rg, 3, none⟩ = some (.int .i64 (r.top : Int)) := (Mv.refl hs).cell 0 rfl 3
  unfold rawOut
  generalize r.b.length = n at *
  generalize r.free = f at *
  generalize r.top = t at *
  clear hr hs
  by_cases hlt : f < t
  · rw [if_pos hlt]
    have d1 : decide ((f : Int) < (t : Int)) = true := by simp; omega
    go_enter Try.func42, Try.ntmps42
    go_upto_region 1 with fail
    go_region
    all_goals
      go_wp2_with fail
      go_ret
      refine ⟨congrArg (fun z => Ending.returned (.int .i64 z)) ?_, 1, rfl⟩
      omega
  · rw [if_neg hlt]
    have d1 : decide ((f : Int) < (t : Int)) = false := by simp; omega
    go_enter Try.func42, Try.ntmps42
    go_upto_region 1 with fail
    go_region
    all_goals
      go_wp2_with fail
      go_ret
      refine ⟨congrArg (fun z => Ending.returned (.int .i64 z)) ?_, 1, rfl⟩
      omega
theorem and1 : ∀ s, s < 64 → (s &&& 1) = if s.testBit 0 then 1 else 0 := by decide
theorem style1 (s : Nat) (h : s ≤ 63) : bits .and .i64 (s : Int) 1 = if s.testBit 0 then 1 else 0 := by
  have h1 := i64_and_nat s 1 (by omega) (by omega)
  rw [and1 s (by omega)] at h1
  rw [show ((1 : Nat) : Int) = (1 : Int) from rfl] at h1
  rw [h1]
  split <;> rfl
theorem and4 : ∀ s, s < 64 → (s &&& 4) = if s.testBit 2 then 4 else 0 := by decide
theorem style4 (s : Nat) (h : s ≤ 63) : bits .and .i64 (s : Int) 4 = if s.testBit 2 then 4 else 0 := by
  have h1 := i64_and_nat s 4 (by omega) (by omega)
  rw [and4 s (by omega)] at h1
  rw [show ((4 : Nat) : Int) = (4 : Int) from rfl] at h1
  rw [h1]
  split <;> rfl
set_option maxRecDepth 100000 in
set_option maxHeartbeats 1000000 in
theorem israw_any (s k : Nat) (w : World) (hs : s ≤ 63) (hk : k ≤ 1000) :
    Calls Try.prog 37 #[.int .i64 (s : Int), .int .i64 (k : Int)] w fun e w' => e = .returned (.bool (isRawM s k)) ∧ w' = w := by
  have VS := style1 s hs
  have KA := fun w => kind_any k w hk
  unfold isRawM
  rcases (Bool.eq_false_or_eq_true (s.testBit 0)).symm with ht | ht
  · rw [ht] at VS ⊢
    simp only [Bool.false_eq_true, if_false, Bool.false_and] at VS ⊢
    go_enter Try.func37, Try.ntmps37
    go_wp2_with fail
    go_ret
    exact ⟨rfl, rfl⟩
  · rw [ht] at VS ⊢
    simp only [if_true, Bool.true_and] at VS ⊢
    by_cases h10 : 10 ≤ k
    · have d1 : decide ((10 : Int) ≤ (k : Int)) = true := by simp; omega
      rw [decide_eq_true h10, Bool.true_and]
      by_cases h2 : kindM k = 2
      · have d2 : (((kindM k : Nat) : Int) == 2) = true := by rw [h2]; rfl
        rw [decide_eq_true h2]
        go_enter Try.func37, Try.ntmps37
        go_wp2_with (first | (go_at_call 67; refine (KA _).mono ?_; rintro _ _ ⟨rfl, rfl⟩))
        go_ret
        exact ⟨rfl, rfl⟩
      · have d2 : (((kindM k : Nat) : Int) == 2) = false := beq_eq_false_iff_ne.2 (by omega)
        rw [decide_eq_false h2]
        generalize kindM k = kk at *
        clear h2
        go_enter Try.func37, Try.ntmps37
        go_wp2_with (first | (go_at_call 67; refine (KA _).mono ?_; rintro _ _ ⟨rfl, rfl⟩))
        go_ret
        exact ⟨congrArg (fun b => Ending.returned (.bool b)) (by rw [bne, d2]), rfl⟩
    · have d1 : decide ((10 : Int) ≤ (k : Int)) = false := by simp; omega
      rw [decide_eq_false h10, Bool.false_and]
      go_enter Try.func37, Try.ntmps37
      go_wp2_with fail
      go_ret
      exact ⟨rfl, rfl⟩
theorem kindM_lt (k : Nat) : kindM k = 0 ∨ kindM k = 1 ∨ kindM k = 2 := by
  unfold kindM
  split <;> omega
set_option maxRecDepth 100000 in
set_option maxHeartbeats 1000000 in
theorem ends_any (s k : Nat) (w : World) (hs : s ≤ 63) (hk : k ≤ 1000) :
    Calls Try.prog 43 #[.int .i64 (s : Int), .int .i64 (k : Int)] w fun e w' => e = .returned (.bool (endsM s k)) ∧ w' = w := by
  have VS := style1 s hs
  have V4 := style4 s hs
  have KA := fun w => kind_any k w hk
  have hkm := kindM_lt k
  have d0 : decide ((k : Int) < 0) = false := by simp
  have e9 : (9 ≤ k) = ((9 : Int) ≤ (k : Int)) := by simp only [eq_iff_iff]; omega
  have e10 : (10 ≤ k) = ((10 : Int) ≤ (k : Int)) := by simp only [eq_iff_iff]; omega
  unfold endsM
  rcases (Bool.eq_false_or_eq_true (s.testBit 2)).symm with h2 | h2
  · rw [h2] at V4 ⊢
    rcases (Bool.eq_false_or_eq_true (s.testBit 0)).symm with h0 | h0
    · rw [h0] at VS ⊢
      simp only [Bool.false_eq_true, if_false, Bool.false_and, Bool.false_or] at VS V4 ⊢
      clear e9 e10 hkm KA
      go_enter Try.func43, Try.ntmps43
      go_wp2_with fail
      go_ret
      exact ⟨rfl, rfl⟩
    · rw [h0] at VS ⊢
      simp only [Bool.false_eq_true, if_false, if_true, Bool.true_and, Bool.false_or] at VS V4 ⊢
      by_cases h9 : 9 ≤ k
      · by_cases h10 : 10 ≤ k
        · have d1 : decide ((9 : Int) ≤ (k : Int)) = true := by simp; omega
          have d2 : decide ((10 : Int) ≤ (k : Int)) = true := by simp; omega
          rw [decide_eq_true h9, decide_eq_true h10]
          clear e9 e10 h9 h10
          rcases hkm with h | h | h <;> rw [h] at KA ⊢ <;> clear h <;> (go_enter Try.func43, Try.ntmps43; go_wp2_with (first | (go_at_call 67; refine (KA _).mono ?_; rintro _ _ ⟨rfl, rfl⟩)); go_ret; exact ⟨rfl, rfl⟩)
        · have d1 : decide ((9 : Int) ≤ (k : Int)) = true := by simp; omega
          have d2 : decide ((10 : Int) ≤ (k : Int)) = false := by simp; omega
          rw [decide_eq_true h9, decide_eq_false h10]
          clear e9 e10 h9 h10
          rcases hkm with h | h | h <;> rw [h] at KA ⊢ <;> clear h <;> (go_enter Try.func43, Try.ntmps43; go_wp2_with (first | (go_at_call 67; refine (KA _).mono ?_; rintro _ _ ⟨rfl, rfl⟩)); go_ret; exact ⟨rfl, rfl⟩)
      · have h10 : ¬ 10 ≤ k := by omega
        have d1 : decide ((9 : Int) ≤ (k : Int)) = false := by simp; omega
        have d2 : decide ((10 : Int) ≤ (k : Int)) = false := by simp; omega
        rw [decide_eq_false h9, decide_eq_false h10]
        clear e9 e10 h9 h10
        rcases hkm with h | h | h <;> rw [h] at KA ⊢ <;> clear h <;> (go_enter Try.func43, Try.ntmps43; go_wp2_with (first | (go_at_call 67; refine (KA _).mono ?_; rintro _ _ ⟨rfl, rfl⟩)); go_ret; exact ⟨rfl, rfl⟩)
  · rw [h2] at V4 ⊢
    simp only [if_true, Bool.true_or] at V4 ⊢
    clear e9 e10 hkm KA VS
    go_enter Try.func43, Try.ntmps43
    go_wp2_with fail
    go_ret
    exact ⟨rfl, rfl⟩
set_option maxRecDepth 100000 in
theorem may_ok (W Hh B S : Nat) (w : World) (h1 : 1 ≤ W ∧ W ≤ 64) (h2 : 1 ≤ Hh ∧ Hh ≤ 64) (h3 : B ≤ 3) (h4 : S ≤ 63) :
    Calls Try.prog 33 #[.int .i64 (W : Int), .int .i64 (Hh : Int), .int .i64 (B : Int), .int .i64 (S : Int)] w fun e w' => e = .returned (.bool true) ∧ w' = w := by
  have d1 : decide ((1 : Int) ≤ (W : Int)) = true := by simp; omega
  have d2 : decide ((W : Int) ≤ 64) = true := by simp; omega
  have d3 : decide ((1 : Int) ≤ (Hh : Int)) = true := by simp; omega
  have d4 : decide ((Hh : Int) ≤ 64) = true := by simp; omega
  have d5 : decide ((0 : Int) ≤ (B : Int)) = true := by simp
  have d6 : decide ((B : Int) ≤ 3) = true := by simp; omega
  have d7 : decide ((0 : Int) ≤ (S : Int)) = true := by simp
  have d8 : decide ((S : Int) ≤ 63) = true := by simp; omega
  go_enter Try.func33, Try.ntmps33
  go_wp2_with fail
  go_ret
  refine ⟨congrArg (fun b => Ending.returned (.bool b)) ?_, rfl⟩
  first | rfl | exact d8
end Go.Proofs.Ytnpoakabheeoeaa
namespace Go.Proofs.Ytnpoakabheeoeaa
open Go.RowKit

/-- a row's last byte is left out -/
theorem RowB.short {g c n : Nat} {l : List UInt8} {H : List HB} (h : RowB (.slice (some ⟨g, 0, none⟩) n c) l H) (hn : 0 < n) : n ≤ c ∧ c ≤ maxLen ∧ RowB (.slice (some ⟨g, 0, none⟩) (n - 1) c) l.dropLast H := by
  have hl := h.len
  subst hl
  obtain ⟨h1, h2⟩ := h
  rcases h2 with ⟨e, -⟩ | ⟨g', cap, cur, e, k1, k2, k3, k4, rfl⟩
  · cases e
  · cases e
    have e1 : l.dropLast.length = l.length - 1 := List.length_dropLast
    refine ⟨k1, k2, ?_⟩
    unfold RowB
    rw [e1]
    refine ⟨by simp [cellsB], .inr ⟨g, c, cur, rfl, by omega, k2, k3, ?_, rfl⟩⟩
    have e2 : (l.length - 1) * 1 = min (l.length - 1) (l.length * 1) := by omega
    rw [e2, ← List.take_take, k4]
    simp only [cellsB, List.dropLast_eq_take, List.map_take]
theorem noLast255_yes {l : List UInt8} (h : l.getLastD 0 = 255) : noLast255 l = l.dropLast := by
  unfold noLast255
  rw [if_pos (of_eq_true (getLast_255 h))]
theorem noLast255_no {l : List UInt8} (h : ¬ l.getLastD 0 = 255) : noLast255 l = l := by
  unfold noLast255
  rw [if_neg (of_eq_false (getLast_no255 h))]
set_option maxRecDepth 100000 in
set_option maxHeartbeats 1000000 in
theorem raw_flush (rg : Nat) (r : RawM) (w : World) (H : List HB) (h : RawR rg r H) (hs : Sat w H) (hl : r.b.length ≤ 80000000) (hc : r.cur < 256) :
    Calls Try.prog 45 #[.pointer (some ⟨rg, 0, none⟩)] w fun e0 w' => ∃ v Hn, e0 = .returned v ∧ RowB v (rawFlush r) Hn ∧ Mv w H w' (Hn ++ H) := by
  obtain ⟨bs, cur, free, top⟩ := r
  simp only at hl hc
  obtain ⟨vb, Hb, rfl, hr⟩ := h
  simp only at hr
  obtain ⟨va, vc, rfl⟩ := hr.slice
  obtain ⟨x, hx⟩ : ∃ x, UInt8.ofNat cur = x := ⟨_, rfl⟩
  have RF : Hid (rawFlush ⟨bs, cur, free, top⟩ = noLast255 (if free < top then bs ++ [x] else bs)) := Lib.hid (by unfold rawFlush; simp only [hx])
  have hx8 : IntKind.u8.wrap (cur : Int) = (x.toNat : Int) := by rw [IntKind.wrap_u8, ← hx, ← u8_of_nat]
  obtain ⟨F, hF⟩ : ∃ F, rawFlush ⟨bs, cur, free, top⟩ = F := ⟨_, rfl⟩
  rw [hF] at RF ⊢
  clear hF hx
  have M1 := (Mv.refl hs).alloc 5 #[]
  have c0 := M1.cell 1 rfl 0
  have B1 := Lib.hid (hr.bv (M1.sat.right (A := [_, _])))
  have R1 := Lib.hid (RowB.lit w.heap.size [] 0 rfl (by decide))
  have K1 := Lib.hid M1
  clear hr M1 hs
  go_enter Try.func45, Try.ntmps45
  go_upto_region 2 with (at_builtin; go_must (refine wpList_appB rfl (.tmp 4) (.tmp 8) rfl _ _ [] bs [_] rfl rfl R1.out K1.out.sat.left B1.out (by simp; omega) ?_; intro v3 w3 H3 hr3 m3; obtain ⟨a3, c3, rfl⟩ := hr3.slice; have K3 := Lib.hid (And.intro hr3 (Mv.call (H := [_]) K1.out m3)); clear hr3 m3))
  rw [List.nil_append] at K3
  have S3 := K3.out.2.sat.right (A := H3)
  have e2 : w3.cell? ⟨rg, 2, none⟩ = some (.int .i64 (free : Int)) := (S3.at_ 0 rfl).cell 2
  have e3 : w3.cell? ⟨rg, 3, none⟩ = some (.int .i64 (top : Int)) := (S3.at_ 0 rfl).cell 3
  clear S3
  by_cases hlt : free < top
  · rw [if_pos hlt] at RF
    have d1 : decide ((free : Int) < (top : Int)) = true := by simp; omega
    have M4 := K3.out.2.drew.alloc 5 #[.int .u8 (x.toNat : Int)]
    have e1 : w3.drew.cell? ⟨rg, 1, none⟩ = some (.int .i64 (cur : Int)) := ((K3.out.2.drew.sat.right (A := H3)).at_ 0 rfl).cell 1
    have A4 := Lib.hid (bv_one w3.drew x w3.heap.size rfl)
    have S4 := Lib.hid ((M4.sat.right (A := [_])).left)
    have K5 := Lib.hid M4
    clear M4
    go_region
    all_goals
    clear hlt d1 e2 e3
    go_upto_region 4 with (at_builtin; go_must (refine wpList_appB rfl (.tmp 19) (.tmp 25) rfl _ _ bs [x] H3 rfl rfl K3.out.1 S4.out A4.out (by simp; omega) ?_; intro v4 w4 H4 hr4 m4; obtain ⟨a4, c4, rfl⟩ := hr4.slice; have K6 := Lib.hid (And.intro hr4 (Mv.call (Mv.mv1 (A := [_]) (B := H3) (R := _) K5.out) m4)); clear hr4 m4))
    have K4 : Hid (RowB (.slice a4 (bs ++ [x]).length c4) (bs ++ [x]) H4 ∧ Mv w (rawB rg cur free top (.slice va bs.length vc) :: Hb) w4 (H4 ++ rawB rg cur free top (.slice va bs.length vc) :: Hb)) := Lib.hid ⟨K6.out.1, Mv.drop2 (B := [_]) K6.out.2⟩
    have RF4 := RF
    clear RF K6 K5 K3 S4 A4 e1 hx8
    have hlen : (bs ++ [x]).length = bs.length + 1 := by simp
    rw [hlen] at K4
    generalize bs ++ [x] = l4 at *
    obtain ⟨n4, hn4e⟩ : ∃ n4, bs.length + 1 = n4 := ⟨_, rfl⟩
    rw [hn4e] at K4 hlen ⊢
    have hn4 := Lib.hid hlen.symm
    have hnl : n4 ≤ 90000000 := by omega
    clear hn4e hlen
    have T4 := K4.out.2.sat.left
    by_cases h0 : n4 = 0
    case pos =>
      have hl0 : l4 = [] := List.eq_nil_of_length_eq_zero (hn4.out.symm.trans h0)
      have RG := Lib.hid (RF4.out.trans (noLast255_no (by rw [hl0]; decide)))
      have m4 : decide ((0 : Int) < (n4 : Int)) = false := by simp; omega
      have m5 : ¬ 0 < n4 := by omega
      clear h0 hl0 T4
      go_wp2_with fail
      go_ret
      first
        | exact ⟨_, H4, rfl, by rw [RG.out]; exact K4.out.1, K4.out.2⟩
        | exact ⟨_, rfl, H4, by rw [RG.out]; exact K4.out.1, K4.out.2⟩
    case neg =>
      have hn0 : 0 < n4 := by omega
      obtain ⟨g, ha⟩ : ∃ g, a4 = some ⟨g, 0, none⟩ := by
        obtain ⟨g, cp, cur4, hv, -⟩ := RowH.form K4.out.1 (by rw [← hn4.out]; exact hn0)
        injection hv with ha
        exact ⟨g, ha⟩
      subst ha
      obtain ⟨s1, s2, s3⟩ := RowB.short K4.out.1 hn0
      obtain ⟨k1, -⟩ := RowB.at_last K4.out.1 T4 hn4.out.symm hn0
      obtain ⟨q, hq⟩ : ∃ q, l4.getLastD 0 = q := ⟨_, rfl⟩
      rw [hq] at k1
      have HQ := Lib.hid hq
      have S3 := Lib.hid s3
      have m1 : (n4 : Int) - 1 = ((n4 - 1 : Nat) : Int) := by omega
      have m2 : ((n4 - 1 : Nat) : Int) < (n4 : Int) := by omega
      have m3 : ((n4 - 1 : Nat) : Int) ≤ (c4 : Int) := by omega
      have m4 : decide ((0 : Int) < (n4 : Int)) = true := by simp; omega
      clear hq s3 T4
      by_cases h255 : q = 255
      · have d0 : ((q.toNat : Int) == 255) = true := by rw [h255]; rfl
        have RG := Lib.hid (RF4.out.trans (noLast255_yes (HQ.out.trans h255)))
        clear h255
        go_wp2_with fail
        go_ret
        first
          | exact ⟨_, H4, rfl, by rw [RG.out]; exact S3.out, K4.out.2⟩
          | exact ⟨_, rfl, H4, by rw [RG.out]; exact S3.out, K4.out.2⟩
      · have d0 : ((q.toNat : Int) == 255) = false := by
          have : q.toNat ≠ 255 := fun e => h255 (UInt8.toNat_inj.1 (by rw [e]; rfl))
          exact beq_eq_false_iff_ne.2 (by omega)
        have RG := Lib.hid (RF4.out.trans (noLast255_no (fun e => h255 (HQ.out.symm.trans e))))
        clear h255
        go_wp2_with fail
        go_ret
        first
          | exact ⟨_, H4, rfl, by rw [RG.out]; exact K4.out.1, K4.out.2⟩
          | exact ⟨_, rfl, H4, by rw [RG.out]; exact K4.out.1, K4.out.2⟩
  · rw [if_neg hlt] at RF
    have d1 : decide ((free : Int) < (top : Int)) = false := by simp; omega
    go_region
    all_goals
    clear hlt d1 e2 e3
    go_upto_region 4 with fail
    have K4 : Hid (RowB (.slice a3 bs.length c3) bs H3 ∧ Mv w (rawB rg cur free top (.slice va bs.length vc) :: Hb) w3.drew (H3 ++ rawB rg cur free top (.slice va bs.length vc) :: Hb)) := Lib.hid ⟨K3.out.1, K3.out.2.drew⟩
    have K4M := Lib.hid K4.out.2
    have RF4 := RF
    clear RF K3 hx8
    generalize w3.drew = w4 at *
    obtain ⟨n4, hn4e⟩ : ∃ n4, bs.length = n4 := ⟨_, rfl⟩
    rw [hn4e] at K4 ⊢
    have hn4 := Lib.hid hn4e.symm
    have hnl : n4 ≤ 90000000 := by omega
    clear hn4e
    have T4 := K4.out.2.sat.left
    by_cases h0 : n4 = 0
    case pos =>
      have hl0 : bs = [] := List.eq_nil_of_length_eq_zero (hn4.out.symm.trans h0)
      have RG := Lib.hid (RF4.out.trans (noLast255_no (by rw [hl0]; decide)))
      have m4 : decide ((0 : Int) < (n4 : Int)) = false := by simp; omega
      have m5 : ¬ 0 < n4 := by omega
      clear h0 hl0 T4
      go_wp2_with fail
      go_ret
      first
        | exact ⟨_, H3, rfl, by rw [RG.out]; exact K4.out.1, K4M.out⟩
        | exact ⟨_, rfl, H3, by rw [RG.out]; exact K4.out.1, K4M.out⟩
    case neg =>
      have hn0 : 0 < n4 := by omega
      obtain ⟨g, ha⟩ : ∃ g, a3 = some ⟨g, 0, none⟩ := by
        obtain ⟨g, cp, cur4, hv, -⟩ := RowH.form K4.out.1 (by rw [← hn4.out]; exact hn0)
        injection hv with ha
        exact ⟨g, ha⟩
      subst ha
      obtain ⟨s1, s2, s3⟩ := RowB.short K4.out.1 hn0
      obtain ⟨k1, -⟩ := RowB.at_last K4.out.1 T4 hn4.out.symm hn0
      obtain ⟨q, hq⟩ : ∃ q, bs.getLastD 0 = q := ⟨_, rfl⟩
      rw [hq] at k1
      have HQ := Lib.hid hq
      have S3 := Lib.hid s3
      have m1 : (n4 : Int) - 1 = ((n4 - 1 : Nat) : Int) := by omega
      have m2 : ((n4 - 1 : Nat) : Int) < (n4 : Int) := by omega
      have m3 : ((n4 - 1 : Nat) : Int) ≤ (c3 : Int) := by omega
      have m4 : decide ((0 : Int) < (n4 : Int)) = true := by simp; omega
      clear hq s3 T4
      by_cases h255 : q = 255
      · have d0 : ((q.toNat : Int) == 255) = true := by rw [h255]; rfl
        have RG := Lib.hid (RF4.out.trans (noLast255_yes (HQ.out.trans h255)))
        clear h255
        go_wp2_with fail
        go_ret
        first
          | exact ⟨_, H3, rfl, by rw [RG.out]; exact S3.out, K4M.out⟩
          | exact ⟨_, rfl, H3, by rw [RG.out]; exact S3.out, K4M.out⟩
      · have d0 : ((q.toNat : Int) == 255) = false := by
          have : q.toNat ≠ 255 := fun e => h255 (UInt8.toNat_inj.1 (by rw [e]; rfl))
          exact beq_eq_false_iff_ne.2 (by omega)
        have RG := Lib.hid (RF4.out.trans (noLast255_no (fun e => h255 (HQ.out.symm.trans e))))
        clear h255
        go_wp2_with fail
        go_ret
        first
          | exact ⟨_, H3, rfl, by rw [RG.out]; exact K4.out.1, K4M.out⟩
          | exact ⟨_, rfl, H3, by rw [RG.out]; exact K4.out.1, K4M.out⟩
end Go.Proofs.Ytnpoakabheeoeaa
