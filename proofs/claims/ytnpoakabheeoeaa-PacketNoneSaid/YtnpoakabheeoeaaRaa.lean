/- waveletref4: an encoder's bytes are shut. -/
import Derived.Test.YtnpoakabheeoeaaMqx
namespace Go.Proofs.Ytnpoakabheeoeaa
open Go.RowKit

theorem or_low16 (c : Nat) : c ||| 65535 = c / 65536 * 65536 + 65535 := by
  have h1 : c / 65536 * 65536 + 65535 = 2 ^ 16 * (c / 2 ^ 16) ||| 65535 := by
    rw [← Nat.two_pow_add_eq_or_of_lt (by decide)]
    omega
  rw [h1]
  apply Nat.eq_of_testBit_eq
  intro i
  rw [Nat.testBit_or, Nat.testBit_or, show (65535 : Nat) = 2 ^ 16 - 1 from rfl, Nat.testBit_two_pow_sub_one, Nat.testBit_two_pow_mul]
  by_cases h : i < 16
  · simp [h]
  · rw [decide_eq_false h, decide_eq_true (show 16 ≤ i by omega), Bool.true_and, Nat.testBit_div_two_pow, show i - 16 + 16 = i by omega]
theorem or_ffff (c : Nat) (h : c ≤ 200000000) : bits .or .i64 (c : Int) 65535 = ((c / 65536 * 65536 + 65535 : Nat) : Int) := by
  have h1 := i64_or_nat c 65535 (by omega) (by omega)
  rw [or_low16] at h1
  exact h1
theorem shl_ct (c ct : Nat) (hc : c ≤ 200000000) (hk : ct ≤ 12) : IntKind.i64.wrap ((c : Int) * 2 ^ min (IntKind.u64.wrap (ct : Int)).toNat 64) = ((c * 2 ^ ct : Nat) : Int) := by
  have e2 : IntKind.u64.wrap (ct : Int) = (ct : Int) := IntWalk.u64_in _ (by omega)
  have e3 : min (ct : Int).toNat 64 = ct := by omega
  have h1 : 2 ^ ct ≤ 2 ^ 12 := Nat.pow_le_pow_right (by omega) hk
  have h2 : c * 2 ^ ct ≤ 200000000 * 2 ^ 12 := Nat.mul_le_mul hc h1
  have e : (c : Int) * 2 ^ ct = ((c * 2 ^ ct : Nat) : Int) := by push_cast; rfl
  rw [e2, e3, e, IntWalk.i64_in _ (by omega)]
theorem flushC_le (e : EncM) (h : e.c ≤ 150994944) : flushC e ≤ 200000000 := by unfold flushC; split <;> omega
def flushN : Nat → EncM → EncM
  | 0, e => e
  | n + 1, e => flushN n (flush1 e)
theorem BV.mid {w : World} {g o n c : Nat} {l : List UInt8} (h : BV w (.slice (some ⟨g, o, none⟩) n c) l) (a b : Nat) (hab : a ≤ b) (hb : b ≤ n) : BV w (.slice (some ⟨g, o + a, none⟩) (b - a) (c - a)) ((l.drop a).take (b - a)) := by
  obtain ⟨A, c', he, h1, h2, h3⟩ := h
  cases he
  have e : ((l.drop a).take (b - a)).length = b - a := by rw [List.length_take, List.length_drop]; omega
  refine ⟨some ⟨g, o + a, none⟩, c - a, by rw [e], by omega, by omega, ?_⟩
  rw [e]
  refine ⟨by rw [cellsB_length, e, Nat.mul_one], fun hn => ?_⟩
  obtain ⟨ad, e1, hb1, hc⟩ := h3.2 (by omega)
  cases e1
  refine ⟨_, rfl, hb1, fun j u hu => ?_⟩
  have hj : j < b - a := by
    have := (List.getElem?_eq_some_iff.1 hu).1
    rwa [cellsB_length, e] at this
  have hu2 : (cellsB l)[a + j]? = some u := by
    rw [← hu]
    simp only [cellsB, List.map_take, List.map_drop]
    rw [List.getElem?_take, if_pos hj, List.getElem?_drop]
  have := hc (a + j) u hu2
  rw [Addr.add_mid] at this ⊢
  rw [Nat.add_assoc]
  exact this
theorem BV.mid2 {w : World} {g c n : Nat} {l : List UInt8} (h : BV w (.slice (some ⟨g, 0, none⟩) n c) l) (a : Nat) (ha : a ≤ n) : BV w (.slice (some ⟨g, a, none⟩) (n - a) (c - a)) (l.drop a) := by
  have hl : n = l.length := by obtain ⟨A, c', he, -⟩ := h; cases he; rfl
  have := BV.mid h a n ha (Nat.le_refl _)
  rw [List.take_of_length_le (by rw [List.length_drop]; omega), Nat.zero_add] at this
  exact this
set_option maxRecDepth 100000 in
set_option maxHeartbeats 2000000 in
theorem enc_flush (eg : Nat) (e : EncM) (w : World) (H : List HB) (h : MqR eg e H) (hs : Sat w H) (he : e.Ok) (hl : e.b.length ≤ 80000000) :
    Calls Try.prog 44 #[.pointer (some ⟨eg, 0, none⟩)] w fun e0 w' => ∃ v Hn H', e0 = .returned v ∧ RowB v (flushB e) Hn ∧ MqR eg (flushE e) H' ∧ Mv w H w' (Hn ++ H') := by
  have hcb : e.c ≤ 150994944 := by
    have : e.c + e.a ≤ (e.c + e.a) * 2 ^ e.ct := Nat.le_mul_of_pos_right _ (Nat.two_pow_pos _)
    have := he.1.2.2.2.2.1
    omega
  have hab := he.1.2.1
  have hct : e.ct ≤ 12 := he.1.2.2.2.1
  have hfc := flushC_le e hcb
  have HE := Lib.hid (And.intro he hl)
  have OF := or_ffff e.c (by omega)
  obtain ⟨a, c, ct, b⟩ := e
  simp only at hcb hab hct hl OF
  obtain ⟨vb, Hb, rfl, hr⟩ := h
  simp only at hr
  have c0 : w.cell? ⟨eg, 0, none⟩ = some (.int .i64 (a : Int)) := (Mv.refl hs).cell 0 rfl 0
  have c1 : w.cell? ⟨eg, 1, none⟩ = some (.int .i64 (c : Int)) := (Mv.refl hs).cell 0 rfl 1
  have f1 : w.frozen? ⟨eg, 1, none⟩ = false := (Mv.refl hs).frozen 0 rfl 1
  have K0 := Lib.hid (And.intro hr (Mv.refl hs))
  clear hr hs he
  obtain ⟨o, ho⟩ : ∃ o, c / 65536 * 65536 + 65535 = o := ⟨_, rfl⟩
  rw [ho] at OF
  have HO := Lib.hid ho
  have hob : o ≤ 200000000 := by omega
  obtain ⟨t, ht⟩ : ∃ t, c + a = t := ⟨_, rfl⟩
  have hti : (c : Int) + (a : Int) = (t : Int) := by omega
  have htb : t ≤ 200000000 := by omega
  have HT := Lib.hid ht
  clear ht ho
  go_enter Try.func44, Try.ntmps44
  go_upto_region 1 with fail
  go_region
  all_goals
    have M1 := K0.out.2.drew
    have g1 := M1.cell 0 rfl 1
    have h1 := M1.frozen 0 rfl 1
    clear c0 c1 f1
    generalize w.drew = w1 at *
    have K1 := Lib.hid (And.intro K0.out.1 M1)
    clear M1
    have M2 := K1.out.2
    obtain ⟨w3, hw3⟩ : ∃ w3, w3 = w1.setCell ⟨eg, 1, none⟩ (.int .i64 (o : Int)) := ⟨_, rfl⟩
    have M3 := M2.set 1 (.int .i64 (o : Int))
    rw [← hw3] at M3
    replace M3 : Mv w (encB eg a c ct vb :: Hb) w3 (encB eg a o ct vb :: Hb) := M3
    have K3 := Lib.hid (And.intro K1.out.1 M3)
    have HW := Lib.hid hw3
    clear hw3 M2 M3
    go_upto_region 3 with fail
    rw [← HW.out]
    have g3 := K3.out.2.cell 0 rfl 1
    have h3 := K3.out.2.frozen 0 rfl 1
    clear g1 h1 HW OF hti
    obtain ⟨fc, hfcE⟩ : ∃ fc, flushC ⟨a, c, ct, b⟩ = fc := ⟨_, rfl⟩
    rw [hfcE] at hfc
    have HF := Lib.hid hfcE
    clear hfcE
    go_upto_if 28 with fail
    go_cut [28] from 29 (fun _ wx => Mv w (encB eg a c ct vb :: Hb) wx (encB eg a fc ct vb :: Hb))
    case first =>
      have FE : Hid (fc = if t ≤ o then o - 32768 else o) := Lib.hid (by rw [← HF.out, ← HT.out, ← HO.out]; rfl)
      by_cases hto : t ≤ o
      · have d1 : decide ((t : Int) ≤ (o : Int)) = true := by simp; omega
        have FG := Lib.hid (FE.out.trans (if_pos hto))
        have d2 : (o : Int) - 32768 = ((o - 32768 : Nat) : Int) := by have := HO.out; omega
        have M4 := K3.out.2.set 1 (.int .i64 ((o - 32768 : Nat) : Int))
        go_wp2_with fail
        go_meet
        rw [FG.out]
        exact M4
      · have d1 : decide ((t : Int) ≤ (o : Int)) = false := by simp; omega
        have FG := Lib.hid (FE.out.trans (if_neg hto))
        go_wp2_with fail
        go_meet
        rw [FG.out]
        exact K3.out.2
    case rest =>
      clear g3 h3
      have KC := Lib.hid hcut
      have FL : Hid (flushE ⟨a, c, ct, b⟩ = flushN 2 ⟨a, fc, ct, b⟩) := Lib.hid (by rw [← HF.out]; rfl)
      clear hcut
      obtain ⟨R, hR⟩ : ∃ R, flushN 2 ⟨a, fc, ct, b⟩ = R := ⟨_, rfl⟩
      rw [hR] at FL
      have HR := Lib.hid hR
      clear hR
      go_wp2_with fail
      go_loopg [4] 2 (fun m s4 wx => ∃ (k : Nat) (e1 : EncM) (H1 : List HB), k ≤ 2 ∧ m = 2 - k ∧ s4 = .int .i64 (k : Int) ∧ MqR eg e1 H1 ∧ Mv w (encB eg a c ct vb :: Hb) wx H1 ∧ e1.c ≤ 200000000 ∧ e1.ct ≤ 12 ∧ e1.b ≠ [] ∧ 1 ≤ e1.a ∧ e1.a < 65536 ∧ e1.b.length ≤ 80000000 + k ∧ flushN (2 - k) e1 = R)
      case atStart => exact ⟨0, ⟨a, fc, ct, b⟩, _, by omega, rfl, rfl, ⟨vb, Hb, rfl, K3.out.1⟩, KC.out, hfc, hct, HE.out.1.1.2.2.2.2.2, HE.out.1.1.1, hab, hl, HR.out⟩
      case round =>
        obtain ⟨k, e1, H1, hk, rfl, rfl, q1, m1, b1, b2, b3, b4, b5, b6, hres⟩ := hrel
        by_cases hlt : k < 2
        · have d1 : decide ((k : Int) < 2) = true := by simp; omega
          obtain ⟨a1, cc1, ct1, bs1⟩ := e1
          simp only at b1 b2 b3 b4 b5 b6
          have FO := Lib.hid (flush1_ok (e := ⟨a1, cc1, ct1, bs1⟩) b4 b5)
          have LO := Lib.hid (outE_len ⟨a1, cc1 * 2 ^ ct1, ct1, bs1⟩ b3)
          have SC : Hid (wrap64 ((cc1 : Int) * 2 ^ min ct1 64) = ((cc1 * 2 ^ ct1 : Nat) : Int)) := Lib.hid (by
            have h1 : 2 ^ ct1 ≤ 2 ^ 12 := Nat.pow_le_pow_right (by omega) b2
            have h2 : cc1 * 2 ^ ct1 ≤ 200000000 * 2 ^ 12 := Nat.mul_le_mul b1 h1
            have e : (cc1 : Int) * 2 ^ ct1 = ((cc1 * 2 ^ ct1 : Nat) : Int) := by push_cast; rfl
            rw [show min ct1 64 = ct1 by omega, e, IntWalk.wrap64_in _ (by omega)])
          obtain ⟨v1, Hb1, rfl, hr1⟩ := q1
          simp only at hr1 m1
          have KR := Lib.hid (And.intro hr1 (And.intro m1 (And.intro hres b6)))
          have x1 := m1.cell 0 rfl 1
          have x2 := m1.cell 0 rfl 2
          have x3 := m1.frozen 0 rfl 1
          clear hr1 m1 hres
          go_upto_region 8 with fail
          clear x1 x2 x3
          have x1 := KR.out.2.1.drew.cell 0 rfl 1
          have x2 := KR.out.2.1.drew.cell 0 rfl 2
          have x3 := KR.out.2.1.drew.frozen 0 rfl 1
          go_still_tail 11, (by kernel_rfl)
          change wpList _ _ _ _ _ wr.drew
          have M5 := KR.out.2.1.drew.set 1 (.int .i64 ((cc1 * 2 ^ ct1 : Nat) : Int))
          generalize wr.drew = w5 at *
          obtain ⟨w6, hw6⟩ : ∃ w6, w6 = w5.setCell ⟨eg, 1, none⟩ (.int .i64 ((cc1 * 2 ^ ct1 : Nat) : Int)) := ⟨_, rfl⟩
          rw [← hw6] at M5
          replace M5 : Mv w (encB eg a c ct vb :: Hb) w6 (encB eg a1 (cc1 * 2 ^ ct1) ct1 v1 :: Hb1) := M5
          have HW6 := Lib.hid hw6
          have K6 := Lib.hid M5
          clear hw6 M5
          go_upto_region 9 with fail
          rw [SC.out, ← HW6.out]
          clear x1 x2 x3
          have OA := Lib.hid (out_any eg ⟨a1, cc1 * 2 ^ ct1, ct1, bs1⟩ w6 _ ⟨v1, Hb1, rfl, KR.out.1⟩ K6.out.sat b3 (by simp only; omega) (by simp only; have := Nat.mul_le_mul b1 (Nat.pow_le_pow_right (n := 2) (by omega) b2); omega))
          go_wp2_with (go_at_call 71; refine OA.out.mono ?_; rintro e w7 ⟨rfl, H7, h7, m7⟩; have K7 := Lib.hid (And.intro h7 (Mv.call (R := []) (by simpa using K6.out) m7)); clear h7 m7)
          go_roundg (2 - (k + 1))
          case measure => omega
          case rel =>
            have hF : outE ⟨a1, cc1 * 2 ^ ct1, ct1, bs1⟩ = flush1 ⟨a1, cc1, ct1, bs1⟩ := rfl
            have hcl : (flush1 ⟨a1, cc1, ct1, bs1⟩).c ≤ 200000000 := by
              have h1 := FO.out.2.2.2.1
              have h2 : (flush1 ⟨a1, cc1, ct1, bs1⟩).c + (flush1 ⟨a1, cc1, ct1, bs1⟩).a ≤ ((flush1 ⟨a1, cc1, ct1, bs1⟩).c + (flush1 ⟨a1, cc1, ct1, bs1⟩).a) * 2 ^ (flush1 ⟨a1, cc1, ct1, bs1⟩).ct := Nat.le_mul_of_pos_right _ (Nat.two_pow_pos _)
              omega
            have hll : (flush1 ⟨a1, cc1, ct1, bs1⟩).b.length ≤ 80000000 + (k + 1) := by
              have h1 : (flush1 ⟨a1, cc1, ct1, bs1⟩).b.length = bs1.length + 1 := LO.out
              omega
            have hfl : flushN (2 - (k + 1)) (flush1 ⟨a1, cc1, ct1, bs1⟩) = R := by
              have h1 := KR.out.2.2.1
              rw [show 2 - k = (2 - (k + 1)) + 1 by omega] at h1
              exact h1
            exact ⟨k + 1, flush1 ⟨a1, cc1, ct1, bs1⟩, H7, by omega, rfl, by push_cast; rfl, K7.out.1, by simpa using K7.out.2, hcl, FO.out.2.2.1, FO.out.2.2.2.2, by rw [FO.out.1]; exact b4, by rw [FO.out.1]; exact b5, hll, hfl⟩
        · have d1 : decide ((k : Int) < 2) = false := by simp; omega
          have ek : k = 2 := by omega
          subst ek
          have ER : Hid (flushE ⟨a, c, ct, b⟩ = e1) := Lib.hid (FL.out.trans hres.symm)
          clear hres
          have LE : Hid ((flushE ⟨a, c, ct, b⟩).b.length = b.length + 2) := Lib.hid (flushE_len HE.out.1)
          obtain ⟨a1, cc1, ct1, bs1⟩ := e1
          simp only at b3 b6
          have LB : Hid (bs1.length = b.length + 2) := Lib.hid (by have := LE.out; rw [ER.out] at this; exact this)
          have FB : Hid (flushB ⟨a, c, ct, b⟩ = noLast255 (bs1.drop 1)) := Lib.hid (by unfold flushB; rw [ER.out])
          obtain ⟨vb1, Hb1, rfl, hr1⟩ := q1
          simp only at hr1 m1
          have hl1 := LB.out
          obtain ⟨g1, cp1, cur1, rfl, k1, k2, -, -, -⟩ := RowH.form hr1 (by omega)
          have x1 := m1.cell 0 rfl 3
          have BD := Lib.hid (BV.mid2 (hr1.bv (m1.sat.right (A := [_]))) 1 (by omega))
          have M1 := m1.alloc 5 #[]
          have c0 := M1.cell 1 rfl 3
          have B1 := Lib.hid (BV.mid2 (hr1.bv (M1.sat.right (A := [_, _]))) 1 (by omega))
          have R1 := Lib.hid (RowB.lit wr.heap.size [] 0 rfl (by decide))
          have K1 := Lib.hid M1
          obtain ⟨n1, hn1⟩ : ∃ n1, bs1.length = n1 := ⟨_, rfl⟩
          have KB := Lib.hid hr1
          rw [hn1] at hl1 k1 c0 x1
          have hn1g : (1 : Int) ≤ (n1 : Int) := by omega
          have hcp : (n1 : Int) ≤ (cp1 : Int) := by omega
          clear M1 hr1 m1
          rw [hn1] at B1
          have HLD := Lib.hid (show (bs1.drop 1).length = n1 - 1 by rw [List.length_drop, hn1])
          have n1lo : 2 ≤ n1 := by omega
          have n1hi : n1 ≤ 80000002 := by omega
          have hlb : (bs1.drop 1).length ≤ 80000002 := by rw [List.length_drop]; omega
          clear hn1 hl1 LE LB b1 b2 b4 b5 BD
          obtain ⟨l4, hl4⟩ : ∃ l4, bs1.drop 1 = l4 := ⟨_, rfl⟩
          rw [hl4] at B1 HLD FB hlb
          clear hl4
          go_upto_region 11 with (at_builtin; go_must (refine wpList_appB rfl (.tmp 56) (.tmp 61) rfl _ _ [] l4 [_] rfl rfl R1.out K1.out.sat.left B1.out (by simp only [List.length_nil]; omega) ?_; intro v3 w3 H3 hr3 m3; obtain ⟨a3, c3, rfl⟩ := hr3.slice; have K5 := Lib.hid (And.intro hr3 (Mv.call (H := [_]) K1.out m3)); clear hr3 m3))
          rw [List.nil_append] at K5
          have RF4 := FB
          obtain ⟨n4, hn4e⟩ : ∃ n4, n1 - 1 = n4 := ⟨_, rfl⟩
          rw [hn4e] at HLD
          rw [HLD.out] at K5 ⊢
          have hnl : n4 ≤ 90000000 := by omega
          have hn0 : 0 < n4 := by omega
          have K4 : Hid (RowB (.slice a3 n4 c3) l4 H3 ∧ Mv w (encB eg a c ct vb :: Hb) w3 (H3 ++ (encB eg a1 cc1 ct1 (.slice (some ⟨g1, 0, none⟩) bs1.length cp1) :: Hb1))) := K5
          clear K5 hn4e n1lo n1hi hlb
          have T4 := K4.out.2.sat.left
          have QE : Hid (MqR eg (flushE ⟨a, c, ct, b⟩) (encB eg a1 cc1 ct1 (.slice (some ⟨g1, 0, none⟩) bs1.length cp1) :: Hb1)) := Lib.hid (by rw [ER.out]; exact ⟨_, _, rfl, KB.out⟩)
          obtain ⟨g, ha⟩ : ∃ g, a3 = some ⟨g, 0, none⟩ := by
            obtain ⟨g, cp, cur4, hv, -⟩ := RowH.form K4.out.1 (by rw [HLD.out]; exact hn0)
            injection hv with ha
            exact ⟨g, ha⟩
          subst ha
          obtain ⟨s1, s2, s3⟩ := RowB.short K4.out.1 hn0
          obtain ⟨k1', -⟩ := RowB.at_last K4.out.1 T4 HLD.out hn0
          obtain ⟨q, hq⟩ : ∃ q, l4.getLastD 0 = q := ⟨_, rfl⟩
          rw [hq] at k1'
          have HQ := Lib.hid hq
          have S3 := Lib.hid s3
          have y1 : (n4 : Int) - 1 = ((n4 - 1 : Nat) : Int) := by omega
          have y2 : ((n4 - 1 : Nat) : Int) < (n4 : Int) := by omega
          have y3 : ((n4 - 1 : Nat) : Int) ≤ (c3 : Int) := by omega
          clear hq s3 T4
          by_cases h255 : q = 255
          · have d0 : ((q.toNat : Int) == 255) = true := by rw [h255]; rfl
            have RG := Lib.hid (RF4.out.trans (noLast255_yes (HQ.out.trans h255)))
            clear h255
            go_wp2_with fail
            go_ret
            exact ⟨_, H3, _, rfl, by rw [RG.out]; exact S3.out, QE.out, K4.out.2⟩
          · have d0 : ((q.toNat : Int) == 255) = false := by
              have : q.toNat ≠ 255 := fun e => h255 (UInt8.toNat_inj.1 (by rw [e]; rfl))
              exact beq_eq_false_iff_ne.2 (by omega)
            have RG := Lib.hid (RF4.out.trans (noLast255_no (fun e => h255 (HQ.out.symm.trans e))))
            clear h255
            go_wp2_with fail
            go_ret
            exact ⟨_, H3, _, rfl, by rw [RG.out]; exact K4.out.1, QE.out, K4.out.2⟩
end Go.Proofs.Ytnpoakabheeoeaa
