/- waveletref4: a bit is coded. -/
import Derived.Test.YtnpoakabheeoeaaQc
import Derived.Test.YtnpoakabheeoeaaQd
namespace Go.Proofs.Ytnpoakabheeoeaa
open Go.RowKit

def cxSet (cs : Array Value) (j i m : Nat) : Array Value := (cs.setIfInBounds j (.int .i64 (i : Int))).setIfInBounds (j + 1) (.int .i64 (m : Int))
theorem cxSet_self {cs : Array Value} {j i m : Nat} (h1 : cs[j]? = some (.int .i64 (i : Int))) (h2 : cs[j + 1]? = some (.int .i64 (m : Int))) : cxSet cs j i m = cs := by
  apply Array.ext_getElem?
  intro k
  simp only [cxSet, Array.getElem?_setIfInBounds, Array.size_setIfInBounds]
  have k1 := (Array.getElem?_eq_some_iff.1 h1).1
  have k2 := (Array.getElem?_eq_some_iff.1 h2).1
  by_cases e1 : j + 1 = k
  · subst e1
    rw [if_pos rfl, if_pos k2, h2]
  · rw [if_neg e1]
    by_cases e2 : j = k
    · subst e2
      rw [if_pos rfl, if_pos k1, h1]
    · rw [if_neg e2]
theorem cxSet_i (cs : Array Value) (j i m i' : Nat) : (cxSet cs j i m).setIfInBounds j (.int .i64 (i' : Int)) = cxSet cs j i' m := by
  apply Array.ext_getElem?
  intro k
  simp only [cxSet, Array.getElem?_setIfInBounds, Array.size_setIfInBounds]
  grind
theorem cxSet_m (cs : Array Value) (j i m m' : Nat) : (cxSet cs j i m).setIfInBounds (j + 1) (.int .i64 (m' : Int)) = cxSet cs j i m' := by
  apply Array.ext_getElem?
  intro k
  simp only [cxSet, Array.getElem?_setIfInBounds, Array.size_setIfInBounds]
  grind
theorem cxSet_get {cs : Array Value} {j : Nat} (h : j + 1 < cs.size) (i m : Nat) : (cxSet cs j i m)[j]? = some (.int .i64 (i : Int)) ∧ (cxSet cs j i m)[j + 1]? = some (.int .i64 (m : Int)) := by
  simp only [cxSet, Array.getElem?_setIfInBounds, Array.size_setIfInBounds]
  constructor
  · rw [if_neg (by omega), if_pos trivial, if_pos (by omega)]
  · rw [if_pos trivial, if_pos (by omega)]
def stB (sb : Nat) (q : QeM) : HB := ⟨sb, 191, #[.int .i64 (q.qe : Int), .int .i64 (q.mps : Int), .int .i64 (q.lps : Int), .bool q.swap]⟩
/-- an encoder, contexts, a state -/
def mqL (eg cb sb : Nat) (t : TypeId) (cs : Array Value) (j : Nat) (v : Value) (q : QeM) (a c ct i m : Nat) (R : List HB) : List HB := encB eg a c ct v :: ⟨cb, t, cxSet cs j i m⟩ :: stB sb q :: R
section
variable {w0 w : World} {H0 R : List HB} {eg cb sb : Nat} {t : TypeId} {cs : Array Value} {j : Nat} {v : Value} {q : QeM} {a c ct i m : Nat}
theorem mqL_a (h : Mv w0 H0 w (mqL eg cb sb t cs j v q a c ct i m R)) (a' : Nat) : Mv w0 H0 (w.setCell ⟨eg, 0, none⟩ (.int .i64 (a' : Int))) (mqL eg cb sb t cs j v q a' c ct i m R) := h.set 0 _
theorem mqL_c (h : Mv w0 H0 w (mqL eg cb sb t cs j v q a c ct i m R)) (c' : Nat) : Mv w0 H0 (w.setCell ⟨eg, 1, none⟩ (.int .i64 (c' : Int))) (mqL eg cb sb t cs j v q a c' ct i m R) := h.set 1 _
theorem mqL_i (h : Mv w0 H0 w (mqL eg cb sb t cs j v q a c ct i m R)) (i' : Nat) : Mv w0 H0 (w.setCell ⟨cb, j, none⟩ (.int .i64 (i' : Int))) (mqL eg cb sb t cs j v q a c ct i' m R) := by
  have := Mv.setAt (A := [_]) h j (.int .i64 (i' : Int))
  rw [cxSet_i] at this
  exact this
theorem mqL_m (h : Mv w0 H0 w (mqL eg cb sb t cs j v q a c ct i m R)) (m' : Nat) : Mv w0 H0 (w.setCell ⟨cb, j + 1, none⟩ (.int .i64 (m' : Int))) (mqL eg cb sb t cs j v q a c ct i m' R) := by
  have := Mv.setAt (A := [_]) h (j + 1) (.int .i64 (m' : Int))
  rw [cxSet_m] at this
  exact this
structure MqF (w : World) (eg cb sb j : Nat) (q : QeM) (a c i m : Nat) : Prop where
  a : w.cell? ⟨eg, 0, none⟩ = some (.int .i64 (a : Int))
  c : w.cell? ⟨eg, 1, none⟩ = some (.int .i64 (c : Int))
  i : w.cell? ⟨cb, j, none⟩ = some (.int .i64 (i : Int))
  m : w.cell? ⟨cb, j + 1, none⟩ = some (.int .i64 (m : Int))
  qe : w.cell? ⟨sb, 0, none⟩ = some (.int .i64 (q.qe : Int))
  mps : w.cell? ⟨sb, 1, none⟩ = some (.int .i64 (q.mps : Int))
  lps : w.cell? ⟨sb, 2, none⟩ = some (.int .i64 (q.lps : Int))
  sw : w.cell? ⟨sb, 3, none⟩ = some (.bool q.swap)
  fa : w.frozen? ⟨eg, 0, none⟩ = false
  fc : w.frozen? ⟨eg, 1, none⟩ = false
  fi : w.frozen? ⟨cb, j, none⟩ = false
  fm : w.frozen? ⟨cb, j + 1, none⟩ = false
theorem mqL_f (h : Mv w0 H0 w (mqL eg cb sb t cs j v q a c ct i m R)) (hj : j + 1 < cs.size) : MqF w eg cb sb j q a c i m := by
  have b1 := Mv.blkm h (x := encB eg a c ct v) List.mem_cons_self
  have b2 := Mv.blkm h (x := ⟨cb, t, cxSet cs j i m⟩) (List.mem_cons_of_mem _ List.mem_cons_self)
  have b3 := Mv.blkm h (x := stB sb q) (List.mem_cons_of_mem _ (List.mem_cons_of_mem _ List.mem_cons_self))
  have g := cxSet_get hj i m
  exact ⟨b1.cell 0, b1.cell 1, (b2.cell j).trans g.1, (b2.cell (j + 1)).trans g.2, b3.cell 0, b3.cell 1, b3.cell 2, b3.cell 3, b1.frozen 0, b1.frozen 1, b2.frozen j, b2.frozen (j + 1)⟩
end
theorem and1_nat (b : Nat) (h : b ≤ 1) : bits .and .i64 (b : Int) 1 = (b : Int) := by rw [i64_and1]; omega
set_option maxRecDepth 100000 in
set_option maxHeartbeats 4000000 in
theorem mq_enc (eg cb k bit : Nat) (t : TypeId) (cs : Array Value) (e : EncM) (x : CxM) (w : World) (H : List HB) (hk : k < 19) (h : MqR eg e H) (hs : Sat w (⟨cb, t, cs⟩ :: H)) (hc1 : cs[9 + k * 2]? = some (.int .i64 (x.i : Int))) (hc2 : cs[9 + k * 2 + 1]? = some (.int .i64 (x.mps : Int)))
    (he : e.Ok) (hx : x.Ok) (hl : e.b.length ≤ 80000000) (hbit : bit ≤ 1) :
    Calls Try.prog 106 #[.pointer (some ⟨eg, 0, none⟩), .pointer (some ⟨cb, 9, none⟩), .int .i64 (k : Int), .int .i64 (bit : Int)] w fun r w' => r = .returned (.tuple #[]) ∧
      ∃ H', MqR eg (encE e x bit).1 H' ∧ Mv w (⟨cb, t, cs⟩ :: H) w' (⟨cb, t, cxSet cs (9 + k * 2) (encE e x bit).2.i (encE e x bit).2.mps⟩ :: H') := by
  obtain ⟨hw1, hx2⟩ := bitE_w (bit := bit) he hx
  have hbl : (bitE e x bit).1.b = e.b := bitE_b e x bit
  have hcs : 9 + k * 2 + 1 < cs.size := (Array.getElem?_eq_some_iff.1 hc2).1
  obtain ⟨⟨a1, a2, a3, a4, a5, a6⟩, a7⟩ := he
  obtain ⟨x1, x2⟩ := hx
  obtain ⟨a, c, ct, b⟩ := e
  obtain ⟨xi, xm⟩ := x
  simp only at a1 a2 a3 a4 a5 a6 a7 x1 x2 hl hc1 hc2
  obtain ⟨q1, q2, q3, q4⟩ := qeT_ok xi x1
  obtain ⟨q, hq⟩ : ∃ q, qeAt xi = q := ⟨_, rfl⟩
  rw [hq] at q1 q2 q3 q4
  have hcb : c ≤ 150994944 := by
    have : c + a ≤ (c + a) * 2 ^ ct := Nat.le_mul_of_pos_right _ (Nat.two_pow_pos _)
    omega
  have AT := Lib.hid fun W => state_any xi x1 W
  rw [hq] at AT
  have BE : Hid (bitE ⟨a, c, ct, b⟩ ⟨xi, xm⟩ bit = if bit = xm then (if 0x8000 ≤ a - q.qe then (⟨a - q.qe, c + q.qe, ct, b⟩, ⟨xi, xm⟩) else (if a - q.qe < q.qe then ⟨q.qe, c, ct, b⟩ else ⟨a - q.qe, c + q.qe, ct, b⟩, ⟨q.mps, xm⟩))
      else (if a - q.qe < q.qe then ⟨a - q.qe, c + q.qe, ct, b⟩ else ⟨q.qe, c, ct, b⟩, ⟨q.lps, if q.swap then 1 - xm else xm⟩)) := Lib.hid (by unfold bitE; simp only [hq])
  clear hq a5
  obtain ⟨vb, Hb, rfl, hr⟩ := h
  simp only at hr
  obtain ⟨va, vc, rfl⟩ := hr.slice
  obtain ⟨v, hv⟩ : ∃ v, v = Value.slice va b.length vc := ⟨_, rfl⟩
  have HR := Lib.hid hr
  rw [← hv] at HR hs ⊢
  have HV := Lib.hid hv
  clear hv hr
  have M0 : Mv w (⟨cb, t, cs⟩ :: (encB eg a c ct v :: Hb)) w (⟨cb, t, cs⟩ :: (encB eg a c ct v :: Hb)) := Mv.refl hs
  have k0 := ((M0.blk 0 rfl).cell (9 + k * 2)).trans hc1
  have K0 := Lib.hid M0
  have hcx := cxSet_self hc1 hc2
  have HC := Lib.hid (And.intro hcx hcs)
  have HE := Lib.hid (And.intro hw1 (And.intro hx2 hbl))
  clear M0 hs hc1 hc2 hcx hcs hw1 hx2 hbl
  have d1 : decide ((k : Int) < 0) = false := by simp
  have d2 : decide ((19 : Int) ≤ (k : Int)) = false := by simp; omega
  have d3 : (k : Int) < 19 := by omega
  go_enter Try.func106, Try.ntmps106
  go_upto_region 2 with (go_at_call 110; refine (AT.out _).mono ?_; rintro r w1 ⟨rfl, m1⟩; have K1 := Lib.hid (Mv.call (H := []) (H' := []) (R := ⟨cb, t, cs⟩ :: (encB eg a c ct v :: Hb)) K0.out m1); clear m1)
  have M2 := K1.out.alloc 191 #[.int .i64 (q.qe : Int), .int .i64 (q.mps : Int), .int .i64 (q.lps : Int), .bool q.swap]
  obtain ⟨sb, hsb⟩ : ∃ sb, w1.heap.size = sb := ⟨_, rfl⟩
  obtain ⟨w2, hw2⟩ : ∃ w2, w2 = w1.alloc (.cells #[.int .i64 (q.qe : Int), .int .i64 (q.mps : Int), .int .i64 (q.lps : Int), .bool q.swap] 191) := ⟨_, rfl⟩
  rw [← hw2, hsb] at M2
  rw [← hw2, hsb]
  obtain ⟨H0, hH0⟩ : ∃ H0, ((⟨cb, t, cs⟩ : HB) :: (encB eg a c ct v :: Hb)) = H0 := ⟨_, rfl⟩
  have M3 : Mv w H0 w2.drew (mqL eg cb sb t cs (9 + k * 2) v q a c ct xi xm Hb) := by
    unfold mqL
    rw [HC.out.1, ← hH0]
    exact (M2.sub (fun g => by simp only [cnt_append, cnt_cons, cnt_nil, stB]; omega) (fun c hc => by simp only [List.mem_append, List.mem_cons, stB] at hc ⊢; grind)).drew
  have KH := Lib.hid hH0
  clear hw2 hsb hH0 M2 K1 k0 K0 AT
  obtain ⟨f1, -, -, -, f5, -, -, -, f9, -, -, -⟩ := mqL_f M3 HC.out.2
  obtain ⟨a', ha'⟩ : ∃ a', a - q.qe = a' := ⟨_, rfl⟩
  obtain ⟨c', hc'⟩ : ∃ c', c + q.qe = c' := ⟨_, rfl⟩
  rw [ha', hc'] at BE
  have CQ : Hid ((c : Int) + (q.qe : Int) = (c' : Int)) := Lib.hid (by omega)
  have c'1 : (c' : Int) ≤ 150994944 + 22017 := by omega
  have aq : (a : Int) - (q.qe : Int) = (a' : Int) := by omega
  have a'1 : (a' : Int) ≤ 65535 := by omega
  have a'0 : (1 : Int) ≤ a' := by omega
  have K3 := Lib.hid M3
  clear M3 ha' hc'
  go_still_tail 10, (by kernel_rfl)
  change wpList _ _ _ _ _ w2.drew
  generalize w2.drew = w3 at *
  go_upto_region 3 with fail
  obtain ⟨w4, hw4⟩ : ∃ w4, w4 = w3.setCell ⟨eg, 0, none⟩ (.int .i64 ((a' : Nat) : Int)) := ⟨_, rfl⟩
  have M4 := mqL_a K3.out a'
  rw [← hw4] at M4 ⊢
  have K4 := Lib.hid M4
  clear hw4 M4
  clear f1 f5 f9 aq
  obtain ⟨fa, fc, fi, fm, fqe, fmps, flps, fsw, ga, gc, gi, gm⟩ := mqL_f K4.out HC.out.2
  have e1 := and1_nat bit hbit
  go_upto_if 40 with fail
  go_cut [40] from 41 (fun _ wx => ∃ ar cr ir mr, bitE ⟨a, c, ct, b⟩ ⟨xi, xm⟩ bit = (⟨ar, cr, ct, b⟩, ⟨ir, mr⟩) ∧ Mv w H0 wx (mqL eg cb sb t cs (9 + k * 2) v q ar cr ct ir mr Hb))
  case first =>
    by_cases hm : bit = xm
    · have d4 : ((bit : Int) == (xm : Int)) = true := by rw [hm]; simp
      have HM := Lib.hid hm
      clear hm
      by_cases hA : 32768 ≤ a'
      · have d5 : decide ((32768 : Int) ≤ (a' : Int)) = true := by simp; omega
        have cq := CQ.out
        have HA := Lib.hid hA
        clear hA
        go_upto_region 5 with fail
        clear fa fc fi fm fqe fmps flps fsw ga gc gi gm
        have MD := K4.out.drew
        obtain ⟨fa, fc, fi, fm, fqe, fmps, flps, fsw, ga, gc, gi, gm⟩ := mqL_f MD HC.out.2
        have K5 := Lib.hid MD
        clear MD
        go_still_tail 10, (by kernel_rfl)
        change wpList _ _ _ _ _ w4.drew
        generalize w4.drew = w5 at *
        go_wp2_with fail
        have M9 := mqL_c K5.out c'
        have EE : encE ⟨a, c, ct, b⟩ ⟨xi, xm⟩ bit = (⟨a', c', ct, b⟩, ⟨xi, xm⟩) := by
          unfold encE
          rw [BE.out, if_pos HM.out, if_pos HA.out]
          have : normE 16 ⟨a', c', ct, b⟩ = ⟨a', c', ct, b⟩ := by unfold normE; rw [if_neg (by simp only; have := HA.out; omega)]
          simp only [this]
        rw [EE]
        exact bodyPost_ret (results_none rfl _ _ _) rfl ⟨rfl, _, ⟨v, Hb, rfl, HR.out⟩, by rw [KH.out]; exact M9.sub (fun g => by simp only [mqL, cnt_cons]; omega) (fun c hc => by simp only [mqL, List.mem_cons] at hc ⊢; grind)⟩
      · have d5 : decide ((32768 : Int) ≤ (a' : Int)) = false := by simp; omega
        have HA := Lib.hid hA
        clear hA
        go_upto_region 6 with fail
        by_cases hq : a' < q.qe
        · have d6 : decide ((a' : Int) < (q.qe : Int)) = true := by simp; omega
          have HQ := Lib.hid hq
          clear hq
          go_quiet (fail)
          have K7 := Lib.hid (K4.out.drewN nq)
          clear fa fc fi fm fqe fmps flps fsw ga gc gi gm
          generalize w4.drewN nq = w7 at *
          obtain ⟨fa, fc, fi, fm, fqe, fmps, flps, fsw, ga, gc, gi, gm⟩ := mqL_f K7.out HC.out.2
          go_upto_region 9 with fail
          clear fa fc fi fm fqe fmps flps fsw ga gc gi gm
          obtain ⟨w8, hw8⟩ : ∃ w8, w8 = w7.setCell ⟨eg, 0, none⟩ (.int .i64 ((q.qe : Nat) : Int)) := ⟨_, rfl⟩
          have M8 := mqL_a K7.out q.qe
          rw [← hw8] at M8 ⊢
          have K8 := Lib.hid M8
          clear hw8 M8
          have MD := K8.out.drew
          obtain ⟨fa, fc, fi, fm, fqe, fmps, flps, fsw, ga, gc, gi, gm⟩ := mqL_f MD HC.out.2
          have K9 := Lib.hid MD
          clear MD
          go_still_tail 7, (by kernel_rfl)
          change wpList _ _ _ _ _ w8.drew
          generalize w8.drew = w9 at *
          go_wp2_with fail
          go_meet
          exact ⟨_, _, _, _, (by rw [BE.out, if_pos HM.out, if_neg HA.out, if_pos HQ.out]), mqL_i K9.out q.mps⟩
        · have d6 : decide ((a' : Int) < (q.qe : Int)) = false := by simp; omega
          have HQ := Lib.hid hq
          clear hq
          go_quiet (fail)
          have K7 := Lib.hid (K4.out.drewN nq)
          clear fa fc fi fm fqe fmps flps fsw ga gc gi gm
          generalize w4.drewN nq = w7 at *
          have cq := CQ.out
          go_upto_region 8 with fail
          have MD := K7.out.drew
          obtain ⟨fa, fc, fi, fm, fqe, fmps, flps, fsw, ga, gc, gi, gm⟩ := mqL_f MD HC.out.2
          have K10 := Lib.hid MD
          clear MD
          go_still_tail 10, (by kernel_rfl)
          change wpList _ _ _ _ _ w7.drew
          generalize w7.drew = w10 at *
          go_upto_region 9 with fail
          clear fa fc fi fm fqe fmps flps fsw ga gc gi gm
          clear cq
          obtain ⟨w11, hw11⟩ : ∃ w11, w11 = w10.setCell ⟨eg, 1, none⟩ (.int .i64 ((c' : Nat) : Int)) := ⟨_, rfl⟩
          have M11 := mqL_c K10.out c'
          rw [← hw11] at M11 ⊢
          have K11 := Lib.hid M11
          clear hw11 M11
          have MD := K11.out.drew
          obtain ⟨fa, fc, fi, fm, fqe, fmps, flps, fsw, ga, gc, gi, gm⟩ := mqL_f MD HC.out.2
          have K12 := Lib.hid MD
          clear MD
          go_still_tail 7, (by kernel_rfl)
          change wpList _ _ _ _ _ w11.drew
          generalize w11.drew = w12 at *
          go_wp2_with fail
          go_meet
          exact ⟨_, _, _, _, (by rw [BE.out, if_pos HM.out, if_neg HA.out, if_neg HQ.out]), mqL_i K12.out q.mps⟩
    · have d4 : ((bit : Int) == (xm : Int)) = false := beq_eq_false_iff_ne.2 (by omega)
      have HM := Lib.hid hm
      clear hm
      go_upto_region 10 with fail
      obtain ⟨m', hm'⟩ : ∃ m', 1 - xm = m' := ⟨_, rfl⟩
      have MQ : Hid ((1 : Int) - (xm : Int) = (m' : Int)) := Lib.hid (by omega)
      have ME := Lib.hid hm'
      clear hm'
      by_cases hq : a' < q.qe
      · have d6 : decide ((a' : Int) < (q.qe : Int)) = true := by simp; omega
        have HQ := Lib.hid hq
        clear hq
        go_quiet (fail)
        have K7 := Lib.hid (K4.out.drewN nq)
        clear fa fc fi fm fqe fmps flps fsw ga gc gi gm
        generalize w4.drewN nq = w7 at *
        have cq := CQ.out
        go_upto_region 11 with fail
        have MD := K7.out.drew
        obtain ⟨fa, fc, fi, fm, fqe, fmps, flps, fsw, ga, gc, gi, gm⟩ := mqL_f MD HC.out.2
        have K13 := Lib.hid MD
        clear MD
        go_still_tail 10, (by kernel_rfl)
        change wpList _ _ _ _ _ w7.drew
        generalize w7.drew = w13 at *
        go_upto_region 13 with fail
        clear fa fc fi fm fqe fmps flps fsw ga gc gi gm
        clear cq
        obtain ⟨w14, hw14⟩ : ∃ w14, w14 = w13.setCell ⟨eg, 1, none⟩ (.int .i64 ((c' : Nat) : Int)) := ⟨_, rfl⟩
        have M14 := mqL_c K13.out c'
        rw [← hw14] at M14 ⊢
        have K14 := Lib.hid M14
        clear hw14 M14
        rcases (Bool.eq_false_or_eq_true q.swap).symm with hsw | hsw
        · obtain ⟨fa, fc, fi, fm, fqe, fmps, flps, fsw, ga, gc, gi, gm⟩ := mqL_f K14.out HC.out.2
          rw [hsw] at fsw
          have HS := Lib.hid hsw
          clear hsw
          go_upto_region 15 with fail
          clear fa fc fi fm fqe fmps flps fsw ga gc gi gm
          have MD := K14.out.drew
          obtain ⟨fa, fc, fi, fm, fqe, fmps, flps, fsw, ga, gc, gi, gm⟩ := mqL_f MD HC.out.2
          have K15 := Lib.hid MD
          clear MD
          go_still_tail 7, (by kernel_rfl)
          change wpList _ _ _ _ _ w14.drew
          generalize w14.drew = w15 at *
          go_wp2_with fail
          go_meet
          exact ⟨_, _, _, _, (by rw [BE.out, if_neg HM.out, if_pos HQ.out, if_neg (by rw [HS.out]; decide)]), mqL_i K15.out q.lps⟩
        · obtain ⟨fa, fc, fi, fm, fqe, fmps, flps, fsw, ga, gc, gi, gm⟩ := mqL_f K14.out HC.out.2
          rw [hsw] at fsw
          have HS := Lib.hid hsw
          clear hsw
          go_upto_region 14 with fail
          clear fa fc fi fm fqe fmps flps fsw ga gc gi gm
          have mq := MQ.out
          have MD := K14.out.drew
          obtain ⟨fa, fc, fi, fm, fqe, fmps, flps, fsw, ga, gc, gi, gm⟩ := mqL_f MD HC.out.2
          have K16 := Lib.hid MD
          clear MD
          go_still_tail 12, (by kernel_rfl)
          change wpList _ _ _ _ _ w14.drew
          generalize w14.drew = w16 at *
          go_upto_region 15 with fail
          clear fa fc fi fm fqe fmps flps fsw ga gc gi gm
          clear mq
          obtain ⟨w17, hw17⟩ : ∃ w17, w17 = w16.setCell ⟨cb, 9 + k * 2 + 1, none⟩ (.int .i64 ((m' : Nat) : Int)) := ⟨_, rfl⟩
          have M17 := mqL_m K16.out m'
          rw [← hw17] at M17 ⊢
          have K17 := Lib.hid M17
          clear hw17 M17
          have MD := K17.out.drew
          obtain ⟨fa, fc, fi, fm, fqe, fmps, flps, fsw, ga, gc, gi, gm⟩ := mqL_f MD HC.out.2
          have K18 := Lib.hid MD
          clear MD
          go_still_tail 7, (by kernel_rfl)
          change wpList _ _ _ _ _ w17.drew
          generalize w17.drew = w18 at *
          go_wp2_with fail
          go_meet
          exact ⟨_, _, _, _, (by rw [BE.out, if_neg HM.out, if_pos HQ.out, if_pos HS.out, ← ME.out]), mqL_i K18.out q.lps⟩
      · have d6 : decide ((a' : Int) < (q.qe : Int)) = false := by simp; omega
        have HQ := Lib.hid hq
        clear hq
        go_quiet (fail)
        have K7 := Lib.hid (K4.out.drewN nq)
        clear fa fc fi fm fqe fmps flps fsw ga gc gi gm
        generalize w4.drewN nq = w7 at *
        obtain ⟨fa, fc, fi, fm, fqe, fmps, flps, fsw, ga, gc, gi, gm⟩ := mqL_f K7.out HC.out.2
        go_upto_region 13 with fail
        clear fa fc fi fm fqe fmps flps fsw ga gc gi gm
        obtain ⟨w19, hw19⟩ : ∃ w19, w19 = w7.setCell ⟨eg, 0, none⟩ (.int .i64 ((q.qe : Nat) : Int)) := ⟨_, rfl⟩
        have M19 := mqL_a K7.out q.qe
        rw [← hw19] at M19 ⊢
        have K19 := Lib.hid M19
        clear hw19 M19
        rcases (Bool.eq_false_or_eq_true q.swap).symm with hsw | hsw
        · obtain ⟨fa, fc, fi, fm, fqe, fmps, flps, fsw, ga, gc, gi, gm⟩ := mqL_f K19.out HC.out.2
          rw [hsw] at fsw
          have HS := Lib.hid hsw
          clear hsw
          go_upto_region 15 with fail
          clear fa fc fi fm fqe fmps flps fsw ga gc gi gm
          have MD := K19.out.drew
          obtain ⟨fa, fc, fi, fm, fqe, fmps, flps, fsw, ga, gc, gi, gm⟩ := mqL_f MD HC.out.2
          have K20 := Lib.hid MD
          clear MD
          go_still_tail 7, (by kernel_rfl)
          change wpList _ _ _ _ _ w19.drew
          generalize w19.drew = w20 at *
          go_wp2_with fail
          go_meet
          exact ⟨_, _, _, _, (by rw [BE.out, if_neg HM.out, if_neg HQ.out, if_neg (by rw [HS.out]; decide)]), mqL_i K20.out q.lps⟩
        · obtain ⟨fa, fc, fi, fm, fqe, fmps, flps, fsw, ga, gc, gi, gm⟩ := mqL_f K19.out HC.out.2
          rw [hsw] at fsw
          have HS := Lib.hid hsw
          clear hsw
          go_upto_region 14 with fail
          clear fa fc fi fm fqe fmps flps fsw ga gc gi gm
          have mq := MQ.out
          have MD := K19.out.drew
          obtain ⟨fa, fc, fi, fm, fqe, fmps, flps, fsw, ga, gc, gi, gm⟩ := mqL_f MD HC.out.2
          have K21 := Lib.hid MD
          clear MD
          go_still_tail 12, (by kernel_rfl)
          change wpList _ _ _ _ _ w19.drew
          generalize w19.drew = w21 at *
          go_upto_region 15 with fail
          clear fa fc fi fm fqe fmps flps fsw ga gc gi gm
          clear mq
          obtain ⟨w22, hw22⟩ : ∃ w22, w22 = w21.setCell ⟨cb, 9 + k * 2 + 1, none⟩ (.int .i64 ((m' : Nat) : Int)) := ⟨_, rfl⟩
          have M22 := mqL_m K21.out m'
          rw [← hw22] at M22 ⊢
          have K22 := Lib.hid M22
          clear hw22 M22
          have MD := K22.out.drew
          obtain ⟨fa, fc, fi, fm, fqe, fmps, flps, fsw, ga, gc, gi, gm⟩ := mqL_f MD HC.out.2
          have K23 := Lib.hid MD
          clear MD
          go_still_tail 7, (by kernel_rfl)
          change wpList _ _ _ _ _ w22.drew
          generalize w22.drew = w23 at *
          go_wp2_with fail
          go_meet
          exact ⟨_, _, _, _, (by rw [BE.out, if_neg HM.out, if_neg HQ.out, if_pos HS.out, ← ME.out]), mqL_i K23.out q.lps⟩
  obtain ⟨ar, cr, ir, mr, hbe, m1⟩ := hcut
  obtain ⟨W1, X1, B1⟩ := HE.out
  rw [hbe] at W1 X1
  obtain ⟨R, hR⟩ : ∃ R, normE 16 ⟨ar, cr, ct, b⟩ = R := ⟨_, rfl⟩
  have EE : Hid (encE ⟨a, c, ct, b⟩ ⟨xi, xm⟩ bit = (R, ⟨ir, mr⟩)) := Lib.hid (by unfold encE; rw [hbe]; simp only [hR])
  obtain ⟨CX, hCX⟩ : ∃ CX : HB, CX = ⟨cb, t, cxSet cs (9 + k * 2) ir mr⟩ := ⟨_, rfl⟩
  have m2 : Mv w H0 wc ((encB eg ar cr ct v :: Hb) ++ [CX]) := by
    rw [hCX]
    exact m1.sub (fun g => by simp only [mqL, cnt_append, cnt_cons, cnt_nil]; omega) (fun c hc => by simp only [mqL, List.mem_append, List.mem_cons] at hc ⊢; grind)
  have KL := Lib.hid (And.intro W1 (And.intro hR m2))
  have HX := Lib.hid hCX
  have r0 : 1 ≤ ar := W1.1
  have r1 : 32768 ≤ ar * 2 ^ 16 := by omega
  have HB1 := Lib.hid (And.intro r1 hl)
  clear hbe m1 W1 X1 B1 hR hCX m2 r1 r0 HE BE K3 K4 CQ HC e1 a1 a2 a3 a4 a6 a7 hl c'1 a'1 a'0
  go_wp2_with fail
  go_loopg [] 16 (fun m wx => ∃ (f : Nat) (e1 : EncM) (H1 : List HB), m = f ∧ f ≤ 16 ∧ MqR eg e1 H1 ∧ Mv w H0 wx (H1 ++ [CX]) ∧ e1.W ∧ 32768 ≤ e1.a * 2 ^ f ∧ normE f e1 = R ∧ e1.b.length + f ≤ 80000016)
  case atStart => exact ⟨16, ⟨ar, cr, ct, b⟩, _, rfl, Nat.le_refl _, ⟨v, Hb, rfl, HR.out⟩, KL.out.2.2, KL.out.1, HB1.out.1, KL.out.2.1, by have := HB1.out.2; simp only; omega⟩
  case round =>
    obtain ⟨f, ⟨ae, ce, cte, be⟩, H1, rfl, hf, ⟨ve, Hbe, rfl, hre⟩, mE, wE, hE, nE, lE⟩ := hrel
    obtain ⟨g1, g2, g3, g4, g5, g6⟩ := wE
    simp only at g1 g2 g3 g4 g5 g6 hE lE hre mE
    have b0 := (mE.blk 0 rfl)
    have y0 := b0.cell 0
    have KE := Lib.hid (And.intro hre (And.intro mE (And.intro (show EncM.W ⟨ae, ce, cte, be⟩ from ⟨g1, g2, g3, g4, g5, g6⟩) (And.intro hE nE))))
    by_cases hlt : ae < 32768
    · have d1 : decide ((ae : Int) < 32768) = true := by simp; omega
      obtain ⟨f', rfl⟩ : ∃ f', gk = f' + 1 := ⟨gk - 1, by
        rcases gk with _ | gk
        · simp at hE; omega
        · omega⟩
      have hc2 : (ce + ae) * 2 ≤ 150994944 := Nat.le_trans (Nat.mul_le_mul_left _ (show 2 ≤ 2 ^ cte from Nat.le_trans (by decide) (Nat.pow_le_pow_right (by decide) g3))) g5
      obtain ⟨a2, ha2⟩ : ∃ a2, 2 * ae = a2 := ⟨_, rfl⟩
      obtain ⟨c2, hc2'⟩ : ∃ c2, 2 * ce = c2 := ⟨_, rfl⟩
      obtain ⟨ct1, hct1⟩ : ∃ ct1, cte - 1 = ct1 := ⟨_, rfl⟩
      have EA : Hid ((2 : Int) * (ae : Int) = (a2 : Int)) := Lib.hid (by omega)
      have EC : Hid ((2 : Int) * (ce : Int) = (c2 : Int)) := Lib.hid (by omega)
      have ET : Hid ((cte : Int) - 1 = (ct1 : Int)) := Lib.hid (by omega)
      have ba : (a2 : Int) ≤ 65536 := by omega
      have bc : (c2 : Int) ≤ 150994944 := by omega
      have bcn : c2 ≤ 1000000000000 := by omega
      have bt : (ct1 : Int) ≤ 12 := by omega
      have DB : Hid (dblE ⟨ae, ce, cte, be⟩ = if cte = 1 then outE ⟨a2, c2, 0, be⟩ else ⟨a2, c2, ct1, be⟩) := Lib.hid (by unfold dblE; simp only [ha2, hc2', hct1])
      have HCT := Lib.hid hct1
      obtain ⟨DW, DA⟩ := dblE_w KE.out.2.2.1 hlt
      have DL : (dblE ⟨ae, ce, cte, be⟩).b.length ≤ be.length + 1 := by
        unfold dblE
        split
        · have := outE_len ⟨2 * ae, 2 * ce, 0, be⟩ g6
          simp only at this
          simp only
          omega
        · simp
      have NE : normE f' (dblE ⟨ae, ce, cte, be⟩) = R := by
        have h1 := KE.out.2.2.2.2
        unfold normE at h1
        rw [if_pos (show (⟨ae, ce, cte, be⟩ : EncM).a < 0x8000 from hlt)] at h1
        exact h1
      have HE2 : 32768 ≤ (dblE ⟨ae, ce, cte, be⟩).a * 2 ^ f' := by
        rw [DA]
        have h1 := KE.out.2.2.2.1
        rw [Nat.pow_succ] at h1
        have h2 : 2 * ae * 2 ^ f' = ae * (2 ^ f' * 2) := by rw [Nat.mul_comm 2 ae, Nat.mul_assoc, Nat.mul_comm 2 (2 ^ f')]
        simp only
        omega
      have KD := Lib.hid (And.intro DW (And.intro DL (And.intro NE HE2)))
      clear b0 g5 hE nE hc2 ha2 hc2' hct1 DW DA DL NE HE2
      go_upto_region 17 with fail
      have MD := mE
      have z0 := (MD.blk 0 rfl)
      have z1 := z0.cell 0
      have z2 := z0.cell 1
      have z3 := z0.frozen 0
      have z4 := z0.frozen 1
      have ea := EA.out
      have ec := EC.out
      have KM := Lib.hid MD
      clear MD z0 mE y0
      go_cut [] from 133 to 162 (fun wx => Mv w H0 wx (encB eg a2 c2 cte ve :: (Hbe ++ [CX])))
      case first =>
        go_region
        all_goals
          go_wp2_with fail
          go_meet
          exact ((KM.out.set 0 (.int .i64 (a2 : Int))).set 1 (.int .i64 (c2 : Int))).drew
      clear ea ec z1 z2 z3 z4 KM
      obtain ⟨v2, rfl⟩ : ∃ v2 : World, v2 = wc := ⟨_, rfl⟩
      have M2 := hcut
      have t1 := (M2.blk 0 rfl).cell 2
      have t2 := (M2.blk 0 rfl).frozen 2
      have K2 := Lib.hid M2
      have et := ET.out
      clear M2 hcut
      go_upto_region 19 with fail
      clear et t1 t2
      have M3 : Mv w H0 (v2.setCell ⟨eg, 2, none⟩ (.int .i64 (ct1 : Int))) (encB eg a2 c2 ct1 ve :: (Hbe ++ [CX])) := K2.out.set 2 (.int .i64 (ct1 : Int))
      obtain ⟨v3, hv3⟩ : ∃ v3, v3 = v2.setCell ⟨eg, 2, none⟩ (.int .i64 (ct1 : Int)) := ⟨_, rfl⟩
      rw [← hv3] at M3 ⊢
      have t1 := (M3.blk 0 rfl).cell 2
      have K3 := Lib.hid M3
      clear hv3 M3 K2
      by_cases hct : ct1 = 0
      · subst hct
        have HCT1 : Hid (cte = 1) := Lib.hid (by have := HCT.out; omega)
        have OUT : Hid (Calls Try.prog 71 #[.pointer (some ⟨eg, 0, none⟩)] v3 fun r w' => r = .returned (.tuple #[]) ∧ ∃ H', MqR eg (outE ⟨a2, c2, 0, be⟩) H' ∧ Mv v3 (encB eg a2 c2 0 ve :: Hbe) w' H') :=
          Lib.hid (out_any eg ⟨a2, c2, 0, be⟩ v3 _ ⟨ve, Hbe, rfl, KE.out.1⟩ (K3.out.sat.left (A := encB eg a2 c2 0 ve :: Hbe)) g6 (by simp only; omega) bcn)
        go_wp2_with (go_at_call 71; refine OUT.out.mono ?_; rintro r v4 ⟨rfl, H4, h4, m4⟩; have K4 := Lib.hid (And.intro h4 (Mv.call (H := encB eg a2 c2 0 ve :: Hbe) (R := [CX]) K3.out m4)); clear h4 m4)
        go_roundg f'
        case measure => omega
        case rel =>
          have e2 : dblE ⟨ae, ce, cte, be⟩ = outE ⟨a2, c2, 0, be⟩ := by rw [DB.out, if_pos HCT1.out]
          obtain ⟨k1, k2, k3, k4⟩ := KD.out
          rw [e2] at k1 k2 k3 k4
          exact ⟨f', _, H4, rfl, by omega, K4.out.1, K4.out.2, k1, k4, k3, by omega⟩
      · have d4 : ((ct1 : Int) == 0) = false := beq_eq_false_iff_ne.2 (by omega)
        have HCT1 : Hid (¬ cte = 1) := Lib.hid (by have := HCT.out; omega)
        go_wp2_with fail
        go_roundg f'
        case measure => omega
        case rel =>
          have e2 : dblE ⟨ae, ce, cte, be⟩ = ⟨a2, c2, ct1, be⟩ := by rw [DB.out, if_neg HCT1.out]
          obtain ⟨k1, k2, k3, k4⟩ := KD.out
          rw [e2] at k1 k2 k3 k4
          exact ⟨f', ⟨a2, c2, ct1, be⟩, _, rfl, by omega, ⟨ve, Hbe, rfl, KE.out.1⟩, K3.out, k1, k4, k3, by simp only at k2 ⊢; omega⟩
    · have d1 : decide ((ae : Int) < 32768) = false := by simp; omega
      clear b0 mE g5 hE nE
      go_wp2_with fail
      have eR : R = ⟨ae, ce, cte, be⟩ := by
        rw [← KE.out.2.2.2.2]
        cases gk with
        | zero => rfl
        | succ gk => unfold normE; rw [if_neg (by simp only; omega)]
      refine bodyPost_end (results_none rfl _ _ _) rfl ?_
      rw [EE.out]
      refine ⟨rfl, _, ⟨ve, Hbe, by rw [eR], by rw [eR]; exact KE.out.1⟩, ?_⟩
      rw [KH.out, ← HX.out]
      exact KE.out.2.1.sub (fun g => by simp only [cnt_append, cnt_cons, cnt_nil]; omega) (fun c hc => by simp only [List.mem_append, List.mem_cons] at hc ⊢; grind)
end Go.Proofs.Ytnpoakabheeoeaa
