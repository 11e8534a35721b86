/- tier.Same, of two blocks that are the same. packet.Add: a block is given to a band. -/
import Derived.Test.YtnpoakabheeoeaaRaj
import Derived.Laws.StructEq
import Derived.Test.YtnpoakabheeoeaaMpl
namespace Go.Proofs.Ytnpoakabheeoeaa
open Go.RowKit

theorem RowP.form {a : Option Addr} {n c : Nat} {l : List (Int × Bool)} {H : List HB} (h : RowP (.slice a n c) l H) (hn : 0 < n) : ∃ g, a = some ⟨g, 0, none⟩ := by
  obtain ⟨a', c', e⟩ := h.slice
  cases e
  obtain ⟨g, cp, cur, hv, -⟩ := RowH.form h hn
  injection hv with ha
  exact ⟨g, ha⟩
theorem RowP.at_ {w : World} {g n c : Nat} {l : List (Int × Bool)} {H : List HB} (h : RowP (.slice (some ⟨g, 0, none⟩) n c) l H) (hs : Sat w H) {k : Nat} {p : Int × Bool} (hk : l[k]? = some p) : w.cell? ⟨g, k * 2, none⟩ = some (.int .i64 p.1) ∧ w.cell? ⟨g, k * 2 + 1, none⟩ = some (.bool p.2) := by
  obtain ⟨a', c', e⟩ := h.slice
  cases e
  have hi := (List.getElem?_eq_some_iff.1 hk).1
  exact ⟨(RowH.cell h hs rfl (k * 2) (by omega)).1.trans (passesV_get hk).1, (RowH.cell h hs rfl (k * 2 + 1) (by omega)).1.trans (passesV_get hk).2⟩
set_option maxRecDepth 100000 in
set_option maxHeartbeats 2000000 in
theorem eq_pass (e : Int) (b : Bool) (w : World) : (Op.equalIn 10000 108 (.agg #[.int .i64 e, .bool b]) (.agg #[.int .i64 e, .bool b])).run Try.prog w = .ok true w := by
  rw [show (10000 : Nat) = 9999 + 1 from rfl, run_equalIn_struct w 9999 108 _ _ (by kernel_rfl) (by kernel_rfl)]
  simp only [Program.fieldsOf, Try.underlying108]
  have u3 := Try.underlying3
  have u4 := Try.underlying4
  have a3 := Try.isAgg3
  have a4 := Try.isAgg4
  have z3 := Try.sizeOf3
  have z4 := Try.sizeOf4
  go_simp
set_option maxRecDepth 100000 in
set_option maxHeartbeats 2000000 in
theorem eqp_true (v1 v2 : Value) (ps : List (Int × Bool)) (H1 H2 : List HB) (w : World) (h1 : RowP v1 ps H1) (h2 : RowP v2 ps H2) (s1 : Sat w H1) (s2 : Sat w H2) (hn : ps.length ≤ 1000) :
    Calls Try.prog 48 #[v1, v2] w fun e w' => e = .returned (.bool true) ∧ ∃ nn, w' = w.drewN nn := by
  obtain ⟨a1, c1, rfl⟩ := h1.slice
  obtain ⟨a2, c2, rfl⟩ := h2.slice
  obtain ⟨n, hnn⟩ : ∃ n, ps.length = n := ⟨_, rfl⟩
  rw [hnn] at h1 h2 hn ⊢
  have KP := Lib.hid (And.intro h1 (And.intro h2 hnn))
  clear h1 h2 hnn
  have d0 : ((n : Int) != (n : Int)) = false := by simp
  go_enter Try.func48, Try.ntmps48
  go_wp2_with fail
  go_loopg [5, 13] n (fun g s5 s13 wx => ∃ j nn : Nat, j ≤ n ∧ g = n - j ∧ s13 = .int .i64 (j : Int) ∧ wx = w.drewN nn)
  case atStart => exact ⟨0, 0, Nat.zero_le _, rfl, rfl, rfl⟩
  case round =>
    obtain ⟨j, nn, hj, rfl, rfl, rfl⟩ := hrel
    by_cases hlt : j < n
    · have d1 : decide ((j : Int) < (n : Int)) = true := by simp; omega
      have hjn : (j : Int) < (n : Int) := by omega
      obtain ⟨g1, rfl⟩ := KP.out.1.form (by omega)
      obtain ⟨g2, rfl⟩ := KP.out.2.1.form (by omega)
      obtain ⟨p, hp⟩ : ∃ p, ps[j]? = some p := ⟨_, List.getElem?_eq_getElem (by rw [KP.out.2.2]; exact hlt)⟩
      obtain ⟨x1, x2⟩ := KP.out.1.at_ s1 hp
      obtain ⟨y1, y2⟩ := KP.out.2.1.at_ s2 hp
      obtain ⟨e, b⟩ := p
      replace x1 : ((w.drewN nn).drew).cell? ⟨g1, j * 2, none⟩ = some (.int .i64 e) := x1
      replace x2 : ((w.drewN nn).drew).cell? ⟨g1, j * 2 + 1, none⟩ = some (.bool b) := x2
      replace y1 : ((w.drewN nn).drew).cell? ⟨g2, j * 2, none⟩ = some (.int .i64 e) := y1
      replace y2 : ((w.drewN nn).drew).cell? ⟨g2, j * 2 + 1, none⟩ = some (.bool b) := y2
      have EP := eq_pass e b
      obtain ⟨wz, hz⟩ : ∃ wz, w.drewN nn = wz := ⟨_, rfl⟩
      have HZ := Lib.hid hz
      rw [hz] at x1 x2 y1 y2 ⊢
      clear hz hp
      go_upto_region 6 with fail
      go_region
      all_goals
        go_wp2_with fail
        go_roundg (n - (j + 1))
        case measure => omega
        case rel => exact ⟨j + 1, nn + 1, by omega, rfl, by push_cast; rfl, by rw [← HZ.out]; rfl⟩
    · obtain rfl : j = n := by omega
      have d1 : decide ((j : Int) < (j : Int)) = false := by simp
      go_wp2_with fail
      go_ret
      exact ⟨rfl, _, rfl⟩
set_option maxRecDepth 100000 in
set_option maxHeartbeats 2000000 in
theorem eqb_true (v1 v2 : Value) (bs : List UInt8) (H1 H2 : List HB) (w : World) (h1 : RowB v1 bs H1) (h2 : RowB v2 bs H2) (s1 : Sat w H1) (s2 : Sat w H2) (hn : bs.length ≤ 100000000) :
    Calls Try.prog 49 #[v1, v2] w fun e w' => e = .returned (.bool true) ∧ ∃ nn, w' = w.drewN nn := by
  obtain ⟨a1, c1, rfl⟩ := h1.slice
  obtain ⟨a2, c2, rfl⟩ := h2.slice
  obtain ⟨n, hnn⟩ : ∃ n, bs.length = n := ⟨_, rfl⟩
  rw [hnn] at h1 h2 hn ⊢
  have KP := Lib.hid (And.intro h1 (And.intro h2 hnn))
  clear h1 h2 hnn
  have d0 : ((n : Int) != (n : Int)) = false := by simp
  go_enter Try.func49, Try.ntmps49
  go_wp2_with fail
  go_loopg [5, 13] n (fun g s5 s13 wx => ∃ j nn : Nat, j ≤ n ∧ g = n - j ∧ s13 = .int .i64 (j : Int) ∧ wx = w.drewN nn)
  case atStart => exact ⟨0, 0, Nat.zero_le _, rfl, rfl, rfl⟩
  case round =>
    obtain ⟨j, nn, hj, rfl, rfl, rfl⟩ := hrel
    by_cases hlt : j < n
    · have d1 : decide ((j : Int) < (n : Int)) = true := by simp; omega
      have hjn : (j : Int) < (n : Int) := by omega
      obtain ⟨g1, hg1⟩ : ∃ g, a1 = some ⟨g, 0, none⟩ := by
        obtain ⟨g, cp, cur4, hv, -⟩ := RowH.form KP.out.1 (by rw [KP.out.2.2]; omega)
        injection hv with ha
        exact ⟨g, ha⟩
      obtain ⟨g2, hg2⟩ : ∃ g, a2 = some ⟨g, 0, none⟩ := by
        obtain ⟨g, cp, cur4, hv, -⟩ := RowH.form KP.out.2.1 (by rw [KP.out.2.2]; omega)
        injection hv with ha
        exact ⟨g, ha⟩
      subst hg1 hg2
      obtain ⟨p, hp⟩ : ∃ p, bs[j]? = some p := ⟨_, List.getElem?_eq_getElem (by rw [KP.out.2.2]; exact hlt)⟩
      have x1 : ((w.drewN nn).drew).cell? ⟨g1, j, none⟩ = some (.int .u8 (p.toNat : Int)) := RowB.at_ KP.out.1 s1 hp
      have y1 : ((w.drewN nn).drew).cell? ⟨g2, j, none⟩ = some (.int .u8 (p.toNat : Int)) := RowB.at_ KP.out.2.1 s2 hp
      have d2 : ((p.toNat : Int) != (p.toNat : Int)) = false := by simp
      obtain ⟨wz, hz⟩ : ∃ wz, w.drewN nn = wz := ⟨_, rfl⟩
      have HZ := Lib.hid hz
      rw [hz] at x1 y1 ⊢
      clear hz hp
      go_upto_region 6 with fail
      go_region
      all_goals
        go_wp2_with fail
        go_roundg (n - (j + 1))
        case measure => omega
        case rel => exact ⟨j + 1, nn + 1, by omega, rfl, by push_cast; rfl, by rw [← HZ.out]; rfl⟩
    · obtain rfl : j = n := by omega
      have d1 : decide ((j : Int) < (j : Int)) = false := by simp
      go_wp2_with fail
      go_ret
      exact ⟨rfl, _, rfl⟩
set_option maxRecDepth 100000 in
set_option maxHeartbeats 2000000 in
theorem same_true (pl : Int) (v1 v2 b1 b2 : Value) (ps : List (Int × Bool)) (bs : List UInt8) (H1 H2 G1 G2 : List HB) (w : World) (h1 : RowP v1 ps H1) (h2 : RowP v2 ps H2) (g1 : RowB b1 bs G1) (g2 : RowB b2 bs G2)
    (s1 : Sat w H1) (s2 : Sat w H2) (t1 : Sat w G1) (t2 : Sat w G2) (hn : ps.length ≤ 1000) (hm : bs.length ≤ 100000000) :
    Calls Try.prog 17 #[.agg #[.int .i64 pl, v1, b1], .agg #[.int .i64 pl, v2, b2]] w fun e w' => e = .returned (.bool true) ∧ Mv w [] w' [] := by
  obtain ⟨a1, c1, rfl⟩ := h1.slice
  obtain ⟨a2, c2, rfl⟩ := h2.slice
  obtain ⟨a3, c3, rfl⟩ := g1.slice
  obtain ⟨a4, c4, rfl⟩ := g2.slice
  have A : ∀ {H : List HB}, Sat w H → Sat ((w.alloc (.cells #[.int .i64 pl, .slice a1 ps.length c1, .slice a3 bs.length c3] 45)).alloc (.cells #[.int .i64 pl, .slice a2 ps.length c2, .slice a4 bs.length c4] 45)) H := fun s => (((Mv.refl s).alloc _ _).alloc _ _).drop1.drop1.sat
  have M := (mv_alloc w 45 #[.int .i64 pl, .slice a1 ps.length c1, .slice a3 bs.length c3]).alloc 45 #[.int .i64 pl, .slice a2 ps.length c2, .slice a4 bs.length c4]
  rw [World.size_alloc] at M
  obtain ⟨w2, hw2⟩ : ∃ w2, w2 = (w.alloc (.cells #[.int .i64 pl, .slice a1 ps.length c1, .slice a3 bs.length c3] 45)).alloc (.cells #[.int .i64 pl, .slice a2 ps.length c2, .slice a4 bs.length c4] 45) := ⟨_, rfl⟩
  have EP := Lib.hid (eqp_true _ _ ps H1 H2 w2 h1 h2 (by rw [hw2]; exact A s1) (by rw [hw2]; exact A s2) hn)
  have EB := Lib.hid (fun nn => eqb_true _ _ bs G1 G2 (w2.drewN nn) g1 g2 (by rw [hw2]; exact (A t1).drewN nn) (by rw [hw2]; exact (A t2).drewN nn) hm)
  rw [← hw2] at M
  have x0 : w2.cell? ⟨w.heap.size, 0, none⟩ = some (.int .i64 pl) := M.cell 1 rfl 0
  have x1 : w2.cell? ⟨w.heap.size, 1, none⟩ = some (.slice a1 ps.length c1) := M.cell 1 rfl 1
  have x2 : ∀ nn, (w2.drewN nn).cell? ⟨w.heap.size, 2, none⟩ = some (.slice a3 bs.length c3) := fun nn => M.cell 1 rfl 2
  have y0 : w2.cell? ⟨w.heap.size + 1, 0, none⟩ = some (.int .i64 pl) := M.cell 0 rfl 0
  have y1 : w2.cell? ⟨w.heap.size + 1, 1, none⟩ = some (.slice a2 ps.length c2) := M.cell 0 rfl 1
  have y2 : ∀ nn, (w2.drewN nn).cell? ⟨w.heap.size + 1, 2, none⟩ = some (.slice a4 bs.length c4) := fun nn => M.cell 0 rfl 2
  have K := Lib.hid M
  have HW := Lib.hid hw2
  have d : (pl == pl) = true := by simp
  clear hw2 M A h1 h2 g1 g2 s1 s2 t1 t2 hn hm
  go_enter Try.func17, Try.ntmps17
  go_upto_region 1 with fail
  rw [← HW.out]
  clear HW
  go_wp2_with (first
    | (go_at_call 48; refine EP.out.mono ?_; rintro e w3 ⟨rfl, nn, rfl⟩)
    | (go_at_call 49; refine (EB.out _).mono ?_; rintro e w4 ⟨rfl, mm, rfl⟩))
  go_ret
  exact ⟨rfl, (K.out.drewN _).drop1.drop1⟩
end Go.Proofs.Ytnpoakabheeoeaa
namespace Go.Proofs.Ytnpoakabheeoeaa
open Go.RowKit

/-- the k-th block becomes this one -/
def addM (m : BandM) (k : Int) (pl : Int) (ps : List (Int × Bool)) (bs : List UInt8) : BandM :=
  if k < 0 ∨ (m.ss.length : Int) ≤ k then m else { m with ss := m.ss.set k.toNat ⟨pl, ps, bs, (stOf m k).said, (stOf m k).lb⟩ }
theorem cnt_flatMap_set {α : Type} (f : α → List HB) (x' : α) (g : Nat) : ∀ (l : List α) (k : Nat) (x : α), l[k]? = some x → cnt g ((l.set k x').flatMap f) + cnt g (f x) = cnt g (l.flatMap f) + cnt g (f x')
  | [], k, x, h => by simp at h
  | y :: l, 0, x, h => by
    simp at h
    subst h
    rw [List.set_cons_zero, List.flatMap_cons, List.flatMap_cons, cnt_append, cnt_append]
    omega
  | y :: l, k + 1, x, h => by
    have ih := cnt_flatMap_set f x' g l k x (by simpa using h)
    rw [List.set_cons_succ, List.flatMap_cons, List.flatMap_cons, cnt_append, cnt_append]
    omega
theorem mem_flatMap_set {α : Type} (f : α → List HB) {x' : α} {l : List α} {k : Nat} {c : HB} (h : c ∈ (l.set k x').flatMap f) : c ∈ l.flatMap f ∨ c ∈ f x' := by
  obtain ⟨y, hy, hc⟩ := List.mem_flatMap.1 h
  rcases List.mem_or_eq_of_mem_set hy with h1 | rfl
  · exact .inl (List.mem_flatMap.2 ⟨y, h1, hc⟩)
  · exact .inr hc
/-- a state's block is another one -/
def StG.withB (s : StG) (pl : Int) (ps : List (Int × Bool)) (bs : List UInt8) (vp vb : Value) (Hp Hb : List HB) : StG := ⟨⟨pl, ps, bs, s.m.said, s.m.lb⟩, vp, vb, Hp, Hb⟩
theorem states_set {G : List StG} {j : Nat} {s : StG} (h : G[j]? = some s) (pl : Int) (ps : List (Int × Bool)) (bs : List UInt8) (vp vb : Value) (Hp Hb : List HB) :
    putA (G.flatMap StG.v).toArray (j * 5) [.int .i64 pl, vp, vb] = ((G.set j (s.withB pl ps bs vp vb Hp Hb)).flatMap StG.v).toArray := by
  have hj := (List.getElem?_eq_some_iff.1 h).1
  have e1 := flat_set StG.v 5 StG.v_length G j s ⟨⟨pl, s.m.ps, s.m.bs, s.m.said, s.m.lb⟩, s.vp, s.vb, s.Hp, s.Hb⟩ h 0 (by omega) (.int .i64 pl) rfl
  have e2 := flat_set StG.v 5 StG.v_length (G.set j ⟨⟨pl, s.m.ps, s.m.bs, s.m.said, s.m.lb⟩, s.vp, s.vb, s.Hp, s.Hb⟩) j _ ⟨⟨pl, s.m.ps, s.m.bs, s.m.said, s.m.lb⟩, vp, s.vb, s.Hp, s.Hb⟩ (List.getElem?_set_self hj) 1 (by omega) vp rfl
  have e3 := flat_set StG.v 5 StG.v_length ((G.set j ⟨⟨pl, s.m.ps, s.m.bs, s.m.said, s.m.lb⟩, s.vp, s.vb, s.Hp, s.Hb⟩).set j ⟨⟨pl, s.m.ps, s.m.bs, s.m.said, s.m.lb⟩, vp, s.vb, s.Hp, s.Hb⟩) j _ (s.withB pl ps bs vp vb Hp Hb) (List.getElem?_set_self (by simpa using hj)) 2 (by omega) vb rfl
  rw [← e2, ← e1] at e3
  simp only [List.set_set] at e3
  show (((G.flatMap StG.v).toArray.setIfInBounds (j * 5) (.int .i64 pl)).setIfInBounds (j * 5 + 1) vp).setIfInBounds (j * 5 + 1 + 1) vb = _
  simp only [List.setIfInBounds_toArray]
  rw [show j * 5 + 1 + 1 = j * 5 + 2 from rfl, show j * 5 = j * 5 + 0 from rfl]
  exact congrArg List.toArray e3
theorem store_at {w : World} {b o : Nat} {V : Array Value} (ht : w.there b o V.size) (h1 : ∀ v ∈ V.toList, v.oneCell' = true) : (storeCells ⟨b, o, none⟩ V.toList).run Try.prog w = .ok () (w.setCells b o V.toList) := by
  have := run_storeCells_cells (P := Try.prog) b o V.toList 0 w (fun j hj => by have := (ht j (by simpa using hj)).1; rw [Nat.add_zero]; exact this) (fun j hj => by rw [Nat.add_zero]; exact (ht j (by simpa using hj)).2) h1
  rw [Nat.add_zero] at this
  exact this
/-- the band behind it -/
theorem band_set {b : BandG} {d : BandA} (hk : b.ok d) {j : Nat} {s : StG} (hg : b.G[j]? = some s) {pl : Int} {ps : List (Int × Bool)} {bs : List UInt8} {vp vb : Value} {Hp Hb : List HB} (h1 : RowP vp ps Hp) (h2 : RowB vb bs Hb) (hpl : -1000 ≤ pl ∧ pl ≤ 1000) (hn : ps.length ≤ 1000) (hm : bs.length ≤ 10000000) (he : ∀ p ∈ ps, 0 ≤ p.1 ∧ p.1 ≤ 100000000) (hsd : s.m.said ≤ ps.length) :
    BandR d (addM b.model (j : Int) pl ps bs) (({ b with G := b.G.set j (s.withB pl ps bs vp vb Hp Hb) } : BandG).heap d) := by
  have hj := (List.getElem?_eq_some_iff.1 hg).1
  have hln : b.model.ss.length = d.n := by simp only [BandG.model, List.length_map]; exact hk.len
  have hjn : j < d.n := by rw [← hk.len]; exact hj
  have e0 : stOf b.model (j : Int) = s.m := by
    unfold stOf
    rw [hln, if_neg (by omega), Int.toNat_natCast]
    simp only [BandG.model, List.getD_eq_getElem?_getD, List.getElem?_map, hg, Option.map_some, Option.getD_some]
  have hso := hk.st s (List.mem_of_getElem? hg)
  refine ⟨({ b with G := b.G.set j (s.withB pl ps bs vp vb Hp Hb) } : BandG), ?_, ⟨hk.tf, hk.tz, hk.kf, hk.kz, ?_, ?_, hk.n, hk.pl, hk.hw, hk.hh⟩, rfl⟩
  · unfold addM
    rw [hln, if_neg (by omega), Int.toNat_natCast, e0]
    simp only [BandG.model, List.map_set]
    rfl
  · intro x hx
    rcases List.mem_or_eq_of_mem_set hx with h | rfl
    · exact hk.st x h
    · exact ⟨h1, h2, ⟨hn, hm, hpl, ⟨hso.2.2.said.1, hsd⟩, hso.2.2.lb, he⟩⟩
  · simp only [List.length_set]
    exact hk.len
set_option maxRecDepth 100000 in
set_option maxHeartbeats 2000000 in
theorem add_any (d : BandA) (m : BandM) (H : List HB) (W : World) (hB : BandR d m H) (hs : Sat W H) (k : Int) (pl : Int) (vp vb : Value) (ps : List (Int × Bool)) (bs : List UInt8) (hp : PV W vp ps) (hb : BV W vb bs)
    (hpl : -1000 ≤ pl ∧ pl ≤ 1000) (hn : ps.length ≤ 1000) (hm : bs.length ≤ 10000000) (he : ∀ p ∈ ps, 0 ≤ p.1 ∧ p.1 ≤ 100000000) (hsd : (stOf m k).said ≤ ps.length) :
    Calls Try.prog 14 #[.pointer (some ⟨d.bb, 0, none⟩), .int .i64 k, .agg #[.int .i64 pl, vp, vb]] W fun e W' => e = .returned (.tuple #[]) ∧ ∃ H', BandR d (addM m k pl ps bs) H' ∧ Mv W H W' H' := by
  obtain ⟨b, rfl, hk, rfl⟩ := hB
  have hsm := hk.small
  obtain ⟨w1, hw1⟩ : ∃ w1, w1 = W.alloc (.cells #[.int .i64 pl, vp, vb] 45) := ⟨_, rfl⟩
  have M1 := (Mv.refl hs).alloc 45 #[.int .i64 pl, vp, vb]
  have MY := mv_alloc W 45 #[.int .i64 pl, vp, vb]
  rw [← hw1] at M1 MY
  have hbb := Mv.blkm M1 (List.mem_cons_of_mem _ (b.mem_band d))
  have hst := Mv.blkm M1 (List.mem_cons_of_mem _ (b.mem_states d))
  have c0 : w1.cell? ⟨d.bb, 0, none⟩ = some (.slice (some ⟨d.lb, 0, none⟩) d.n d.n) := hbb.cell 0
  have hln : b.model.ss.length = d.n := by simp only [BandG.model, List.length_map]; exact hk.len
  have GT := Lib.hid (getT_any d.bb d.lb d.n d.n k w1 c0 (by omega))
  by_cases hr : k < 0 ∨ (d.n : Int) ≤ k
  · rw [if_pos hr] at GT
    have e0 : addM b.model k pl ps bs = b.model := by unfold addM; rw [hln, if_pos hr]
    rw [e0]
    obtain ⟨A, c1, rfl, -⟩ := hp
    obtain ⟨B, c2, rfl, -⟩ := hb
    have KY := Lib.hid M1
    have HB := Lib.hid hk
    clear hr e0 MY M1 hbb hst
    go_enter Try.func14, Try.ntmps14
    go_upto_region 1 with fail
    rw [← hw1]
    clear hw1
    go_wp2_with (go_at_call 46; refine GT.out.mono ?_; rintro e w' ⟨rfl, rfl⟩)
    exact bodyPost_end (results_none rfl _ _ _) rfl ⟨rfl, _, ⟨b, rfl, HB.out, rfl⟩, KY.out.drop1⟩
  · rw [if_neg hr] at GT
    obtain ⟨j, rfl⟩ : ∃ j : Nat, k = (j : Int) := ⟨k.toNat, by omega⟩
    rw [Int.toNat_natCast] at GT
    obtain ⟨s, hg⟩ : ∃ s, b.G[j]? = some s := ⟨_, List.getElem?_eq_getElem (by rw [hk.len]; omega)⟩
    have e0 : stOf b.model (j : Int) = s.m := by
      unfold stOf
      rw [hln, if_neg hr, Int.toNat_natCast]
      simp only [BandG.model, List.getD_eq_getElem?_getD, List.getElem?_map, hg, Option.map_some, Option.getD_some]
    rw [e0] at hsd
    have hjn : j < d.n := by omega
    have hpv := hp.keep MY.below0
    have hbv := hb.keep MY.below0
    have OW : Hid (Calls Try.prog 47 #[.agg #[.int .i64 pl, vp, vb]] w1 fun e w' => ∃ V vp' vb' Hp Hb, e = .returned (.agg V) ∧ V = #[.int .i64 pl, vp', vb'] ∧ RowP vp' ps Hp ∧ RowB vb' bs Hb ∧ Mv w1 [] w' (Hp ++ Hb)) := Lib.hid ((own_any pl vp vb ps bs w1 hpv hbv (by omega) (by omega)).mono (fun e w' h => by
      obtain ⟨vp', vb', Hp, Hb, rfl, h1, h2, h3⟩ := h
      exact ⟨_, vp', vb', Hp, Hb, rfl, rfl, h1, h2, h3⟩))
    have FIN : Hid (∀ (V : Array Value) (vp' vb' : Value) (Hp Hb : List HB) (w3 : World), V = #[.int .i64 pl, vp', vb'] → RowP vp' ps Hp → RowB vb' bs Hb → Mv W (b.heap d) w3 ((Hp ++ Hb) ++ (⟨W.heap.size, 45, #[.int .i64 pl, vp, vb]⟩ :: b.heap d)) →
        ((storeCells ⟨d.lb, j * 5, none⟩ V.toList).run Try.prog w3 = .ok () (w3.setCells d.lb (j * 5) V.toList)) ∧ ∃ H', BandR d (addM b.model (j : Int) pl ps bs) H' ∧ Mv W (b.heap d) (w3.setCells d.lb (j * 5) V.toList) H') := Lib.hid (by
      rintro V vp' vb' Hp Hb w3 rfl r1 r2 m3
      have M4 : Mv W (b.heap d) w3 (⟨d.lb, 70, (b.G.flatMap StG.v).toArray⟩ :: (bandB b d :: (b.Hf ++ (b.Hz ++ b.G.flatMap StG.heap)) ++ (Hp ++ Hb))) := m3.sub (fun g => by simp only [BandG.heap, statesB, cnt_append, cnt_cons]; omega) (fun c hc => by simp only [BandG.heap, statesB, List.mem_append, List.mem_cons] at hc ⊢; grind)
      have bl := M4.blk 0 rfl
      have hsz : (b.G.flatMap StG.v).toArray.size = d.n * 5 := by
        rw [List.size_toArray, flat_length StG.v 5 StG.v_length, hk.len]
      refine ⟨store_at (fun i hi => ⟨?_, bl.frozen _⟩) ?_, _, band_set hk hg r1 r2 hpl hn hm he hsd, ?_⟩
      · rw [bl.cell, Array.getElem?_eq_getElem (by rw [hsz]; have : i < 3 := hi; omega)]
        rfl
      · obtain ⟨a1, k1, rfl⟩ := r1.slice
        obtain ⟨a2, k2, rfl⟩ := RowB.slice r2
        intro v hv
        simp only [List.mem_cons, List.not_mem_nil, or_false] at hv
        rcases hv with rfl | rfl | rfl <;> rfl
      · have M5 := Mv.setCells [.int .i64 pl, vp', vb'] _ _ (j * 5) M4
        rw [states_set hg pl ps bs vp' vb' Hp Hb] at M5
        refine M5.sub (fun g => ?_) (fun c hc => ?_)
        · have := cnt_flatMap_set StG.heap (s.withB pl ps bs vp' vb' Hp Hb) g b.G j s hg
          have e : cnt g (StG.heap (s.withB pl ps bs vp' vb' Hp Hb)) = cnt g (Hp ++ Hb) := rfl
          simp only [BandG.heap, statesB, bandB, cnt_append, cnt_cons] at this e ⊢
          omega
        · simp only [BandG.heap, List.mem_append, List.mem_cons] at hc ⊢
          rcases hc with h | h | h | h | h
          · exact .inr (.inl (.inl h))
          · exact .inl h
          · exact .inr (.inl (.inr (.inl h)))
          · exact .inr (.inl (.inr (.inr (.inl h))))
          · rcases mem_flatMap_set StG.heap h with h1 | h1
            · exact .inr (.inl (.inr (.inr (.inr h1))))
            · exact .inr (.inr (List.mem_append.1 h1)))
    obtain ⟨A, c1, rfl, -⟩ := hp
    obtain ⟨B, c2, rfl, -⟩ := hb
    have y0 : w1.cell? ⟨W.heap.size, 0, none⟩ = some (.int .i64 pl) := MY.cell 0 rfl 0
    have y1 : w1.cell? ⟨W.heap.size, 1, none⟩ = some (.slice A ps.length c1) := MY.cell 0 rfl 1
    have y2 : w1.cell? ⟨W.heap.size, 2, none⟩ = some (.slice B bs.length c2) := MY.cell 0 rfl 2
    have KY := Lib.hid M1
    have hj : j * 5 < 100000 := by omega
    clear hr e0 MY M1 hbb hst hg hpv hbv hln hk hs hsd
    go_enter Try.func14, Try.ntmps14
    go_upto_region 1 with fail
    rw [← hw1]
    clear hw1
    go_wp2_with (first | (go_at_call 46; refine GT.out.mono ?_; rintro e w' ⟨rfl, rfl⟩) | (go_at_call 47; refine OW.out.mono ?_; rintro e w3 ⟨V, vp', vb', Hp, Hb, rfl, hV, r1, r2, m3⟩; have hVs : V.size = 3 := (by rw [hV]; rfl); have F3 := FIN.out V vp' vb' Hp Hb w3 hV r1 r2 (Mv.call (H := []) KY.out m3); have hst3 := F3.1; have K3 := Lib.hid F3.2; clear hV r1 r2 m3 F3))
    exact bodyPost_end (results_none rfl _ _ _) rfl ⟨rfl, K3.out⟩
end Go.Proofs.Ytnpoakabheeoeaa
