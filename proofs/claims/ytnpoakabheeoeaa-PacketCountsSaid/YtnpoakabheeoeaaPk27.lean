/- Parts of bytes. packet.Decode: its plain model; a piece is taken, among bands. packet.Decode: without a mark behind the head. The bands' numbers do not count: packets of bands that hold the same. Plain. PacketCounts: the plain law, by the kernel, for each number of planes and of packets. -/
import Derived.Test.YtnpoakabheeoeaaPk26
import Derived.Test.YtnpoakabheeoeaaPk18
import Derived.Test.YtnpoakabheeoeaaPk20
import Derived.Test.YtnpoakabheeoeaaPk25
set_option maxRecDepth 100000
namespace Go.Proofs.Ytnpoakabheeoeaa
section
open Go.RowKit
def takeB (m : BandM) (k style p : Nat) (data : List UInt8) : BandM := match m.ss[k]? with
 | none => m
 | some s => { m with ss := m.ss.set k (takeM style s p data) }
def decGo (l : List UInt8) (style : Nat) : List PcM → (Nat → BandM) → Nat → (Nat → BandM) × Option Nat
 | [],M,n => (M,some n)
 | q :: qs,M,n => if l.length - n < q.n then (M,none) else decGo l style qs (updM M q.x.d.bb (takeB (M q.x.d.bb) q.x.k style q.p ((l.drop n).take q.n))) (n + q.n)
def okGo (D : List BandA) (l : List UInt8) (style : Nat) : List PcM → (Nat → BandM) → Nat → Prop
 | [],_,_ => True
 | q :: qs,M,n => (q.x.d ∈ D ∧ q.x.k < q.x.d.n ∧ q.p ≤ 1000 ∧ q.n < 4294967296 ∧ ∀ s,(M q.x.d.bb).ss[q.x.k]? = some s → s.ps.length + q.p ≤ 1000 ∧ s.bs.length + min q.n l.length ≤ 10000000) ∧ okGo D l style qs (updM M q.x.d.bb (takeB (M q.x.d.bb) q.x.k style q.p ((l.drop n).take q.n))) (n + q.n)
section
variable {D : List BandA} {M : Nat → BandM} {HB1 H0 Y : List HB} {w0 w : World} {d : BandA} {k : Nat} {s : StM}
theorem step_take (hB : BandsR D M HB1) (hd : d ∈ D) (hk : k < d.n) (hs : (M d.bb).ss[k]? = some s) (m : Mv w0 H0 w (Y ++ HB1)) (style p n : Nat) (data : List UInt8) (v : Value) (hv : BV w v data) (hs63 : style ≤ 63) (hp : s.ps.length + p ≤ 1000) (hb : s.bs.length + data.length ≤ 10000000) :
  Calls Try.prog 52 #[.agg #[.pointer (some ⟨d.lb,k * 5,none⟩),.pointer (some ⟨d.bb,0,none⟩),.int .i64 (k : Int),.int .i64 (p : Int),.int .i64 (n : Int)],.int .i64 (style : Int),v] w fun e w' => e = .returned (.tuple #[]) ∧
   ∃ HB',BandsR D (updM M d.bb (takeB (M d.bb) k style p data)) HB' ∧ Mv w0 H0 w' (Y ++ HB') := by
 obtain ⟨b,R,ok,em,fwd,back⟩ := bands_at hB m hd
 obtain ⟨st,hst,rfl⟩ := model_get em hs
 have m1 : Mv w0 H0 w (b.heap d ++ (Y ++ R)) := (fwd w m).sub (fun g => by simp only [cnt_append]; omega) (fun c hc => by simp only [List.mem_append] at hc ⊢; grind)
 refine (take_any d b k style p n st data v w ok hk hst m1.sat.left hv hs63 hp hb).mono ?_
 rintro e w' ⟨rfl,b',q1,q2,q3⟩
 obtain ⟨HB',h6,h7⟩ := back b' Y q1
 refine ⟨rfl,HB',?_,h7 w' ?_⟩
 ·have e : takeB (M d.bb) k style p data = b'.model := by
   unfold takeB
   rw [hs,q2,← em]
  rw [e]
  exact h6
 ·exact (Mv.call m1 q3).sub (fun g => by simp only [cnt_append]; omega) (fun c hc => by simp only [List.mem_append] at hc ⊢; grind)
end
end
section
open Go.RowKit
theorem decGo_cons (l : List UInt8) (style : Nat) (q : PcM) (qs : List PcM) (M : Nat → BandM) (n : Nat) : decGo l style (q :: qs) M n = if l.length - n < q.n then (M,none) else decGo l style qs (updM M q.x.d.bb (takeB (M q.x.d.bb) q.x.k style q.p ((l.drop n).take q.n))) (n + q.n) := rfl
theorem endM_le (l : List UInt8) (s : RdM) : (endM l s).1 ≤ l.length ∧ (endM l s).2 ≤ 10 := by
 have key : ∀ (n : Nat) (bad : Bool),(if l.length < n then ((0,8) : Nat × Nat) else if bad = true then (0,10) else (n,0)).1 ≤ l.length ∧ (if l.length < n then ((0,8) : Nat × Nat) else if bad = true then (0,10) else (n,0)).2 ≤ 10 := by
  intro n bad
  by_cases h : l.length < n
  ·rw [if_pos h]
   exact ⟨Nat.zero_le _,by simp⟩
  ·rw [if_neg h]
   cases bad
   ·exact ⟨by simp; omega,by simp⟩
   ·exact ⟨by simp,by simp⟩
 exact key _ _
def decodeF (l : List UInt8) (style layer : Nat) (D : List BandA) (M : Nat → BandM) : Nat × Nat × (Nat → BandM) := match headD l style layer D M with
 | none => (0,10,M)
 | some S => if (endM l S.rd).2 = 0 then (match decGo l style S.out S.M (endM l S.rd).1 with
  | (M',none) => (0,8,M')
  | (M',some n) => (n,0,M')) else (0,(endM l S.rd).2,S.M)
def decodeOk (l : List UInt8) (style layer : Nat) (D : List BandA) (M : Nat → BandM) : Prop := match headD l style layer D M with
 | none => True
 | some S => (endM l S.rd).2 = 0 → okGo D l style S.out S.M (endM l S.rd).1
def DPost (l : List UInt8) (D : List BandA) (HV HL HB0 : List HB) (W : World) (q : Nat × Nat × (Nat → BandM)) (e : Ending) (w' : World) : Prop :=
 e = .returned (.tuple #[.int .i64 (q.1 : Int),.int .i64 (q.2.1 : Int)]) ∧ (if q.2.1 = 0 then ∃ HB',BandsR D q.2.2 HB' ∧ Mv W ((HL ++ HB0) ++ HV) w' (HV ++ (HL ++ HB')) else Mv W ((HL ++ HB0) ++ HV) w' [])
theorem Sat.tail1 {w : World} {b : HB} {H : List HB} (h : Sat w (b :: H)) : Sat w H := Sat.right (A := [b]) h
theorem bv_part {w : World} {vg n c m mp : Nat} {l : List UInt8} (h : BV w (.slice (some ⟨vg,0,none⟩) n c) l) (hn : l.length = n) (h1 : m ≤ mp) (h2 : mp ≤ n) (h3 : n ≤ c) : BV w (.slice (if c = m then some ⟨vg,0,none⟩ else some ⟨vg,m,none⟩) (mp - m) (c - m)) ((l.drop m).take (mp - m)) := by
 split
 ·rename_i he
  have e1 : mp - m = 0 := by omega
  have e2 : c - m = 0 := by omega
  rw [e1,e2,List.take_zero]
  exact ⟨_,0,rfl,Nat.le_refl _,by decide,rfl,fun h => absurd h (by decide)⟩
 ·have b2 := BV.mid h m mp h1 h2
  rw [Nat.zero_add] at b2
  exact b2
theorem piece_cells {g n c : Nat} {out : List PcM} {Ho : List HB} {w : World} (h : RowPc (.slice (some ⟨g,0,none⟩) n c) out Ho) (hs : Sat w Ho) {i : Nat} {q : PcM} (hq : out[i]? = some q) :
  w.cell? ⟨g,i * 5,none⟩ = some (.pointer (some ⟨q.x.d.lb,q.x.k * 5,none⟩)) ∧ w.cell? ⟨g,i * 5 + 1,none⟩ = some (.pointer (some ⟨q.x.d.bb,0,none⟩)) ∧ w.cell? ⟨g,i * 5 + 2,none⟩ = some (.int .i64 (q.x.k : Int)) ∧ w.cell? ⟨g,i * 5 + 3,none⟩ = some (.int .i64 (q.p : Int)) ∧ w.cell? ⟨g,i * 5 + 4,none⟩ = some (.int .i64 (q.n : Int)) := by
 have hi := (List.getElem?_eq_some_iff.1 hq).1
 have key : ∀ j,j < 5 → w.cell? ⟨g,i * 5 + j,none⟩ = (pieceV q)[j]? := by
  intro j hj
  rw [(RowH.cell h hs (by obtain ⟨a',c',e⟩ := RowH.slice h; cases e; rfl) (i * 5 + j) (by omega)).1]
  exact flat_get pieceV 5 (fun _ => rfl) out i q hq j hj
 exact ⟨key 0 (by omega),key 1 (by omega),key 2 (by omega),key 3 (by omega),key 4 (by omega)⟩
set_option maxHeartbeats 4000000 in
theorem decode_f (A : Option Addr) (c vg n vc : Nat) (D : List BandA) (M : Nat → BandM) (style layer : Nat) (l : List UInt8) (HV HL HB0 : List HB) (W : World) (hD : D.length ≤ 1000) (hL : ListH (.slice A D.length c) D HL) (hB : BandsR D M HB0) (hs : Sat W (HV ++ (HL ++ HB0))) (hv : RowB (.slice (some ⟨vg,0,none⟩) n vc) l HV) (hll : l.length ≤ 1000000) (hly : layer ≤ 100) (hst : style ≤ 63)
  (hn : (spotsOf D).length ≤ 200) (hg : ∀ d ∈ D,GoodR (M d.bb)) (hok : decodeOk l style layer D M) :
  Calls Try.prog 18 #[.slice A D.length c,.int .i64 (style : Int),.int .i64 (layer : Int),.slice (some ⟨vg,0,none⟩) n vc,.bool false] W (DPost l D HV HL HB0 W (decodeF l style layer D M)) := by
 have hnl : l.length = n := (hv.len).symm
 have bv : ∀ V,Sat V HV → BV V (.slice (some ⟨vg,0,none⟩) n vc) l := fun V s => hv.bv s
 have hnc : n ≤ vc ∧ vc ≤ 9223372036854775807 := by
  obtain ⟨A',c',e,h1,h2,-⟩ := bv W hs.left
  cases e
  unfold maxLen at h2
  omega
 have HD := Lib.hid (headed_any A c D M style layer _ l HL HB0 W hD hL hB hs.right (bv W hs.left) hll hly hst hn hg)
 have HB0' := Lib.hid bv
 obtain ⟨q,hq⟩ : ∃ q,decodeF l style layer D M = q := ⟨_,rfl⟩
 rw [hq]
 obtain ⟨hd,hhd⟩ : ∃ hd,headD l style layer D M = hd := ⟨_,rfl⟩
 unfold decodeF at hq
 unfold decodeOk at hok
 rw [hhd] at HD hq hok
 have MR : Mv W (HL ++ HB0 ++ HV) W (HL ++ HB0 ++ HV) := Mv.refl (hs.sub (fun g => by simp only [cnt_append]; omega) (fun y hy => by simp only [List.mem_append] at hy ⊢; grind))
 have hs0 := hs
 have K0 := Lib.hid (And.intro MR hs)
 have MN := Lib.hid (marked_none)
 clear hL hB hs bv hg MR hs0 hhd
 cases hd with
 | none =>
  have hq2 : q = (0,10,M) := hq.symm
  subst hq2
  go_enter Try.func18,Try.ntmps18
  go_wp2_with (go_at_call 50; (with_reducible refine HD.out.mono ?_); rintro e w2 ⟨rfl,m2⟩; have K2 := Lib.hid (Mv.call K0.out.1 m2); clear m2)
  go_ret2
  refine ⟨rfl,?_⟩
  rw [if_neg (by simp)]
  exact K2.out.sub (fun g => by rw [cnt_nil]; omega) (fun b hb => by cases hb)
 | some S =>
  obtain ⟨n1,hn1⟩ : ∃ n1,(endM l S.rd).1 = n1 := ⟨_,rfl⟩
  obtain ⟨e1,he1⟩ : ∃ e1,(endM l S.rd).2 = e1 := ⟨_,rfl⟩
  have hEL := endM_le l S.rd
  rw [hn1,he1] at hEL
  simp only [hn1,he1] at hq hok
  have HS : Hid (Calls Try.prog 50 #[.slice A D.length c,.int .i64 (style : Int),.int .i64 (layer : Int),.slice (some ⟨vg,0,none⟩) n vc] W fun e w2 => ∃ ao co Ho HB',e = .returned (.tuple #[.slice ao S.out.length co,.int .i64 (n1 : Int),.int .i64 (e1 : Int)]) ∧ RowPc (.slice ao S.out.length co) S.out Ho ∧ BandsR D S.M HB' ∧ Mv W ((HL ++ HB0) ++ HV) w2 (Ho ++ (HV ++ (HL ++ HB')))) := Lib.hid (by
   refine HD.out.mono ?_
   rintro e w2 ⟨vo,Ho,HB',rfl,p1,p2,p3⟩
   obtain ⟨ao,co,rfl⟩ := p1.slice
   refine ⟨ao,co,Ho,HB',by rw [hn1,he1],p1,p2,?_⟩
   exact (Mv.call K0.out.1 p3).sub (fun g => by simp only [cnt_append]; omega) (fun y hy => by simp only [List.mem_append] at hy ⊢; grind))
  clear HD
  by_cases h0 : e1 = 0
  ·subst h0
   rw [if_pos rfl] at hq
   replace hok := Lib.hid (hok rfl)
   have hq := Lib.hid hq
   obtain ⟨no,hno⟩ : ∃ no,S.out.length = no := ⟨_,rfl⟩
   rw [hno] at HS
   have HNO := Lib.hid hno
   have hn1n : n1 ≤ n := by omega
   clear hno
   have hvn : n1 = vc ∨ ¬ vc = n1 := by
    by_cases h : vc = n1
    ·exact .inl h.symm
    ·exact .inr h
   rcases hvn with rfl | hvn
   ·go_enter Try.func18,Try.ntmps18
    go_upto_region 4 with (go_at_call 50; (with_reducible refine HS.out.mono ?_); rintro e w2 ⟨ao,co,Ho,HB1,rfl,p1,p2,p3⟩; have K2 := Lib.hid (And.intro p1 (And.intro p2 p3)); clear p1 p2 p3)
    go_cut [11,13,28,29,30,31,32,33,34,35] from 36 (fun s11 s13 _ _ _ _ _ _ _ _ wx => s11 = .int .i64 0 ∧ s13 = .int .i64 0 ∧ wx = w2)
    case first =>
     go_wp2_with (go_at_call 51; refine (MN.out _ _ _ _).mono ?_; rintro e w3 ⟨rfl,rfl⟩)
     all_goals
      first
       | (exfalso; omega)
       | (go_meet; exact ⟨rfl,rfl,rfl⟩)
    case rest =>
     obtain ⟨rfl,rfl,hwc⟩ := hcut
     rw [← hwc] at K2
     clear hwc
     go_upto_region 9 with fail
     have hb32 : n1 ≤ 1000000 := by omega
     go_loopg [10,15,44] no (fun gg s10 _ s44 wx => ∃ (i m : Nat) (M' : Nat → BandM) (HBi : List HB),i ≤ no ∧ gg = no - i ∧ s44 = .int .i64 (i : Int) ∧ s10 = .int .i64 (m : Int) ∧ m ≤ n ∧ decGo l style S.out S.M n1 = decGo l style (S.out.drop i) M' m ∧ okGo D l style (S.out.drop i) M' m ∧ BandsR D M' HBi ∧ Mv W ((HL ++ HB0) ++ HV) wx (Ho ++ (HV ++ (HL ++ HBi))))
     case atStart => exact ⟨0,n1,S.M,HB1,Nat.zero_le _,rfl,rfl,by go_num,hn1n,rfl,hok.out,K2.out.2.1,K2.out.2.2⟩
     case round =>
      obtain ⟨wb,rfl⟩ : ∃ wb : World,wb = wr := ⟨_,rfl⟩
      obtain ⟨i,m,M',HBi,hi,rfl,rfl,rfl,hmn,hE,hO,hBi,Mi⟩ := hrel
      by_cases hlt : i < no
      ·have hlt2 : (i : Int) < (no : Int) := by omega
       obtain ⟨pq,hpq⟩ : ∃ pq,S.out[i]? = some pq := ⟨_,List.getElem?_eq_getElem (by rw [HNO.out]; exact hlt)⟩
       have hdr : S.out.drop i = pq :: S.out.drop (i + 1) := by
        obtain ⟨h1,h2⟩ := List.getElem?_eq_some_iff.1 hpq
        rw [List.drop_eq_getElem_cons h1,h2]
       obtain ⟨⟨pg,hpg⟩,hnob⟩ : (∃ pg,ao = some ⟨pg,0,none⟩) ∧ no ≤ 9223372036854775807 := by
        obtain ⟨g,cap,cur,e,u1,u2,-⟩ := RowH.form K2.out.1 (by rw [HNO.out]; omega)
        cases e
        rw [HNO.out] at u1
        unfold maxLen at u2
        exact ⟨⟨_,rfl⟩,by omega⟩
       subst hpg
       have PC := Lib.hid (fun V (m : Mv W ((HL ++ HB0) ++ HV) V (Ho ++ (HV ++ (HL ++ HBi)))) => piece_cells K2.out.1 m.sat.left hpq)
       obtain ⟨c0,c1,c2,c3,c4⟩ := PC.out wb Mi
       rw [hdr] at hE hO
       obtain ⟨⟨o1,o2,o3,o4,o5⟩,o6⟩ := hO
       obtain ⟨⟨d,k⟩,pp,pn⟩ := pq
       simp only at c0 c1 c2 c3 c4 o1 o2 o3 o4 o5 o6
       by_cases hlk : l.length - m < pn
       ·have hlk2 : (n : Int) - (m : Int) < (pn : Int) := by omega
        have hE2 : q = (0,8,M') := by
         rw [← hq.out,hE]
         rw [decGo_cons,if_pos hlk]
        have KF := Lib.hid (And.intro hE2 Mi)
        clear hE hE2 Mi hBi o5 o6 hdr hlk
        go_wp2_with fail
        go_ret2
        obtain ⟨rfl,q3⟩ := KF.out
        refine ⟨rfl,?_⟩
        rw [if_neg (by simp)]
        exact (q3.alloc _ _).sub (fun g => by rw [cnt_nil]; omega) (fun b hb => by cases hb)
       ·have hlk2 : ¬ (n : Int) - (m : Int) < (pn : Int) := by omega
        go_upto_region 13 with fail
        obtain ⟨w4,hw4⟩ : ∃ w4,w4 = wb.alloc (.cells #[.pointer (some ⟨d.lb,k * 5,none⟩),.pointer (some ⟨d.bb,0,none⟩),.int .i64 (k : Int),.int .i64 (pp : Int),.int .i64 (pn : Int)] 116) := ⟨_,rfl⟩
        obtain ⟨bx,hbx⟩ : ∃ bx,wb.heap.size = bx := ⟨_,rfl⟩
        have M4 := Mi.alloc 116 #[.pointer (some ⟨d.lb,k * 5,none⟩),.pointer (some ⟨d.bb,0,none⟩),.int .i64 (k : Int),.int .i64 (pp : Int),.int .i64 (pn : Int)]
        rw [← hw4,hbx] at M4
        rw [← hw4]
        simp only [hbx]
        clear hw4 hbx c0 c1 c2 c3 c4
        have y0 : w4.drew.cell? ⟨bx,0,none⟩ = some (.pointer (some ⟨d.lb,k * 5,none⟩)) := M4.cell 0 rfl 0
        have y1 : w4.drew.cell? ⟨bx,1,none⟩ = some (.pointer (some ⟨d.bb,0,none⟩)) := M4.cell 0 rfl 1
        have y2 : w4.drew.cell? ⟨bx,2,none⟩ = some (.int .i64 (k : Int)) := M4.cell 0 rfl 2
        have y3 : w4.drew.cell? ⟨bx,3,none⟩ = some (.int .i64 (pp : Int)) := M4.cell 0 rfl 3
        have y4 : w4.drew.cell? ⟨bx,4,none⟩ = some (.int .i64 (pn : Int)) := M4.cell 0 rfl 4
        have hsum : m + pn ≤ n := by omega
        obtain ⟨mp,hmp⟩ : ∃ mp,m + pn = mp := ⟨_,rfl⟩
        have hwr : IntKind.i64.wrap ((m : Int) + (pn : Int)) = (mp : Int) := by rw [← hmp,← Int.natCast_add]; exact IntWalk.i64_in _ ⟨by omega,by omega⟩
        have hmp2 : m ≤ mp ∧ mp ≤ n ∧ mp ≤ n1 := by omega
        have hmx : Try.prog.follows .mixedOrders = true := by kernel_rfl
        obtain ⟨C,hC⟩ : ∃ C : World → Prop,C = fun w' => w' = w4.drew := ⟨_,rfl⟩
        have CF : Hid (∀ w',C w' → w'.cell? ⟨bx,0,none⟩ = some (.pointer (some ⟨d.lb,k * 5,none⟩)) ∧ w'.cell? ⟨bx,1,none⟩ = some (.pointer (some ⟨d.bb,0,none⟩)) ∧ w'.cell? ⟨bx,2,none⟩ = some (.int .i64 (k : Int)) ∧ w'.cell? ⟨bx,3,none⟩ = some (.int .i64 (pp : Int)) ∧ w'.cell? ⟨bx,4,none⟩ = some (.int .i64 (pn : Int))) := Lib.hid (by
         intro w' h
         rw [hC] at h
         subst h
         exact ⟨y0,y1,y2,y3,y4⟩)
        have CD : C w4.drew := by rw [hC]
        have HC := Lib.hid hC
        clear hC y0 y1 y2 y3 y4
        refine plain_quiet_tail 9 C hmx CD (by kernel_rfl) ?_
        simp only [List.take_succ_cons,List.take_zero,List.drop_succ_cons,List.drop_zero]
        (first | (with_reducible refine qc_pass ?hw1 ?nx1; (case hw1 => (go_simp; done)); (try simp only [Act.put,List.setIfInBounds_toArray,List.set_cons_zero,List.set_cons_succ])) | (with_reducible refine qc_one ?v1 ?hw1 (fun w' hw' => ?hr1) ?nx1; (case hw1 => (go_simp; done)); (case hr1 => (first | (refine qc_val ?_; (obtain ⟨a0,a1,a2,a3,a4⟩ := CF.out w' hw'); clear hw'; go_simp; done) | (refine qc_val ?_; (obtain ⟨a0,a1,a2,a3,a4⟩ := CF.out w' hw'); clear hw'; go_simp; rfl) | (refine qc_call (f := ?f1) (args := ?args1) ?h11 ?h21; (case h11 => ((obtain ⟨a0,a1,a2,a3,a4⟩ := CF.out w' hw'); go_simp; constructor <;> rfl)); (case h21 => (fail))) | (refine qc_skip ?_; (obtain ⟨a0,a1,a2,a3,a4⟩ := CF.out w' hw'); clear hw'; go_simp; done))); (try simp only [Act.put,List.setIfInBounds_toArray,List.set_cons_zero,List.set_cons_succ])))
        (first | (with_reducible refine qc_pass ?hw2 ?nx2; (case hw2 => (go_simp; done)); (try simp only [Act.put,List.setIfInBounds_toArray,List.set_cons_zero,List.set_cons_succ])) | (with_reducible refine qc_one ?v2 ?hw2 (fun w' hw' => ?hr2) ?nx2; (case hw2 => (go_simp; done)); (case hr2 => (first | (refine qc_val ?_; (obtain ⟨a0,a1,a2,a3,a4⟩ := CF.out w' hw'); clear hw'; go_simp; done) | (refine qc_val ?_; (obtain ⟨a0,a1,a2,a3,a4⟩ := CF.out w' hw'); clear hw'; go_simp; rfl) | (refine qc_call (f := ?f2) (args := ?args2) ?h12 ?h22; (case h12 => ((obtain ⟨a0,a1,a2,a3,a4⟩ := CF.out w' hw'); go_simp; constructor <;> rfl)); (case h22 => (fail))) | (refine qc_skip ?_; (obtain ⟨a0,a1,a2,a3,a4⟩ := CF.out w' hw'); clear hw'; go_simp; done))); (try simp only [Act.put,List.setIfInBounds_toArray,List.set_cons_zero,List.set_cons_succ])))
        (first | (with_reducible refine qc_pass ?hw3 ?nx3; (case hw3 => (go_simp; done)); (try simp only [Act.put,List.setIfInBounds_toArray,List.set_cons_zero,List.set_cons_succ])) | (with_reducible refine qc_one ?v3 ?hw3 (fun w' hw' => ?hr3) ?nx3; (case hw3 => (go_simp; done)); (case hr3 => (first | (refine qc_val ?_; (obtain ⟨a0,a1,a2,a3,a4⟩ := CF.out w' hw'); clear hw'; go_simp; done) | (refine qc_val ?_; (obtain ⟨a0,a1,a2,a3,a4⟩ := CF.out w' hw'); clear hw'; go_simp; rfl) | (refine qc_call (f := ?f3) (args := ?args3) ?h13 ?h23; (case h13 => ((obtain ⟨a0,a1,a2,a3,a4⟩ := CF.out w' hw'); go_simp; constructor <;> rfl)); (case h23 => (fail))) | (refine qc_skip ?_; (obtain ⟨a0,a1,a2,a3,a4⟩ := CF.out w' hw'); clear hw'; go_simp; done))); (try simp only [Act.put,List.setIfInBounds_toArray,List.set_cons_zero,List.set_cons_succ])))
        (first | (with_reducible refine qc_pass ?hw4 ?nx4; (case hw4 => (go_simp; done)); (try simp only [Act.put,List.setIfInBounds_toArray,List.set_cons_zero,List.set_cons_succ])) | (with_reducible refine qc_one ?v4 ?hw4 (fun w' hw' => ?hr4) ?nx4; (case hw4 => (go_simp; done)); (case hr4 => (first | (refine qc_val ?_; (obtain ⟨a0,a1,a2,a3,a4⟩ := CF.out w' hw'); clear hw'; go_simp; done) | (refine qc_val ?_; (obtain ⟨a0,a1,a2,a3,a4⟩ := CF.out w' hw'); clear hw'; go_simp; rfl) | (refine qc_call (f := ?f4) (args := ?args4) ?h14 ?h24; (case h14 => ((obtain ⟨a0,a1,a2,a3,a4⟩ := CF.out w' hw'); go_simp; constructor <;> rfl)); (case h24 => (fail))) | (refine qc_skip ?_; (obtain ⟨a0,a1,a2,a3,a4⟩ := CF.out w' hw'); clear hw'; go_simp; done))); (try simp only [Act.put,List.setIfInBounds_toArray,List.set_cons_zero,List.set_cons_succ])))
        (first | (with_reducible refine qc_pass ?hw5 ?nx5; (case hw5 => (go_simp; done)); (try simp only [Act.put,List.setIfInBounds_toArray,List.set_cons_zero,List.set_cons_succ])) | (with_reducible refine qc_one ?v5 ?hw5 (fun w' hw' => ?hr5) ?nx5; (case hw5 => (go_simp; done)); (case hr5 => (first | (refine qc_val ?_; (obtain ⟨a0,a1,a2,a3,a4⟩ := CF.out w' hw'); clear hw'; go_simp; done) | (refine qc_val ?_; (obtain ⟨a0,a1,a2,a3,a4⟩ := CF.out w' hw'); clear hw'; go_simp; rfl) | (refine qc_call (f := ?f5) (args := ?args5) ?h15 ?h25; (case h15 => ((obtain ⟨a0,a1,a2,a3,a4⟩ := CF.out w' hw'); go_simp; constructor <;> rfl)); (case h25 => (fail))) | (refine qc_skip ?_; (obtain ⟨a0,a1,a2,a3,a4⟩ := CF.out w' hw'); clear hw'; go_simp; done))); (try simp only [Act.put,List.setIfInBounds_toArray,List.set_cons_zero,List.set_cons_succ])))
        (first | (with_reducible refine qc_pass ?hw6 ?nx6; (case hw6 => (go_simp; done)); (try simp only [Act.put,List.setIfInBounds_toArray,List.set_cons_zero,List.set_cons_succ])) | (with_reducible refine qc_one ?v6 ?hw6 (fun w' hw' => ?hr6) ?nx6; (case hw6 => (go_simp; done)); (case hr6 => (first | (refine qc_val ?_; (obtain ⟨a0,a1,a2,a3,a4⟩ := CF.out w' hw'); clear hw'; go_simp; done) | (refine qc_val ?_; (obtain ⟨a0,a1,a2,a3,a4⟩ := CF.out w' hw'); clear hw'; go_simp; rfl) | (refine qc_call (f := ?f6) (args := ?args6) ?h16 ?h26; (case h16 => ((obtain ⟨a0,a1,a2,a3,a4⟩ := CF.out w' hw'); go_simp; constructor <;> rfl)); (case h26 => (fail))) | (refine qc_skip ?_; (obtain ⟨a0,a1,a2,a3,a4⟩ := CF.out w' hw'); clear hw'; go_simp; done))); (try simp only [Act.put,List.setIfInBounds_toArray,List.set_cons_zero,List.set_cons_succ])))
        (first | (with_reducible refine qc_pass ?hw7 ?nx7; (case hw7 => (go_simp; done)); (try simp only [Act.put,List.setIfInBounds_toArray,List.set_cons_zero,List.set_cons_succ])) | (with_reducible refine qc_one ?v7 ?hw7 (fun w' hw' => ?hr7) ?nx7; (case hw7 => (go_simp; done)); (case hr7 => (first | (refine qc_val ?_; (obtain ⟨a0,a1,a2,a3,a4⟩ := CF.out w' hw'); clear hw'; go_simp; done) | (refine qc_val ?_; (obtain ⟨a0,a1,a2,a3,a4⟩ := CF.out w' hw'); clear hw'; go_simp; rfl) | (refine qc_call (f := ?f7) (args := ?args7) ?h17 ?h27; (case h17 => ((obtain ⟨a0,a1,a2,a3,a4⟩ := CF.out w' hw'); go_simp; constructor <;> rfl)); (case h27 => (fail))) | (refine qc_skip ?_; (obtain ⟨a0,a1,a2,a3,a4⟩ := CF.out w' hw'); clear hw'; go_simp; done))); (try simp only [Act.put,List.setIfInBounds_toArray,List.set_cons_zero,List.set_cons_succ])))
        (first | (with_reducible refine qc_pass ?hw8 ?nx8; (case hw8 => (go_simp; done)); (try simp only [Act.put,List.setIfInBounds_toArray,List.set_cons_zero,List.set_cons_succ])) | (with_reducible refine qc_one ?v8 ?hw8 (fun w' hw' => ?hr8) ?nx8; (case hw8 => (go_simp; done)); (case hr8 => (first | (refine qc_val ?_; (obtain ⟨a0,a1,a2,a3,a4⟩ := CF.out w' hw'); clear hw'; go_simp; done) | (refine qc_val ?_; (obtain ⟨a0,a1,a2,a3,a4⟩ := CF.out w' hw'); clear hw'; go_simp; rfl) | (refine qc_call (f := ?f8) (args := ?args8) ?h18 ?h28; (case h18 => ((obtain ⟨a0,a1,a2,a3,a4⟩ := CF.out w' hw'); go_simp; constructor <;> rfl)); (case h28 => (fail))) | (refine qc_skip ?_; (obtain ⟨a0,a1,a2,a3,a4⟩ := CF.out w' hw'); clear hw'; go_simp; done))); (try simp only [Act.put,List.setIfInBounds_toArray,List.set_cons_zero,List.set_cons_succ])))
        (first | (with_reducible refine qc_pass ?hw9 ?nx9; (case hw9 => (go_simp; done)); (try simp only [Act.put,List.setIfInBounds_toArray,List.set_cons_zero,List.set_cons_succ])) | (with_reducible refine qc_one ?v9 ?hw9 (fun w' hw' => ?hr9) ?nx9; (case hw9 => (go_simp; done)); (case hr9 => (first | (refine qc_val ?_; (obtain ⟨a0,a1,a2,a3,a4⟩ := CF.out w' hw'); clear hw'; go_simp; done) | (refine qc_val ?_; (obtain ⟨a0,a1,a2,a3,a4⟩ := CF.out w' hw'); clear hw'; go_simp; rfl) | (refine qc_call (f := ?f9) (args := ?args9) ?h19 ?h29; (case h19 => ((obtain ⟨a0,a1,a2,a3,a4⟩ := CF.out w' hw'); go_simp; constructor <;> rfl)); (case h29 => (fail))) | (refine qc_skip ?_; (obtain ⟨a0,a1,a2,a3,a4⟩ := CF.out w' hw'); clear hw'; go_simp; done))); (try simp only [Act.put,List.setIfInBounds_toArray,List.set_cons_zero,List.set_cons_succ])))
        refine wpQuiet_nil ?_
        intro w' hw'
        obtain rfl : w' = w4.drew := by rw [HC.out] at hw'; exact hw'
        clear hw' CF CD HC C hwr
        obtain ⟨sM,hsM⟩ : ∃ s,(M' d.bb).ss[k]? = some s := by
         obtain ⟨bd,e1,e2,-⟩ := hBi.band o1
         have hsl : (M' d.bb).ss.length = d.n := by rw [← e1]; show (bd.G.map _).length = _; rw [List.length_map]; exact e2.len
         exact ⟨_,List.getElem?_eq_getElem (by rw [hsl]; exact o2)⟩
        obtain ⟨o51,o52⟩ := o5 sM hsM
        have M4' : Mv W ((HL ++ HB0) ++ HV) w4.drew ((⟨bx,116,#[.pointer (some ⟨d.lb,k * 5,none⟩),.pointer (some ⟨d.bb,0,none⟩),.int .i64 (k : Int),.int .i64 (pp : Int),.int .i64 (pn : Int)]⟩ :: (Ho ++ (HV ++ HL))) ++ HBi) := M4.drew.sub (fun g => by simp only [cnt_append,cnt_cons]; omega) (fun y hy => by simp only [List.mem_append,List.mem_cons] at hy ⊢; grind)
        have hpn : mp - m = pn := by omega
        have bvp := bv_part (HB0'.out w4.drew M4'.sat.left.tail1.right.left) hnl hmp2.1 hmp2.2.1 hnc.1
        rw [hpn] at bvp ⊢
        have TK := Lib.hid (step_take hBi o1 o2 hsM M4' style pp pn _ _ bvp hst o51 (by
         have : ((l.drop m).take pn).length ≤ min pn l.length := by rw [List.length_take,List.length_drop]; omega
         omega))
        have KQ := Lib.hid (And.intro hE (And.intro o6 hlk))
        have HMP := Lib.hid hmp
        clear hE o6 hlk M4 M4' hBi hsM o5 o51 o52 bvp hdr hmp
        generalize (Value.slice (if n1 = m then some (⟨vg,0,none⟩ : Addr) else some ⟨vg,m,none⟩) pn (n1 - m)) = vv at *
        go_wp2_with (go_at_call 52; (with_reducible refine TK.out.mono ?_); rintro e w5 ⟨rfl,HB5,p1,p2⟩; (have z4 : w5.cell? ⟨bx,4,none⟩ = some (.int .i64 (pn : Int)) := ((p2.sat.left).at_ 0 rfl).cell 4); have K5 := Lib.hid (And.intro p1 p2); clear p1 p2)
        go_roundg (no - (i + 1))
        case measure => omega
        case rel =>
         refine ⟨i + 1,mp,_,HB5,by omega,rfl,by push_cast; rfl,by rw [← HMP.out]; push_cast; rfl,hmp2.2.1,?_,?_,K5.out.1,?_⟩
         ·rw [KQ.out.1]
          rw [decGo_cons,if_neg KQ.out.2.2,HMP.out]
         ·have h := KQ.out.2.1
          rw [HMP.out] at h
          exact h
         ·exact K5.out.2.sub (fun g => by simp only [cnt_append,cnt_cons]; omega) (fun y hy => by simp only [List.mem_append,List.mem_cons] at hy ⊢; grind)
      ·obtain rfl : i = no := by omega
       have hlt2 : ¬ (i : Int) < (i : Int) := by omega
       have hE2 : q = (m,0,M') := by
        rw [← hq.out,hE,List.drop_of_length_le (by rw [HNO.out]; exact Nat.le_refl _)]
        rfl
       have KF := Lib.hid (And.intro hE2 (And.intro hBi Mi))
       clear hE hO hBi Mi hE2
       go_wp2_with fail
       go_ret2
       obtain ⟨rfl,q2,q3⟩ := KF.out
       refine ⟨rfl,?_⟩
       rw [if_pos rfl]
       exact ⟨HBi,q2,q3.drop⟩
   ·go_enter Try.func18,Try.ntmps18
    go_upto_region 4 with (go_at_call 50; (with_reducible refine HS.out.mono ?_); rintro e w2 ⟨ao,co,Ho,HB1,rfl,p1,p2,p3⟩; have K2 := Lib.hid (And.intro p1 (And.intro p2 p3)); clear p1 p2 p3)
    go_cut [11,13,28,29,30,31,32,33,34,35] from 36 (fun s11 s13 _ _ _ _ _ _ _ _ wx => s11 = .int .i64 0 ∧ s13 = .int .i64 0 ∧ wx = w2)
    case first =>
     go_wp2_with (go_at_call 51; refine (MN.out _ _ _ _).mono ?_; rintro e w3 ⟨rfl,rfl⟩)
     all_goals
      first
       | (exfalso; omega)
       | (go_meet; exact ⟨rfl,rfl,rfl⟩)
    case rest =>
     obtain ⟨rfl,rfl,hwc⟩ := hcut
     rw [← hwc] at K2
     clear hwc
     go_upto_region 9 with fail
     have hb32 : n1 ≤ 1000000 := by omega
     go_loopg [10,15,44] no (fun gg s10 _ s44 wx => ∃ (i m : Nat) (M' : Nat → BandM) (HBi : List HB),i ≤ no ∧ gg = no - i ∧ s44 = .int .i64 (i : Int) ∧ s10 = .int .i64 (m : Int) ∧ m ≤ n ∧ decGo l style S.out S.M n1 = decGo l style (S.out.drop i) M' m ∧ okGo D l style (S.out.drop i) M' m ∧ BandsR D M' HBi ∧ Mv W ((HL ++ HB0) ++ HV) wx (Ho ++ (HV ++ (HL ++ HBi))))
     case atStart => exact ⟨0,n1,S.M,HB1,Nat.zero_le _,rfl,rfl,by go_num,hn1n,rfl,hok.out,K2.out.2.1,K2.out.2.2⟩
     case round =>
      obtain ⟨wb,rfl⟩ : ∃ wb : World,wb = wr := ⟨_,rfl⟩
      obtain ⟨i,m,M',HBi,hi,rfl,rfl,rfl,hmn,hE,hO,hBi,Mi⟩ := hrel
      by_cases hlt : i < no
      ·have hlt2 : (i : Int) < (no : Int) := by omega
       obtain ⟨pq,hpq⟩ : ∃ pq,S.out[i]? = some pq := ⟨_,List.getElem?_eq_getElem (by rw [HNO.out]; exact hlt)⟩
       have hdr : S.out.drop i = pq :: S.out.drop (i + 1) := by
        obtain ⟨h1,h2⟩ := List.getElem?_eq_some_iff.1 hpq
        rw [List.drop_eq_getElem_cons h1,h2]
       obtain ⟨⟨pg,hpg⟩,hnob⟩ : (∃ pg,ao = some ⟨pg,0,none⟩) ∧ no ≤ 9223372036854775807 := by
        obtain ⟨g,cap,cur,e,u1,u2,-⟩ := RowH.form K2.out.1 (by rw [HNO.out]; omega)
        cases e
        rw [HNO.out] at u1
        unfold maxLen at u2
        exact ⟨⟨_,rfl⟩,by omega⟩
       subst hpg
       have PC := Lib.hid (fun V (m : Mv W ((HL ++ HB0) ++ HV) V (Ho ++ (HV ++ (HL ++ HBi)))) => piece_cells K2.out.1 m.sat.left hpq)
       obtain ⟨c0,c1,c2,c3,c4⟩ := PC.out wb Mi
       rw [hdr] at hE hO
       obtain ⟨⟨o1,o2,o3,o4,o5⟩,o6⟩ := hO
       obtain ⟨⟨d,k⟩,pp,pn⟩ := pq
       simp only at c0 c1 c2 c3 c4 o1 o2 o3 o4 o5 o6
       by_cases hlk : l.length - m < pn
       ·have hlk2 : (n : Int) - (m : Int) < (pn : Int) := by omega
        have hE2 : q = (0,8,M') := by
         rw [← hq.out,hE]
         rw [decGo_cons,if_pos hlk]
        have KF := Lib.hid (And.intro hE2 Mi)
        clear hE hE2 Mi hBi o5 o6 hdr hlk
        go_wp2_with fail
        go_ret2
        obtain ⟨rfl,q3⟩ := KF.out
        refine ⟨rfl,?_⟩
        rw [if_neg (by simp)]
        exact (q3.alloc _ _).sub (fun g => by rw [cnt_nil]; omega) (fun b hb => by cases hb)
       ·have hlk2 : ¬ (n : Int) - (m : Int) < (pn : Int) := by omega
        go_upto_region 13 with fail
        obtain ⟨w4,hw4⟩ : ∃ w4,w4 = wb.alloc (.cells #[.pointer (some ⟨d.lb,k * 5,none⟩),.pointer (some ⟨d.bb,0,none⟩),.int .i64 (k : Int),.int .i64 (pp : Int),.int .i64 (pn : Int)] 116) := ⟨_,rfl⟩
        obtain ⟨bx,hbx⟩ : ∃ bx,wb.heap.size = bx := ⟨_,rfl⟩
        have M4 := Mi.alloc 116 #[.pointer (some ⟨d.lb,k * 5,none⟩),.pointer (some ⟨d.bb,0,none⟩),.int .i64 (k : Int),.int .i64 (pp : Int),.int .i64 (pn : Int)]
        rw [← hw4,hbx] at M4
        rw [← hw4]
        simp only [hbx]
        clear hw4 hbx c0 c1 c2 c3 c4
        have y0 : w4.drew.cell? ⟨bx,0,none⟩ = some (.pointer (some ⟨d.lb,k * 5,none⟩)) := M4.cell 0 rfl 0
        have y1 : w4.drew.cell? ⟨bx,1,none⟩ = some (.pointer (some ⟨d.bb,0,none⟩)) := M4.cell 0 rfl 1
        have y2 : w4.drew.cell? ⟨bx,2,none⟩ = some (.int .i64 (k : Int)) := M4.cell 0 rfl 2
        have y3 : w4.drew.cell? ⟨bx,3,none⟩ = some (.int .i64 (pp : Int)) := M4.cell 0 rfl 3
        have y4 : w4.drew.cell? ⟨bx,4,none⟩ = some (.int .i64 (pn : Int)) := M4.cell 0 rfl 4
        have hsum : m + pn ≤ n := by omega
        obtain ⟨mp,hmp⟩ : ∃ mp,m + pn = mp := ⟨_,rfl⟩
        have hwr : IntKind.i64.wrap ((m : Int) + (pn : Int)) = (mp : Int) := by rw [← hmp,← Int.natCast_add]; exact IntWalk.i64_in _ ⟨by omega,by omega⟩
        have hmp2 : m ≤ mp ∧ mp ≤ n ∧ mp ≤ vc := by omega
        have hmx : Try.prog.follows .mixedOrders = true := by kernel_rfl
        obtain ⟨C,hC⟩ : ∃ C : World → Prop,C = fun w' => w' = w4.drew := ⟨_,rfl⟩
        have CF : Hid (∀ w',C w' → w'.cell? ⟨bx,0,none⟩ = some (.pointer (some ⟨d.lb,k * 5,none⟩)) ∧ w'.cell? ⟨bx,1,none⟩ = some (.pointer (some ⟨d.bb,0,none⟩)) ∧ w'.cell? ⟨bx,2,none⟩ = some (.int .i64 (k : Int)) ∧ w'.cell? ⟨bx,3,none⟩ = some (.int .i64 (pp : Int)) ∧ w'.cell? ⟨bx,4,none⟩ = some (.int .i64 (pn : Int))) := Lib.hid (by
         intro w' h
         rw [hC] at h
         subst h
         exact ⟨y0,y1,y2,y3,y4⟩)
        have CD : C w4.drew := by rw [hC]
        have HC := Lib.hid hC
        clear hC y0 y1 y2 y3 y4
        refine plain_quiet_tail 9 C hmx CD (by kernel_rfl) ?_
        simp only [List.take_succ_cons,List.take_zero,List.drop_succ_cons,List.drop_zero]
        (first | (with_reducible refine qc_pass ?hw10 ?nx10; (case hw10 => (go_simp; done)); (try simp only [Act.put,List.setIfInBounds_toArray,List.set_cons_zero,List.set_cons_succ])) | (with_reducible refine qc_one ?v10 ?hw10 (fun w' hw' => ?hr10) ?nx10; (case hw10 => (go_simp; done)); (case hr10 => (first | (refine qc_val ?_; (obtain ⟨a0,a1,a2,a3,a4⟩ := CF.out w' hw'); clear hw'; go_simp; done) | (refine qc_val ?_; (obtain ⟨a0,a1,a2,a3,a4⟩ := CF.out w' hw'); clear hw'; go_simp; rfl) | (refine qc_call (f := ?f10) (args := ?args10) ?h110 ?h210; (case h110 => ((obtain ⟨a0,a1,a2,a3,a4⟩ := CF.out w' hw'); go_simp; constructor <;> rfl)); (case h210 => (fail))) | (refine qc_skip ?_; (obtain ⟨a0,a1,a2,a3,a4⟩ := CF.out w' hw'); clear hw'; go_simp; done))); (try simp only [Act.put,List.setIfInBounds_toArray,List.set_cons_zero,List.set_cons_succ])))
        (first | (with_reducible refine qc_pass ?hw11 ?nx11; (case hw11 => (go_simp; done)); (try simp only [Act.put,List.setIfInBounds_toArray,List.set_cons_zero,List.set_cons_succ])) | (with_reducible refine qc_one ?v11 ?hw11 (fun w' hw' => ?hr11) ?nx11; (case hw11 => (go_simp; done)); (case hr11 => (first | (refine qc_val ?_; (obtain ⟨a0,a1,a2,a3,a4⟩ := CF.out w' hw'); clear hw'; go_simp; done) | (refine qc_val ?_; (obtain ⟨a0,a1,a2,a3,a4⟩ := CF.out w' hw'); clear hw'; go_simp; rfl) | (refine qc_call (f := ?f11) (args := ?args11) ?h111 ?h211; (case h111 => ((obtain ⟨a0,a1,a2,a3,a4⟩ := CF.out w' hw'); go_simp; constructor <;> rfl)); (case h211 => (fail))) | (refine qc_skip ?_; (obtain ⟨a0,a1,a2,a3,a4⟩ := CF.out w' hw'); clear hw'; go_simp; done))); (try simp only [Act.put,List.setIfInBounds_toArray,List.set_cons_zero,List.set_cons_succ])))
        (first | (with_reducible refine qc_pass ?hw12 ?nx12; (case hw12 => (go_simp; done)); (try simp only [Act.put,List.setIfInBounds_toArray,List.set_cons_zero,List.set_cons_succ])) | (with_reducible refine qc_one ?v12 ?hw12 (fun w' hw' => ?hr12) ?nx12; (case hw12 => (go_simp; done)); (case hr12 => (first | (refine qc_val ?_; (obtain ⟨a0,a1,a2,a3,a4⟩ := CF.out w' hw'); clear hw'; go_simp; done) | (refine qc_val ?_; (obtain ⟨a0,a1,a2,a3,a4⟩ := CF.out w' hw'); clear hw'; go_simp; rfl) | (refine qc_call (f := ?f12) (args := ?args12) ?h112 ?h212; (case h112 => ((obtain ⟨a0,a1,a2,a3,a4⟩ := CF.out w' hw'); go_simp; constructor <;> rfl)); (case h212 => (fail))) | (refine qc_skip ?_; (obtain ⟨a0,a1,a2,a3,a4⟩ := CF.out w' hw'); clear hw'; go_simp; done))); (try simp only [Act.put,List.setIfInBounds_toArray,List.set_cons_zero,List.set_cons_succ])))
        (first | (with_reducible refine qc_pass ?hw13 ?nx13; (case hw13 => (go_simp; done)); (try simp only [Act.put,List.setIfInBounds_toArray,List.set_cons_zero,List.set_cons_succ])) | (with_reducible refine qc_one ?v13 ?hw13 (fun w' hw' => ?hr13) ?nx13; (case hw13 => (go_simp; done)); (case hr13 => (first | (refine qc_val ?_; (obtain ⟨a0,a1,a2,a3,a4⟩ := CF.out w' hw'); clear hw'; go_simp; done) | (refine qc_val ?_; (obtain ⟨a0,a1,a2,a3,a4⟩ := CF.out w' hw'); clear hw'; go_simp; rfl) | (refine qc_call (f := ?f13) (args := ?args13) ?h113 ?h213; (case h113 => ((obtain ⟨a0,a1,a2,a3,a4⟩ := CF.out w' hw'); go_simp; constructor <;> rfl)); (case h213 => (fail))) | (refine qc_skip ?_; (obtain ⟨a0,a1,a2,a3,a4⟩ := CF.out w' hw'); clear hw'; go_simp; done))); (try simp only [Act.put,List.setIfInBounds_toArray,List.set_cons_zero,List.set_cons_succ])))
        (first | (with_reducible refine qc_pass ?hw14 ?nx14; (case hw14 => (go_simp; done)); (try simp only [Act.put,List.setIfInBounds_toArray,List.set_cons_zero,List.set_cons_succ])) | (with_reducible refine qc_one ?v14 ?hw14 (fun w' hw' => ?hr14) ?nx14; (case hw14 => (go_simp; done)); (case hr14 => (first | (refine qc_val ?_; (obtain ⟨a0,a1,a2,a3,a4⟩ := CF.out w' hw'); clear hw'; go_simp; done) | (refine qc_val ?_; (obtain ⟨a0,a1,a2,a3,a4⟩ := CF.out w' hw'); clear hw'; go_simp; rfl) | (refine qc_call (f := ?f14) (args := ?args14) ?h114 ?h214; (case h114 => ((obtain ⟨a0,a1,a2,a3,a4⟩ := CF.out w' hw'); go_simp; constructor <;> rfl)); (case h214 => (fail))) | (refine qc_skip ?_; (obtain ⟨a0,a1,a2,a3,a4⟩ := CF.out w' hw'); clear hw'; go_simp; done))); (try simp only [Act.put,List.setIfInBounds_toArray,List.set_cons_zero,List.set_cons_succ])))
        (first | (with_reducible refine qc_pass ?hw15 ?nx15; (case hw15 => (go_simp; done)); (try simp only [Act.put,List.setIfInBounds_toArray,List.set_cons_zero,List.set_cons_succ])) | (with_reducible refine qc_one ?v15 ?hw15 (fun w' hw' => ?hr15) ?nx15; (case hw15 => (go_simp; done)); (case hr15 => (first | (refine qc_val ?_; (obtain ⟨a0,a1,a2,a3,a4⟩ := CF.out w' hw'); clear hw'; go_simp; done) | (refine qc_val ?_; (obtain ⟨a0,a1,a2,a3,a4⟩ := CF.out w' hw'); clear hw'; go_simp; rfl) | (refine qc_call (f := ?f15) (args := ?args15) ?h115 ?h215; (case h115 => ((obtain ⟨a0,a1,a2,a3,a4⟩ := CF.out w' hw'); go_simp; constructor <;> rfl)); (case h215 => (fail))) | (refine qc_skip ?_; (obtain ⟨a0,a1,a2,a3,a4⟩ := CF.out w' hw'); clear hw'; go_simp; done))); (try simp only [Act.put,List.setIfInBounds_toArray,List.set_cons_zero,List.set_cons_succ])))
        (first | (with_reducible refine qc_pass ?hw16 ?nx16; (case hw16 => (go_simp; done)); (try simp only [Act.put,List.setIfInBounds_toArray,List.set_cons_zero,List.set_cons_succ])) | (with_reducible refine qc_one ?v16 ?hw16 (fun w' hw' => ?hr16) ?nx16; (case hw16 => (go_simp; done)); (case hr16 => (first | (refine qc_val ?_; (obtain ⟨a0,a1,a2,a3,a4⟩ := CF.out w' hw'); clear hw'; go_simp; done) | (refine qc_val ?_; (obtain ⟨a0,a1,a2,a3,a4⟩ := CF.out w' hw'); clear hw'; go_simp; rfl) | (refine qc_call (f := ?f16) (args := ?args16) ?h116 ?h216; (case h116 => ((obtain ⟨a0,a1,a2,a3,a4⟩ := CF.out w' hw'); go_simp; constructor <;> rfl)); (case h216 => (fail))) | (refine qc_skip ?_; (obtain ⟨a0,a1,a2,a3,a4⟩ := CF.out w' hw'); clear hw'; go_simp; done))); (try simp only [Act.put,List.setIfInBounds_toArray,List.set_cons_zero,List.set_cons_succ])))
        (first | (with_reducible refine qc_pass ?hw17 ?nx17; (case hw17 => (go_simp; done)); (try simp only [Act.put,List.setIfInBounds_toArray,List.set_cons_zero,List.set_cons_succ])) | (with_reducible refine qc_one ?v17 ?hw17 (fun w' hw' => ?hr17) ?nx17; (case hw17 => (go_simp; done)); (case hr17 => (first | (refine qc_val ?_; (obtain ⟨a0,a1,a2,a3,a4⟩ := CF.out w' hw'); clear hw'; go_simp; done) | (refine qc_val ?_; (obtain ⟨a0,a1,a2,a3,a4⟩ := CF.out w' hw'); clear hw'; go_simp; rfl) | (refine qc_call (f := ?f17) (args := ?args17) ?h117 ?h217; (case h117 => ((obtain ⟨a0,a1,a2,a3,a4⟩ := CF.out w' hw'); go_simp; constructor <;> rfl)); (case h217 => (fail))) | (refine qc_skip ?_; (obtain ⟨a0,a1,a2,a3,a4⟩ := CF.out w' hw'); clear hw'; go_simp; done))); (try simp only [Act.put,List.setIfInBounds_toArray,List.set_cons_zero,List.set_cons_succ])))
        (first | (with_reducible refine qc_pass ?hw18 ?nx18; (case hw18 => (go_simp; done)); (try simp only [Act.put,List.setIfInBounds_toArray,List.set_cons_zero,List.set_cons_succ])) | (with_reducible refine qc_one ?v18 ?hw18 (fun w' hw' => ?hr18) ?nx18; (case hw18 => (go_simp; done)); (case hr18 => (first | (refine qc_val ?_; (obtain ⟨a0,a1,a2,a3,a4⟩ := CF.out w' hw'); clear hw'; go_simp; done) | (refine qc_val ?_; (obtain ⟨a0,a1,a2,a3,a4⟩ := CF.out w' hw'); clear hw'; go_simp; rfl) | (refine qc_call (f := ?f18) (args := ?args18) ?h118 ?h218; (case h118 => ((obtain ⟨a0,a1,a2,a3,a4⟩ := CF.out w' hw'); go_simp; constructor <;> rfl)); (case h218 => (fail))) | (refine qc_skip ?_; (obtain ⟨a0,a1,a2,a3,a4⟩ := CF.out w' hw'); clear hw'; go_simp; done))); (try simp only [Act.put,List.setIfInBounds_toArray,List.set_cons_zero,List.set_cons_succ])))
        refine wpQuiet_nil ?_
        intro w' hw'
        obtain rfl : w' = w4.drew := by rw [HC.out] at hw'; exact hw'
        clear hw' CF CD HC C hwr
        obtain ⟨sM,hsM⟩ : ∃ s,(M' d.bb).ss[k]? = some s := by
         obtain ⟨bd,e1,e2,-⟩ := hBi.band o1
         have hsl : (M' d.bb).ss.length = d.n := by rw [← e1]; show (bd.G.map _).length = _; rw [List.length_map]; exact e2.len
         exact ⟨_,List.getElem?_eq_getElem (by rw [hsl]; exact o2)⟩
        obtain ⟨o51,o52⟩ := o5 sM hsM
        have M4' : Mv W ((HL ++ HB0) ++ HV) w4.drew ((⟨bx,116,#[.pointer (some ⟨d.lb,k * 5,none⟩),.pointer (some ⟨d.bb,0,none⟩),.int .i64 (k : Int),.int .i64 (pp : Int),.int .i64 (pn : Int)]⟩ :: (Ho ++ (HV ++ HL))) ++ HBi) := M4.drew.sub (fun g => by simp only [cnt_append,cnt_cons]; omega) (fun y hy => by simp only [List.mem_append,List.mem_cons] at hy ⊢; grind)
        have hpn : mp - m = pn := by omega
        have bvp := bv_part (HB0'.out w4.drew M4'.sat.left.tail1.right.left) hnl hmp2.1 hmp2.2.1 hnc.1
        rw [hpn] at bvp ⊢
        have TK := Lib.hid (step_take hBi o1 o2 hsM M4' style pp pn _ _ bvp hst o51 (by
         have : ((l.drop m).take pn).length ≤ min pn l.length := by rw [List.length_take,List.length_drop]; omega
         omega))
        have KQ := Lib.hid (And.intro hE (And.intro o6 hlk))
        have HMP := Lib.hid hmp
        clear hE o6 hlk M4 M4' hBi hsM o5 o51 o52 bvp hdr hmp
        generalize (Value.slice (if vc = m then some (⟨vg,0,none⟩ : Addr) else some ⟨vg,m,none⟩) pn (vc - m)) = vv at *
        go_wp2_with (go_at_call 52; (with_reducible refine TK.out.mono ?_); rintro e w5 ⟨rfl,HB5,p1,p2⟩; (have z4 : w5.cell? ⟨bx,4,none⟩ = some (.int .i64 (pn : Int)) := ((p2.sat.left).at_ 0 rfl).cell 4); have K5 := Lib.hid (And.intro p1 p2); clear p1 p2)
        go_roundg (no - (i + 1))
        case measure => omega
        case rel =>
         refine ⟨i + 1,mp,_,HB5,by omega,rfl,by push_cast; rfl,by rw [← HMP.out]; push_cast; rfl,hmp2.2.1,?_,?_,K5.out.1,?_⟩
         ·rw [KQ.out.1]
          rw [decGo_cons,if_neg KQ.out.2.2,HMP.out]
         ·have h := KQ.out.2.1
          rw [HMP.out] at h
          exact h
         ·exact K5.out.2.sub (fun g => by simp only [cnt_append,cnt_cons]; omega) (fun y hy => by simp only [List.mem_append,List.mem_cons] at hy ⊢; grind)
      ·obtain rfl : i = no := by omega
       have hlt2 : ¬ (i : Int) < (i : Int) := by omega
       have hE2 : q = (m,0,M') := by
        rw [← hq.out,hE,List.drop_of_length_le (by rw [HNO.out]; exact Nat.le_refl _)]
        rfl
       have KF := Lib.hid (And.intro hE2 (And.intro hBi Mi))
       clear hE hO hBi Mi hE2
       go_wp2_with fail
       go_ret2
       obtain ⟨rfl,q2,q3⟩ := KF.out
       refine ⟨rfl,?_⟩
       rw [if_pos rfl]
       exact ⟨HBi,q2,q3.drop⟩
  ·have h0' : ¬ (e1 : Int) = 0 := by omega
   rw [if_neg h0] at hq
   subst hq
   go_enter Try.func18,Try.ntmps18
   go_wp2_with (go_at_call 50; (with_reducible refine HS.out.mono ?_); rintro e w2 ⟨ao,co,Ho,HB1,rfl,p1,p2,p3⟩; have K2 := Lib.hid p3; clear p1 p2 p3)
   go_ret2
   refine ⟨rfl,?_⟩
   rw [if_neg h0]
   exact K2.out.sub (fun g => by rw [cnt_nil]; omega) (fun b hb => by cases hb)
end
section
structure Ren (D : List BandA) (r : BandA → BandA) : Prop where
 n : ∀ d ∈ D,(r d).n = d.n
 inj : ∀ d ∈ D,∀ e ∈ D,((r e).bb = (r d).bb ↔ e.bb = d.bb)
def SpotX.ren (r : BandA → BandA) (x : SpotX) : SpotX := ⟨r x.d,x.k⟩
def PcM.ren (r : BandA → BandA) (q : PcM) : PcM := ⟨q.x.ren r,q.p,q.n⟩
def Lock (D : List BandA) (r : BandA → BandA) (M M' : Nat → BandM) : Prop := ∀ d ∈ D,M' (r d).bb = M d.bb
theorem Lock.upd {D : List BandA} {r : BandA → BandA} (hr : Ren D r) {M M' : Nat → BandM} (h : Lock D r M M') {d : BandA} (hd : d ∈ D) (m : BandM) : Lock D r (updM M d.bb m) (updM M' (r d).bb m) := by
 intro e he
 unfold updM
 by_cases h1 : e.bb = d.bb
 ·rw [if_pos h1,if_pos ((hr.inj d hd e he).2 h1)]
 ·rw [if_neg h1,if_neg (fun h2 => h1 ((hr.inj d hd e he).1 h2))]
  exact h e he
theorem spotsOf_ren (r : BandA → BandA) : ∀ (D : List BandA),(∀ d ∈ D,(r d).n = d.n) → spotsOf (D.map r) = (spotsOf D).map (SpotX.ren r)
 | [],_ => rfl
 | d :: D,h => by
  have ih := spotsOf_ren r D fun e he => h e (List.mem_cons_of_mem _ he)
  unfold spotsOf at ih ⊢
  rw [List.map_cons,List.flatMap_cons,List.flatMap_cons,List.map_append,ih,h d List.mem_cons_self]
  congr 1
  unfold spotsB
  rw [List.map_map]
  rfl
section
variable {D : List BandA} {r : BandA → BandA} (hr : Ren D r)
include hr
theorem encM_ren (c : Nat) : ∀ (l : List SpotX) (M M' : Nat → BandM),(∀ x ∈ l,x.d ∈ D) → Lock D r M M' → Lock D r (l.foldl (encM c) M) ((l.map (SpotX.ren r)).foldl (encM c) M')
 | [],_,_,_,h => h
 | x :: l,M,M',hx,h => by
  rw [List.map_cons,List.foldl_cons,List.foldl_cons]
  refine encM_ren c l _ _ (fun y hy => hx y (List.mem_cons_of_mem _ hy)) ?_
  have h1 : M' (x.ren r).d.bb = M x.d.bb := h x.d (hx x List.mem_cons_self)
  unfold encM
  rw [h1]
  exact h.upd hr (hx x List.mem_cons_self) _
omit hr in
theorem moreM_ren (c ly : Nat) (M M' : Nat → BandM) (h : Lock D r M M') : ∀ (l : List SpotX),(∀ x ∈ l,x.d ∈ D) → moreM c ly M' (l.map (SpotX.ren r)) = moreM c ly M l
 | [],_ => rfl
 | x :: l,hx => by
  have ih := moreM_ren c ly M M' h l fun y hy => hx y (List.mem_cons_of_mem _ hy)
  unfold moreM at ih ⊢
  rw [List.map_cons,List.any_cons,List.any_cons,ih]
  congr 1
  have h1 : M' (x.ren r).d.bb = M x.d.bb := h x.d (hx x List.mem_cons_self)
  unfold newB
  rw [h1]
  rfl
structure LockE (D : List BandA) (r : BandA → BandA) (S S' : PackS) : Prop where
 M : Lock D r S.M S'.M
 bits : S'.bits = S.bits
 body : S'.body = S.body
theorem stepE_ren (c st ly : Nat) {S S' : PackS} (h : LockE D r S S') {x : SpotX} (hx : x.d ∈ D) : LockE D r (stepE c st ly S x) (stepE c st ly S' (x.ren r)) := by
 have h1 : S'.M (x.ren r).d.bb = S.M x.d.bb := h.M x.d hx
 have h2 : (x.ren r).k = x.k := rfl
 unfold stepE
 rw [h1,h2]
 cases (S.M x.d.bb).ss[x.k]? with
 | none => exact h
 | some s =>
  refine ⟨h.M.upd hr hx _,?_,?_⟩
  ·show S'.bits ++ _ = S.bits ++ _
   rw [h.bits]
  ·show (if _ then S'.body ++ _ else S'.body) = (if _ then S.body ++ _ else S.body)
   rw [h.body]
theorem foldE_ren (c st ly : Nat) : ∀ (l : List SpotX) (S S' : PackS),(∀ x ∈ l,x.d ∈ D) → LockE D r S S' → LockE D r (l.foldl (stepE c st ly) S) ((l.map (SpotX.ren r)).foldl (stepE c st ly) S')
 | [],_,_,_,h => h
 | x :: l,S,S',hx,h => by
  rw [List.map_cons,List.foldl_cons,List.foldl_cons]
  exact foldE_ren c st ly l _ _ (fun y hy => hx y (List.mem_cons_of_mem _ hy)) (stepE_ren hr c st ly h (hx x List.mem_cons_self))
theorem encS_ren (c st ly : Nat) {M M' : Nat → BandM} (h : Lock D r M M') : LockE D r (encS c st ly D M) (encS c st ly (D.map r) M') := by
 have hx : ∀ x ∈ spotsOf D,x.d ∈ D := fun x h => (mem_spots h).1
 have h1 := encM_ren hr c _ M M' hx h
 unfold encS
 rw [spotsOf_ren r D hr.n,moreM_ren c ly M M' h _ hx]
 split
 ·exact foldE_ren hr c st ly _ _ _ hx ⟨h1,rfl,rfl⟩
 ·exact ⟨h1,rfl,rfl⟩
omit hr in
theorem pcGo_ren (l : List UInt8) (x : SpotX) (lb : Nat) : ∀ (ps : List Int) (rd : RdM),pcGo l (x.ren r) lb ps rd = ((pcGo l x lb ps rd).1.map (PcM.ren r),(pcGo l x lb ps rd).2)
 | [],rd => rfl
 | p :: ps,rd => by
  simp only [pcGo,pcGo_ren l x lb ps,List.map_cons]
  rfl
omit hr in
theorem readM_ren (l : List UInt8) (st : Nat) (m : BandM) (d : BandA) (k : Nat) (s : StM) (rd : RdM) : readM l st m (r d) k s rd = (readM l st m d k s rd).map fun q => (q.1,q.2.1.map (PcM.ren r),q.2.2) := by
 obtain ⟨q,hq⟩ : ∃ q,readA l m k s rd = q := ⟨_,rfl⟩
 obtain ⟨m1,s1,r1,ok⟩ := q
 rw [readM_eq l st m d k s rd hq,readM_eq l st m (r d) k s rd hq]
 split
 ·rfl
 ·unfold readB
  split
  ·rfl
  ·generalize lbGo l (25 - s1.lb.toNat) s1.lb.toNat (toldM l r1).2 = z
   obtain ⟨o,z⟩ := z
   cases o with
   | none => rfl
   | some lb =>
    have e : (⟨r d,k⟩ : SpotX) = SpotX.ren r ⟨d,k⟩ := rfl
    simp only [readC,e,pcGo_ren,Option.map_some]
omit hr in
theorem pcGo_in (l : List UInt8) (x : SpotX) (lb : Nat) : ∀ (ps : List Int) (rd : RdM),∀ q ∈ (pcGo l x lb ps rd).1,q.x = x
 | [],rd,q,h => by cases h
 | p :: ps,rd,q,h => by
  simp only [pcGo,List.mem_cons] at h
  rcases h with rfl | h
  ·rfl
  ·exact pcGo_in l x lb ps _ q h
omit hr in
theorem readM_in (l : List UInt8) (st : Nat) (m : BandM) (d : BandA) (k : Nat) (s : StM) (rd : RdM) {z : BandM × List PcM × RdM} (h : readM l st m d k s rd = some z) : ∀ q ∈ z.2.1,q.x = ⟨d,k⟩ := by
 obtain ⟨q,hq⟩ : ∃ q,readA l m k s rd = q := ⟨_,rfl⟩
 obtain ⟨m1,s1,r1,ok⟩ := q
 rw [readM_eq l st m d k s rd hq] at h
 split at h
 ·cases h
 ·unfold readB at h
  split at h
  ·cases h
  ·generalize lbGo l (25 - s1.lb.toNat) s1.lb.toNat (toldM l r1).2 = y at h
   obtain ⟨o,y⟩ := y
   cases o with
   | none => cases h
   | some lb =>
    simp only [readC,Option.some.injEq] at h
    subst h
    exact pcGo_in l _ lb _ _
structure LockD (D : List BandA) (r : BandA → BandA) (S S' : DecS) : Prop where
 M : Lock D r S.M S'.M
 out : S'.out = S.out.map (PcM.ren r)
 rd : S'.rd = S.rd
 mem : ∀ q ∈ S.out,q.x.d ∈ D ∧ q.x.k < q.x.d.n
def LockO (D : List BandA) (r : BandA → BandA) : Option DecS → Option DecS → Prop
 | none,none => True
 | some S,some S' => LockD D r S S'
 | _,_ => False
theorem stepD_ren (l : List UInt8) (st ly : Nat) {S S' : DecS} (h : LockD D r S S') {x : SpotX} (hx : x.d ∈ D) (hk : x.k < x.d.n) : LockO D r (stepD l st ly S x) (stepD l st ly S' (x.ren r)) := by
 have h1 : S'.M (x.ren r).d.bb = S.M x.d.bb := h.M x.d hx
 have h2 : (x.ren r).k = x.k := rfl
 unfold stepD
 rw [h1,h2,h.rd]
 cases (S.M x.d.bb).ss[x.k]? with
 | none => exact h
 | some s =>
  simp only
  split
  ·exact ⟨h.M.upd hr hx _,h.out,rfl,h.mem⟩
  ·have e : (x.ren r).d = r x.d := rfl
   rw [e,readM_ren]
   cases hz : readM l st (hereM l (S.M x.d.bb) s x.k ly S.rd).1 x.d x.k s (hereM l (S.M x.d.bb) s x.k ly S.rd).2.2 with
   | none => exact trivial
   | some z =>
    refine ⟨h.M.upd hr hx _,?_,rfl,?_⟩
    ·show S'.out ++ _ = (S.out ++ _).map _
     rw [h.out,List.map_append]
    ·intro q hq
     rcases List.mem_append.1 hq with hq | hq
     ·exact h.mem q hq
     ·rw [readM_in l st _ x.d x.k s _ hz q hq]
      exact ⟨hx,hk⟩
theorem foldD_ren (l : List UInt8) (st ly : Nat) : ∀ (L : List SpotX) (o o' : Option DecS),(∀ x ∈ L,x.d ∈ D ∧ x.k < x.d.n) → LockO D r o o' → LockO D r (foldD l st ly o L) (foldD l st ly o' (L.map (SpotX.ren r)))
 | [],_,_,_,h => h
 | x :: L,o,o',hx,h => by
  unfold foldD
  rw [List.map_cons,List.foldl_cons,List.foldl_cons]
  refine foldD_ren l st ly L _ _ (fun y hy => hx y (List.mem_cons_of_mem _ hy)) ?_
  cases o with
  | none => cases o' with
   | none => exact trivial
   | some S' => exact h.elim
  | some S => cases o' with
   | none => exact h.elim
   | some S' => exact stepD_ren hr l st ly h (hx x List.mem_cons_self).1 (hx x List.mem_cons_self).2
theorem headD_ren (l : List UInt8) (st ly : Nat) {M M' : Nat → BandM} (h : Lock D r M M') : LockO D r (headD l st ly D M) (headD l st ly (D.map r) M') := by
 unfold headD
 rw [spotsOf_ren r D hr.n]
 split
 ·exact foldD_ren hr l st ly _ _ _ (fun x h => mem_spots h) ⟨h,rfl,rfl,fun q hq => by cases hq⟩
 ·exact ⟨h,rfl,rfl,fun q hq => by cases hq⟩
theorem decGo_ren (l : List UInt8) (st : Nat) : ∀ (out : List PcM) (M M' : Nat → BandM) (n : Nat),(∀ q ∈ out,q.x.d ∈ D) → Lock D r M M' → (decGo l st (out.map (PcM.ren r)) M' n).2 = (decGo l st out M n).2 ∧ Lock D r (decGo l st out M n).1 (decGo l st (out.map (PcM.ren r)) M' n).1
 | [],M,M',n,_,h => ⟨rfl,h⟩
 | q :: out,M,M',n,hq,h => by
  have h1 : M' (q.ren r).x.d.bb = M q.x.d.bb := h q.x.d (hq q List.mem_cons_self)
  rw [List.map_cons,decGo_cons,decGo_cons,h1]
  have e : (q.ren r).n = q.n := rfl
  rw [e]
  split
  ·exact ⟨rfl,h⟩
  ·exact decGo_ren l st out _ _ _ (fun y hy => hq y (List.mem_cons_of_mem _ hy)) (h.upd hr (hq q List.mem_cons_self) _)
theorem okGo_ren (l : List UInt8) (st : Nat) : ∀ (out : List PcM) (M M' : Nat → BandM) (n : Nat),(∀ q ∈ out,q.x.d ∈ D ∧ q.x.k < q.x.d.n) → Lock D r M M' → okGo (D.map r) l st (out.map (PcM.ren r)) M' n → okGo D l st out M n
 | [],M,M',n,_,h,_ => trivial
 | q :: out,M,M',n,hq,h,hk => by
  have h1 : M' (q.ren r).x.d.bb = M q.x.d.bb := h q.x.d (hq q List.mem_cons_self).1
  rw [List.map_cons] at hk
  unfold okGo at hk ⊢
  rw [h1] at hk
  obtain ⟨⟨-,-,k3,k4,k5⟩,k6⟩ := hk
  exact ⟨⟨(hq q List.mem_cons_self).1,(hq q List.mem_cons_self).2,k3,k4,k5⟩,okGo_ren l st out _ _ _ (fun y hy => hq y (List.mem_cons_of_mem _ hy)) (h.upd hr (hq q List.mem_cons_self).1 _) k6⟩
theorem decodeF_ren (l : List UInt8) (st ly : Nat) {M M' : Nat → BandM} (h : Lock D r M M') : (decodeF l st ly (D.map r) M').1 = (decodeF l st ly D M).1 ∧ (decodeF l st ly (D.map r) M').2.1 = (decodeF l st ly D M).2.1 ∧ Lock D r (decodeF l st ly D M).2.2 (decodeF l st ly (D.map r) M').2.2 := by
 have k := headD_ren hr l st ly h
 unfold decodeF
 cases h1 : headD l st ly D M with
 | none => cases h2 : headD l st ly (D.map r) M' with
  | none => exact ⟨rfl,rfl,h⟩
  | some S' => rw [h1,h2] at k; exact k.elim
 | some S => cases h2 : headD l st ly (D.map r) M' with
  | none => rw [h1,h2] at k; exact k.elim
  | some S' =>
   rw [h1,h2] at k
   have k : LockD D r S S' := k
   simp only [k.rd,k.out]
   split
   ·obtain ⟨g1,g2⟩ := decGo_ren hr l st S.out S.M S'.M (endM l S.rd).1 (fun q hq => (k.mem q hq).1) k.M
    revert g1 g2
    generalize decGo l st S.out S.M (endM l S.rd).1 = a
    generalize decGo l st (S.out.map (PcM.ren r)) S'.M (endM l S.rd).1 = b
    obtain ⟨a1,a2⟩ := a
    obtain ⟨b1,b2⟩ := b
    intro g1 g2
    have g1 : b2 = a2 := g1
    subst g1
    cases b2 with
    | none => exact ⟨rfl,rfl,g2⟩
    | some n => exact ⟨rfl,rfl,g2⟩
   ·exact ⟨rfl,rfl,k.M⟩
theorem decodeOk_ren (l : List UInt8) (st ly : Nat) {M M' : Nat → BandM} (h : Lock D r M M') (ho : decodeOk l st ly (D.map r) M') : decodeOk l st ly D M := by
 have k := headD_ren hr l st ly h
 unfold decodeOk at ho ⊢
 cases h1 : headD l st ly D M with
 | none => exact trivial
 | some S => cases h2 : headD l st ly (D.map r) M' with
  | none => rw [h1,h2] at k; exact k.elim
  | some S' =>
   rw [h1,h2] at k
   have k : LockD D r S S' := k
   rw [h2] at ho
   simp only [k.rd,k.out] at ho
   intro h0
   exact okGo_ren hr l st S.out S.M S'.M _ k.mem k.M (ho h0)
end
end
section
def d0 : BandA := ⟨0,0,1⟩
def pkA (o k : Nat) (a : BandM) : PackS := encS o 0 k [d0] fun _ => a
def pkB (o k : Nat) (a : BandM) : List UInt8 := wout (wbits (pkA o k a).bits) ++ (pkA o k a).body
def pkD (o k : Nat) (a b : BandM) : Nat × Nat × (Nat → BandM) := decodeF (pkB o k a) 0 k [d0] fun _ => b
def goodBb (m : BandM) : Bool := decide (0 ≤ m.planes) && (decide (m.planes ≤ 60) && m.ss.all fun s => decide (0 ≤ s.pl) && (decide (s.pl ≤ 60) && (decide (s.lb ≤ 100) && decide (s.bs.length ≤ 300000))))
def goodRb (m : BandM) : Bool := decide (0 ≤ m.planes) && (decide (m.planes ≤ 60) && ((m.zeros.all fun L => L.l.all fun z => decide (0 ≤ z.n)) && m.ss.all fun s => decide (s.pl ≤ 60) && decide (s.lb ≤ 24)))
def okGob (l : List UInt8) (style : Nat) : List PcM → (Nat → BandM) → Nat → Bool
 | [],_,_ => true
 | q :: qs,M,n => (decide (q.x.d.lb = 0) && decide (q.x.d.bb = 0) && decide (q.x.d.n = 1) && decide (q.x.k < 1) && decide (q.p ≤ 1000) && decide (q.n < 4294967296) && (match (M q.x.d.bb).ss[q.x.k]? with
  | none => true
  | some s => decide (s.ps.length + q.p ≤ 1000) && decide (s.bs.length + min q.n l.length ≤ 10000000))) && okGob l style qs (updM M q.x.d.bb (takeB (M q.x.d.bb) q.x.k style q.p ((l.drop n).take q.n))) (n + q.n)
def decOkb (l : List UInt8) (style layer : Nat) (M : Nat → BandM) : Bool := match headD l style layer [d0] M with
 | none => true
 | some S => !decide ((endM l S.rd).2 = 0) || okGob l style S.out S.M (endM l S.rd).1
theorem goodBb_ok {m : BandM} (h : goodBb m = true) : GoodB m := by
 simp only [goodBb,Bool.and_eq_true,decide_eq_true_eq,List.all_eq_true] at h
 exact ⟨⟨h.1,h.2.1⟩,fun s hs => ⟨⟨(h.2.2 s hs).1,(h.2.2 s hs).2.1⟩,(h.2.2 s hs).2.2.1,(h.2.2 s hs).2.2.2⟩⟩
theorem goodRb_ok {m : BandM} (h : goodRb m = true) : GoodR m := by
 simp only [goodRb,Bool.and_eq_true,decide_eq_true_eq,List.all_eq_true] at h
 exact ⟨⟨h.1,h.2.1⟩,fun L hL z hz => h.2.2.1 L hL z hz,fun s hs => h.2.2.2 s hs⟩
theorem okGob_ok (l : List UInt8) (style : Nat) : ∀ (out : List PcM) (M : Nat → BandM) (n : Nat),okGob l style out M n = true → okGo [d0] l style out M n
 | [],_,_,_ => trivial
 | q :: qs,M,n,h => by
  unfold okGob at h
  simp only [Bool.and_eq_true,decide_eq_true_eq] at h
  obtain ⟨⟨⟨⟨⟨⟨⟨h1,h2⟩,h3⟩,h4⟩,h5⟩,h6⟩,h7⟩,h8⟩ := h
  have hd : q.x.d = d0 := by
   obtain ⟨⟨⟨b,lb,n⟩,k⟩,p,n'⟩ := q
   simp only at h1 h2 h3
   subst h1 h2 h3
   rfl
  refine ⟨⟨by rw [hd]; exact List.mem_cons_self,by rw [h3]; exact h4,h5,h6,?_⟩,okGob_ok l style qs _ _ h8⟩
  intro s hs
  rw [hs] at h7
  simp only [Bool.and_eq_true,decide_eq_true_eq] at h7
  exact h7
theorem decOkb_ok {l : List UInt8} {style layer : Nat} {M : Nat → BandM} (h : decOkb l style layer M = true) : decodeOk l style layer [d0] M := by
 unfold decOkb at h
 unfold decodeOk
 split
 ·trivial
 ·rename_i S hS
  rw [hS] at h
  intro h0
  simp only [h0,decide_true,Bool.not_true,Bool.false_or] at h
  exact okGob_ok l style _ _ _ h
def ckR (p o k : Nat) (a b : BandM) : Bool :=
 goodBb a && (goodRb b && (decOkb (pkB o k a) 0 k (fun _ => b) && (decide (1 ≤ (pkB o k a).length) && (decide ((pkB o k a).length ≤ 1000000) && (decide ((pkD o k a b).2.1 = 0) && (decide ((pkD o k a b).1 = (pkB o k a).length) && decide (((stOf ((pkD o k a b).2.2 0) 0).ps.length : Int) = (3 * (p : Int) - 2) * ((k : Int) + 1) / (o : Int))))))))
def pkS (o : Nat) (p : Nat) : Nat → BandM × BandM
 | 0 => (addM (newBandM 1 1 37) 0 (encodeM (oneG (2 ^ p - 1))).planes (encodeM (oneG (2 ^ p - 1))).passes (encodeM (oneG (2 ^ p - 1))).bytes,newBandM 1 1 37)
 | k + 1 => ((pkA o k (pkS o p k).1).M 0,(pkD o k (pkS o p k).1 (pkS o p k).2).2.2 0)
def ckAll (p o : Nat) : Nat → Bool
 | 0 => true
 | k + 1 => ckAll p o k && ckR p o k (pkS o p k).1 (pkS o p k).2
def ckEnd (p o : Nat) : Bool := ckAll p o o && (decide ((stOf (pkS o p o).2 0).pl = p) && decide ((stOf (pkS o p o).2 0).bs = (encodeM (oneG (2 ^ p - 1))).bytes))
structure CkR (p o k : Nat) (a b : BandM) : Prop where
 ga : GoodB a
 gb : GoodR b
 ok : decodeOk (pkB o k a) 0 k [d0] (fun _ => b)
 l1 : 1 ≤ (pkB o k a).length
 l2 : (pkB o k a).length ≤ 1000000
 e0 : (pkD o k a b).2.1 = 0
 e1 : (pkD o k a b).1 = (pkB o k a).length
 e2 : ((stOf ((pkD o k a b).2.2 0) 0).ps.length : Int) = (3 * (p : Int) - 2) * ((k : Int) + 1) / (o : Int)
theorem ckR_ok {p o k : Nat} {a b : BandM} (h : ckR p o k a b = true) : CkR p o k a b := by
 unfold ckR at h
 rw [Bool.and_eq_true,Bool.and_eq_true,Bool.and_eq_true,Bool.and_eq_true,Bool.and_eq_true,Bool.and_eq_true,Bool.and_eq_true] at h
 obtain ⟨h1,h2,h3,h4,h5,h6,h7,h8⟩ := h
 exact ⟨goodBb_ok h1,goodRb_ok h2,decOkb_ok h3,of_decide_eq_true h4,of_decide_eq_true h5,of_decide_eq_true h6,of_decide_eq_true h7,of_decide_eq_true h8⟩
theorem ckAll_get {p o : Nat} : ∀ {n : Nat},ckAll p o n = true → ∀ k,k < n → CkR p o k (pkS o p k).1 (pkS o p k).2
 | 0,_,k,hk => absurd hk (Nat.not_lt_zero k)
 | n + 1,h,k,hk => by
  unfold ckAll at h
  rw [Bool.and_eq_true] at h
  by_cases e : k = n
  ·subst e
   exact ckR_ok h.2
  ·exact ckAll_get h.1 k (by omega)
theorem ckEnd_ok {p o : Nat} (h : ckEnd p o = true) : (∀ k,k < o → CkR p o k (pkS o p k).1 (pkS o p k).2) ∧ (stOf (pkS o p o).2 0).pl = p ∧ (stOf (pkS o p o).2 0).bs = (encodeM (oneG (2 ^ p - 1))).bytes := by
 unfold ckEnd at h
 rw [Bool.and_eq_true,Bool.and_eq_true] at h
 exact ⟨ckAll_get h.1,of_decide_eq_true h.2.1,of_decide_eq_true h.2.2⟩
end
end Go.Proofs.Ytnpoakabheeoeaa
