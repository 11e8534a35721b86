/- waveletref15: NewBand, Add. A law's numbers and shapes, as they read; waveletlaw8: within, Values. packet: a block's bytes up to a pass. packet: a packet's blocks, one by one: what a step is; a band among others. -/
import Derived.Test.YtnpoakabheeoeaaTw18
import Derived.Test.YtnpoakabheeoeaaTw16
import Derived.Test.YtnpoakabheeoeaaTw06
import Derived.Test.YtnpoakabheeoeaaTw13
import Derived.Test.YtnpoakabheeoeaaTw11
set_option maxRecDepth 100000
namespace Go.Proofs.Ytnpoakabheeoeaa
section
open Go.RowKit
theorem stNew_q : QSt stNew := ⟨RowH.nil _ _,RowH.nil _ _,⟨by simp [stNew],by simp [stNew],by simp [stNew],by simp [stNew],by simp [stNew],by simp [stNew]⟩⟩
theorem stNew_heap (n : Nat) : (List.replicate n stNew).flatMap StG.heap = [] := by
 induction n with
 | zero => rfl
 | succ n ih => simp [StG.heap,stNew]
theorem partsV_one (G : List StG) (h : ∀ s ∈ G,QSt s) : ∀ u ∈ G.flatMap StG.v,u.oneCell' = true := by
 intro u hu
 obtain ⟨s,hs,hu⟩ := List.mem_flatMap.1 hu
 obtain ⟨h1,h2,-⟩ := h s hs
 obtain ⟨a1,c1,e1⟩ := h1.slice
 obtain ⟨a2,c2,e2⟩ := RowB.slice h2
 simp only [StG.v,List.mem_cons,List.not_mem_nil,or_false,e1,e2] at hu
 rcases hu with rfl | rfl | rfl | rfl | rfl <;> rfl
set_option maxHeartbeats 2000000 in
theorem rband_new (x y : Nat) (planes : Int) (W : World) (hx : x ≤ 64) (hy : y ≤ 64) (hp : -1000 ≤ planes ∧ planes ≤ 1000) :
  Calls Try.prog 19 #[.int .i64 (x : Int),.int .i64 (y : Int),.int .i64 planes] W fun e W' => ∃ bb H,e = .returned (.pointer (some ⟨bb,0,none⟩)) ∧ RBandR bb (newBandM x y planes) false false H ∧ Mv W [] W' H := by
 have T1 := Lib.hid fun V => rtree_new x y V hx hy
 have mx : (if (0 : Int) < (x : Int) then (x : Int) else 0) = (x : Int) := by split <;> omega
 have my : (if (0 : Int) < (y : Int) then (y : Int) else 0) = (y : Int) := by split <;> omega
 have hxy : x * y ≤ 64 * 64 := Nat.mul_le_mul hx hy
 have b1 : (x : Int) * (y : Int) ≤ 4096 := by exact_mod_cast hxy
 have b2 : 0 ≤ (x : Int) * (y : Int) := by exact_mod_cast Nat.zero_le (x * y)
 obtain ⟨n,hn⟩ : ∃ n,x * y = n := ⟨_,rfl⟩
 have hn4 : n ≤ 4096 := by omega
 have HN := Lib.hid hn
 clear hn hxy
 go_enter Try.func19,Try.ntmps19
 have T2 := T1
 go_upto_region 2 with (first
  | (go_at_call 53; (with_reducible refine (T1.out _).mono ?_); rintro e w1 ⟨t1,H1,rfl,q2,q3⟩; have K1 := Lib.hid (And.intro q2 q3); clear q2 q3 T1)
  | (go_at_call 53; (with_reducible refine (T2.out _).mono ?_); rintro e w2 ⟨t2,H2,rfl,q2,q3⟩; have K2 := Lib.hid (And.intro q2 (Mv.call (H := []) (R := H1) K1.out.2 q3)); clear q2 q3 T2))
 obtain ⟨bb,hbb⟩ : ∃ bb,w2.heap.size = bb := ⟨_,rfl⟩
 have M3 := K2.out.2.alloc 122 #[.int .i64 planes,.slice none 0 0,.pointer (some ⟨t1,0,none⟩),.pointer (some ⟨t2,0,none⟩),.bool false]
 rw [hbb] at M3
 have K3 := Lib.hid M3
 clear M3
 simp only [hbb]
 go_wp2_with fail
 go_loopg [8] n (fun mm s8 wx => ∃ (j : Nat) (v : Value) (Hl : List HB),j ≤ n ∧ mm = n - j ∧ s8 = .int .i64 (j : Int) ∧ RowH 124 5 v j ((List.replicate j stNew).flatMap StG.v) Hl ∧ Mv W [] wx (⟨bb,122,#[.int .i64 planes,v,.pointer (some ⟨t1,0,none⟩),.pointer (some ⟨t2,0,none⟩),.bool false]⟩ :: (Hl ++ (H2 ++ H1))))
 case atStart => exact ⟨0,_,[],Nat.zero_le _,rfl,rfl,RowH.nil _ _,K3.out⟩
 case round =>
  clear K3
  obtain ⟨j,v,Hl,hj,rfl,rfl,hr,m⟩ := hrel
  have z0 : wr.cell? ⟨bb,1,none⟩ = some v := m.cell 0 rfl 1
  have z1 := m.frozen 0 rfl 1
  obtain ⟨va,vc,rfl⟩ := hr.slice
  by_cases hlt : j < n
  ·have d1 : decide ((j : Int) < (x : Int) * (y : Int)) = true := decide_eq_true (by have := HN.out; exact_mod_cast (by omega : j < x * y))
   have M4 := m.alloc 124 #[.int .i64 0,.slice none 0 0,.slice none 0 0,.int .i64 0,.int .i64 3]
   have M5 : Mv W [] _ (Hl ++ (⟨wr.heap.size,124,#[.int .i64 0,.slice none 0 0,.slice none 0 0,.int .i64 0,.int .i64 3]⟩ :: ⟨bb,122,#[.int .i64 planes,.slice va j vc,.pointer (some ⟨t1,0,none⟩),.pointer (some ⟨t2,0,none⟩),.bool false]⟩ :: (H2 ++ H1))) := M4.sub (fun g => by simp only [cnt_append,cnt_cons]; omega) (fun c hc => by simp only [List.mem_append,List.mem_cons] at hc ⊢; grind)
   have KA := Lib.hid (And.intro hr M5)
   clear hr m M4 M5
   go_upto_region 4 with (at_builtin; refine wpList_appR Try.underlying120 infoPart rfl (by decide) (by decide) rfl (.tmp 31) (.tmp 33) rfl (.slice va j vc) rfl rfl KA.out.1 KA.out.2.sat.left (reads_new rfl rfl) ?one ?len ?nxt; (case one => (intro u hu; exact partsV_one [⟨⟨0,[],[],0,3⟩,.slice none 0 0,.slice none 0 0,[],[]⟩] (fun s hs => by rw [List.mem_singleton.1 hs]; exact stNew_q) u hu)); (case len => omega); intro v6 w6 H6 h6 m6; obtain ⟨a6,c6,rfl⟩ := h6.slice; have M6 := Mv.call KA.out.2 m6; have M7 : Mv W [] w6 (⟨bb,122,#[.int .i64 planes,.slice va j vc,.pointer (some ⟨t1,0,none⟩),.pointer (some ⟨t2,0,none⟩),.bool false]⟩ :: (H6 ++ (H2 ++ H1))) := M6.sub (fun g => by simp only [cnt_append,cnt_cons]; omega) (fun c hc => by simp only [List.mem_append,List.mem_cons] at hc ⊢; grind); have z2 : w6.cell? ⟨bb,1,none⟩ = some (.slice va j vc) := (by first | exact M7.cell 0 rfl 1); have z3 : w6.frozen? ⟨bb,1,none⟩ = false := (by first | exact M7.frozen 0 rfl 1); have K6 := Lib.hid (And.intro h6 (M7.set 1 (.slice a6 (j + 1) c6))); clear h6 m6 M6 M7)
   go_wp2_with fail
   go_roundg (n - (j + 1))
   case measure => omega
   case rel =>
    refine ⟨j + 1,_,H6,hlt,rfl,by push_cast; rfl,?_,K6.out.2⟩
    have e : (List.replicate (j + 1) stNew).flatMap StG.v = (List.replicate j stNew).flatMap StG.v ++ [.int .i64 0,.slice none 0 0,.slice none 0 0,.int .i64 0,.int .i64 3] := by
     rw [List.replicate_succ',List.flatMap_append]
     rfl
    rw [e]
    exact K6.out.1
  ·have d1 : decide ((j : Int) < (x : Int) * (y : Int)) = false := decide_eq_false (by intro h; have h2 := HN.out; have h3 : j < x * y := (by exact_mod_cast h); omega)
   obtain rfl : j = n := by omega
   have KA := Lib.hid (And.intro hr m)
   clear hr m z0 z1
   go_wp2_with fail
   go_ret
   have RB : RBandR bb (newBandM x y planes) false false (⟨bb,122,#[.int .i64 planes,.slice va j vc,.pointer (some ⟨t1,0,none⟩),.pointer (some ⟨t2,0,none⟩),.bool false]⟩ :: (Hl ++ (H1 ++ (H2 ++ [])))) := by
    refine ⟨⟨t1,t2,.slice va j vc,Hl,H1,H2,List.replicate j stNew⟩,⟨?_,?_,?_,K1.out.1,K2.out.1,hp⟩,?_⟩
    ·simp only [newBandM,List.map_replicate,HN.out]
    ·intro s hs
     rw [List.eq_of_mem_replicate hs]
     exact stNew_q
    ·simpa using KA.out.1
    ·simp only [RBandG.heap,rbandB,stNew_heap]
     rfl
   have M9 : Mv W [] wr (⟨bb,122,#[.int .i64 planes,.slice va j vc,.pointer (some ⟨t1,0,none⟩),.pointer (some ⟨t2,0,none⟩),.bool false]⟩ :: (Hl ++ (H1 ++ (H2 ++ [])))) := KA.out.2.sub (fun g => by simp only [cnt_append,cnt_cons,cnt_nil]; omega) (fun c hc => by simp only [List.mem_append,List.mem_cons,List.not_mem_nil,or_false] at hc ⊢; grind)
   first
    | exact ⟨bb,_,rfl,RB,M9⟩
    | exact ⟨bb,rfl,_,RB,M9⟩
theorem part_cells {w : World} {vl : Value} {G : List StG} {Hl : List HB} (h : RowH 124 5 vl G.length (G.flatMap StG.v) Hl) (hs : Sat w Hl) {k : Nat} {s : StG} (hk : G[k]? = some s) :
  ∃ g c,vl = .slice (some ⟨g,0,none⟩) G.length c ∧ w.cell? ⟨g,k * 5,none⟩ = some (.int .i64 s.m.pl) ∧ w.cell? ⟨g,k * 5 + 1,none⟩ = some s.vp ∧ w.cell? ⟨g,k * 5 + 2,none⟩ = some s.vb ∧ w.cell? ⟨g,k * 5 + 3,none⟩ = some (.int .i64 s.m.said) ∧ w.cell? ⟨g,k * 5 + 4,none⟩ = some (.int .i64 s.m.lb) ∧ ∀ i,i < G.length * 5 → w.frozen? ⟨g,i,none⟩ = false := by
 have hkl := (List.getElem?_eq_some_iff.1 hk).1
 obtain ⟨g,cap,cur,rfl,h1,h2,h3,h4,rfl⟩ := h.form (by omega)
 have hc := fun j (hj : j < 5) => h.cell hs rfl (k * 5 + j) (by omega)
 have hg := fun j (hj : j < 5) => flat_get StG.v 5 StG.v_length G k s hk j hj
 exact ⟨g,cap,rfl,(hc 0 (by omega)).1.trans (hg 0 (by omega)),(hc 1 (by omega)).1.trans (hg 1 (by omega)),(hc 2 (by omega)).1.trans (hg 2 (by omega)),(hc 3 (by omega)).1.trans (hg 3 (by omega)),(hc 4 (by omega)).1.trans (hg 4 (by omega)),fun i hi => (h.cell hs rfl i hi).2⟩
theorem parts_set {G : List StG} {k : Nat} {s : StG} (h : G[k]? = some s) (pl : Int) (ps : List (Int × Bool)) (bs : List UInt8) (vp vb : Value) (Hp Hb : List HB) :
  ((((G.flatMap StG.v).set (k * 5) (.int .i64 pl)).set (k * 5 + 1) vp).set (k * 5 + 2) vb) = (G.set k (s.withB pl ps bs vp vb Hp Hb)).flatMap StG.v := by
 have hk := (List.getElem?_eq_some_iff.1 h).1
 have e1 := flat_set StG.v 5 StG.v_length G k s ⟨{ s.m with pl := pl },s.vp,s.vb,s.Hp,s.Hb⟩ h 0 (by omega) (.int .i64 pl) rfl
 have e2 := flat_set StG.v 5 StG.v_length (G.set k ⟨{ s.m with pl := pl },s.vp,s.vb,s.Hp,s.Hb⟩) k _ ⟨{ s.m with pl := pl },vp,s.vb,s.Hp,s.Hb⟩ (List.getElem?_set_self hk) 1 (by omega) vp rfl
 rw [List.set_set] at e2
 have e3 := flat_set StG.v 5 StG.v_length (G.set k ⟨{ s.m with pl := pl },vp,s.vb,s.Hp,s.Hb⟩) k _ (s.withB pl ps bs vp vb Hp Hb) (List.getElem?_set_self hk) 2 (by omega) vb rfl
 rw [List.set_set] at e3
 rw [Nat.add_zero] at e1
 rw [e1,e2,e3]
set_option maxHeartbeats 2000000 in
theorem radd_any (bb : Nat) (m : BandM) (ff fz : Bool) (H Hp Hb : List HB) (W : World) (hB : RBandR bb m ff fz H) (hs : Sat W (H ++ (Hp ++ Hb))) (k : Nat) (hk : k < m.ss.length) (hn5 : m.ss.length ≤ 10000) (pl : Int) (vp : Value) (ba : Option Addr) (bn bc : Nat) (ps : List (Int × Bool)) (bs : List UInt8) (hp : RowQ vp ps Hp) (hb : RowB (.slice ba bn bc) bs Hb)
  (hpl : -1000 ≤ pl ∧ pl ≤ 1000) (hn : ps.length ≤ 1000) (hm : bs.length ≤ 10000000) (he : ∀ p ∈ ps,0 ≤ p.1 ∧ p.1 ≤ 100000000) (hsd : (stOf m k).said ≤ ps.length) :
  Calls Try.prog 21 #[.pointer (some ⟨bb,0,none⟩),.int .i64 (k : Int),.agg #[.int .i64 pl,vp,.slice ba bn bc]] W fun e W' => e = .returned (.tuple #[]) ∧ ∃ H',RBandR bb (addM m k pl ps bs) ff fz H' ∧ Mv W (H ++ (Hp ++ Hb)) W' H' := by
 obtain ⟨b,hb0,rfl⟩ := hB
 have hlen : b.G.length = m.ss.length := by rw [← hb0.ss,List.length_map]
 obtain ⟨s,hg⟩ : ∃ s,b.G[k]? = some s := ⟨_,List.getElem?_eq_getElem (by omega)⟩
 have hms : m.ss[k]? = some s.m := by rw [← hb0.ss,List.getElem?_map,hg]; rfl
 have hso := hb0.st s (List.mem_of_getElem? hg)
 have e0 : stOf m (k : Int) = s.m := stOf_in hms
 rw [e0] at hsd
 obtain ⟨pa,pc,rfl⟩ := hp.slice
 obtain ⟨w1,hw1⟩ : ∃ w1,w1 = W.alloc (.cells #[.int .i64 pl,.slice pa ps.length pc,.slice ba bn bc] 38) := ⟨_,rfl⟩
 have M1 := (Mv.refl hs).alloc 38 #[.int .i64 pl,.slice pa ps.length pc,.slice ba bn bc]
 rw [← hw1] at M1
 obtain ⟨R,hR⟩ : ∃ R,b.Hi ++ (b.Hu ++ b.G.flatMap StG.heap) = R := ⟨_,rfl⟩
 have M2 : Mv W (b.heap bb m ++ (Hp ++ Hb)) w1 (b.Hl ++ (⟨W.heap.size,38,#[.int .i64 pl,.slice pa ps.length pc,.slice ba bn bc]⟩ :: rbandB bb b.ti b.tu b.vl m :: (R ++ (Hp ++ Hb)))) := M1.sub (fun g => by simp only [RBandG.heap,hR,cnt_append,cnt_cons]; omega) (fun c hc => by simp only [RBandG.heap,hR,List.mem_append,List.mem_cons] at hc ⊢; grind)
 obtain ⟨lg,lc,hvl,c0,c1,c2,-,-,fz0⟩ := part_cells hb0.row M2.sat.left hg
 have y0 : w1.cell? ⟨W.heap.size,0,none⟩ = some (.int .i64 pl) := M1.cell 0 rfl 0
 have y1 : w1.cell? ⟨W.heap.size,1,none⟩ = some (.slice pa ps.length pc) := M1.cell 0 rfl 1
 have y2 : w1.cell? ⟨W.heap.size,2,none⟩ = some (.slice ba bn bc) := M1.cell 0 rfl 2
 have z0 : w1.cell? ⟨bb,1,none⟩ = some (.slice (some ⟨lg,0,none⟩) b.G.length lc) := by
  rw [← hvl]
  exact M1.cell 1 rfl 1
 have f0 := fz0 (k * 5) (by omega)
 have f1 := fz0 (k * 5 + 1) (by omega)
 have f2 := fz0 (k * 5 + 2) (by omega)
 have FIN : Hid (∀ w2,Mv W (b.heap bb m ++ (Hp ++ Hb)) w2 (b.Hl ++ (⟨W.heap.size,38,#[.int .i64 pl,.slice pa ps.length pc,.slice ba bn bc]⟩ :: rbandB bb b.ti b.tu b.vl m :: (R ++ (Hp ++ Hb)))) →
   ∃ H',RBandR bb (addM m k pl ps bs) ff fz H' ∧ Mv W (b.heap bb m ++ (Hp ++ Hb)) (((w2.setCell ⟨lg,k * 5,none⟩ (.int .i64 pl)).setCell ⟨lg,k * 5 + 1,none⟩ (.slice pa ps.length pc)).setCell ⟨lg,k * 5 + 2,none⟩ (.slice ba bn bc)) H') := Lib.hid (by
  intro w2 m2
  obtain ⟨H1,r1,q1⟩ := hb0.row.set m2.sat.left hvl (k * 5) (.int .i64 pl) (by omega)
  obtain ⟨H2,r2,q2⟩ := r1.set q1.sat hvl (k * 5 + 1) (.slice pa ps.length pc) (by omega)
  obtain ⟨H3,r3,q3⟩ := r2.set q2.sat hvl (k * 5 + 2) (.slice ba bn bc) (by omega)
  have m3 := Mv.call m2 (Mv.call (R := []) (by simpa using Mv.call (R := []) (by simpa using q1) q2) q3)
  rw [parts_set hg pl ps bs (.slice pa ps.length pc) (.slice ba bn bc) Hp Hb] at r3
  refine ⟨_,⟨{ b with Hl := H3,G := b.G.set k (s.withB pl ps bs (.slice pa ps.length pc) (.slice ba bn bc) Hp Hb) },⟨?_,?_,?_,?_,?_,?_⟩,rfl⟩,m3.sub (fun g => ?_) (fun c hc => ?_)⟩
  ·rw [addM_ss hms,← hb0.ss,List.map_set]
   rfl
  ·intro x hx
   rcases List.mem_or_eq_of_mem_set hx with h | rfl
   ·exact hb0.st x h
   ·exact ⟨hp,hb,⟨hn,hm,hpl,⟨hso.2.2.said.1,hsd⟩,hso.2.2.lb,he⟩⟩
  ·simp only [List.length_set]
   exact r3
  ·have := hb0.ti
   unfold addM
   split
   ·exact this
   ·exact this
  ·have := hb0.tu
   unfold addM
   split
   ·exact this
   ·exact this
  ·have := hb0.pl
   unfold addM
   split
   ·exact this
   ·exact this
  ·have := cnt_flatMap_set StG.heap (s.withB pl ps bs (.slice pa ps.length pc) (.slice ba bn bc) Hp Hb) g b.G k s hg
   have e : cnt g (StG.heap (s.withB pl ps bs (.slice pa ps.length pc) (.slice ba bn bc) Hp Hb)) = cnt g (Hp ++ Hb) := rfl
   rw [← hR]
   simp only [RBandG.heap,rbandB,cnt_append,cnt_cons,cnt_nil] at this e ⊢
   omega
  ·rw [← hR]
   simp only [RBandG.heap,List.mem_append,List.mem_cons,List.not_mem_nil,or_false] at hc ⊢
   rcases hc with h | h | h | h | h
   ·refine .inr (.inr (.inl ?_))
    rw [h]
    unfold rbandB addM
    split <;> rfl
   ·exact .inl h
   ·exact .inr (.inr (.inr (.inl (.inl h))))
   ·exact .inr (.inr (.inr (.inl (.inr (.inl h)))))
   ·rcases mem_flatMap_set StG.heap h with h1 | h1
    ·exact .inr (.inr (.inr (.inl (.inr (.inr h1)))))
    ·exact .inr (.inr (.inr (.inr (List.mem_append.1 h1)))))
 have K2 := Lib.hid M2
 have hkg : (k : Int) < (b.G.length : Int) := by omega
 have hk5 : k * 5 < 100000 := by omega
 have hgl : b.G.length ≤ 10000 := by omega
 obtain ⟨gl,hgl2⟩ : ∃ gl,b.G.length = gl := ⟨_,rfl⟩
 rw [hgl2] at z0 hkg hgl
 obtain ⟨np,hnp⟩ : ∃ np,ps.length = np := ⟨_,rfl⟩
 rw [hnp] at FIN K2 y1 hw1 ⊢
 clear hgl2 hs hb0 hlen hg hms hso e0 hsd M1 M2 hR hp hb hn hm he fz0 hvl hn5 hk hnp
 go_enter Try.func21,Try.ntmps21
 go_upto_region 1 with fail
 rw [← hw1]
 clear hw1
 go_upto_region 2 with fail
 go_still_tail 8,(by kernel_rfl)
 go_wp2_with fail
 obtain ⟨H',h1,h2⟩ := FIN.out _ K2.out
 exact bodyPost_end (results_none rfl _ _ _) rfl ⟨rfl,H',h1,h2.drew⟩
end
section
open Go.RowKit
def RdI (w : World) (v : Value) (xs : List Int) : Prop :=
 ∃ (a : Option Addr) (cap : Nat),v = .slice a xs.length cap ∧ xs.length ≤ cap ∧ cap ≤ maxLen ∧
  ∀ k x,xs[k]? = some x → ∃ b o,a = some ⟨b,o,none⟩ ∧ w.cell? ⟨b,o + k,none⟩ = some (.int .i64 x)
theorem RdI.keep {w w' : World} {v : Value} {xs : List Int} (h : RdI w v xs) (hb : Below w.heap.size w w') : RdI w' v xs := by
 obtain ⟨a,cap,rfl,h1,h2,h3⟩ := h
 refine ⟨a,cap,rfl,h1,h2,fun k x hx => ?_⟩
 obtain ⟨b,o,rfl,hc⟩ := h3 k x hx
 exact ⟨b,o,rfl,(hb.cell (World.block_lt_of_cell? w _ hc)).trans hc⟩
def RdS (w : World) (v : Value) (l : List ShapeM) : Prop :=
 ∃ (a : Option Addr) (cap : Nat),v = .slice a l.length cap ∧ l.length ≤ cap ∧ cap ≤ maxLen ∧
  ∀ k s,l[k]? = some s → ∃ b o vp vn,a = some ⟨b,o,none⟩ ∧ w.cell? ⟨b,o + k * 5,none⟩ = some (.int .i64 s.w) ∧ w.cell? ⟨b,o + k * 5 + 1,none⟩ = some (.int .i64 s.h) ∧ w.cell? ⟨b,o + k * 5 + 2,none⟩ = some (.int .i64 s.spare) ∧
   w.cell? ⟨b,o + k * 5 + 3,none⟩ = some vp ∧ w.cell? ⟨b,o + k * 5 + 4,none⟩ = some vn ∧ RdI w vp s.planes ∧ RdI w vn s.ns
theorem RdS.keep {w w' : World} {v : Value} {l : List ShapeM} (h : RdS w v l) (hb : Below w.heap.size w w') : RdS w' v l := by
 obtain ⟨a,cap,rfl,h1,h2,h3⟩ := h
 refine ⟨a,cap,rfl,h1,h2,fun k x hx => ?_⟩
 obtain ⟨b,o,vp,vn,rfl,c0,c1,c2,c3,c4,r1,r2⟩ := h3 k x hx
 have g : ∀ (j : Nat) (u : Value),w.cell? ⟨b,j,none⟩ = some u → w'.cell? ⟨b,j,none⟩ = some u := fun j u hc => (hb.cell (World.block_lt_of_cell? w _ hc)).trans hc
 exact ⟨b,o,vp,vn,rfl,g _ _ c0,g _ _ c1,g _ _ c2,g _ _ c3,g _ _ c4,r1.keep hb,r2.keep hb⟩
theorem within8 (x n : Int) (w : World) (h3 : 1 ≤ n) (h4 : n ≤ 1000000) :
  Calls Try.prog 54 #[.int .i64 x,.int .i64 n] w fun e w' => e = .returned (.int .i64 (x % n)) ∧ w' = w := by
 obtain ⟨h5,h6⟩ := tmod_bd x n h3
 have E := Lib.hid (tmod_adj x n h3)
 go_enter Try.func54,Try.ntmps54
 go_wp2
 all_goals go_ret
 ·exact ⟨by rw [← E.out,if_pos (by assumption)]; rfl,rfl⟩
 ·exact ⟨by rw [← E.out,if_neg (by omega)]; rfl,rfl⟩
theorem within8W (x : Int) (n : Nat) (w : World) (h3 : 1 ≤ n) (h4 : n ≤ 1000000) :
  Calls Try.prog 54 #[.int .i64 x,.int .i64 (n : Int)] w fun e w' => e = .returned (.int .i64 (wIn x n : Nat)) ∧ w' = w := by
 rw [wIn_cast x h3]
 exact within8 x n w (by omega) (by omega)
theorem within15W (x : Int) (n : Nat) (w : World) (h3 : 1 ≤ n) (h4 : n ≤ 1000000) :
  Calls Try.prog 9 #[.int .i64 x,.int .i64 (n : Int)] w fun e w' => e = .returned (.int .i64 (wIn x n : Nat)) ∧ w' = w := by
 rw [wIn_cast x h3]
 exact within15 x n w (by omega) (by omega)
theorem flat_int15 : (List.replicate 15 (Value.int .i64 0).cells.toList).flatten = (List.replicate 15 (0 : Int)).map (Value.int .i64) := by rw [flat_int]; rfl
theorem valsM_length (n : Nat) (ns : List Int) : (valsM n ns).length = 15 := by simp [valsM]
theorem valsM_get (n : Nat) (ns : List Int) {i : Nat} (hi : i < 15) : (valsM n ns)[i]? = some (valM n ns i) := by simp [valsM,hi]
theorem midI_get0 (l : List Int) (i : Nat) (hi : i < l.length) : (midI l i)[i]? = some 0 := by
 unfold midI
 rw [List.getElem?_append_right (by rw [List.length_take]; omega),List.length_take,show i - min i l.length = 0 by omega,List.getElem?_replicate,if_pos (by omega)]
theorem set_same {α : Type} {l : List α} {i : Nat} {x : α} (h : l[i]? = some x) : l.set i x = l := by
 apply List.ext_getElem?
 intro j
 rw [List.getElem?_set]
 split
 ·rename_i e
  subst e
  rw [if_pos (List.getElem?_eq_some_iff.1 h).1,h]
 ·rfl
theorem midI_skip (l : List Int) (i : Nat) (h : l[i]? = some 0) : midI l (i + 1) = midI l i := by
 rw [← midI_set l i h]
 have hi := (List.getElem?_eq_some_iff.1 h).1
 have h0 := midI_get0 l i hi
 exact set_same h0
theorem pow_w64 (p : Nat) (hp : p ≤ 12) : wrap64 ((2 : Int) ^ p) = ((2 ^ p : Nat) : Int) := by
 have key : ∀ q < 13,wrap64 ((2 : Int) ^ q) = ((2 ^ q : Nat) : Int) := by decide +kernel
 exact key p (by omega)
theorem valM_eq (n : Nat) (ns : List Int) (j L q r : Nat) (x : Int) (hL : ns.length = L) (h0 : 0 < L) (hq : j % L = q) (hr : j / L = r) (hx : ns[q]? = some x) (p : Nat) (hp : wIn (wrap64 (Int.tdiv x 7)) (n + 1) = p) (m : Nat) (hm : wIn (wrap64 (wrap64 (Int.tdiv x 64) + (j : Int))) (2 ^ p) = m) (c : Nat) (hc : wIn (wrap64 (x + (r : Int))) 5 = c) :
  valM n ns j = if c < 2 then (m : Int) else if c < 4 then -(m : Int) else 0 := by
 have e : ns.getD q 0 = x := by rw [List.getD_eq_getElem?_getD,hx]; rfl
 unfold valM
 rw [hL,if_neg (by omega),hq,e,hr]
 simp only [hp,hm,hc]
theorem vals_zero (n : Nat) (ns : List Int) (h : ns.length = 0) : valsM n ns = midI (valsM n ns) 0 := by
 rw [midI_zero,valsM_length]
 apply List.ext_getElem?
 intro i
 by_cases hi : i < 15
 ·rw [valsM_get n ns hi,List.getElem?_replicate,if_pos hi]
  unfold valM
  rw [if_pos h]
 ·rw [List.getElem?_eq_none (by rw [valsM_length]; omega),List.getElem?_eq_none (by simp; omega)]
set_option maxHeartbeats 2000000 in
theorem values_any (n : Nat) (hn : n ≤ 12) (ns : List Int) (v : Value) (W : World) (hv : RdI W v ns) :
  Calls Try.prog 20 #[.int .i64 3,.int .i64 5,.int .i64 (n : Int),v] W fun e W' => ∃ g,e = .returned (.slice (some ⟨g,0,none⟩) 15 15) ∧ Mv W [] W' [rowI g (valsM n ns)] := by
 obtain ⟨i0,hi,hz0,hz1,hz2⟩ := info_parts infoI
 have hm : (Instr.makeSlice 41 (.int .i64 15) (.int .i64 15)).run Try.prog W = .ok (.slice (some ⟨W.heap.size,0,none⟩) 15 15) _ := run_made (P := Try.prog) 41 3 i0 _ 1 8 15 Try.underlying41 hi hz0 hz1 hz2 rfl (by decide) (by decide) (by decide) W
 rw [flat_int15] at hm
 have M0 : Mv W [] (W.alloc (.cells ((List.replicate 15 (0 : Int)).map (Value.int .i64)).toArray 3)) [rowI W.heap.size (midI (valsM n ns) 0)] := by
  rw [midI_zero,valsM_length]
  exact mv_alloc W 3 ((List.replicate 15 (0 : Int)).map (Value.int .i64)).toArray
 obtain ⟨g,hg⟩ : ∃ g,W.heap.size = g := ⟨_,rfl⟩
 obtain ⟨w1,hw1⟩ : ∃ w1,W.alloc (.cells ((List.replicate 15 (0 : Int)).map (Value.int .i64)).toArray 3) = w1 := ⟨_,rfl⟩
 have M1 : Mv W [] w1 [rowI W.heap.size (midI (valsM n ns) 0)] := by rw [← hw1]; exact M0
 rw [hw1] at hm
 rw [hg] at hm M1
 have K1 := Lib.hid M1
 obtain ⟨A,c,rfl,hv1,hv2,hv3⟩ := hv
 obtain ⟨L,hL⟩ : ∃ L,ns.length = L := ⟨_,rfl⟩
 have HV := Lib.hid (And.intro hL hv3)
 have HL := Lib.hid hL
 rw [hL] at hv1 ⊢
 have hL2 : L ≤ 9223372036854775807 := by unfold maxLen at hv2; omega
 clear M0 M1 hw1 hi hz0 hz1 hz2 hv3 hL hg hv1 hv2
 go_enter Try.func20,Try.ntmps20
 go_wp2_with fail
 go_loopg [10] 15 (fun mm s10 wx => ∃ j : Nat,j ≤ 15 ∧ mm = 15 - j ∧ s10 = .int .i64 (j : Int) ∧ (L = 0 → j = 0) ∧ Mv W [] wx [rowI g (midI (valsM n ns) j)])
 case atStart => exact ⟨0,by decide,rfl,rfl,fun _ => rfl,K1.out⟩
 case round =>
  clear K1
  obtain ⟨j,hj,rfl,rfl,hL0,m⟩ := hrel
  by_cases hlt : j < 15 ∧ 0 < L
  ·obtain ⟨h1,h2⟩ := hlt
   have d1 : decide ((j : Int) < 15) = true := by simp; omega
   have d2 : decide (0 < (L : Int)) = true := by simp; omega
   have hq := Nat.mod_lt j h2
   obtain ⟨q,hq2⟩ : ∃ q,j % L = q := ⟨_,rfl⟩
   rw [hq2] at hq
   obtain ⟨x,hx⟩ : ∃ x,ns[q]? = some x := ⟨_,List.getElem?_eq_getElem (by rw [HV.out.1]; exact hq)⟩
   obtain ⟨b,o,rfl,hc0⟩ := HV.out.2 q x hx
   have hc := m.old hc0 (World.block_lt_of_cell? W _ hc0)
   have E1 : (j : Int) % (L : Int) = (q : Int) := by rw [← hq2]; push_cast; rfl
   have KM := Lib.hid m
   clear m hm HV hc0
   have W1 := Lib.hid fun V => within8W (wrap64 (Int.tdiv x 7)) (n + 1) V (by omega) (by omega)
   obtain ⟨p,hp⟩ : ∃ p,wIn (wrap64 (Int.tdiv x 7)) (n + 1) = p := ⟨_,rfl⟩
   have hp12 : p ≤ 12 := by
    have := wIn_lt (wrap64 (Int.tdiv x 7)) (n := n + 1) (by omega)
    omega
   rw [hp] at W1
   simp only [Int.natCast_add,Int.cast_ofNat_Int] at W1
   go_upto_region 7 with (go_at_call 54; (with_reducible refine (W1.out _).mono ?_); rintro e w' ⟨rfl,rfl⟩)
   have hp2 : 1 ≤ 2 ^ p ∧ 2 ^ p ≤ 1000000 := by
    have h3 : 2 ^ p ≤ 2 ^ 12 := Nat.pow_le_pow_right (by decide) hp12
    exact ⟨Nat.pow_pos (by decide),Nat.le_trans h3 (by decide)⟩
   have W2 := Lib.hid fun V => within8W (wrap64 (wrap64 (Int.tdiv x 64) + (j : Int))) (2 ^ p) V hp2.1 hp2.2
   rw [← pow_w64 p hp12] at W2
   obtain ⟨mv,hmv⟩ : ∃ mv,wIn (wrap64 (wrap64 (Int.tdiv x 64) + (j : Int))) (2 ^ p) = mv := ⟨_,rfl⟩
   have hmv2 : mv < 4096 := by
    have h3 := wIn_lt (wrap64 (wrap64 (Int.tdiv x 64) + (j : Int))) hp2.1
    have h4 : 2 ^ p ≤ 2 ^ 12 := Nat.pow_le_pow_right (by decide) hp12
    have h5 : (2 : Nat) ^ 12 = 4096 := rfl
    omega
   rw [hmv] at W2
   obtain ⟨r,hr⟩ : ∃ r,j / L = r := ⟨_,rfl⟩
   have hr2 : r ≤ 15 := by
    have := Nat.div_le_self j L
    omega
   have E2 : (j : Int) / (L : Int) = (r : Int) := by rw [← hr]; push_cast; rfl
   have W3 := Lib.hid fun V => within8W (wrap64 (x + (r : Int))) 5 V (by decide) (by decide)
   obtain ⟨cs,hcs⟩ : ∃ cs,wIn (wrap64 (x + (r : Int))) 5 = cs := ⟨_,rfl⟩
   have hcs2 : cs < 5 := by
    have h3 := wIn_lt (wrap64 (x + (r : Int))) (n := 5) (by decide)
    omega
   rw [hcs] at W3
   simp only [Int.cast_ofNat_Int] at W3
   have HVAL := Lib.hid (valM_eq n ns j L q r x HL.out h2 hq2 hr hx p hp mv hmv cs hcs)
   clear hp hmv hr hcs hp2 hx hq2
   go_upto_region 8 with (go_at_call 54; (with_reducible refine (W2.out _).mono ?_); rintro e w' ⟨rfl,rfl⟩)
   have MS := Lib.hid (KM.out.set (R := []) j)
   have zc : w'.cell? ⟨g,j,none⟩ = some (.int .i64 0) := by
    refine (KM.out.cell 0 rfl j).trans ?_
    simp only [List.getElem?_toArray,List.getElem?_map]
    rw [midI_get0 _ _ (by rw [valsM_length]; exact h1)]
    rfl
   have zf : w'.frozen? ⟨g,j,none⟩ = false := KM.out.frozen 0 rfl j
   have NX : Hid (∀ v : Int,valM n ns j = v → Mv W [] (w'.setCell ⟨g,j,none⟩ (.int .i64 v)) [rowI g (midI (valsM n ns) (j + 1))]) := Lib.hid (by
    intro v hv
    have h3 := KM.out.set (R := []) j (.int .i64 v)
    rw [show (rowI g (midI (valsM n ns) (j + 1))) = ⟨g,3,(rowI g (midI (valsM n ns) j)).cs.setIfInBounds j (.int .i64 v)⟩ by rw [rowI_set,midI_set _ _ (by rw [valsM_get n ns h1,hv])]; rfl]
    exact h3)
   have KN : Hid (valM n ns j = 0 → Mv W [] w' [rowI g (midI (valsM n ns) (j + 1))]) := Lib.hid (by
    intro hv
    rw [midI_skip _ _ (by rw [valsM_get n ns h1,hv])]
    exact KM.out)
   clear KM MS W1 W2 hc
   obtain h5 | h5 | h5 | h5 | h5 : cs = 0 ∨ cs = 1 ∨ cs = 2 ∨ cs = 3 ∨ cs = 4 := by omega
   all_goals
    subst h5
    clear hcs2
    go_wp2_with (go_at_call 54; (with_reducible refine (W3.out _).mono ?_); rintro e w2 ⟨rfl,rfl⟩)
    go_roundg (15 - (j + 1))
    case measure => omega
    case rel => exact ⟨j + 1,h1,rfl,by push_cast; rfl,by omega,by first | exact NX.out _ (by rw [HVAL.out]; rfl) | exact KN.out (by rw [HVAL.out]; rfl)⟩
  ·have hex : midI (valsM n ns) j = valsM n ns := by
    by_cases h2 : L = 0
    ·rw [hL0 h2]
     exact (vals_zero n ns (by rw [HL.out,h2])).symm
    ·have hj15 : j = 15 := by omega
     rw [hj15]
     have := midI_all (valsM n ns)
     rw [valsM_length] at this
     exact this
   rw [hex] at m
   have KM := Lib.hid m
   clear m hex HV hm
   have hlt2 : j < 15 → L = 0 := fun h => by omega
   by_cases h1 : j < 15
   ·have d1 : decide ((j : Int) < 15) = true := by simp; omega
    obtain rfl : L = 0 := hlt2 h1
    go_wp2_with fail
    go_ret
    exact ⟨g,rfl,KM.out⟩
   ·have d1 : decide ((j : Int) < 15) = false := by simp; omega
    go_wp2_with fail
    go_ret
    exact ⟨g,rfl,KM.out⟩
end
section
open Go.RowKit
def bodyFrom (ps : List (Int × Bool)) (said : Nat) : Int := if said = 0 then 0 else (ps.map (·.1)).getD (said - 1) 0
def bodyLo (ps : List (Int × Bool)) (said n : Nat) : Nat := min (bodyFrom ps said).toNat n
def bodyHi (ps : List (Int × Bool)) (said to_ n : Nat) : Nat := min (max ((ps.map (·.1)).getD (to_ - 1) 0) (bodyFrom ps said)).toNat n
def bodyM (ps : List (Int × Bool)) (bs : List UInt8) (said to_ : Nat) : List UInt8 := (bs.drop (bodyLo ps said bs.length)).take (bodyHi ps said to_ bs.length - bodyLo ps said bs.length)
theorem bodyLo_le (ps : List (Int × Bool)) (said to_ n : Nat) : bodyLo ps said n ≤ bodyHi ps said to_ n ∧ bodyHi ps said to_ n ≤ n := by
 unfold bodyLo bodyHi
 omega
def bodyW (bg vc lo hi_ : Nat) : Value := if vc = lo then .slice (some ⟨bg,0,none⟩) 0 0 else .slice (some ⟨bg,lo,none⟩) (hi_ - lo) (vc - lo)
theorem bodyW_bv {w : World} {bg n vc : Nat} {ps : List (Int × Bool)} {bs : List UInt8} {said to_ : Nat} (h : BV w (.slice (some ⟨bg,0,none⟩) n vc) bs) (hn : bs.length = n) (hv : n ≤ vc) : BV w (bodyW bg vc (bodyLo ps said n) (bodyHi ps said to_ n)) (bodyM ps bs said to_) := by
 obtain ⟨l1,l2⟩ := bodyLo_le ps said to_ n
 unfold bodyW
 split
 ·rename_i he
  have e : bodyM ps bs said to_ = [] := by unfold bodyM; rw [hn,show bodyHi ps said to_ n - bodyLo ps said n = 0 by omega,List.take_zero]
  rw [e]
  exact ⟨_,0,rfl,Nat.le_refl _,by decide,rfl,fun h => absurd h (by decide)⟩
 ·have b2 := BV.mid h (bodyLo ps said n) (bodyHi ps said to_ n) l1 l2
  rw [Nat.zero_add] at b2
  unfold bodyM
  rw [hn]
  exact b2
set_option maxHeartbeats 2000000 in
theorem body_w1 (x : SpotX) (vp : Value) (ps : List (Int × Bool)) (said to_ bg vc n : Nat) (Hp : List HB) (w : World) (hc1 : w.cell? ⟨x.d.lb,x.k * 5 + 1,none⟩ = some vp) (hc2 : w.cell? ⟨x.d.lb,x.k * 5 + 2,none⟩ = some (.slice (some ⟨bg,0,none⟩) n vc)) (hc3 : w.cell? ⟨x.d.lb,x.k * 5 + 3,none⟩ = some (.int .i64 (said : Int)))
    (hp : RowP vp ps Hp) (hsp : Sat w Hp) (hn : ps.length ≤ 1000) (hm : n ≤ 10000000) (hvc : n ≤ vc) (he : ∀ p ∈ ps,0 ≤ p.1 ∧ p.1 ≤ 100000000) (hx : x.k ≤ 100000) (hst : said < to_) (hto : to_ ≤ ps.length) :
    Calls Try.prog 30 #[x.v,.int .i64 (to_ : Int)] w fun e w' => e = .returned (bodyW bg vc (bodyLo ps said n) (bodyHi ps said to_ n)) ∧ Mv w [] w' [] := by
  have hlt := World.block_lt_of_cell? w _ hc1
  have M0 := mv_alloc w 67 x.cells
  obtain ⟨w1,hw1⟩ : ∃ w1,w1 = w.alloc (.cells x.cells 67) := ⟨_,rfl⟩
  rw [← hw1] at M0
  have SE := Lib.hid (fun (W : World) (m : Mv w [] W [⟨w.heap.size,67,x.cells⟩]) => spot_ends x vp ps Hp W (m.drop1.old hc1 hlt) hp (Mv.drop (A := [_]) (Mv.frame (R := Hp) m (by simpa using hsp))).sat hn hx)
  have b0 : w1.cell? ⟨w.heap.size,0,none⟩ = x.cells[0]? := M0.cell 0 rfl 0
  have b1 : w1.cell? ⟨w.heap.size,1,none⟩ = x.cells[1]? := M0.cell 0 rfl 1
  have b2 : w1.cell? ⟨w.heap.size,2,none⟩ = x.cells[2]? := M0.cell 0 rfl 2
  obtain ⟨l,hle⟩ : ∃ l,ps.map (·.1) = l := ⟨_,rfl⟩
  have hll : l.length = ps.length := by rw [← hle,List.length_map]
  have hlb : ∀ i,0 ≤ l.getD i 0 ∧ l.getD i 0 ≤ 100000000 := getD_bd l (by rw [← hle]; intro e h; obtain ⟨p,hp,rfl⟩ := List.mem_map.1 h; exact he p hp)
  have hlg : ∀ i,i < ps.length → l[i]? = some (l.getD i 0) := by
    intro i hi
    rw [List.getD_eq_getElem?_getD,List.getElem?_eq_getElem (by rw [hll]; exact hi)]
    rfl
  obtain ⟨fr,hfr⟩ : ∃ fr,bodyFrom ps said = fr := ⟨_,rfl⟩
  obtain ⟨e1,he1⟩ : ∃ e1,l.getD (to_ - 1) 0 = e1 := ⟨_,rfl⟩
  have hfrb : 0 ≤ fr ∧ fr ≤ 100000000 := by
    rw [← hfr]
    unfold bodyFrom
    rw [hle]
    split
    · exact ⟨by omega,by omega⟩
    · exact hlb _
  have he1b : 0 ≤ e1 ∧ e1 ≤ 100000000 := by rw [← he1]; exact hlb _
  obtain ⟨lo,hlo⟩ : ∃ lo,bodyLo ps said n = lo := ⟨_,rfl⟩
  obtain ⟨hi_,hhi⟩ : ∃ hi_,bodyHi ps said to_ n = hi_ := ⟨_,rfl⟩
  have hlh := bodyLo_le ps said to_ n
  rw [hlo,hhi] at hlh ⊢
  obtain ⟨mx,hmx⟩ : ∃ mx,max e1 fr = mx := ⟨_,rfl⟩
  have elo : (if (n : Int) < fr then (n : Int) else fr) = (lo : Int) := by
    rw [← hlo]; unfold bodyLo; rw [hfr]; split <;> omega
  have emx : (if e1 < fr then fr else e1) = mx := by
    rw [← hmx]; split <;> omega
  have ehi : (if (n : Int) < mx then (n : Int) else mx) = (hi_ : Int) := by
    rw [← hhi]; unfold bodyHi; rw [hfr,hle,he1,hmx]; split <;> omega
  have KL := Lib.hid (And.intro hfr (And.intro hle (And.intro he1 (And.intro hlo hhi))))
  have KG := Lib.hid hlg
  have KB := Lib.hid hlb
  have K0 := Lib.hid M0
  have HW := Lib.hid (show w1 = w.alloc (.cells #[.pointer (some ⟨x.d.lb,x.k * 5,none⟩),.pointer (some ⟨x.d.bb,0,none⟩),.int .i64 (x.k : Int)] 67) from hw1)
  have HST := Lib.hid (And.intro hc1 (And.intro hc2 hc3))
  have hel : (ps.map (·.1)).length = ps.length := List.length_map _
  rw [hle] at SE
  obtain ⟨np,hnp⟩ : ∃ np,ps.length = np := ⟨_,rfl⟩
  rw [hnp] at hto hll KG hn
  unfold SpotX.cells at b0 b1 b2
  unfold SpotX.v
  unfold SpotX.v at SE
  have R : Hid (∀ W v Hn,RowI v l Hn → Mv w1 [] W Hn → ∃ eg ec,v = .slice (some ⟨eg,0,none⟩) np ec ∧ (Mv w [] W []) ∧ (∀ i,i < np → W.cell? ⟨eg,i,none⟩ = some (.int .i64 (l.getD i 0))) ∧
      W.cell? ⟨w.heap.size,0,none⟩ = some (.pointer (some ⟨x.d.lb,x.k * 5,none⟩)) ∧ W.cell? ⟨x.d.lb,x.k * 5 + 2,none⟩ = some (.slice (some ⟨bg,0,none⟩) n vc) ∧ W.cell? ⟨x.d.lb,x.k * 5 + 3,none⟩ = some (.int .i64 (said : Int))) := Lib.hid (by
    intro W v Hn r m
    obtain ⟨A,c,rfl⟩ := r.slice
    obtain ⟨eg,rfl⟩ := r.form (by omega)
    have m2 : Mv w [] W (Hn ++ [⟨w.heap.size,67,x.cells⟩]) := Mv.call (H := []) K0.out m
    have old := fun (q : Addr) (u : Value) (h : w.cell? q = some u) => m2.old h (World.block_lt_of_cell? w q h)
    refine ⟨eg,c,by rw [hll],(m2.drop).drop1,fun i hi => r.at_ m.sat (KG.out i hi),?_,old _ _ HST.out.2.1,old _ _ HST.out.2.2⟩
    exact (m2.drop).cell 0 rfl 0)
  clear hw1 M0 hc1 hc2 hc3 hp hsp he hlg hlb hfr hle he1 hlo hhi hlt hel hll hmx hfrb he1b
  go_enter Try.func30,Try.ntmps30
  go_upto_region 1 with fail
  rw [← HW.out]
  go_upto_if 14 with (go_at_call 63; with_reducible refine (SE.out _ K0.out).mono ?_; rintro e w2 ⟨v,Hn,rfl,hr,m2⟩; obtain ⟨eg,ec,rfl,m3,y1,y2,y3,y4⟩ := R.out _ _ _ hr m2; have Y := Lib.hid y1; have M3 := Lib.hid m3; clear hr m2 m3 y1)
  have hYto := Y.out (to_ - 1) (by omega)
  rw [KL.out.2.2.1] at hYto
  have ect : (to_ : Int) - 1 = ((to_ - 1 : Nat) : Int) := by omega
  have hct : ((to_ - 1 : Nat) : Int) < (np : Int) := by omega
  have hcn : to_ - 1 < np := by omega
  go_cut [6,14] from 15 (fun s6 s14 wx => s6 = .int .i64 fr ∧ wx = w2)
  case first =>
    by_cases h0 : said = 0
    · subst h0
      have e : fr = 0 := by rw [← KL.out.1]; rfl
      have E := Lib.hid e
      clear e
      go_wp2_with fail
      go_meet
      exact ⟨by rw [E.out],rfl⟩
    · have hYs := Y.out (said - 1) (by omega)
      have e : l.getD (said - 1) 0 = fr := by rw [← KL.out.1]; unfold bodyFrom; rw [if_neg h0,KL.out.2.1]
      rw [e] at hYs
      have h1 : 0 < said := by omega
      have d1 : decide ((0 : Int) < (said : Int)) = true := by simp; omega
      have es : (said : Int) - 1 = ((said - 1 : Nat) : Int) := by omega
      have h2 : said - 1 < np := by omega
      clear e h0
      go_wp2_with fail
      go_meet
      exact ⟨rfl,rfl⟩
  case rest =>
    obtain ⟨rfl,rfl⟩ := hcut
    go_upto_region 5 with fail
    go_quiet (fail)
    go_wp2_with fail
    all_goals
      go_ret
      refine ⟨?_,M3.out.drewN nq⟩
      refine congrArg Ending.returned ?_
      unfold bodyW
      first
      | (rw [if_neg (by omega)]; rfl)
      | (have e0 : hi_ - lo = 0 := by omega
         rw [if_pos (by omega)]
         simp [e0])
      | (have e0 : hi_ - lo = 0 := by omega
         have e1 : vc - lo = 0 := by omega
         rw [if_pos (by omega)]
         simp [e0,e1])
set_option maxHeartbeats 2000000 in
theorem body_w0 (x : SpotX) (vp : Value) (ps : List (Int × Bool)) (said to_ : Nat) (Hp : List HB) (w : World) (hc1 : w.cell? ⟨x.d.lb,x.k * 5 + 1,none⟩ = some vp) (hc2 : w.cell? ⟨x.d.lb,x.k * 5 + 2,none⟩ = some (.slice none 0 0)) (hc3 : w.cell? ⟨x.d.lb,x.k * 5 + 3,none⟩ = some (.int .i64 (said : Int)))
  (hp : RowP vp ps Hp) (hsp : Sat w Hp) (hn : ps.length ≤ 1000) (he : ∀ p ∈ ps,0 ≤ p.1 ∧ p.1 ≤ 100000000) (hx : x.k ≤ 100000) (hst : said < to_) (hto : to_ ≤ ps.length) :
  Calls Try.prog 30 #[x.v,.int .i64 (to_ : Int)] w fun e w' => e = .returned (.slice none 0 0) ∧ Mv w [] w' [] := by
 have hlt := World.block_lt_of_cell? w _ hc1
 have M0 := mv_alloc w 67 x.cells
 obtain ⟨w1,hw1⟩ : ∃ w1,w1 = w.alloc (.cells x.cells 67) := ⟨_,rfl⟩
 rw [← hw1] at M0
 have SE := Lib.hid (fun (W : World) (m : Mv w [] W [⟨w.heap.size,67,x.cells⟩]) => spot_ends x vp ps Hp W (m.drop1.old hc1 hlt) hp (Mv.drop (A := [_]) (Mv.frame (R := Hp) m (by simpa using hsp))).sat hn hx)
 have b0 : w1.cell? ⟨w.heap.size,0,none⟩ = x.cells[0]? := M0.cell 0 rfl 0
 have b1 : w1.cell? ⟨w.heap.size,1,none⟩ = x.cells[1]? := M0.cell 0 rfl 1
 have b2 : w1.cell? ⟨w.heap.size,2,none⟩ = x.cells[2]? := M0.cell 0 rfl 2
 obtain ⟨l,hle⟩ : ∃ l,ps.map (·.1) = l := ⟨_,rfl⟩
 have hll : l.length = ps.length := by rw [← hle,List.length_map]
 have hlb : ∀ i,0 ≤ l.getD i 0 ∧ l.getD i 0 ≤ 100000000 := getD_bd l (by rw [← hle]; intro e h; obtain ⟨p,hp,rfl⟩ := List.mem_map.1 h; exact he p hp)
 have hlg : ∀ i,i < ps.length → l[i]? = some (l.getD i 0) := by
  intro i hi
  rw [List.getD_eq_getElem?_getD,List.getElem?_eq_getElem (by rw [hll]; exact hi)]
  rfl
 obtain ⟨fr,hfr⟩ : ∃ fr,bodyFrom ps said = fr := ⟨_,rfl⟩
 obtain ⟨e1,he1⟩ : ∃ e1,l.getD (to_ - 1) 0 = e1 := ⟨_,rfl⟩
 have hfrb : 0 ≤ fr ∧ fr ≤ 100000000 := by
  rw [← hfr]
  unfold bodyFrom
  rw [hle]
  split
  ·exact ⟨by omega,by omega⟩
  ·exact hlb _
 have he1b : 0 ≤ e1 ∧ e1 ≤ 100000000 := by rw [← he1]; exact hlb _
 obtain ⟨lo,hlo⟩ : ∃ lo,bodyLo ps said 0 = lo := ⟨_,rfl⟩
 obtain ⟨hi_,hhi⟩ : ∃ hi_,bodyHi ps said to_ 0 = hi_ := ⟨_,rfl⟩
 have hlh := bodyLo_le ps said to_ 0
 rw [hlo,hhi] at hlh
 obtain rfl : lo = 0 := by omega
 obtain rfl : hi_ = 0 := by omega
 obtain ⟨mx,hmx⟩ : ∃ mx,max e1 fr = mx := ⟨_,rfl⟩
 have elo : (if (0 : Int) < fr then (0 : Int) else fr) = (0 : Int) := by
  split <;> omega
 have emx : (if e1 < fr then fr else e1) = mx := by
  rw [← hmx]; split <;> omega
 have ehi : (if (0 : Int) < mx then (0 : Int) else mx) = (0 : Int) := by
  split <;> omega
 have KL := Lib.hid (And.intro hfr (And.intro hle (And.intro he1 (And.intro hlo hhi))))
 have KG := Lib.hid hlg
 have KB := Lib.hid hlb
 have K0 := Lib.hid M0
 have HW := Lib.hid (show w1 = w.alloc (.cells #[.pointer (some ⟨x.d.lb,x.k * 5,none⟩),.pointer (some ⟨x.d.bb,0,none⟩),.int .i64 (x.k : Int)] 67) from hw1)
 have HST := Lib.hid (And.intro hc1 (And.intro hc2 hc3))
 have hel : (ps.map (·.1)).length = ps.length := List.length_map _
 rw [hle] at SE
 obtain ⟨np,hnp⟩ : ∃ np,ps.length = np := ⟨_,rfl⟩
 rw [hnp] at hto hll KG hn
 unfold SpotX.cells at b0 b1 b2
 unfold SpotX.v
 unfold SpotX.v at SE
 have R : Hid (∀ W v Hn,RowI v l Hn → Mv w1 [] W Hn → ∃ eg ec,v = .slice (some ⟨eg,0,none⟩) np ec ∧ (Mv w [] W []) ∧ (∀ i,i < np → W.cell? ⟨eg,i,none⟩ = some (.int .i64 (l.getD i 0))) ∧
   W.cell? ⟨w.heap.size,0,none⟩ = some (.pointer (some ⟨x.d.lb,x.k * 5,none⟩)) ∧ W.cell? ⟨x.d.lb,x.k * 5 + 2,none⟩ = some (.slice none 0 0) ∧ W.cell? ⟨x.d.lb,x.k * 5 + 3,none⟩ = some (.int .i64 (said : Int))) := Lib.hid (by
  intro W v Hn r m
  obtain ⟨A,c,rfl⟩ := r.slice
  obtain ⟨eg,rfl⟩ := r.form (by omega)
  have m2 : Mv w [] W (Hn ++ [⟨w.heap.size,67,x.cells⟩]) := Mv.call (H := []) K0.out m
  have old := fun (q : Addr) (u : Value) (h : w.cell? q = some u) => m2.old h (World.block_lt_of_cell? w q h)
  refine ⟨eg,c,by rw [hll],(m2.drop).drop1,fun i hi => r.at_ m.sat (KG.out i hi),?_,old _ _ HST.out.2.1,old _ _ HST.out.2.2⟩
  exact (m2.drop).cell 0 rfl 0)
 clear hw1 M0 hc1 hc2 hc3 hp hsp he hlg hlb hfr hle he1 hlo hhi hlt hel hll hmx hfrb he1b
 go_enter Try.func30,Try.ntmps30
 go_upto_region 1 with fail
 rw [← HW.out]
 go_upto_if 14 with (go_at_call 63; with_reducible refine (SE.out _ K0.out).mono ?_; rintro e w2 ⟨v,Hn,rfl,hr,m2⟩; obtain ⟨eg,ec,rfl,m3,y1,y2,y3,y4⟩ := R.out _ _ _ hr m2; have Y := Lib.hid y1; have M3 := Lib.hid m3; clear hr m2 m3 y1)
 have hYto := Y.out (to_ - 1) (by omega)
 rw [KL.out.2.2.1] at hYto
 have ect : (to_ : Int) - 1 = ((to_ - 1 : Nat) : Int) := by omega
 have hct : ((to_ - 1 : Nat) : Int) < (np : Int) := by omega
 have hcn : to_ - 1 < np := by omega
 go_cut [6,14] from 15 (fun s6 s14 wx => s6 = .int .i64 fr ∧ wx = w2)
 case first =>
  by_cases h0 : said = 0
  ·subst h0
   have e : fr = 0 := by rw [← KL.out.1]; rfl
   have E := Lib.hid e
   clear e
   go_wp2_with fail
   go_meet
   exact ⟨by rw [E.out],rfl⟩
  ·have hYs := Y.out (said - 1) (by omega)
   have e : l.getD (said - 1) 0 = fr := by rw [← KL.out.1]; unfold bodyFrom; rw [if_neg h0,KL.out.2.1]
   rw [e] at hYs
   have h1 : 0 < said := by omega
   have d1 : decide ((0 : Int) < (said : Int)) = true := by simp; omega
   have es : (said : Int) - 1 = ((said - 1 : Nat) : Int) := by omega
   have h2 : said - 1 < np := by omega
   clear e h0
   go_wp2_with fail
   go_meet
   exact ⟨rfl,rfl⟩
 case rest =>
  obtain ⟨rfl,rfl⟩ := hcut
  go_upto_region 5 with fail
  go_quiet (fail)
  go_wp2_with fail
  all_goals
   go_ret
   refine ⟨?_,M3.out.drewN nq⟩
   refine congrArg Ending.returned ?_
   first | rfl | simp
theorem body_any (x : SpotX) (vp vb : Value) (ps : List (Int × Bool)) (bs : List UInt8) (said to_ : Nat) (Hp Hb : List HB) (hp : RowP vp ps Hp) (hb : RowB vb bs Hb) (hn : ps.length ≤ 1000) (hm : bs.length ≤ 10000000) (he : ∀ p ∈ ps,0 ≤ p.1 ∧ p.1 ≤ 100000000) (hx : x.k ≤ 100000) (hst : said < to_) (hto : to_ ≤ ps.length) :
  ∃ v0,(∀ W,Sat W Hb → BV W v0 (bodyM ps bs said to_)) ∧ ∀ w,w.cell? ⟨x.d.lb,x.k * 5 + 1,none⟩ = some vp → w.cell? ⟨x.d.lb,x.k * 5 + 2,none⟩ = some vb → w.cell? ⟨x.d.lb,x.k * 5 + 3,none⟩ = some (.int .i64 (said : Int)) → Sat w Hp →
   Calls Try.prog 30 #[x.v,.int .i64 (to_ : Int)] w fun e w' => e = .returned v0 ∧ Mv w [] w' [] := by
 rcases hb.2 with ⟨rfl,h0,h1⟩ | ⟨bg,vc,cur,rfl,h1,h2,-⟩
 ·have e0 : bs = [] := List.eq_nil_of_length_eq_zero h0
  subst e0
  refine ⟨.slice none 0 0,fun W hW => ?_,fun w c1 c2 c3 sp => body_w0 x vp ps said to_ Hp w c1 c2 c3 hp sp hn he hx hst hto⟩
  have e : bodyM ps [] said to_ = [] := by simp [bodyM]
  rw [e]
  exact ⟨none,0,rfl,Nat.le_refl _,by decide,rfl,fun h => absurd h (by decide)⟩
 ·exact ⟨_,fun W hW => bodyW_bv (hb.bv hW) rfl h1,fun w c1 c2 c3 sp => body_w1 x vp ps said to_ bg vc bs.length Hp w c1 c2 c3 hp sp hn hm h1 he hx hst hto⟩
end
section
open Go.RowKit
theorem passN_le_total (t : Nat) (n l : Int) : passN (t : Int) n l ≤ (t : Int) := by
 unfold passN
 split
 ·omega
 ·split
  ·omega
  ·split
   ·omega
   ·have h1 : 1 ≤ min n 100 := by omega
    have h2 : 0 ≤ min (max (t : Int) 0) 100 ∧ min (max (t : Int) 0) 100 ≤ t := by omega
    have h3 : 1 ≤ min l 100 ∧ min l 100 ≤ min n 100 := by omega
    generalize min n 100 = a at *
    generalize min (max (t : Int) 0) 100 = b at *
    generalize min l 100 = c at *
    have h4 : b * c ≤ b * a := Int.mul_le_mul_of_nonneg_left h3.2 h2.1
    have h5 : b * c / a ≤ b := Int.ediv_le_of_le_mul (by omega) h4
    omega
def toM (count layer : Nat) (s : StM) : Nat := max (passN s.ps.length (count : Int) ((layer : Int) + 1)).toNat s.said.toNat
def setSaidM (m : BandM) (k to_ : Nat) : BandM := match m.ss[k]? with
 | none => m
 | some s => { m with ss := m.ss.set k (s.withS (to_ : Int) s.lb) }
structure PackS where
 M : Nat → BandM
 bits : List Bool
 body : List UInt8
def stepE (count style layer : Nat) (S : PackS) (x : SpotX) : PackS := match (S.M x.d.bb).ss[x.k]? with
  | none => S
  | some s =>
    ⟨updM S.M x.d.bb (setSaidM (headM (S.M x.d.bb) x.k style layer s.said.toNat (toM count layer s) s).1 x.k (toM count layer s)),
     S.bits ++ (headM (S.M x.d.bb) x.k style layer s.said.toNat (toM count layer s) s).2,
     if s.said.toNat < toM count layer s then S.body ++ bodyM s.ps s.bs s.said.toNat (toM count layer s) else S.body⟩
structure GoodS (s : StM) : Prop where
 pl : 0 ≤ s.pl ∧ s.pl ≤ 60
 lb : s.lb ≤ 100
 bs : s.bs.length ≤ 300000
structure GoodB (m : BandM) : Prop where
 pl : 0 ≤ m.planes ∧ m.planes ≤ 60
 ss : ∀ s ∈ m.ss,GoodS s
theorem GoodB.plant {m : BandM} (h : GoodB m) (c : Nat) : GoodB (plantM c m) := by
 obtain ⟨e1,e2⟩ := plantM_ss c m
 exact ⟨by rw [e2]; exact h.pl,by rw [e1]; exact h.ss⟩
theorem GoodB.setS {m : BandM} (h : GoodB m) {k : Nat} {s : StM} (hs : m.ss[k]? = some s) (f z : List LevM) (said lb : Int) (hl : lb ≤ 100) : GoodB { m with first := f,zeros := z,ss := m.ss.set k (s.withS said lb) } := by
 refine ⟨h.pl,fun x hx => ?_⟩
 rcases List.mem_or_eq_of_mem_set hx with hx | rfl
 ·exact h.ss x hx
 ·have := h.ss s (List.mem_of_getElem? hs)
  exact ⟨this.pl,hl,this.bs⟩
theorem needM_le (s : StM) (style said to_ : Nat) (he : ∀ p ∈ s.ps,0 ≤ p.1 ∧ p.1 ≤ 100000000) (hl : s.lb ≤ 100) : needM s style said to_ ≤ 100 ∧ s.lb ≤ needM s style said to_ ∧ needM s style said to_ ≤ max s.lb 41 := by
 have h2 := needK_bd (segL1 style said to_) (segL2 s style said to_) s.lb (fun i => (sizesM_getD _ (by intro e h; obtain ⟨p,hp,rfl⟩ := List.mem_map.1 h; exact he p hp) said (piecesM style said to_) i).2) (piecesM style said to_).length
 unfold needM
 omega
def headS (s : StM) (style said to_ : Nat) : StM := if to_ = said then s else s.withS s.said (needM s style said to_)
theorem headM_get (m : BandM) (k style layer said to_ : Nat) (s : StM) (h : m.ss[k]? = some s) : (headM m k style layer said to_ s).1.ss[k]? = some (headS s style said to_) := by
 unfold headM headS
 split
 ·exact h
 ·exact List.getElem?_set_self (List.getElem?_eq_some_iff.1 h).1
theorem headS_same (s : StM) (style said to_ : Nat) : (headS s style said to_).ps = s.ps ∧ (headS s style said to_).bs = s.bs ∧ (headS s style said to_).said = s.said := by
 unfold headS
 split <;> exact ⟨rfl,rfl,rfl⟩
theorem GoodB.head {m : BandM} (g : GoodB m) {k : Nat} {s : StM} (h : m.ss[k]? = some s) (style layer said to_ : Nat) (he : ∀ p ∈ s.ps,0 ≤ p.1 ∧ p.1 ≤ 100000000) : GoodB (headM m k style layer said to_ s).1 := by
 have gs := g.ss s (List.mem_of_getElem? h)
 unfold headM
 split
 ·exact ⟨g.pl,g.ss⟩
 ·exact g.setS h _ _ _ _ (needM_le s style said to_ he gs.lb).1
theorem GoodB.said {m : BandM} (g : GoodB m) (k to_ : Nat) : GoodB (setSaidM m k to_) := by
 unfold setSaidM
 split
 ·exact g
 ·rename_i s hs
  exact g.setS hs m.first m.zeros _ _ (g.ss s (List.mem_of_getElem? hs)).lb
theorem headM_length (m : BandM) (k style layer said to_ : Nat) (s : StM) (hf : m.first.length ≤ 20) (hz : m.zeros.length ≤ 20) (g : GoodB m) (gs : GoodS s) (hl : layer ≤ 100) (he : ∀ p ∈ s.ps,0 ≤ p.1 ∧ p.1 ≤ 100000000) (hb : 0 ≤ s.lb) (ht : to_ ≤ 1000) : (headM m k style layer said to_ s).2.length ≤ 130000 := by
 have h1 := headF_length m k layer said to_ hf hl
 have gp := g.pl
 have gq := gs.pl
 have h2 := headZ_length m k said s hz (by omega)
 have h3 := tellM_length (to_ - said)
 have h4 := needM_le s style said to_ he gs.lb
 have h5 := bitsK_length (segL1 style said to_) (segL2 s style said to_) (needM s style said to_) (piecesM style said to_).length
 have h6 := pieces_length style said to_
 have h7 := gs.lb
 unfold headM
 split
 ·simp only
  omega
 ·simp only [sizesB,List.length_append,List.length_replicate,List.length_cons]
  omega
theorem bands_at {D : List BandA} {M : Nat → BandM} {HB1 : List HB} (hB : BandsR D M HB1) {w0 w : World} {H0 Y : List HB} (m : Mv w0 H0 w (Y ++ HB1)) {d : BandA} (hd : d ∈ D) : ∃ (b : BandG) (R : List HB),b.ok d ∧ b.model = M d.bb ∧ (∀ W,Mv w0 H0 W (Y ++ HB1) → Mv w0 H0 W ((Y ++ R) ++ b.heap d)) ∧
  ∀ (b' : BandG) (Y' : List HB),b'.ok d → ∃ HB',BandsR D (updM M d.bb b'.model) HB' ∧ ∀ W,Mv w0 H0 W ((Y' ++ R) ++ b'.heap d) → Mv w0 H0 W (Y' ++ HB') := by
 obtain ⟨H1,R,⟨b,hb1,hb2,rfl⟩,sm,back⟩ := hB.split m.sat.right.1 hd
 refine ⟨b,R,hb2,hb1,fun W mW => ?_,fun b' Y' hb' => ?_⟩
 ·refine mW.sub (fun g => ?_) (fun y hy => ?_)
  ·have := sm.1 g
   simp only [cnt_append] at this ⊢
   omega
  ·have := sm.2 y
   simp only [List.mem_append] at this hy ⊢
   grind
 ·obtain ⟨HB',h3,h4⟩ := back b'.model _ ⟨b',rfl,hb',rfl⟩
  refine ⟨HB',h3,fun W mW => mW.sub (fun g => ?_) (fun y hy => ?_)⟩
  ·have := h4.1 g
   simp only [cnt_append] at this ⊢
   omega
  ·have := h4.2 y
   simp only [List.mem_append] at this hy ⊢
   grind
theorem model_get {b : BandG} {m : BandM} (e : b.model = m) {k : Nat} {s : StM} (h : m.ss[k]? = some s) : ∃ st,b.G[k]? = some st ∧ st.m = s := by
 subst e
 simp only [BandG.model,List.getElem?_map] at h
 exact Option.map_eq_some_iff.1 h
section
variable {D : List BandA} {M : Nat → BandM} {HB1 H0 Y HW : List HB} {w0 w : World} {d : BandA} {k wb : Nat} {s : StM} {bs : List Bool}
theorem step_head (hB : BandsR D M HB1) (hd : d ∈ D) (hk : k < d.n) (hs : (M d.bb).ss[k]? = some s) (g : GoodB (M d.bb)) (hw : WrB wb bs HW) (m : Mv w0 H0 w ((HW ++ Y) ++ HB1)) (style layer to_ : Nat) (h1 : s.said.toNat ≤ to_) (h2 : to_ ≤ s.ps.length) (h3 : style ≤ 63) (h4 : layer ≤ 100) (h5 : bs.length ≤ 40000000) :
  Calls Try.prog 29 #[SpotX.v ⟨d,k⟩,.pointer (some ⟨wb,0,none⟩),.int .i64 (style : Int),.int .i64 (layer : Int),.int .i64 (to_ : Int)] w fun e w' => e = .returned (.tuple #[]) ∧
   ∃ HW' HB',WrB wb (bs ++ (headM (M d.bb) k style layer s.said.toNat to_ s).2) HW' ∧ BandsR D (updM M d.bb (headM (M d.bb) k style layer s.said.toNat to_ s).1) HB' ∧ Mv w0 H0 w' ((HW' ++ Y) ++ HB') := by
 obtain ⟨b,R,ok,em,fwd,back⟩ := bands_at hB m hd
 obtain ⟨st,hst,rfl⟩ := model_get em hs
 have gs := g.ss _ (List.mem_of_getElem? hs)
 have hso := ok.st st (List.mem_of_getElem? hst)
 have gp := g.pl
 rw [← em] at gp ⊢
 have m1 : Mv w0 H0 w ((HW ++ b.heap d) ++ (Y ++ R)) := (fwd w m).sub (fun g => by simp only [cnt_append]; omega) (fun c hc => by simp only [List.mem_append] at hc ⊢; grind)
 refine (head_any d b k wb style layer st.m.said.toNat to_ st bs HW w ok hk hst hw m1.sat.left gp gs.pl gs.lb (by have := hso.2.2.said; omega) h1 h2 h3 h4 h5).mono ?_
 rintro e w' ⟨rfl,b',HW',q1,q2,q3,q4⟩
 obtain ⟨HB',h6,h7⟩ := back b' (HW' ++ Y) q1
 refine ⟨rfl,HW',HB',q3,by rw [← q2]; exact h6,h7 w' ?_⟩
 exact (Mv.call m1 q4).sub (fun g => by simp only [cnt_append]; omega) (fun c hc => by simp only [List.mem_append] at hc ⊢; grind)
theorem step_body (hB : BandsR D M HB1) (hd : d ∈ D) (hk : k < d.n) (hs : (M d.bb).ss[k]? = some s) (m : Mv w0 H0 w (Y ++ HB1)) (to_ : Nat) (h1 : s.said.toNat < to_) (h2 : to_ ≤ s.ps.length) :
  ∃ v0,∀ W,Mv w0 H0 W (Y ++ HB1) → BV W v0 (bodyM s.ps s.bs s.said.toNat to_) ∧ Calls Try.prog 30 #[SpotX.v ⟨d,k⟩,.int .i64 (to_ : Int)] W fun e w' => e = .returned v0 ∧ Mv w0 H0 w' (Y ++ HB1) := by
 obtain ⟨b,R,ok,em,fwd,back⟩ := bands_at hB m hd
 obtain ⟨st,hst,rfl⟩ := model_get em hs
 have hso := ok.st st (List.mem_of_getElem? hst)
 have hkk : k < 4096 := Nat.lt_of_lt_of_le hk ok.small
 obtain ⟨v0,b1,b2⟩ := body_any ⟨d,k⟩ st.vp st.vb st.m.ps st.m.bs st.m.said.toNat to_ st.Hp st.Hb hso.1 hso.2.1 hso.2.2.np hso.2.2.nb hso.2.2.ends (by show k ≤ 100000; omega) h1 h2
 refine ⟨v0,fun W mW => ?_⟩
 have m1 := fwd W mW
 have sb := StG.sat m1.sat.right (List.mem_of_getElem? hst)
 have a3 := Mv.blkm m1 (List.mem_append_right _ (b.mem_states d))
 obtain ⟨c0,c1,c2,c3,c4,-⟩ := state_cells a3 hst
 refine ⟨b1 W sb.2,(b2 W c1 c2 (by have h3 := hso.2.2.said.1; rw [Int.toNat_of_nonneg h3]; exact c3) sb.1).mono ?_⟩
 rintro e w' ⟨rfl,m2⟩
 exact ⟨rfl,Mv.call (H := []) (H' := []) mW m2⟩
theorem step_said (hB : BandsR D M HB1) (hd : d ∈ D) (hs : (M d.bb).ss[k]? = some s) (m : Mv w0 H0 w (Y ++ HB1)) (to_ : Nat) (h2 : to_ ≤ s.ps.length) :
  ∃ HB',BandsR D (updM M d.bb (setSaidM (M d.bb) k to_)) HB' ∧ ∀ W,Mv w0 H0 W (Y ++ HB1) → Mv w0 H0 (W.setCell ⟨d.lb,k * 5 + 3,none⟩ (.int .i64 (to_ : Int))) (Y ++ HB') := by
 obtain ⟨b,R,ok,em,fwd,back⟩ := bands_at hB m hd
 obtain ⟨st,hst,rfl⟩ := model_get em hs
 have hso := ok.st st (List.mem_of_getElem? hst)
 have ok' := BandG.setS_ok ok hst (said := (to_ : Int)) (lb := st.m.lb) ⟨by omega,by omega⟩ hso.2.2.lb
 obtain ⟨HB',h6,h7⟩ := back (b.setS k st (to_ : Int) st.m.lb) Y ok'
 refine ⟨HB',?_,fun W mW => h7 _ ?_⟩
 ·have e : (b.setS k st (to_ : Int) st.m.lb).model = setSaidM (M d.bb) k to_ := by
   rw [BandG.setS_model,em]
   unfold setSaidM
   rw [hs]
  rw [← e]
  exact h6
 ·exact BandG.setS_mv (fwd W mW) hst (to_ : Int) st.m.lb 3 _ (by omega) rfl
theorem step_cells (hB : BandsR D M HB1) (hd : d ∈ D) (hs : (M d.bb).ss[k]? = some s) (m : Mv w0 H0 w (Y ++ HB1)) : ∃ A cp,∀ W,Mv w0 H0 W (Y ++ HB1) → W.cell? ⟨d.lb,k * 5 + 1,none⟩ = some (.slice A s.ps.length cp) ∧ W.cell? ⟨d.lb,k * 5 + 3,none⟩ = some (.int .i64 s.said) ∧ W.frozen? ⟨d.lb,k * 5 + 3,none⟩ = false := by
 obtain ⟨b,R,ok,em,fwd,back⟩ := bands_at hB m hd
 obtain ⟨st,hst,rfl⟩ := model_get em hs
 have hso := ok.st st (List.mem_of_getElem? hst)
 obtain ⟨A,cp,hvp⟩ := hso.passes
 refine ⟨A,cp,fun W mW => ?_⟩
 have a3 := Mv.blkm (fwd W mW) (List.mem_append_right _ (b.mem_states d))
 obtain ⟨c0,c1,c2,c3,c4,c5⟩ := state_cells a3 hst
 rw [hvp] at c1
 exact ⟨c1,c3,c5 _⟩
theorem step_fits (hB : BandsR D M HB1) (hd : d ∈ D) (hs : (M d.bb).ss[k]? = some s) : s.Fits ∧ (M d.bb).first.length ≤ 20 ∧ (M d.bb).zeros.length ≤ 20 := by
 obtain ⟨b,k1,k2,k3⟩ := hB.band hd
 obtain ⟨st,hst,rfl⟩ := model_get k1 hs
 rw [← k1]
 exact ⟨(k2.st st (List.mem_of_getElem? hst)).2.2,by have := k2.kf.1; simpa [BandG.model] using this,by have := k2.kz.1; simpa [BandG.model] using this⟩
end
end
end Go.Proofs.Ytnpoakabheeoeaa
