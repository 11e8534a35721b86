/- packet.take: whole. packet.headed: a round of its loop. packet.headed: whole. -/
import Derived.Test.YtnpoakabheeoeaaPk24
import Derived.Test.YtnpoakabheeoeaaPk25
import Derived.Test.YtnpoakabheeoeaaPk20
import Derived.Test.YtnpoakabheeoeaaPk12
set_option maxRecDepth 100000
namespace Go.Proofs.Ytnpoakabheeoeaa
section
open Go.RowKit
theorem BandG.open_st {b : BandG} {d : BandA} {k : Nat} {st : StG} (hg : b.G[k]? = some st) : ∃ R,Same (b.heap d) (bandB b d :: statesB b d :: (st.Hp ++ (st.Hb ++ R))) ∧ ∀ st' : StG,Same ((b.putS k st').heap d) (bandB b d :: ⟨d.lb,70,((b.G.set k st').flatMap StG.v).toArray⟩ :: (st'.Hp ++ (st'.Hb ++ R))) := by
 obtain ⟨hk,he⟩ := List.getElem?_eq_some_iff.1 hg
 have e0 : b.G = b.G.take k ++ st :: b.G.drop (k + 1) := by rw [← he]; simp
 have e1 : ∀ st',b.G.set k st' = b.G.take k ++ st' :: b.G.drop (k + 1) := fun st' => by rw [List.set_eq_take_append_cons_drop,if_pos hk]
 have f0 : b.G.flatMap StG.heap = (b.G.take k).flatMap StG.heap ++ ((st.Hp ++ st.Hb) ++ (b.G.drop (k + 1)).flatMap StG.heap) := by
  conv => lhs; rw [e0]
  rw [List.flatMap_append,List.flatMap_cons]
  rfl
 have f1 : ∀ st',(b.putS k st').G.flatMap StG.heap = (b.G.take k).flatMap StG.heap ++ ((st'.Hp ++ st'.Hb) ++ (b.G.drop (k + 1)).flatMap StG.heap) := by
  intro st'
  show (b.G.set k st').flatMap StG.heap = _
  rw [e1,List.flatMap_append,List.flatMap_cons]
  rfl
 refine ⟨b.Hf ++ (b.Hz ++ ((b.G.take k).flatMap StG.heap ++ (b.G.drop (k + 1)).flatMap StG.heap)),⟨fun g => ?_,fun x => ?_⟩,fun st' => ⟨fun g => ?_,fun x => ?_⟩⟩
 ·unfold BandG.heap
  rw [f0]
  simp only [cnt_append,cnt_cons]
  omega
 ·unfold BandG.heap
  rw [f0]
  simp only [List.mem_append,List.mem_cons]
  grind
 ·unfold BandG.heap
  rw [f1]
  simp only [cnt_append,cnt_cons]
  show _ + (_ + (cnt g b.Hf + (cnt g b.Hz + _))) = _
  have e2 : (statesB (b.putS k st') d).g = d.lb := rfl
  have e3 : (bandB (b.putS k st') d).g = (bandB b d).g := rfl
  rw [e2,e3]
  omega
 ·unfold BandG.heap
  rw [f1]
  have e2 : statesB (b.putS k st') d = ⟨d.lb,70,((b.G.set k st').flatMap StG.v).toArray⟩ := rfl
  have e3 : bandB (b.putS k st') d = bandB b d := rfl
  have e4 : (b.putS k st').Hf = b.Hf := rfl
  have e5 : (b.putS k st').Hz = b.Hz := rfl
  rw [e2,e3,e4,e5]
  simp only [List.mem_append,List.mem_cons]
  grind
theorem take_set {b : BandG} {d : BandA} {k : Nat} {s1 s2 : StG} {w0 V : World} {H0 A R : List HB} (hk : k < b.G.length) (m : Mv w0 H0 V (A ++ ⟨d.lb,70,((b.G.set k s1).flatMap StG.v).toArray⟩ :: R)) (i : Nat) (x : Value) (hi : i < 5) (hv : s2.v = s1.v.set i x) :
  Mv w0 H0 (V.setCell ⟨d.lb,k * 5 + i,none⟩ x) (A ++ ⟨d.lb,70,((b.G.set k s2).flatMap StG.v).toArray⟩ :: R) := by
 have m2 := Mv.setAt m (k * 5 + i) x
 have e : ((b.G.set k s1).flatMap StG.v).toArray.setIfInBounds (k * 5 + i) x = ((b.G.set k s2).flatMap StG.v).toArray := by
  rw [List.setIfInBounds_toArray,flat_set StG.v 5 StG.v_length (b.G.set k s1) k s1 _ (List.getElem?_set_self hk) i hi x hv,List.set_set]
 rw [e] at m2
 exact m2
def passGo (style e : Nat) : Nat → List (Int × Bool) → List (Int × Bool)
 | 0,ps => ps
 | p + 1,ps => passGo style e p (ps ++ [((e : Int),endsM style ps.length)])
def takeM (style : Nat) (s : StM) (p : Nat) (data : List UInt8) : StM := { s with bs := s.bs ++ data,ps := passGo style (s.bs ++ data).length p s.ps }
theorem passGo_inv (style e : Nat) (he : e ≤ 100000000) : ∀ (p : Nat) (ps : List (Int × Bool)),(∀ q ∈ ps,0 ≤ q.1 ∧ q.1 ≤ 100000000) → (passGo style e p ps).length = ps.length + p ∧ ∀ q ∈ passGo style e p ps,0 ≤ q.1 ∧ q.1 ≤ 100000000
 | 0,ps,h => ⟨rfl,h⟩
 | p + 1,ps,h => by
  obtain ⟨h1,h2⟩ := passGo_inv style e he p (ps ++ [((e : Int),endsM style ps.length)]) (by
   intro q hq
   rcases List.mem_append.1 hq with hq | hq
   ·exact h q hq
   ·simp only [List.mem_singleton] at hq
    subst hq
    exact ⟨by simp only; omega,by simp only; omega⟩)
  exact ⟨by show (passGo style e p _).length = _; rw [h1,List.length_append,List.length_cons,List.length_nil]; omega,h2⟩
set_option maxHeartbeats 4000000 in
theorem take_r1 (K : Act → World → Prop) (k g lk nb nd bc dc : Nat) (ba da : Option Addr) (bs data : List UInt8) (Hb R H0 : List HB) (w0 w : World) (s0 s1 s4 s5 s6 s7 s8 s9 s10 s11 s12 s13 s14 s15 s16 s17 s18 s19 s20 s21 s22 s23 s24 s25 s26 s27 s28 s29 s30 s31 s32 s33 s34 s35 s36 s37 s38 s39 s40 s41 s42 s43 s44 s45 s46 s47 s48 s49 s50 s51 s52 s53 s54 s55 s56 s57 s58 s59 : Value)
  (CE : Hid (∀ V A',Mv w0 H0 V (A' ++ R) → V.cell? ⟨g,0,none⟩ = some (.pointer (some ⟨lk,k * 5,none⟩)) ∧ V.cell? ⟨lk,k * 5 + 2,none⟩ = some (.slice ba nb bc) ∧ V.frozen? ⟨lk,k * 5 + 2,none⟩ = false)) (hnb : bs.length = nb) (hnd : data.length = nd) (hrow : RowB (.slice ba nb bc) bs Hb) (hd : BV w (.slice da nd dc) data) (hl : bs.length + data.length ≤ 100000000) (hM : Mv w0 H0 w (Hb ++ R))
  (hK : ∀ (t6 t7 t8 t9 t10 t11 t12 t13 t14 t15 t16 t17 t18 t19 t20 : Value) (a2 : Option Addr) (c2 : Nat) (H2 : List HB) (w2 : World),RowB (.slice a2 (nb + nd) c2) (bs ++ data) H2 → Mv w0 H0 w2 (H2 ++ R) → K ⟨List.toArray (s0::s1::(.slice da nd dc)::(.pointer (some ⟨g,0,none⟩))::s4::s5::t6::t7::t8::t9::t10::t11::t12::t13::t14::t15::t16::t17::t18::t19::t20::s21::s22::s23::s24::s25::s26::s27::s28::s29::s30::s31::s32::s33::s34::s35::s36::s37::s38::s39::s40::s41::s42::s43::s44::s45::s46::s47::s48::s49::s50::s51::s52::s53::s54::s55::s56::s57::s58::s59::[]),[]⟩ (w2.setCell ⟨lk,k * 5 + 2,none⟩ (.slice a2 (nb + nd) c2))) :
  (regionOf 1 Try.f52).wp Try.prog (Exit.then K noQ) ⟨List.toArray (s0::s1::(.slice da nd dc)::(.pointer (some ⟨g,0,none⟩))::s4::s5::s6::s7::s8::s9::s10::s11::s12::s13::s14::s15::s16::s17::s18::s19::s20::s21::s22::s23::s24::s25::s26::s27::s28::s29::s30::s31::s32::s33::s34::s35::s36::s37::s38::s39::s40::s41::s42::s43::s44::s45::s46::s47::s48::s49::s50::s51::s52::s53::s54::s55::s56::s57::s58::s59::[]),[]⟩ w := by
 conv in (regionOf _ _) => whnf
 unfold noQ
 obtain ⟨x0,x2,x3⟩ := CE.out w.drew Hb hM.drew
 have KA := Lib.hid (And.intro hrow (And.intro hM.drew (And.intro (show BV w.drew (.slice da nd dc) data from hd) hl)))
 have HK := Lib.hid hK
 have HN := Lib.hid (And.intro hnb hnd)
 clear hK hrow hM hd hl hnb hnd
 go_region_law (first
  | ((with_reducible refine step_appB (o := ⟨some 17,_,_,_,_,_⟩) (v := .slice ba nb bc) (u := .slice da nd dc) (l := bs) (r := data) (H := Hb) rfl (.tmp 15) (.tmp 16) rfl ?_ ?_ KA.out.1 KA.out.2.1.sat.left KA.out.2.2.1 KA.out.2.2.2 ?_); simp [Act.eval]; simp [Act.eval]; intro v2 w2 H2 hr2 m2; obtain ⟨a2,c2,rfl⟩ := hr2.slice; rw [List.length_append,HN.out.1,HN.out.2] at hr2 ⊢; have K2 := Lib.hid (And.intro hr2 (Mv.call KA.out.2.1 m2)); (have y0 : w2.cell? ⟨g,0,none⟩ = some (.pointer (some ⟨lk,k * 5,none⟩)) := (CE.out w2 H2 K2.out.2).1); (have y2 : w2.cell? ⟨lk,k * 5 + 2,none⟩ = some (.slice ba nb bc) := (CE.out w2 H2 K2.out.2).2.1); (have y3 : w2.frozen? ⟨lk,k * 5 + 2,none⟩ = false := (CE.out w2 H2 K2.out.2).2.2); clear hr2 m2))
 all_goals exact HK.out _ _ _ _ _ _ _ _ _ _ _ _ _ _ _ a2 c2 H2 w2 K2.out.1 K2.out.2
set_option maxHeartbeats 4000000 in
theorem take_any (d : BandA) (b : BandG) (k style p n : Nat) (st : StG) (data : List UInt8) (v : Value) (w : World) (ok : b.ok d) (hkn : k < d.n) (hst : b.G[k]? = some st) (hs : Sat w (b.heap d)) (hv : BV w v data) (hs63 : style ≤ 63) (hp : st.m.ps.length + p ≤ 1000) (hb : st.m.bs.length + data.length ≤ 10000000) :
  Calls Try.prog 52 #[.agg #[.pointer (some ⟨d.lb,k * 5,none⟩),.pointer (some ⟨d.bb,0,none⟩),.int .i64 (k : Int),.int .i64 (p : Int),.int .i64 (n : Int)],.int .i64 (style : Int),v] w fun e w' => e = .returned (.tuple #[]) ∧
   ∃ b' : BandG,b'.ok d ∧ b'.model = { b.model with ss := b.model.ss.set k (takeM style st.m p data) } ∧ Mv w (b.heap d) w' (b'.heap d) := by
 have hkk : k < 4096 := Nat.lt_of_lt_of_le hkn ok.small
 have hso := ok.st st (List.mem_of_getElem? hst)
 obtain ⟨pa,pc,hvp⟩ := hso.passes
 obtain ⟨ba,bc,hvb⟩ := hso.2.1.slice
 obtain ⟨R,sm,smb⟩ := BandG.open_st (d := d) hst
 obtain ⟨g,hg⟩ : ∃ g,w.heap.size = g := ⟨_,rfl⟩
 obtain ⟨w1,hw1⟩ : ∃ w1,w1 = w.alloc (.cells #[.pointer (some ⟨d.lb,k * 5,none⟩),.pointer (some ⟨d.bb,0,none⟩),.int .i64 (k : Int),.int .i64 (p : Int),.int .i64 (n : Int)] 116) := ⟨_,rfl⟩
 obtain ⟨BB,hBB⟩ : ∃ BB : HB,BB = ⟨g,116,#[.pointer (some ⟨d.lb,k * 5,none⟩),.pointer (some ⟨d.bb,0,none⟩),.int .i64 (k : Int),.int .i64 (p : Int),.int .i64 (n : Int)]⟩ := ⟨_,rfl⟩
 have M1 : Mv w (b.heap d) w1 (BB :: (bandB b d :: statesB b d :: (st.Hp ++ (st.Hb ++ R)))) := by
  have m := (sm.mv (Mv.refl hs)).alloc 116 #[.pointer (some ⟨d.lb,k * 5,none⟩),.pointer (some ⟨d.bb,0,none⟩),.int .i64 (k : Int),.int .i64 (p : Int),.int .i64 (n : Int)]
  rw [hg,← hw1,← hBB] at m
  exact m
 have V1 : BV w1 v data := by rw [hw1]; exact hv.keep ((Below.refl _ _).alloc (Nat.le_refl _) _)
 have hkl : k < b.G.length := (List.getElem?_eq_some_iff.1 hst).1
 obtain ⟨ST,hST⟩ : ∃ ST : StG → HB,ST = fun s => ⟨d.lb,70,((b.G.set k s).flatMap StG.v).toArray⟩ := ⟨_,rfl⟩
 have hST0 : statesB b d = ST st := by rw [hST]; simp only [set_self_get hst]; rfl
 rw [hST0] at M1
 have CE : Hid (∀ V (s1 : StG) (A B1 : List HB),Mv w (b.heap d) V (A ++ (BB :: (bandB b d :: (ST s1 :: B1)))) → (V.cell? ⟨g,0,none⟩ = some (.pointer (some ⟨d.lb,k * 5,none⟩)) ∧ V.cell? ⟨g,3,none⟩ = some (.int .i64 (p : Int))) ∧ V.cell? ⟨d.lb,k * 5 + 1,none⟩ = some s1.vp ∧ V.cell? ⟨d.lb,k * 5 + 2,none⟩ = some s1.vb ∧ V.frozen? ⟨d.lb,k * 5 + 1,none⟩ = false ∧ V.frozen? ⟨d.lb,k * 5 + 2,none⟩ = false) := Lib.hid (by
  intro V s1 A B1 m
  have s := m.sat.right
  have b0 := s.at_ 0 (by rw [hBB]; rfl)
  have b2 := s.at_ 2 (by rw [hST]; rfl)
  obtain ⟨-,z1,z2,-,-,z5⟩ := state_cells b2 (List.getElem?_set_self hkl)
  exact ⟨⟨b0.cell 0,b0.cell 3⟩,z1,z2,z5 _,z5 _⟩)
 have SET : Hid (∀ V (s1 s2 : StG) (A B1 : List HB),Mv w (b.heap d) V (A ++ (BB :: (bandB b d :: (ST s1 :: B1)))) → ∀ i x,i < 5 → s2.v = s1.v.set i x → Mv w (b.heap d) (V.setCell ⟨d.lb,k * 5 + i,none⟩ x) (A ++ (BB :: (bandB b d :: (ST s2 :: B1))))) := Lib.hid (by
  intro V s1 s2 A B1 m i x hi hv2
  rw [hST] at m ⊢
  have m2 := take_set (A := A ++ [BB,bandB b d]) (s2 := s2) hkl (by simpa only [List.append_assoc,List.cons_append,List.nil_append] using m) i x hi hv2
  simpa only [List.append_assoc,List.cons_append,List.nil_append] using m2)
 have FIN : Hid (∀ (s1 : StG) V,s1.ok → Mv w (b.heap d) V (BB :: (bandB b d :: (ST s1 :: (s1.Hp ++ (s1.Hb ++ R))))) → (b.putS k s1).ok d ∧ (b.putS k s1).model = { b.model with ss := b.model.ss.set k s1.m } ∧ Mv w (b.heap d) V ((b.putS k s1).heap d)) := Lib.hid (by
  intro s1 V hs1 m
  refine ⟨BandG.putS_ok ok hs1,BandG.putS_model _ _ _,(smb s1).symm.mv ?_⟩
  rw [hST] at m
  exact m.drop1)
 have hHW := Lib.hid hw1
 obtain ⟨np,hnp⟩ : ∃ np,st.m.ps.length = np := ⟨_,rfl⟩
 obtain ⟨nb,hnb⟩ : ∃ nb,st.m.bs.length = nb := ⟨_,rfl⟩
 obtain ⟨nd,hnd⟩ : ∃ nd,data.length = nd := ⟨_,rfl⟩
 rw [hnp] at hvp hp
 rw [hnb] at hvb hb
 rw [hnd] at hb
 have V1' := V1
 obtain ⟨da,dc,hdv,-⟩ := V1'
 rw [hnd] at hdv
 subst hdv
 have KI := Lib.hid (And.intro ok (And.intro hso (And.intro M1 (And.intro V1 (And.intro hnp (And.intro hnb hnd))))))
 have hHp := Lib.hid (And.intro hvp hvb)
 clear ok hso M1 V1 hw1 hs sm smb hBB hST hST0 hv hst hvp hvb
 go_enter Try.func52,Try.ntmps52
 go_upto_region 1 with fail
 rw [← hHW.out]
 clear hHW
 have RB : RowB (.slice ba nb bc) st.m.bs st.Hb := by have h := KI.out.2.1.2.1; rw [hHp.out.2] at h; exact h
 obtain ⟨R1,hR1⟩ : ∃ R1,R1 = BB :: (bandB b d :: (ST st :: (st.Hp ++ R))) := ⟨_,rfl⟩
 have M1' : Mv w (b.heap d) w1 (st.Hb ++ R1) := by rw [hR1]; exact KI.out.2.2.1.sub (fun g => by simp only [cnt_append,cnt_cons]; omega) (fun c hc => by simp only [List.mem_append,List.mem_cons] at hc ⊢; grind)
 have CE1 : Hid (∀ V A',Mv w (b.heap d) V (A' ++ R1) → V.cell? ⟨g,0,none⟩ = some (.pointer (some ⟨d.lb,k * 5,none⟩)) ∧ V.cell? ⟨d.lb,k * 5 + 2,none⟩ = some (.slice ba nb bc) ∧ V.frozen? ⟨d.lb,k * 5 + 2,none⟩ = false) := Lib.hid (by
  intro V A' m
  rw [hR1] at m
  obtain ⟨⟨c0,-⟩,-,c2,-,c5⟩ := CE.out V st A' _ m
  exact ⟨c0,c2.trans (by rw [hHp.out.2]),c5⟩)
 refine wp_piece (take_r1 _ k g d.lb nb nd bc dc ba da st.m.bs data st.Hb R1 (b.heap d) w w1 _ _ _ _ _ _ _ _ _ _ _ _ _ _ _ _ _ _ _ _ _ _ _ _ _ _ _ _ _ _ _ _ _ _ _ _ _ _ _ _ _ _ _ _ _ _ _ _ _ _ _ _ _ _ _ _ _ _ CE1 KI.out.2.2.2.2.2.1 KI.out.2.2.2.2.2.2 RB KI.out.2.2.2.1 (by rw [KI.out.2.2.2.2.2.1,KI.out.2.2.2.2.2.2]; omega) M1' ?_)
 rintro _ _ _ _ _ _ _ _ _ _ _ _ _ _ _ a2 c2 H2 w2 hr2 m2
 rw [hR1] at m2
 obtain ⟨e,he⟩ : ∃ e,(st.m.bs ++ data).length = e := ⟨_,rfl⟩
 have hee : e = nb + nd := by rw [← he,List.length_append,KI.out.2.2.2.2.2.1,KI.out.2.2.2.2.2.2]
 rw [← hee] at hr2 ⊢
 obtain ⟨s1,hs1⟩ : ∃ s1 : StG,s1 = ⟨{ st.m with bs := st.m.bs ++ data },st.vp,.slice a2 e c2,st.Hp,H2⟩ := ⟨_,rfl⟩
 have M3 : Mv w (b.heap d) (w2.setCell ⟨d.lb,k * 5 + 2,none⟩ (.slice a2 e c2)) (BB :: (bandB b d :: (ST s1 :: (s1.Hp ++ (s1.Hb ++ R))))) := by
  have m := SET.out w2 st s1 H2 (st.Hp ++ R) m2 2 (.slice a2 e c2) (by omega) (by rw [hs1]; rfl)
  rw [show s1.Hp = st.Hp by rw [hs1],show s1.Hb = H2 by rw [hs1]]
  exact m.sub (fun g => by simp only [cnt_append,cnt_cons]; omega) (fun c hc => by simp only [List.mem_append,List.mem_cons] at hc ⊢; grind)
 obtain ⟨w3,hw3⟩ : ∃ w3,w3 = w2.setCell ⟨d.lb,k * 5 + 2,none⟩ (.slice a2 e c2) := ⟨_,rfl⟩
 rw [← hw3] at M3 ⊢
 have hs1ok : s1.ok := by
  have h := KI.out.2.1
  rw [hs1]
  refine ⟨h.1,?_,⟨h.2.2.np,by simp only; omega,h.2.2.pl,h.2.2.said,h.2.2.lb,h.2.2.ends⟩⟩
  show RowB (.slice a2 e c2) (st.m.bs ++ data) H2
  exact hr2
 obtain ⟨⟨-,x3⟩,-⟩ := CE.out w3 s1 [] _ M3
 have K3 := Lib.hid (And.intro M3 (And.intro hs1ok (And.intro hs1 he)))
 clear hw3 M3 hs1ok hr2 m2 CE1 M1' hR1 RB hs1
 go_upto_region 3 with fail
 clear x3
 go_loopg [23] p (fun gg s23 wx => ∃ (j : Nat) (s2 : StG),j ≤ p ∧ gg = p - j ∧ s23 = .int .i64 (j : Int) ∧ s2.ok ∧ s2.m = { st.m with bs := st.m.bs ++ data,ps := s2.m.ps } ∧ s2.vb = .slice a2 e c2 ∧ s2.m.ps.length = np + j ∧ passGo style e p st.m.ps = passGo style e (p - j) s2.m.ps ∧ Mv w (b.heap d) wx (BB :: (bandB b d :: (ST s2 :: (s2.Hp ++ (s2.Hb ++ R))))))
 case atStart =>
  have h := K3.out.2.2.1
  refine ⟨0,s1,Nat.zero_le _,rfl,rfl,K3.out.2.1,by rw [h],by rw [h],by rw [h]; exact KI.out.2.2.2.2.1,by rw [h]; rfl,K3.out.1⟩
 case round =>
  obtain ⟨wb,rfl⟩ : ∃ wb : World,wb = wr := ⟨_,rfl⟩
  obtain ⟨j,s2,hj,rfl,rfl,ok2,hm2,hvb2,hl2,hE,M4⟩ := hrel
  by_cases hlt : j < p
  ·have hlt2 : (j : Int) < (p : Int) := by omega
   obtain ⟨pa2,pc2,hvp2⟩ := ok2.passes
   rw [hl2] at hvp2
   obtain ⟨R',hR'⟩ : ∃ R',R' = BB :: (bandB b d :: (ST s2 :: (s2.Hb ++ R))) := ⟨_,rfl⟩
   have hM : Mv w (b.heap d) wb (s2.Hp ++ R') := by rw [hR']; exact M4.sub (fun g => by simp only [cnt_append,cnt_cons]; omega) (fun c hc => by simp only [List.mem_append,List.mem_cons] at hc ⊢; grind)
   have CE2 : Hid (∀ V A',Mv w (b.heap d) V (A' ++ R') → V.cell? ⟨g,0,none⟩ = some (.pointer (some ⟨d.lb,k * 5,none⟩)) ∧ V.cell? ⟨d.lb,k * 5 + 1,none⟩ = some (.slice pa2 (np + j) pc2) ∧ V.cell? ⟨d.lb,k * 5 + 2,none⟩ = some (.slice a2 e c2) ∧ V.frozen? ⟨d.lb,k * 5 + 1,none⟩ = false) := Lib.hid (by
    intro V A' m
    rw [hR'] at m
    obtain ⟨⟨c0,-⟩,c1,c2,c4,-⟩ := CE.out V s2 A' _ m
    exact ⟨c0,c1.trans (by rw [hvp2]),c2.trans (by rw [hvb2]),c4⟩)
   have hrow : RowH 108 2 (.slice pa2 (np + j) pc2) (np + j) (passesV s2.m.ps) s2.Hp := by
    have h := ok2.1
    rw [hvp2,hl2] at h
    exact h
   have EN := Lib.hid (fun V => lends_any style (np + j) V hs63 (by omega))
   obtain ⟨tb,htb⟩ : ∃ tb,endsM style (np + j) = tb := ⟨_,rfl⟩
   rw [htb] at EN
   have hE2 : passGo style e p st.m.ps = passGo style e (p - (j + 1)) (s2.m.ps ++ [((e : Int),tb)]) := by
    rw [hE,show p - j = (p - (j + 1)) + 1 by omega]
    show passGo style e (p - (j + 1)) (s2.m.ps ++ [((e : Int),endsM style s2.m.ps.length)]) = _
    rw [hl2,htb]
   have K4 := Lib.hid (And.intro ok2 (And.intro hm2 (And.intro hvb2 (And.intro hE2 (And.intro hrow hM)))))
   have hnpj : np + j ≤ 1000 := by omega
   clear ok2 hm2 hvb2 hE hE2 hrow hM M4 htb hvp2
   go_upto_region 4 with fail
   refine wp_piece_end (take_r4 _ k g d.lb style (np + j) pc2 e c2 tb pa2 a2 s2.m.ps s2.Hp R' (b.heap d) w wb _ _ _ _ _ _ _ _ _ _ _ _ _ _ _ _ _ _ _ _ _ _ _ _ _ _ _ _ _ _ _ _ _ _ _ _ _ _ _ _ _ _ _ _ _ _ _ _ _ _ _ _ _ _ _ _ _ _ CE2 EN hnpj K4.out.2.2.2.2.1 K4.out.2.2.2.2.2 ?_)
   rintro _ _ _ _ _ _ _ _ _ _ _ _ _ _ _ _ _ _ _ _ _ _ _ _ _ _ _ _ _ _ u55 _ _ _ g8 HB Wp W HW h30
   obtain ⟨a5,c5,rfl⟩ := RowH.slice h30
   obtain ⟨h1,-,-,-,h5,-⟩ := HW
   obtain rfl := h5 rfl
   obtain ⟨s3,hs3⟩ : ∃ s3 : StG,s3 = { s2 with m := { s2.m with ps := s2.m.ps ++ [((e : Int),tb)] },vp := .slice a5 (np + j + 1) c5,Hp := HB } := ⟨_,rfl⟩
   have M5 : Mv w (b.heap d) (Wp.setCell ⟨d.lb,k * 5 + 1,none⟩ (.slice a5 (np + j + 1) c5)) (BB :: (bandB b d :: (ST s3 :: (s3.Hp ++ (s3.Hb ++ R))))) := by
    rw [hR'] at h1
    have m := SET.out Wp s2 s3 ([_] ++ HB) (s2.Hb ++ R) (by simpa only [oh_true,List.append_assoc] using h1) 1 (.slice a5 (np + j + 1) c5) (by omega) (by rw [hs3]; rfl)
    rw [show s3.Hp = HB by rw [hs3],show s3.Hb = s2.Hb by rw [hs3]]
    exact m.sub (fun g => by simp only [cnt_append,cnt_cons,cnt_nil]; omega) (fun c hc => by simp only [List.mem_append,List.mem_cons,List.not_mem_nil,or_false] at hc ⊢; grind)
   have ok3 : s3.ok := by
    have h := K4.out.1
    have hm := K4.out.2.1
    have hbl := h.2.2.nb
    have hbe : s2.m.bs.length = e := by rw [hm]; exact K3.out.2.2.2
    rw [hs3]
    refine ⟨?_,h.2.1,⟨?_,h.2.2.nb,h.2.2.pl,?_,h.2.2.lb,?_⟩⟩
    ·show RowH 108 2 _ (s2.m.ps ++ [((e : Int),tb)]).length _ HB
     rw [List.length_append,hl2]
     exact h30
    ·show (s2.m.ps ++ [((e : Int),tb)]).length ≤ 1000
     rw [List.length_append,hl2]
     simp only [List.length_cons,List.length_nil]
     omega
    ·have := h.2.2.said
     show 0 ≤ s2.m.said ∧ s2.m.said ≤ ((s2.m.ps ++ [((e : Int),tb)]).length : Nat)
     rw [List.length_append]
     simp only [List.length_cons,List.length_nil]
     omega
    ·intro q hq
     rcases List.mem_append.1 hq with hq | hq
     ·exact h.2.2.ends q hq
     ·simp only [List.mem_singleton] at hq
      subst hq
      exact ⟨by simp only; omega,by simp only; omega⟩
   have K5 := Lib.hid (And.intro M5 (And.intro ok3 hs3))
   clear M5 ok3 h1 h30 h5
   obtain ⟨w5,hw5⟩ : ∃ w5,w5 = Wp.setCell ⟨d.lb,k * 5 + 1,none⟩ (.slice a5 (np + j + 1) c5) := ⟨_,rfl⟩
   rw [← hw5] at K5 ⊢
   clear hw5
   go_wp2_with fail
   go_roundg (p - (j + 1))
   case measure => omega
   case rel =>
    have h := K5.out.2.2
    have hm := K4.out.2.1
    refine ⟨j + 1,s3,by omega,rfl,by push_cast; rfl,K5.out.2.1,?_,by rw [h]; exact K4.out.2.2.1,?_,by rw [h]; exact K4.out.2.2.2.1,K5.out.1⟩
    ·rw [h]
     simp only
     rw [hm]
    ·rw [h]
     show (s2.m.ps ++ [((e : Int),tb)]).length = _
     rw [List.length_append,hl2]
     rfl
  ·obtain rfl : j = p := by omega
   have hlt2 : ¬ (j : Int) < (j : Int) := by omega
   have hE2 : s2.m = takeM style st.m j data := by
    rw [hm2]
    unfold takeM
    rw [K3.out.2.2.2,hE,Nat.sub_self]
    rfl
   have KF := Lib.hid (And.intro (FIN.out s2 wb ok2 M4) hE2)
   clear ok2 hm2 hvb2 hl2 hE M4 hE2
   go_wp2_with fail
   go_end0
   obtain ⟨⟨q1,q2,q3⟩,q4⟩ := KF.out
   rw [q4] at q2
   first
    | exact ⟨rfl,b.putS k s2,q1,q2,q3⟩
    | exact ⟨b.putS k s2,rfl,q1,q2,q3⟩
end
section
open Go.RowKit Go.Shelf
attribute [local go_sem] Oper.semAt_some
theorem hereM_zeros (l : List UInt8) (m : BandM) (s : StM) (k layer : Nat) (r : RdM) : (hereM l m s k layer r).1.zeros = m.zeros := by
 unfold hereM
 split <;> rfl
def decX (n0 : Nat) (vo : Value) (nn ee : Int) : List HB := [⟨n0 + 2,111,#[vo]⟩,⟨n0 + 3,3,#[.int .i64 nn]⟩,⟨n0 + 4,50,#[.int .i64 ee]⟩]
def decZ (box rbx rb n0 : Nat) (A : Option Addr) (nD c : Nat) (style layer : Int) : List HB :=
 [⟨box,26,#[.slice A nD c]⟩,⟨rbx,153,#[.pointer (some ⟨rb,0,none⟩)]⟩,⟨n0 + 1,3,#[.int .i64 layer]⟩,⟨n0,3,#[.int .i64 style]⟩]
theorem decX_no (n0 : Nat) (vo : Value) (nn ee : Int) : NoSpot (decX n0 vo nn ee) := by
 intro x hx
 simp only [decX,List.mem_cons,List.not_mem_nil,or_false] at hx
 rcases hx with rfl | rfl | rfl
 ·exact (show 111 ≠ 67 by decide)
 ·exact (show 3 ≠ 67 by decide)
 ·exact (show 50 ≠ 67 by decide)
theorem decZ_no (box rbx rb n0 : Nat) (A : Option Addr) (nD c : Nat) (style layer : Int) : NoSpot (decZ box rbx rb n0 A nD c style layer) := by
 intro x hx
 simp only [decZ,List.mem_cons,List.not_mem_nil,or_false] at hx
 rcases hx with rfl | rfl | rfl | rfl
 ·exact (show 26 ≠ 67 by decide)
 ·exact (show 153 ≠ 67 by decide)
 ·exact (show 3 ≠ 67 by decide)
 ·exact (show 3 ≠ 67 by decide)
def decP2 (box rbx rb n0 : Nat) (A : Option Addr) (c : Nat) (D : List BandA) (l : List UInt8) (style layer : Nat) (HL : List HB) (S0 : DecS) (pre : List (SpotIn D)) (H : List HB) : Prop :=
 ∃ (S : DecS) (HR Ho : List HB) (vo : Value) (HB' : List HB),foldD l style layer (some S0) (pre.map (·.1)) = some S ∧ H = (HR ++ ((decX n0 vo 0 0 ++ decZ box rbx rb n0 A D.length c style layer) ++ (Ho ++ HL))) ++ HB' ∧
  ReadH rb l S.rd HR ∧ RowPc vo S.out Ho ∧ BandsR D S.M HB' ∧ (∀ d ∈ D,GoodR (S.M d.bb)) ∧ S.rd.left ≤ 8 ∧ S.rd.begun ≤ 90000 * pre.length + 10 ∧ S.out.length ≤ 178 * pre.length
def decPX (n0 : Nat) (D : List BandA) (l : List UInt8) (style layer : Nat) (S0 : DecS) (pre : List (SpotIn D)) (H : List HB) : Prop :=
 foldD l style layer (some S0) (pre.map (·.1)) = none ∧ H = decX n0 (.slice none 0 0) 0 10
set_option maxHeartbeats 4000000 in
theorem dec_round (l0 : Nat) (D : List BandA) (A : Option Addr) (c box rbx rb n0 B : Nat) (HL : List HB) (l : List UInt8) (style layer : Nat) (S0 : DecS) (pre : List (SpotIn D)) (x : SpotX) (hx : x ∈ spotsOf D) (w : World) (H : List HB) (s0 s1 s2 s3 s4 s7 s13 s14 s15 s16 s17 s18 s19 s20 s21 s22 s23 s24 s25 s26 s27 s28 s29 s30 s31 s32 s33 s34 s35 s36 s37 s38 s39 s40 s41 s42 s43 s44 s45 s46 s47 : Value)
  (hP : decP2 box rbx rb n0 A c D l style layer HL S0 pre H) (hs : Sat w (⟨B,67,x.cells⟩ :: H)) (hlen : pre.length < 200) (hst : style ≤ 63) (hly : layer ≤ 100) (hll : l.length ≤ 90000000) :
  (blockR 1 Try.f50).wpIn (Fence.wide.inRound l0) 6 Try.prog (spPost w (⟨B,67,x.cells⟩ :: H) (decP2 box rbx rb n0 A c D l style layer HL S0) (decPX n0 D l style layer S0) (pre ++ [⟨x,hx⟩]))
   ⟨List.toArray (s0::s1::s2::s3::s4::(.pointer (some ⟨n0,0,none⟩))::(.pointer (some ⟨n0 + 1,0,none⟩))::s7::(.pointer (some ⟨n0 + 2,0,none⟩))::(.pointer (some ⟨n0 + 3,0,none⟩))::(.pointer (some ⟨n0 + 4,0,none⟩))::(.pointer (some ⟨rbx,0,none⟩))::(.pointer (some ⟨B,0,none⟩))::s13::s14::s15::s16::s17::s18::s19::s20::s21::s22::s23::s24::s25::s26::s27::s28::s29::s30::s31::s32::s33::s34::s35::s36::s37::s38::s39::s40::s41::s42::s43::s44::s45::s46::s47::[]),[]⟩ w := by
 conv in (blockR _ _) => whnf
 obtain ⟨S,HR,Ho,vo,HB1,hS,rfl,hr,ho,hB,hg,h8,hbg,hol⟩ := hP
 obtain ⟨hxd,hxk⟩ := mem_spots hx
 obtain ⟨d,k⟩ := x
 simp only at hxd hxk
 obtain ⟨PS,hPS⟩ : ∃ PS,spPost w (⟨B,67,SpotX.cells ⟨d,k⟩⟩ :: ((HR ++ ((decX n0 vo 0 0 ++ decZ box rbx rb n0 A D.length c style layer) ++ (Ho ++ HL))) ++ HB1)) (decP2 box rbx rb n0 A c D l style layer HL S0) (decPX n0 D l style layer S0) (pre ++ [⟨⟨d,k⟩,hx⟩]) = PS := ⟨_,rfl⟩
 have LP : Hid (¬LetsOut PS) := Lib.hid (by rw [← hPS]; rintro ⟨a,w,h⟩; exact h)
 rw [hPS]
 obtain ⟨bd,e1,e2,-⟩ := hB.band hxd
 have hsl : (S.M d.bb).ss.length = d.n := by rw [← e1]; show (bd.G.map _).length = _; rw [List.length_map]; exact e2.len
 have hkn : k < 4096 := Nat.lt_of_lt_of_le hxk e2.small
 clear e1 e2 bd
 obtain ⟨s,hss⟩ : ∃ s,(S.M d.bb).ss[k]? = some s := ⟨_,List.getElem?_eq_getElem (by rw [hsl]; exact hxk)⟩
 obtain ⟨F1,F2,F3⟩ := step_fits hB hxd hss
 have GB := hg d hxd
 obtain ⟨i1,i2,i3,i4⟩ := hereM_inv l (S.M d.bb) s k layer S.rd h8 F2 hly GB
 obtain ⟨hm,hhm⟩ : ∃ hm,hereM l (S.M d.bb) s k layer S.rd = hm := ⟨_,rfl⟩
 rw [hhm] at i1 i2 i3 i4
 have hstep : foldD l style layer (some S0) ((pre ++ [(⟨⟨d,k⟩,hx⟩ : SpotIn D)]).map (fun x => x.1)) = stepD l style layer S ⟨d,k⟩ := by
  rw [List.map_append]
  show foldD l style layer (some S0) (pre.map (fun x => x.1) ++ [⟨d,k⟩]) = _
  rw [foldD_snoc,hS]
  rfl
 have hsd : stepD l style layer S ⟨d,k⟩ = if hm.2.1 = false then some ⟨updM S.M d.bb hm.1,S.out,hm.2.2⟩ else (readM l style hm.1 d k s hm.2.2).map fun q => ⟨updM S.M d.bb q.1,S.out ++ q.2.1,q.2.2⟩ := by
  unfold stepD
  simp only [hss,hhm]
 rw [hsd] at hstep
 obtain ⟨XX,hXX⟩ : ∃ XX : Value → Int → Int → List HB,XX = fun v a e => ⟨B,67,SpotX.cells ⟨d,k⟩⟩ :: (decX n0 v a e ++ decZ box rbx rb n0 A D.length c style layer) := ⟨_,rfl⟩
 obtain ⟨HH,hHH⟩ : ∃ HH,HH = ⟨B,67,SpotX.cells ⟨d,k⟩⟩ :: ((HR ++ ((decX n0 vo 0 0 ++ decZ box rbx rb n0 A D.length c style layer) ++ (Ho ++ HL))) ++ HB1) := ⟨_,rfl⟩
 have M0 : Mv w HH w ((HR ++ (XX vo 0 0 ++ (Ho ++ HL))) ++ HB1) := by
  have m : Mv w HH w HH := Mv.refl (by rw [hHH]; exact hs)
  refine m.sub (fun g => ?_) (fun y hy => ?_)
  ·rw [hHH,hXX]; simp only [cnt_append,cnt_cons]; omega
  ·rw [hXX] at hy; rw [hHH]; simp only [List.mem_append,List.mem_cons] at hy ⊢; grind
 have BX : Hid (∀ w' v a e A' R',Mv w HH w' (A' ++ (XX v a e ++ R')) → (w'.cell? ⟨B,0,none⟩ = some (.pointer (some ⟨d.lb,k * 5,none⟩)) ∧ w'.cell? ⟨B,1,none⟩ = some (.pointer (some ⟨d.bb,0,none⟩)) ∧ w'.cell? ⟨B,2,none⟩ = some (.int .i64 (k : Int))) ∧ (w'.cell? ⟨n0 + 2,0,none⟩ = some v ∧ w'.frozen? ⟨n0 + 2,0,none⟩ = false ∧ w'.cell? ⟨n0 + 3,0,none⟩ = some (.int .i64 a) ∧ w'.frozen? ⟨n0 + 3,0,none⟩ = false ∧ w'.cell? ⟨n0 + 4,0,none⟩ = some (.int .i64 e) ∧ w'.frozen? ⟨n0 + 4,0,none⟩ = false) ∧
   w'.cell? ⟨rbx,0,none⟩ = some (.pointer (some ⟨rb,0,none⟩)) ∧ w'.cell? ⟨n0 + 1,0,none⟩ = some (.int .i64 (layer : Int)) ∧ w'.cell? ⟨n0,0,none⟩ = some (.int .i64 (style : Int))) := Lib.hid (by
  intro w' v a e A' R' m
  have a0 : Sat w' (XX v a e) := m.sat.right.left
  rw [hXX] at a0
  have b0 := a0.at_ 0 rfl
  have b1 := a0.at_ 1 rfl
  have b2 := a0.at_ 2 rfl
  have b3 := a0.at_ 3 rfl
  have b5 := a0.at_ 5 rfl
  have b6 := a0.at_ 6 rfl
  have b7 := a0.at_ 7 rfl
  exact ⟨⟨b0.cell 0,b0.cell 1,b0.cell 2⟩,⟨b1.cell 0,b1.frozen 0,b2.cell 0,b2.frozen 0,b3.cell 0,b3.frozen 0⟩,b5.cell 0,b6.cell 0,b7.cell 0⟩)
 have FIN : Hid (∀ (S' : DecS) (a : Act) (w4 : World) (HR' Ho' : List HB) (v : Value) (HB' : List HB),foldD l style layer (some S0) ((pre ++ [(⟨⟨d,k⟩,hx⟩ : SpotIn D)]).map (fun x => x.1)) = some S' → ReadH rb l S'.rd HR' → RowPc v S'.out Ho' → BandsR D S'.M HB' → (∀ d ∈ D,GoodR (S'.M d.bb)) → S'.rd.left ≤ 8 → S'.rd.begun ≤ S.rd.begun + 90000 → S'.out.length ≤ S.out.length + 178 → Mv w HH w4 ((HR' ++ (XX v 0 0 ++ (Ho' ++ HL))) ++ HB') → PS .normal a w4) := Lib.hid (by
  intro S' a w4 HR' Ho' v HB' g0 g1 g2 g3 g4 g5 g6 g7 m4
  rw [← hPS]
  refine ⟨(HR' ++ ((decX n0 v 0 0 ++ decZ box rbx rb n0 A D.length c style layer) ++ (Ho' ++ HL))) ++ HB',⟨S',HR',Ho',v,HB',g0,rfl,g1,g2,g3,g4,g5,?_,?_⟩,?_⟩
  ·simp only [List.length_append,List.length_cons,List.length_nil]; omega
  ·simp only [List.length_append,List.length_cons,List.length_nil]; omega
  ·rw [← hHH]
   refine m4.sub (fun g => ?_) (fun y hy => ?_)
   ·rw [hXX]; simp only [cnt_append,cnt_cons]; omega
   ·rw [hXX]; simp only [List.mem_append,List.mem_cons] at hy ⊢; grind)
 have FIX : Hid (∀ (a : Act) (w4 : World) (R' : List HB),foldD l style layer (some S0) ((pre ++ [(⟨⟨d,k⟩,hx⟩ : SpotIn D)]).map (fun x => x.1)) = none → Mv w HH w4 (XX (.slice none 0 0) 0 10 ++ R') → PS .ret a w4) := Lib.hid (by
  intro a w4 R' g0 m4
  rw [← hPS]
  refine ⟨_,⟨g0,rfl⟩,?_⟩
  rw [← hHH]
  refine m4.sub (fun g => ?_) (fun y hy => ?_)
  ·rw [hXX]; simp only [cnt_append,cnt_cons]; omega
  ·rw [hXX]; simp only [List.mem_append,List.mem_cons] at hy ⊢; grind)
 have SV : Hid (∀ w' v a e A' R',Mv w HH w' (A' ++ (XX v a e ++ R')) → (∀ v',Mv w HH (w'.setCell ⟨n0 + 2,0,none⟩ v') (A' ++ (XX v' a e ++ R'))) ∧ (∀ a',Mv w HH (w'.setCell ⟨n0 + 3,0,none⟩ (.int .i64 a')) (A' ++ (XX v a' e ++ R'))) ∧ (∀ e',Mv w HH (w'.setCell ⟨n0 + 4,0,none⟩ (.int .i64 e')) (A' ++ (XX v a e' ++ R')))) := Lib.hid (by
  intro w' v a e A' R' m
  rw [hXX] at m ⊢
  simp only [decX,decZ] at m ⊢
  refine ⟨fun v' => ?_,fun a' => ?_,fun e' => ?_⟩
  ·have m1 : Mv w HH w' ((A' ++ [⟨B,67,SpotX.cells ⟨d,k⟩⟩]) ++ ⟨n0 + 2,111,#[v]⟩ :: (⟨n0 + 3,3,#[.int .i64 a]⟩ :: (⟨n0 + 4,50,#[.int .i64 e]⟩ :: (decZ box rbx rb n0 A D.length c style layer ++ R')))) := by simpa only [decZ,List.append_assoc,List.cons_append,List.nil_append] using m
   have m2 := Mv.setAt m1 0 v'
   rw [show (#[v] : Array Value).setIfInBounds 0 v' = #[v'] from rfl] at m2
   simpa only [decZ,List.append_assoc,List.cons_append,List.nil_append] using m2
  ·have m1 : Mv w HH w' ((A' ++ [⟨B,67,SpotX.cells ⟨d,k⟩⟩,⟨n0 + 2,111,#[v]⟩]) ++ ⟨n0 + 3,3,#[.int .i64 a]⟩ :: (⟨n0 + 4,50,#[.int .i64 e]⟩ :: (decZ box rbx rb n0 A D.length c style layer ++ R'))) := by simpa only [decZ,List.append_assoc,List.cons_append,List.nil_append] using m
   have m2 := Mv.setAt m1 0 (.int .i64 a')
   rw [show (#[.int .i64 a] : Array Value).setIfInBounds 0 (.int .i64 a') = #[.int .i64 a'] from rfl] at m2
   simpa only [decZ,List.append_assoc,List.cons_append,List.nil_append] using m2
  ·have m1 : Mv w HH w' ((A' ++ [⟨B,67,SpotX.cells ⟨d,k⟩⟩,⟨n0 + 2,111,#[v]⟩,⟨n0 + 3,3,#[.int .i64 a]⟩]) ++ ⟨n0 + 4,50,#[.int .i64 e]⟩ :: (decZ box rbx rb n0 A D.length c style layer ++ R')) := by simpa only [decZ,List.append_assoc,List.cons_append,List.nil_append] using m
   have m2 := Mv.setAt m1 0 (.int .i64 e')
   rw [show (#[.int .i64 e] : Array Value).setIfInBounds 0 (.int .i64 e') = #[.int .i64 e'] from rfl] at m2
   simpa only [decZ,List.append_assoc,List.cons_append,List.nil_append] using m2)
 clear hHH hPS
 obtain ⟨⟨x0,x1,x2⟩,-,y0,y1,y2⟩ := BX.out w vo 0 0 HR ((Ho ++ HL) ++ HB1) (by simpa only [List.append_assoc] using M0)
 have HE := Lib.hid (step_here hB hxd hxk hss hr M0 layer hly hll (by omega) h8)
 rw [hhm] at HE
 unfold SpotX.v at HE
 have hs2 : (updM S.M d.bb hm.1 d.bb).ss[k]? = some s := by rw [updM_same,i2]; exact hss
 have g2 : GoodR (updM S.M d.bb hm.1 d.bb) := by rw [updM_same]; exact i1
 have gall : ∀ m' : BandM,GoodR m' → ∀ d' ∈ D,GoodR (updM S.M d.bb m' d'.bb) := by
  intro m' gm d' hd'
  unfold updM
  split
  ·exact gm
  ·exact hg d' hd'
 have KS := Lib.hid (And.intro hstep (And.intro ho (And.intro i1 (And.intro gall (And.intro hs2 g2)))))
 have RDB : S.rd.begun ≤ 18000010 := by omega
 have hlb0 := F1.lb.1
 have hs1 : hm.1.ss[k]? = some s := by rw [i2]; exact hss
 have hzl : hm.1.zeros.length ≤ 20 := by rw [← hhm,hereM_zeros]; exact F3
 clear hstep ho i1 gall hs2 g2 hss hB hr hg hS hs M0 hsd hXX
 cases hq : hm.2.1 with
 | false =>
  rw [hq] at HE
  have e1 : foldD l style layer (some S0) ((pre ++ [(⟨⟨d,k⟩,hx⟩ : SpotIn D)]).map (fun x => x.1)) = some ⟨updM S.M d.bb hm.1,S.out,hm.2.2⟩ := by rw [KS.out.1,hq,if_pos rfl]
  have E1 := Lib.hid e1
  clear e1 hq
  gi_wp2_with (refine ⟨trivial,?_⟩; gi_at_call 75; refine (CallsIn.inRound l0 (callsIn_wide.2 HE.out)).mono ?_; rintro e w3 ⟨rfl,HR2,HB2,q1,q2,q3⟩; have K3 := Lib.hid (And.intro q1 (And.intro q2 q3)); clear q1 q2 q3)
  exact FIN.out _ _ _ HR2 Ho vo HB2 E1.out K3.out.1 KS.out.2.1 K3.out.2.1 (KS.out.2.2.2.1 _ KS.out.2.2.1) i3 (by simp only; omega) (by simp only; omega) K3.out.2.2
 | true =>
  rw [hq] at HE
  obtain ⟨qq,hqq⟩ : ∃ qq,readM l style hm.1 d k s hm.2.2 = qq := ⟨_,rfl⟩
  have RE : Hid (∀ w3 HR2 HB2,ReadH rb l hm.2.2 HR2 → BandsR D (updM S.M d.bb hm.1) HB2 → Mv w HH w3 ((HR2 ++ (XX vo 0 0 ++ (Ho ++ HL))) ++ HB2) → Calls Try.prog 76 #[.agg #[.pointer (some ⟨d.lb,k * 5,none⟩),.pointer (some ⟨d.bb,0,none⟩),.int .i64 (k : Int)],.pointer (some ⟨rb,0,none⟩),.int .i64 (style : Int)] w3 (SPost D (updM S.M d.bb hm.1) d rb l w HH (XX vo 0 0 ++ (Ho ++ HL)) qq)) := Lib.hid (by
   intro w3 HR2 HB2 q1 q2 q3
   have h := step_read q2 hxd hxk KS.out.2.2.2.2.1 KS.out.2.2.2.2.2 q1 q3 style hst hll (by omega) i3
   rw [updM_same,hqq] at h
   exact h)
  have hfo : foldD l style layer (some S0) ((pre ++ [(⟨⟨d,k⟩,hx⟩ : SpotIn D)]).map (fun x => x.1)) = qq.map fun q => ⟨updM S.M d.bb q.1,S.out ++ q.2.1,q.2.2⟩ := by rw [KS.out.1,hq,if_neg (by simp),hqq]
  have HFO := Lib.hid hfo
  have QI : Hid (∀ q,qq = some q → GoodR q.1 ∧ q.2.2.left ≤ 8 ∧ q.2.2.begun ≤ hm.2.2.begun + 80000 ∧ q.2.1.length ≤ 178) := Lib.hid (by
   rintro q rfl
   exact readM_inv i3 hzl KS.out.2.2.1 hs1 hlb0 hqq)
  clear hfo hq
  gi_upto_region 6 with (refine ⟨trivial,?_⟩; gi_at_call 75; refine (CallsIn.inRound l0 (callsIn_wide.2 HE.out)).mono ?_; rintro e w3 ⟨rfl,HR2,HB2,q1,q2,q3⟩; have K3 := Lib.hid (And.intro q1 (And.intro q2 q3)); clear q1 q2 q3)
  clear x0 x1 x2 y0 y1 y2
  obtain ⟨⟨x0,x1,x2⟩,-,y0,y1,y2⟩ := BX.out w3 vo 0 0 HR2 ((Ho ++ HL) ++ HB2) (by simpa only [List.append_assoc] using K3.out.2.2)
  have RC := Lib.hid (RE.out w3 HR2 HB2 K3.out.1 K3.out.2.1 K3.out.2.2)
  clear RE HE hqq
  cases qq with
  | none =>
   gi_upto_region 8 with (refine ⟨trivial,?_⟩; gi_at_call 76; refine (CallsIn.inRound l0 (callsIn_wide.2 RC.out)).mono ?_; rintro e w4 ⟨v,o,rfl,rfl,m4⟩; replace m4 := Lib.hid m4)
   obtain ⟨-,⟨z1,z2,z3,z4,z5,z6⟩,-⟩ := BX.out w4 vo 0 0 [] (Ho ++ HL) m4.out
   have M5 := (SV.out _ _ _ _ [] _ ((SV.out _ _ _ _ [] _ ((SV.out w4 vo 0 0 [] (Ho ++ HL) m4.out).1 (.slice none 0 0))).2.1 0)).2.2 10
   replace M5 := Lib.hid M5
   clear x0 x1 x2 y0 y1 y2
   gi_wp2
   exact FIX.out _ _ _ HFO.out M5.out
  | some q =>
   obtain ⟨q1',q2',q3',q4'⟩ := QI.out q rfl
   gi_upto_region 9 with (refine ⟨trivial,?_⟩; gi_at_call 76; refine (CallsIn.inRound l0 (callsIn_wide.2 RC.out)).mono ?_; rintro e w4 ⟨v,o,rfl,rfl,HR4,Hv,HB4,p1,p2,p3,p4⟩; obtain ⟨va,vc,rfl⟩ := p1.slice; have K4 := Lib.hid (And.intro p1 (And.intro p2 (And.intro p3 p4))); clear p1 p2 p3 p4)
   obtain ⟨-,⟨z1,z2,-⟩,-⟩ := BX.out w4 vo 0 0 (Hv ++ HR4) ((Ho ++ HL) ++ HB4) (by simpa only [List.append_assoc] using K4.out.2.2.2)
   have hol2 : S.out.length + q.2.1.length ≤ 1000000 := by omega
   have so : Sat w4 Ho := K4.out.2.2.2.sat.left.right.right.right.left
   have sv : Sat w4 Hv := K4.out.2.2.2.sat.left.left
   have RD : Reads w4 w4.heap.size 5 va q.2.1.length (pcsV q.2.1) := Reads.of_own (RowH.owns K4.out.1 sv (B := 0) (fun _ _ => Nat.zero_le _))
   have KP := Lib.hid (And.intro so RD)
   clear x0 x1 x2 y0 y1 y2 so sv RD
   refine round_lit (by kernel_rfl) (fun ⟨a,w,h⟩ => LP.out ⟨a,w,h⟩) ?_
   go_wp2_with (at_builtin; refine wpList_appR Try.underlying111 infoPc rfl (by decide) (by decide) rfl (.tmp 37) (.tmp 38) rfl vo rfl rfl KS.out.2.1 KP.out.1 KP.out.2 (pcsV_one _) hol2 ?_; intro v5 w5 Ho5 hr5 m5; obtain ⟨a5,c5,rfl⟩ := hr5.slice; have M5 : Mv w HH w5 ((HR4 ++ (XX vo 0 0 ++ (Ho5 ++ HL))) ++ HB4) := (Mv.call (H := Ho) (R := HR4 ++ (XX vo 0 0 ++ (HL ++ HB4))) (K4.out.2.2.2.sub (fun g => by simp only [cnt_append]; omega) (fun y hy => by simp only [List.mem_append] at hy ⊢; grind)) m5).sub (fun g => by simp only [cnt_append]; omega) (fun y hy => by simp only [List.mem_append] at hy ⊢; grind); obtain ⟨-,⟨u1,u2,-⟩,-⟩ := BX.out w5 vo 0 0 HR4 ((Ho5 ++ HL) ++ HB4) (by simpa only [List.append_assoc] using M5); have K5 := Lib.hid (And.intro hr5 M5); clear hr5 m5 M5)
   have M6 := (SV.out w5 vo 0 0 HR4 ((Ho5 ++ HL) ++ HB4) (by simpa only [List.append_assoc] using K5.out.2)).1 (.slice a5 (S.out.length + q.2.1.length) c5)
   refine FIN.out ⟨updM S.M d.bb q.1,S.out ++ q.2.1,q.2.2⟩ _ _ HR4 Ho5 (.slice a5 (S.out.length + q.2.1.length) c5) HB4 (by rw [HFO.out]; rfl) K4.out.2.1 ?_ ?_ (KS.out.2.2.2.1 _ q1') q2' (by simp only; omega) (by simp only [List.length_append]; omega) (by simpa only [List.append_assoc] using M6)
   ·unfold RowPc
    rw [List.length_append,pcsV_append]
    exact K5.out.1
   ·have h := K4.out.2.2.1
    rw [updM_updM] at h
    exact h
end
section
open Go.RowKit Go.Shelf
attribute [local go_sem] Oper.semAt_some
def headD (l : List UInt8) (style layer : Nat) (D : List BandA) (M : Nat → BandM) : Option DecS := if (rdBit l rdNew).1 = 1 then foldD l style layer (some ⟨M,[],(rdBit l rdNew).2⟩) (spotsOf D) else some ⟨M,[],(rdBit l rdNew).2⟩
def HPost (l : List UInt8) (D : List BandA) (HL HB0 : List HB) (W : World) : Option DecS → Ending → World → Prop
 | none,e,w' => e = .returned (.tuple #[.slice none 0 0,.int .i64 0,.int .i64 10]) ∧ Mv W (HL ++ HB0) w' []
 | some S,e,w' => ∃ vo Ho HB',e = .returned (.tuple #[vo,.int .i64 ((endM l S.rd).1 : Int),.int .i64 ((endM l S.rd).2 : Int)]) ∧ RowPc vo S.out Ho ∧ BandsR D S.M HB' ∧ Mv W (HL ++ HB0) w' (Ho ++ (HL ++ HB'))
section
variable {w0 V : World} {H0 A R : List HB} {n0 : Nat} {vo : Value} {a e : Int}
theorem dk_cells {HR ZZ Ho HL HB' : List HB} (m : Mv w0 H0 V ((HR ++ ((decX n0 vo a e ++ ZZ) ++ (Ho ++ HL))) ++ HB')) : V.cell? ⟨n0 + 2,0,none⟩ = some vo ∧ V.frozen? ⟨n0 + 2,0,none⟩ = false ∧ V.cell? ⟨n0 + 3,0,none⟩ = some (.int .i64 a) ∧ V.frozen? ⟨n0 + 3,0,none⟩ = false ∧ V.cell? ⟨n0 + 4,0,none⟩ = some (.int .i64 e) ∧ V.frozen? ⟨n0 + 4,0,none⟩ = false := by
 have s := m.sat.left.right.left.left
 have b0 := s.at_ 0 rfl
 have b1 := s.at_ 1 rfl
 have b2 := s.at_ 2 rfl
 exact ⟨b0.cell 0,b0.frozen 0,b1.cell 0,b1.frozen 0,b2.cell 0,b2.frozen 0⟩
theorem dk_set {HR ZZ Ho HL HB' : List HB} (m : Mv w0 H0 V ((HR ++ ((decX n0 vo a e ++ ZZ) ++ (Ho ++ HL))) ++ HB')) : Mv w0 H0 (V.setCell ⟨n0 + 2,0,none⟩ vo) ((HR ++ ((decX n0 vo a e ++ ZZ) ++ (Ho ++ HL))) ++ HB') ∧
  (∀ a',Mv w0 H0 (V.setCell ⟨n0 + 3,0,none⟩ (.int .i64 a')) ((HR ++ ((decX n0 vo a' e ++ ZZ) ++ (Ho ++ HL))) ++ HB')) ∧ (∀ e',Mv w0 H0 (V.setCell ⟨n0 + 4,0,none⟩ (.int .i64 e')) ((HR ++ ((decX n0 vo a e' ++ ZZ) ++ (Ho ++ HL))) ++ HB')) := by
 refine ⟨?_,fun a' => ?_,fun e' => ?_⟩
 ·have m1 : Mv w0 H0 V (HR ++ ⟨n0 + 2,111,#[vo]⟩ :: (⟨n0 + 3,3,#[.int .i64 a]⟩ :: (⟨n0 + 4,50,#[.int .i64 e]⟩ :: (ZZ ++ (Ho ++ (HL ++ HB')))))) := by simpa only [decX,List.append_assoc,List.cons_append,List.nil_append] using m
  have m2 := Mv.setAt m1 0 vo
  rw [show (#[vo] : Array Value).setIfInBounds 0 vo = #[vo] from rfl] at m2
  simpa only [decX,List.append_assoc,List.cons_append,List.nil_append] using m2
 ·have m1 : Mv w0 H0 V ((HR ++ [⟨n0 + 2,111,#[vo]⟩]) ++ ⟨n0 + 3,3,#[.int .i64 a]⟩ :: (⟨n0 + 4,50,#[.int .i64 e]⟩ :: (ZZ ++ (Ho ++ (HL ++ HB'))))) := by simpa only [decX,List.append_assoc,List.cons_append,List.nil_append] using m
  have m2 := Mv.setAt m1 0 (.int .i64 a')
  rw [show (#[.int .i64 a] : Array Value).setIfInBounds 0 (.int .i64 a') = #[.int .i64 a'] from rfl] at m2
  simpa only [decX,List.append_assoc,List.cons_append,List.nil_append] using m2
 ·have m1 : Mv w0 H0 V ((HR ++ [⟨n0 + 2,111,#[vo]⟩,⟨n0 + 3,3,#[.int .i64 a]⟩]) ++ ⟨n0 + 4,50,#[.int .i64 e]⟩ :: (ZZ ++ (Ho ++ (HL ++ HB')))) := by simpa only [decX,List.append_assoc,List.cons_append,List.nil_append] using m
  have m2 := Mv.setAt m1 0 (.int .i64 e')
  rw [show (#[.int .i64 e] : Array Value).setIfInBounds 0 (.int .i64 e') = #[.int .i64 e'] from rfl] at m2
  simpa only [decX,List.append_assoc,List.cons_append,List.nil_append] using m2
end
theorem dk_results (tmps : Array Value) (w : World) (n0 : Nat) (vo : Value) (a e : Int) (h8 : tmps.getD 8 undef = .pointer (some ⟨n0 + 2,0,none⟩)) (h9 : tmps.getD 9 undef = .pointer (some ⟨n0 + 3,0,none⟩)) (h10 : tmps.getD 10 undef = .pointer (some ⟨n0 + 4,0,none⟩)) (c8 : w.cell? ⟨n0 + 2,0,none⟩ = some vo) (c9 : w.cell? ⟨n0 + 3,0,none⟩ = some (.int .i64 a)) (c10 : w.cell? ⟨n0 + 4,0,none⟩ = some (.int .i64 e)) :
  (results Try.f50 tmps).run Try.prog w = .ok (.tuple #[vo,.int .i64 a,.int .i64 e]) w := by
 rw [results_cell3 (p := 8) (q := 9) (r := 10) (tp := 111) (tq := 3) (tr := 50) rfl,h8,h9,h10]
 simp only [asAddr]
 go_simp
set_option maxHeartbeats 4000000 in
theorem headed_any (A : Option Addr) (c : Nat) (D : List BandA) (M : Nat → BandM) (style layer : Nat) (v : Value) (l : List UInt8) (HL HB0 : List HB) (W : World) (hD : D.length ≤ 1000) (hL : ListH (.slice A D.length c) D HL) (hB : BandsR D M HB0) (hs : Sat W (HL ++ HB0)) (hv : BV W v l) (hll : l.length ≤ 1000000) (hly : layer ≤ 100) (hst : style ≤ 63)
  (hn : (spotsOf D).length ≤ 200) (hg : ∀ d ∈ D,GoodR (M d.bb)) :
  Calls Try.prog 50 #[.slice A D.length c,.int .i64 (style : Int),.int .i64 (layer : Int),v] W (HPost l D HL HB0 W (headD l style layer D M)) := by
 refine (callsIn_wide (n := 8)).1 ?_
 refine callsIn_of_wp_marks Try.func50 rfl trivial ?_ rfl
 simp only [Try.ntmps50,List.size_toArray,List.length_cons,List.length_nil,Nat.reduceAdd,Nat.reduceSub,Array.replicate_succ,Array.replicate_zero,List.push_toArray,List.append_toArray,List.nil_append,List.cons_append]
 have HV := Lib.hid hv
 obtain ⟨a,c9,rfl,hv'⟩ := hv
 obtain ⟨n,hln⟩ : ∃ n,l.length = n := ⟨_,rfl⟩
 rw [hln] at HV ⊢
 have M1n := (((((Mv.refl (Sat.nil W)).alloc 3 #[.int .i64 (style : Int)]).alloc 3 #[.int .i64 (layer : Int)]).alloc 111 #[.slice none 0 0]).alloc 3 #[.int .i64 0]).alloc 50 #[.int .i64 0]
 have M1 := (((((Mv.refl hs).alloc 3 #[.int .i64 (style : Int)]).alloc 3 #[.int .i64 (layer : Int)]).alloc 111 #[.slice none 0 0]).alloc 3 #[.int .i64 0]).alloc 50 #[.int .i64 0]
 have KI := Lib.hid (And.intro hL (And.intro hB (And.intro hg hs)))
 clear hs hL hB hg hv'
 refine wpIn_wide.2 ?_
 go_upto_region 1 with fail
 obtain ⟨w1,hw1⟩ : ∃ w1,w1 = (((((W.alloc (.cells #[.int .i64 (style : Int)] 3)).alloc (.cells #[.int .i64 (layer : Int)] 3)).alloc (.cells #[.slice none 0 0] 111)).alloc (.cells #[.int .i64 0] 3)).alloc (.cells #[.int .i64 0] 50)) := ⟨_,rfl⟩
 simp only [World.size_alloc,← hw1] at M1 M1n
 simp only [← hw1]
 obtain ⟨n0,hn0⟩ : ∃ n0,W.heap.size = n0 := ⟨_,rfl⟩
 rw [hn0] at M1 M1n
 simp only [hn0]
 have NR := Lib.hid (new_reader _ l w1 (HV.out.keep M1n.below0) (by omega))
 have K1 := Lib.hid M1
 clear M1 M1n hw1
 have NW : Hid (Calls Try.prog 73 #[.slice a n c9] w1 fun e w' => ∃ rb HR,e = .returned (.pointer (some ⟨rb,0,none⟩)) ∧ Hid (ReadH rb l rdNew HR ∧ Mv W (HL ++ HB0) w' (HR ++ (⟨n0 + 4,50,#[.int .i64 0]⟩ :: (⟨n0 + 3,3,#[.int .i64 0]⟩ :: (⟨n0 + 2,111,#[.slice none 0 0]⟩ :: (⟨n0 + 1,3,#[.int .i64 (layer : Int)]⟩ :: (⟨n0,3,#[.int .i64 (style : Int)]⟩ :: (HL ++ HB0))))))))) := Lib.hid (by
  refine NR.out.mono ?_
  rintro e w' ⟨rb,HR,rfl,h3,m3⟩
  exact ⟨rb,HR,rfl,Lib.hid ⟨h3,Mv.call (H := []) K1.out m3⟩⟩)
 go_upto_region 2 with (go_at_call 73; refine NW.out.mono ?_; rintro e w2 ⟨rb,HR1,rfl,K2⟩)
 obtain ⟨w3,hw3⟩ : ∃ w3,w3 = w2.alloc (.cells #[.pointer (some ⟨rb,0,none⟩)] 153) := ⟨_,rfl⟩
 obtain ⟨rbx,hrbx⟩ : ∃ rbx,w2.heap.size = rbx := ⟨_,rfl⟩
 obtain ⟨ZZ,hZe⟩ : ∃ ZZ : List HB,ZZ = [⟨rbx,153,#[.pointer (some ⟨rb,0,none⟩)]⟩,⟨n0 + 1,3,#[.int .i64 (layer : Int)]⟩,⟨n0,3,#[.int .i64 (style : Int)]⟩] := ⟨_,rfl⟩
 have hZZ : ∀ V,Sat V ZZ → V.cell? ⟨rbx,0,none⟩ = some (.pointer (some ⟨rb,0,none⟩)) := by
  intro V s
  rw [hZe] at s
  exact (s.at_ 0 rfl).cell 0
 have M3 : Mv W (HL ++ HB0) w3 ((HR1 ++ ((decX n0 (.slice none 0 0) 0 0 ++ ZZ) ++ ([] ++ HL))) ++ HB0) := by
  have m := K2.out.2.alloc 153 #[.pointer (some ⟨rb,0,none⟩)]
  rw [← hw3,hrbx] at m
  rw [hZe]
  exact m.sub (fun g => by simp only [decX,cnt_append,cnt_cons,cnt_nil]; omega) (fun c hc => by simp only [decX,List.mem_append,List.mem_cons,List.not_mem_nil,or_false,false_or] at hc ⊢; grind)
 have x7 := hZZ w3 M3.sat.left.right.left.right
 have hb1 := rdBit_inv l rdNew (by simp [rdNew])
 have hbg1 : (rdBit l rdNew).2.begun ≤ 1 := by have := hb1.2.2; simpa [rdNew] using this
 have BB : Hid (∀ q,(rdBit l rdNew).1 = q → Calls Try.prog 74 #[.pointer (some ⟨rb,0,none⟩)] w3 fun e w4 => e = .returned (.int .i64 (q : Int)) ∧ ∃ HR,Hid (ReadH rb l (rdBit l rdNew).2 HR ∧ Mv W (HL ++ HB0) w4 ((HR ++ ((decX n0 (.slice none 0 0) 0 0 ++ ZZ) ++ ([] ++ HL))) ++ HB0))) := Lib.hid (by
  rintro q hq
  have m1 : Mv W (HL ++ HB0) w3 (HR1 ++ ((((decX n0 (.slice none 0 0) 0 0 ++ ZZ) ++ ([] ++ HL))) ++ HB0)) := by rw [← List.append_assoc]; exact M3
  refine (bit_rd rb l rdNew w3 HR1 K2.out.1 m1.sat.left (by omega) (by simp [rdNew]) (by simp [rdNew])).mono ?_
  rintro e w4 ⟨rfl,HR,p1,p2⟩
  exact ⟨by rw [hq],HR,Lib.hid ⟨p1,by rw [List.append_assoc]; exact Mv.call m1 p2⟩⟩)
 rw [← hw3]
 simp only [hrbx]
 obtain ⟨r1,hr1⟩ : ∃ r1,(rdBit l rdNew).2 = r1 := ⟨_,rfl⟩
 rw [hr1] at BB hb1 hbg1
 have hHD : headD l style layer D M = if (rdBit l rdNew).1 = 1 then foldD l style layer (some ⟨M,[],r1⟩) (spotsOf D) else some ⟨M,[],r1⟩ := by unfold headD; rw [hr1]
 have HHD := Lib.hid hHD
 have HZE := Lib.hid hZe
 clear hw3 hrbx M3 hr1 hHD NR NW hZe
 by_cases hq : (rdBit l rdNew).1 = 1
 ·have BQ := Lib.hid (BB.out 1 hq)
  have hE0 : headD l style layer D M = foldD l style layer (some ⟨M,[],r1⟩) (spotsOf D) := by rw [HHD.out,if_pos hq]
  have HE0 := Lib.hid hE0
  clear hE0 hq BB
  go_wp2_with (first
   | (go_at_call 74; (with_reducible refine BQ.out.mono ?_); rintro e w4 ⟨rfl,HR4,K4⟩; (have y7 := hZZ w4 K4.out.2.sat.left.right.left.right))
   | (go_at_call 22; refine (spots_any _ _ _ _).mono ?_; rintro e w' ⟨rfl,rfl⟩))
  obtain ⟨w6,hw6⟩ : ∃ w6,w6 = w4.alloc (.cells #[.slice A D.length c] 26) := ⟨_,rfl⟩
  obtain ⟨bx,hbx⟩ : ∃ bx,w4.heap.size = bx := ⟨_,rfl⟩
  have M6 : Mv W (HL ++ HB0) w6 ((HR4 ++ ((decX n0 (.slice none 0 0) 0 0 ++ decZ bx rbx rb n0 A D.length c style layer) ++ ([] ++ HL))) ++ HB0) := by
   have m := K4.out.2.alloc 26 #[.slice A D.length c]
   rw [← hw6,hbx,HZE.out] at m
   exact m.sub (fun g => by simp only [decZ,cnt_append,cnt_cons,cnt_nil]; omega) (fun c hc => by simp only [decZ,List.mem_append,List.mem_cons,List.not_mem_nil,or_false,false_or] at hc ⊢; grind)
  have K6 := Lib.hid M6
  have P0 : decP2 bx rbx rb n0 A c D l style layer HL ⟨M,[],r1⟩ [] ((HR4 ++ ((decX n0 (.slice none 0 0) 0 0 ++ decZ bx rbx rb n0 A D.length c style layer) ++ ([] ++ HL))) ++ HB0) := ⟨_,HR4,[],.slice none 0 0,HB0,rfl,rfl,K4.out.1,RowH.nil _ _,KI.out.2.1,KI.out.2.2.1,hb1.2.1,by simp only; omega,by simp⟩
  rw [← hw6]
  simp only [hbx]
  have hsz : W.heap.size ≤ w6.heap.size := M6.only.size
  clear hw6 hbx M6 x7 y7
  refine (wpIn_wide (n := 8)).1 ?_
  refine range_spots1 (n := 8) (by omega) 12 W (HL ++ HB0) hsz (box := bx) (c := c) (A := A) (D := D) rfl (by omega) (fun e he => by obtain ⟨b,-,k2,-⟩ := KI.out.2.1.band he; have := k2.small; omega)
   (decP2 bx rbx rb n0 A c D l style layer HL ⟨M,[],r1⟩) (decPX n0 D l style layer ⟨M,[],r1⟩) ?sp ?no ⟨_,P0,K6.out⟩ ?assign ?body ?done ?stop
  case sp =>
   rintro pre H w ⟨S,HR,Ho,vo,HB',-,rfl,-,-,h2,-⟩ hs
   exact ListH.sp KI.out.1 h2 hs (List.mem_append_left _ (List.mem_append_right _ (List.mem_append_left _ (List.mem_append_right _ List.mem_cons_self)))) (fun x hx => List.mem_append_left _ (List.mem_append_right _ (List.mem_append_right _ (List.mem_append_right _ hx)))) (fun x hx => List.mem_append_right _ hx)
  case no =>
   rintro pre H ⟨S,HR,Ho,vo,HB',-,rfl,hr,ho,h2,-⟩
   obtain ⟨v,Hr,rfl,hr⟩ := hr
   exact ((NoSpot.cons (show 180 ≠ 67 by decide) (NoSpot.row hr (by decide))).append (((decX_no _ _ _ _).append (decZ_no _ _ _ _ _ _ _ _ _)).append ((NoSpot.row ho (by decide)).append (NoSpot.row KI.out.1 (by decide))))).append h2.noSpot
  case assign =>
   intro l x y z w K hK
   simp only [List.setIfInBounds_toArray,List.set_cons_succ,List.set_cons_zero] at hK ⊢
   gi_wp2
   exact hK
  case body =>
   intro l0 pre x hx B w H hr hP hs hlen
   simp only [List.setIfInBounds_toArray,List.set_cons_succ,List.set_cons_zero]
   exact dec_round l0 D A c bx rbx rb n0 B HL l style layer ⟨M,[],r1⟩ pre x hx w H _ _ _ _ _ _ _ _ _ _ _ _ _ _ _ _ _ _ _ _ _ _ _ _ _ _ _ _ _ _ _ _ _ _ _ _ _ _ _ _ _ hP hs (by omega) hst hly (by omega)
  case stop =>
   intro KK pre w H hKK hpre hPX hM hd
   obtain ⟨hf,rfl⟩ := hPX
   have hN : headD l style layer D M = none := by rw [HE0.out]; exact foldD_prefix hpre hf
   have m12 := hM.putObj (.deferred none) hKK hd rfl
   have b0 := (m12.sat.at_ 0 rfl).cell 0
   have b1 := (m12.sat.at_ 1 rfl).cell 0
   have b2 := (m12.sat.at_ 2 rfl).cell 0
   have hpost : HPost l D HL HB0 W none (.returned (.tuple #[.slice none 0 0,.int .i64 0,.int .i64 10])) (w.putObj KK (.deferred none)) := ⟨rfl,m12.sub (fun g => by rw [cnt_nil]; omega) (fun b hb => by cases hb)⟩
   rw [← hN] at hpost
   have KX := Lib.hid (And.intro hd (And.intro hpost (And.intro b0 (And.intro b1 b2))))
   clear hd hpost b0 b1 b2 m12 hM
   refine wpIn_wide.2 ?_
   go_wp2_with fail
   refine ⟨by simp,.inl ⟨_,_,rfl,run_takeDeferred KX.out.1,?_⟩⟩
   exact ⟨_,dk_results _ _ n0 _ _ _ rfl rfl rfl KX.out.2.2.1 KX.out.2.2.2.1 KX.out.2.2.2.2,KX.out.2.1⟩
  case done =>
   intro KK ys w5 H hKK hy hP hM hd
   obtain ⟨S,HR,Ho,vo,HB',hf,rfl,hr,ho,hB,hg,h8,hbg,hol⟩ := hP
   have hyl : ys.length = (spotsOf D).length := by rw [← hy,List.length_map]
   rw [hy] at hf
   have hE : Hid (headD l style layer D M = some S) := Lib.hid (by rw [HE0.out]; exact hf)
   have hM2 : Mv W (HL ++ HB0) w5 ((HR ++ ((decX n0 vo 0 0 ++ ZZ) ++ (Ho ++ HL))) ++ HB') := hM.sub (fun g => by rw [HZE.out]; simp only [decZ,cnt_append,cnt_cons,cnt_nil]; omega) (fun c hc => by rw [HZE.out] at hc; simp only [decZ,List.mem_append,List.mem_cons,List.not_mem_nil,or_false] at hc ⊢; grind)
   have K5 := Lib.hid (And.intro hr (And.intro ho (And.intro hB hM2)))
   have KD := Lib.hid hd
   have hbg2 : S.rd.begun ≤ 20000000 := by omega
   obtain ⟨ao,co,rfl⟩ := ho.slice
   clear hf hr ho hB hg hM hM2 hd hy
   obtain ⟨n9,hn9⟩ : ∃ n9 : Nat,(endM l S.rd).1 = n9 := ⟨_,rfl⟩
   obtain ⟨e9,he9⟩ : ∃ e9 : Nat,(endM l S.rd).2 = e9 := ⟨_,rfl⟩
   have EN : Hid (Calls Try.prog 77 #[.pointer (some ⟨rb,0,none⟩)] w5 fun e w' => e = .returned (.tuple #[.int .i64 (n9 : Int),.int .i64 (e9 : Int)]) ∧ ∃ k,w' = w5.drewN k) := Lib.hid (by
    have h := end_rd rb l S.rd w5 HR K5.out.1 K5.out.2.2.2.sat.left.left (by omega) (by omega)
    rw [hn9,he9] at h
    exact h)
   have CE : Hid (∀ V a e,Mv W (HL ++ HB0) V ((HR ++ ((decX n0 (.slice ao S.out.length co) a e ++ ZZ) ++ (Ho ++ HL))) ++ HB') → (V.cell? ⟨n0 + 2,0,none⟩ = some (.slice ao S.out.length co) ∧ V.frozen? ⟨n0 + 2,0,none⟩ = false ∧ V.cell? ⟨n0 + 3,0,none⟩ = some (.int .i64 a) ∧ V.frozen? ⟨n0 + 3,0,none⟩ = false ∧ V.cell? ⟨n0 + 4,0,none⟩ = some (.int .i64 e) ∧ V.frozen? ⟨n0 + 4,0,none⟩ = false) ∧ V.cell? ⟨rbx,0,none⟩ = some (.pointer (some ⟨rb,0,none⟩)) ∧ Mv W (HL ++ HB0) (V.setCell ⟨n0 + 2,0,none⟩ (.slice ao S.out.length co)) ((HR ++ ((decX n0 (.slice ao S.out.length co) a e ++ ZZ) ++ (Ho ++ HL))) ++ HB') ∧
     (∀ a',Mv W (HL ++ HB0) (V.setCell ⟨n0 + 3,0,none⟩ (.int .i64 a')) ((HR ++ ((decX n0 (.slice ao S.out.length co) a' e ++ ZZ) ++ (Ho ++ HL))) ++ HB')) ∧ (∀ e',Mv W (HL ++ HB0) (V.setCell ⟨n0 + 4,0,none⟩ (.int .i64 e')) ((HR ++ ((decX n0 (.slice ao S.out.length co) a e' ++ ZZ) ++ (Ho ++ HL))) ++ HB'))) := Lib.hid (by
    intro V a e m
    exact ⟨dk_cells m,hZZ V m.sat.left.right.left.right,(dk_set m).1,(dk_set m).2.1,(dk_set m).2.2⟩)
   obtain ⟨⟨x1,x2,x3,x4,x5,x6⟩,x7,-⟩ := CE.out w5 0 0 K5.out.2.2.2
   go_upto_region 11 with (go_at_call 77; (with_reducible refine EN.out.mono ?_); rintro e w6 ⟨rfl,k6,rfl⟩)
   obtain ⟨w7,hw7⟩ : ∃ w7,w7 = ((w5.drewN k6).setCell ⟨n0 + 3,0,none⟩ (.int .i64 (n9 : Int))).setCell ⟨n0 + 4,0,none⟩ (.int .i64 (e9 : Int)) := ⟨_,rfl⟩
   have M7 : Mv W (HL ++ HB0) w7 ((HR ++ ((decX n0 (.slice ao S.out.length co) n9 e9 ++ ZZ) ++ (Ho ++ HL))) ++ HB') := by rw [hw7]; exact (CE.out _ _ _ ((CE.out _ 0 0 (K5.out.2.2.2.drewN k6)).2.2.2.1 (n9 : Int))).2.2.2.2 (e9 : Int)
   have e10 : ((w5.drewN k6).setCell ⟨n0 + 1 + 1 + 1,0,none⟩ (.int .i64 (n9 : Int))).setCell ⟨n0 + 1 + 1 + 1 + 1,0,none⟩ (.int .i64 (e9 : Int)) = w7 := hw7.symm
   first | rw [← hw7] | rw [e10]
   have kk7 : w7.heap[KK]? = some (.deferred (some [])) := by rw [hw7]; exact (KeepsOthers.setCell _ ⟨n0 + 4,0,none⟩ _).same KK _ ((KeepsOthers.setCell _ ⟨n0 + 3,0,none⟩ _).same KK _ KD.out rfl) rfl
   have K7 := Lib.hid kk7
   clear kk7
   have K8 := Lib.hid M7
   clear hw7 e10 x1 x2 x3 x4 x5 x6 x7
   obtain ⟨⟨x1,x2,x3,x4,x5,x6⟩,x7,-⟩ := CE.out w7 _ _ M7
   clear M7
   go_region
   all_goals
    obtain ⟨w8,hw8⟩ : ∃ w8,w8 = (((w7.setCell ⟨n0 + 2,0,none⟩ (.slice ao S.out.length co)).setCell ⟨n0 + 3,0,none⟩ (.int .i64 (n9 : Int))).setCell ⟨n0 + 4,0,none⟩ (.int .i64 (e9 : Int))).drew := ⟨_,rfl⟩
    have M8 : Mv W (HL ++ HB0) w8 ((HR ++ ((decX n0 (.slice ao S.out.length co) n9 e9 ++ ZZ) ++ (Ho ++ HL))) ++ HB') := by rw [hw8]; exact ((CE.out _ _ _ ((CE.out _ _ _ (CE.out _ _ _ K8.out).2.2.1).2.2.2.1 (n9 : Int))).2.2.2.2 (e9 : Int)).drew
    have kk8 : w8.heap[KK]? = some (.deferred (some [])) := by rw [hw8]; exact (KeepsOthers.setCell _ ⟨n0 + 4,0,none⟩ _).same KK _ ((KeepsOthers.setCell _ ⟨n0 + 3,0,none⟩ _).same KK _ ((KeepsOthers.setCell _ ⟨n0 + 2,0,none⟩ _).same KK _ K7.out rfl) rfl) rfl
    have K12 := Lib.hid kk8
    clear kk8
    have e11 : (((w7.setCell ⟨n0 + 1 + 1,0,none⟩ (.slice ao S.out.length co)).setCell ⟨n0 + 1 + 1 + 1,0,none⟩ (.int .i64 (n9 : Int))).setCell ⟨n0 + 1 + 1 + 1 + 1,0,none⟩ (.int .i64 (e9 : Int))).drew = w8 := hw8.symm
    first | rw [← hw8] | rw [e11]
    have K11 := Lib.hid M8
    clear hw8 e11 M8
    go_wp2_with fail
    have hpost : HPost l D HL HB0 W (some S) (.returned (.tuple #[(.slice ao S.out.length co),.int .i64 (n9 : Int),.int .i64 (e9 : Int)])) (w8.putObj KK (.deferred none)) := ⟨(.slice ao S.out.length co),Ho,HB',by rw [hn9,he9],K5.out.2.1,K5.out.2.2.1,(K11.out.putObj (.deferred none) hKK K12.out rfl).sub (fun g => by simp only [cnt_append]; omega) (fun c hc => by simp only [List.mem_append] at hc ⊢; grind)⟩
    rw [← hE.out] at hpost
    have M12 := K11.out.putObj (.deferred none) hKK K12.out rfl
    obtain ⟨⟨v1,-,v3,-,v5,-⟩,-⟩ := CE.out _ _ _ M12
    refine ⟨by simp,.inl ⟨_,_,rfl,run_takeDeferred K12.out,?_⟩⟩
    exact ⟨_,dk_results _ _ n0 (.slice ao S.out.length co) _ _ rfl rfl rfl v1 v3 v5,hpost⟩
 ·have hq0 : (rdBit l rdNew).1 = 0 := by omega
  have BQ := Lib.hid (BB.out 0 hq0)
  have hE : Hid (headD l style layer D M = some ⟨M,[],r1⟩) := Lib.hid (by rw [HHD.out,if_neg hq])
  clear hq hq0 BB
  go_upto_region 10 with (go_at_call 74; (with_reducible refine BQ.out.mono ?_); rintro e w5 ⟨rfl,HR,K4⟩)
  have K5 := Lib.hid (And.intro K4.out.1 (And.intro (show RowPc (.slice none 0 0) [] [] from RowH.nil _ _) (And.intro KI.out.2.1 K4.out.2)))
  obtain ⟨S,hSe⟩ : ∃ S : DecS,(⟨M,[],r1⟩ : DecS) = S := ⟨_,rfl⟩
  obtain ⟨Ho,hHo⟩ : ∃ Ho : List HB,([] : List HB) = Ho := ⟨_,rfl⟩
  obtain ⟨vo,hvo⟩ : ∃ vo : Value,Value.slice none 0 0 = vo := ⟨_,rfl⟩
  obtain ⟨HB',hHB'⟩ : ∃ HB',HB0 = HB' := ⟨_,rfl⟩
  have K5 : Hid (ReadH rb l S.rd HR ∧ RowPc vo S.out Ho ∧ BandsR D S.M HB' ∧ Mv W (HL ++ HB0) w5 ((HR ++ ((decX n0 vo 0 0 ++ ZZ) ++ (Ho ++ HL))) ++ HB')) := Lib.hid (by subst hSe hHo hvo; rw [← hHB']; exact K5.out)
  rw [hSe] at hE
  have hbg2 : S.rd.begun ≤ 20000000 := by rw [← hSe]; simp only; omega
  clear K4 hSe hHo hHB' x7
  subst hvo
  obtain ⟨n9,hn9⟩ : ∃ n9 : Nat,(endM l S.rd).1 = n9 := ⟨_,rfl⟩
  obtain ⟨e9,he9⟩ : ∃ e9 : Nat,(endM l S.rd).2 = e9 := ⟨_,rfl⟩
  have EN : Hid (Calls Try.prog 77 #[.pointer (some ⟨rb,0,none⟩)] w5 fun e w' => e = .returned (.tuple #[.int .i64 (n9 : Int),.int .i64 (e9 : Int)]) ∧ ∃ k,w' = w5.drewN k) := Lib.hid (by
   have h := end_rd rb l S.rd w5 HR K5.out.1 K5.out.2.2.2.sat.left.left (by omega) (by omega)
   rw [hn9,he9] at h
   exact h)
  have CE : Hid (∀ V a e,Mv W (HL ++ HB0) V ((HR ++ ((decX n0 (.slice none 0 0) a e ++ ZZ) ++ (Ho ++ HL))) ++ HB') → (V.cell? ⟨n0 + 2,0,none⟩ = some (.slice none 0 0) ∧ V.frozen? ⟨n0 + 2,0,none⟩ = false ∧ V.cell? ⟨n0 + 3,0,none⟩ = some (.int .i64 a) ∧ V.frozen? ⟨n0 + 3,0,none⟩ = false ∧ V.cell? ⟨n0 + 4,0,none⟩ = some (.int .i64 e) ∧ V.frozen? ⟨n0 + 4,0,none⟩ = false) ∧ V.cell? ⟨rbx,0,none⟩ = some (.pointer (some ⟨rb,0,none⟩)) ∧ Mv W (HL ++ HB0) (V.setCell ⟨n0 + 2,0,none⟩ (.slice none 0 0)) ((HR ++ ((decX n0 (.slice none 0 0) a e ++ ZZ) ++ (Ho ++ HL))) ++ HB') ∧
    (∀ a',Mv W (HL ++ HB0) (V.setCell ⟨n0 + 3,0,none⟩ (.int .i64 a')) ((HR ++ ((decX n0 (.slice none 0 0) a' e ++ ZZ) ++ (Ho ++ HL))) ++ HB')) ∧ (∀ e',Mv W (HL ++ HB0) (V.setCell ⟨n0 + 4,0,none⟩ (.int .i64 e')) ((HR ++ ((decX n0 (.slice none 0 0) a e' ++ ZZ) ++ (Ho ++ HL))) ++ HB'))) := Lib.hid (by
   intro V a e m
   exact ⟨dk_cells m,hZZ V m.sat.left.right.left.right,(dk_set m).1,(dk_set m).2.1,(dk_set m).2.2⟩)
  obtain ⟨⟨x1,x2,x3,x4,x5,x6⟩,x7,-⟩ := CE.out w5 0 0 K5.out.2.2.2
  go_upto_region 11 with (go_at_call 77; (with_reducible refine EN.out.mono ?_); rintro e w6 ⟨rfl,k6,rfl⟩)
  obtain ⟨w7,hw7⟩ : ∃ w7,w7 = ((w5.drewN k6).setCell ⟨n0 + 3,0,none⟩ (.int .i64 (n9 : Int))).setCell ⟨n0 + 4,0,none⟩ (.int .i64 (e9 : Int)) := ⟨_,rfl⟩
  have M7 : Mv W (HL ++ HB0) w7 ((HR ++ ((decX n0 (.slice none 0 0) n9 e9 ++ ZZ) ++ (Ho ++ HL))) ++ HB') := by rw [hw7]; exact (CE.out _ _ _ ((CE.out _ 0 0 (K5.out.2.2.2.drewN k6)).2.2.2.1 (n9 : Int))).2.2.2.2 (e9 : Int)
  have e10 : ((w5.drewN k6).setCell ⟨n0 + 1 + 1 + 1,0,none⟩ (.int .i64 (n9 : Int))).setCell ⟨n0 + 1 + 1 + 1 + 1,0,none⟩ (.int .i64 (e9 : Int)) = w7 := hw7.symm
  first | rw [← hw7] | rw [e10]
  have K8 := Lib.hid M7
  clear hw7 e10 x1 x2 x3 x4 x5 x6 x7
  obtain ⟨⟨x1,x2,x3,x4,x5,x6⟩,x7,-⟩ := CE.out w7 _ _ M7
  clear M7
  go_region
  all_goals
   obtain ⟨w8,hw8⟩ : ∃ w8,w8 = (((w7.setCell ⟨n0 + 2,0,none⟩ (.slice none 0 0)).setCell ⟨n0 + 3,0,none⟩ (.int .i64 (n9 : Int))).setCell ⟨n0 + 4,0,none⟩ (.int .i64 (e9 : Int))).drew := ⟨_,rfl⟩
   have M8 : Mv W (HL ++ HB0) w8 ((HR ++ ((decX n0 (.slice none 0 0) n9 e9 ++ ZZ) ++ (Ho ++ HL))) ++ HB') := by rw [hw8]; exact ((CE.out _ _ _ ((CE.out _ _ _ (CE.out _ _ _ K8.out).2.2.1).2.2.2.1 (n9 : Int))).2.2.2.2 (e9 : Int)).drew
   have e11 : (((w7.setCell ⟨n0 + 1 + 1,0,none⟩ (.slice none 0 0)).setCell ⟨n0 + 1 + 1 + 1,0,none⟩ (.int .i64 (n9 : Int))).setCell ⟨n0 + 1 + 1 + 1 + 1,0,none⟩ (.int .i64 (e9 : Int))).drew = w8 := hw8.symm
   first | rw [← hw8] | rw [e11]
   have K11 := Lib.hid M8
   clear hw8 e11 M8
   go_wp2_with fail
   have hpost : HPost l D HL HB0 W (some S) (.returned (.tuple #[(.slice none 0 0),.int .i64 (n9 : Int),.int .i64 (e9 : Int)])) w8 := ⟨(.slice none 0 0),Ho,HB',by rw [hn9,he9],K5.out.2.1,K5.out.2.2.1,K11.out.sub (fun g => by simp only [cnt_append]; omega) (fun c hc => by simp only [List.mem_append] at hc ⊢; grind)⟩
   rw [← hE.out] at hpost
   obtain ⟨⟨v1,-,v3,-,v5,-⟩,-⟩ := CE.out _ _ _ K11.out
   exact ⟨_,dk_results _ _ n0 (.slice none 0 0) _ _ rfl rfl rfl v1 v3 v5,hpost⟩
end
end Go.Proofs.Ytnpoakabheeoeaa
