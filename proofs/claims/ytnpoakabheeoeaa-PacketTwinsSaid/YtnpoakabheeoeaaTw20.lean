/- packet.Encode: a round of the loop that writes. -/
import Derived.Test.YtnpoakabheeoeaaTw19
set_option maxRecDepth 100000
namespace Go.Proofs.Ytnpoakabheeoeaa
section
open Go.RowKit Go.Shelf
attribute [local go_sem] Oper.semAt_some
def getBlockR (n : Nat) : Code → Option Code
 | .block i b => if i == n then some (.block i b) else getBlockR n b
 | .seq a b => (getBlockR n a).or (getBlockR n b)
 | .cond _ a b => (getBlockR n a).or (getBlockR n b)
 | .loop b => getBlockR n b
 | .scope b => getBlockR n b
 | .rangeFunc _ _ _ b => getBlockR n b
 | _ => none
def blockR (n : Nat) (f : Func) : Code := ((f.body.bind (getBlockR n))).getD .skip
def newB (count layer : Nat) (M : Nat → BandM) (x : SpotX) : Bool := match (M x.d.bb).ss[x.k]? with
 | none => false
 | some s => decide (s.said < passN s.ps.length (count : Int) ((layer : Int) + 1))
def moreM (count layer : Nat) (M : Nat → BandM) (l : List SpotX) : Bool := l.any (newB count layer M)
theorem toM_eq (count layer : Nat) (s : StM) (h : 0 ≤ s.said) : max (passN s.ps.length (count : Int) ((layer : Int) + 1)) s.said = ((toM count layer s : Nat) : Int) := by
 have := (passN_le s.ps.length (count : Int) ((layer : Int) + 1)).1
 unfold toM
 omega
theorem toM_le (count layer : Nat) (s : StM) (h : s.said ≤ s.ps.length) : s.said.toNat ≤ toM count layer s ∧ toM count layer s ≤ s.ps.length := by
 have := passN_le_total s.ps.length (count : Int) ((layer : Int) + 1)
 unfold toM
 omega
def encY (box wx wb n0 : Nat) (A : Option Addr) (nD c : Nat) (style count layer : Int) (vb : Value) : List HB :=
 [⟨box,26,#[.slice A nD c]⟩,⟨wx,71,#[.pointer (some ⟨wb,0,none⟩)]⟩,⟨n0 + 3,30,#[vb]⟩,⟨n0 + 2,3,#[.int .i64 layer]⟩,⟨n0 + 1,3,#[.int .i64 count]⟩,⟨n0,3,#[.int .i64 style]⟩]
theorem encY_no (box wx wb n0 : Nat) (A : Option Addr) (nD c : Nat) (style count layer : Int) (vb : Value) : NoSpot (encY box wx wb n0 A nD c style count layer vb) := by
 intro x hx
 simp only [encY,List.mem_cons,List.not_mem_nil,or_false] at hx
 rcases hx with rfl | rfl | rfl | rfl | rfl | rfl
 ·exact (show 26 ≠ 67 by decide)
 ·exact (show 71 ≠ 67 by decide)
 ·exact (show 30 ≠ 67 by decide)
 ·exact (show 3 ≠ 67 by decide)
 ·exact (show 3 ≠ 67 by decide)
 ·exact (show 3 ≠ 67 by decide)
def encP2 (box wx wb n0 : Nat) (A : Option Addr) (c : Nat) (D : List BandA) (style count layer : Nat) (HL : List HB) (S0 : PackS) (pre : List (SpotIn D)) (H : List HB) : Prop :=
 ∃ (S : PackS) (HW Hb : List HB) (vb : Value) (HB' : List HB),S = (pre.map (·.1)).foldl (stepE count style layer) S0 ∧ H = (HW ++ (encY box wx wb n0 A D.length c style count layer vb ++ (Hb ++ HL))) ++ HB' ∧
  WrB wb S.bits HW ∧ RowB vb S.body Hb ∧ BandsR D S.M HB' ∧ (∀ d ∈ D,GoodB (S.M d.bb)) ∧ S.bits.length ≤ 130000 * pre.length + 1 ∧ S.body.length ≤ 300000 * pre.length
theorem bodyM_length (ps : List (Int × Bool)) (bs : List UInt8) (said to_ : Nat) : (bodyM ps bs said to_).length ≤ bs.length := by
 unfold bodyM
 rw [List.length_take,List.length_drop]
 omega
set_option maxHeartbeats 4000000 in
theorem enc_round (l : Nat) (D : List BandA) (A : Option Addr) (c box wx wb n0 B : Nat) (HL : List HB) (style count layer : Nat) (S0 : PackS) (pre : List (SpotIn D)) (x : SpotX) (hx : x ∈ spotsOf D) (w : World) (H : List HB) (s0 s1 s2 s3 s4 s8 s10 s11 s14 s15 s16 s17 s18 s19 s20 s21 s22 s23 s24 s25 s26 s27 s28 s29 s30 s31 s32 s33 s34 s35 s36 s37 s38 s39 s40 s41 s42 s43 s44 s45 s46 s47 s48 s49 s50 s51 s52 s53 s54 s55 s56 s57 s58 s59 s60 s61 s62 s63 s64 s65 s66 s67 s68 s69 s70 s71 s72 s73 s74 s75 s76 s77 s78 s79 s80 s81 s82 s83 : Value)
  (hP : encP2 box wx wb n0 A c D style count layer HL S0 pre H) (hs : Sat w (⟨B,67,x.cells⟩ :: H)) (hlen : pre.length < 200) (hst : style ≤ 63) (hly : layer ≤ 100) (hct : count ≤ 100000) :
  (blockR 3 Try.f11).wpIn (Fence.wide.inRound l) 6 Try.prog (spPost w (⟨B,67,x.cells⟩ :: H) (encP2 box wx wb n0 A c D style count layer HL S0) (fun _ _ => False) (pre ++ [⟨x,hx⟩]))
   ⟨List.toArray (s0::s1::s2::s3::s4::(.pointer (some ⟨n0,0,none⟩))::(.pointer (some ⟨n0 + 1,0,none⟩))::(.pointer (some ⟨n0 + 2,0,none⟩))::s8::(.pointer (some ⟨n0 + 3,0,none⟩))::s10::s11::(.pointer (some ⟨wx,0,none⟩))::(.pointer (some ⟨B,0,none⟩))::s14::s15::s16::s17::s18::s19::s20::s21::s22::s23::s24::s25::s26::s27::s28::s29::s30::s31::s32::s33::s34::s35::s36::s37::s38::s39::s40::s41::s42::s43::s44::s45::s46::s47::s48::s49::s50::s51::s52::s53::s54::s55::s56::s57::s58::s59::s60::s61::s62::s63::s64::s65::s66::s67::s68::s69::s70::s71::s72::s73::s74::s75::s76::s77::s78::s79::s80::s81::s82::s83::[]),[]⟩ w := by
 conv in (blockR _ _) => whnf
 obtain ⟨S,HW,Hb,vb,HB1,hS,rfl,hw,hb,hB,hg,hl1,hl2⟩ := hP
 obtain ⟨hxd,hxk⟩ := mem_spots hx
 obtain ⟨d,k⟩ := x
 simp only at hxd hxk
 obtain ⟨PS,hPS⟩ : ∃ PS,spPost w (⟨B,67,SpotX.cells ⟨d,k⟩⟩ :: ((HW ++ (encY box wx wb n0 A D.length c style count layer vb ++ (Hb ++ HL))) ++ HB1)) (encP2 box wx wb n0 A c D style count layer HL S0) (fun _ _ => False) (pre ++ [⟨⟨d,k⟩,hx⟩]) = PS := ⟨_,rfl⟩
 have LP : Hid (¬LetsOut PS) := Lib.hid (by rw [← hPS]; rintro ⟨a,w,h⟩; exact h)
 rw [hPS]
 -- the block's state
 obtain ⟨bd,e1,e2,-⟩ := hB.band hxd
 have hsl : (S.M d.bb).ss.length = d.n := by rw [← e1]; show (bd.G.map _).length = _; rw [List.length_map]; exact e2.len
 have hkn : k < 4096 := Nat.lt_of_lt_of_le hxk e2.small
 clear e1 e2 bd
 obtain ⟨s,hss⟩ : ∃ s,(S.M d.bb).ss[k]? = some s := ⟨_,List.getElem?_eq_getElem (by rw [hsl]; exact hxk)⟩
 obtain ⟨F1,F2,F3⟩ := step_fits hB hxd hss
 have GB := hg d hxd
 have GS := GB.ss s (List.mem_of_getElem? hss)
 obtain ⟨t,ht⟩ : ∃ t,toM count layer s = t := ⟨_,rfl⟩
 have et := toM_eq count layer s F1.said.1
 have tl := toM_le count layer s F1.said.2
 rw [ht] at et tl
 obtain ⟨sd,hsd⟩ : ∃ sd : Nat,s.said = (sd : Int) := ⟨s.said.toNat,(Int.toNat_of_nonneg F1.said.1).symm⟩
 have hsd2 : s.said.toNat = sd := by omega
 rw [hsd2] at tl
 -- memory
 obtain ⟨XX,hXX⟩ : ∃ XX : Value → List HB,XX = fun v => ⟨B,67,SpotX.cells ⟨d,k⟩⟩ :: encY box wx wb n0 A D.length c style count layer v := ⟨_,rfl⟩
 obtain ⟨HH,hHH⟩ : ∃ HH,HH = ⟨B,67,SpotX.cells ⟨d,k⟩⟩ :: ((HW ++ (encY box wx wb n0 A D.length c style count layer vb ++ (Hb ++ HL))) ++ HB1) := ⟨_,rfl⟩
 have M0 : Mv w HH w ((HW ++ (XX vb ++ (Hb ++ HL))) ++ HB1) := by
  have m : Mv w HH w HH := Mv.refl (by rw [hHH]; exact hs)
  refine m.sub (fun g => ?_) (fun y hy => ?_)
  ·rw [hHH,hXX]; simp only [cnt_append,cnt_cons]; omega
  ·rw [hXX] at hy; rw [hHH]; simp only [List.mem_append,List.mem_cons] at hy ⊢; grind
 have BX : Hid (∀ w' HW' v HR HB',Mv w HH w' ((HW' ++ (XX v ++ HR)) ++ HB') → w'.cell? ⟨B,0,none⟩ = some (.pointer (some ⟨d.lb,k * 5,none⟩)) ∧ w'.cell? ⟨B,1,none⟩ = some (.pointer (some ⟨d.bb,0,none⟩)) ∧ w'.cell? ⟨B,2,none⟩ = some (.int .i64 (k : Int)) ∧ w'.cell? ⟨wx,0,none⟩ = some (.pointer (some ⟨wb,0,none⟩)) ∧ w'.cell? ⟨n0,0,none⟩ = some (.int .i64 (style : Int)) ∧ w'.cell? ⟨n0 + 1,0,none⟩ = some (.int .i64 (count : Int)) ∧ w'.cell? ⟨n0 + 2,0,none⟩ = some (.int .i64 (layer : Int)) ∧
   w'.cell? ⟨n0 + 3,0,none⟩ = some v ∧ w'.frozen? ⟨n0 + 3,0,none⟩ = false) := Lib.hid (by
  intro w' HW' v HR HB' m
  have a0 : Sat w' (XX v) := m.sat.left.right.left
  rw [hXX] at a0
  have b0 := a0.at_ 0 rfl
  have b2 := a0.at_ 2 rfl
  have b3 := a0.at_ 3 rfl
  have b4 := a0.at_ 4 rfl
  have b5 := a0.at_ 5 rfl
  have b6 := a0.at_ 6 rfl
  exact ⟨b0.cell 0,b0.cell 1,b0.cell 2,b2.cell 0,b6.cell 0,b5.cell 0,b4.cell 0,b3.cell 0,b3.frozen 0⟩)
 have FIN : Hid (∀ (a : Act) (w4 : World) (HW' Hb' : List HB) (v : Value) (HB' : List HB),WrB wb (stepE count style layer S ⟨d,k⟩).bits HW' → RowB v (stepE count style layer S ⟨d,k⟩).body Hb' → BandsR D (stepE count style layer S ⟨d,k⟩).M HB' → Mv w HH w4 ((HW' ++ (XX v ++ (Hb' ++ HL))) ++ HB') → PS .normal a w4) := Lib.hid (by
  intro a w4 HW' Hb' v HB' h1 h2 h3 m4
  rw [← hPS]
  refine ⟨(HW' ++ (encY box wx wb n0 A D.length c style count layer v ++ (Hb' ++ HL))) ++ HB',⟨stepE count style layer S ⟨d,k⟩,HW',Hb',v,HB',?_,rfl,h1,h2,h3,?_,?_,?_⟩,?_⟩
  ·rw [List.map_append,List.foldl_append,← hS]; rfl
  ·intro d' hd'
   simp only [stepE,hss,ht]
   unfold updM
   split
   ·exact (GB.head hss style layer _ _ F1.ends).said k t
   ·exact hg d' hd'
  ·have hh := headM_length (S.M d.bb) k style layer sd t s F2 F3 GB GS hly F1.ends F1.lb.1 (by have := F1.np; omega)
   simp only [stepE,hss,ht,hsd2,List.length_append,List.length_cons,List.length_nil]
   omega
  ·have hh := bodyM_length s.ps s.bs sd t
   have h3 := GS.bs
   simp only [stepE,hss,ht,hsd2]
   split
   ·simp only [List.length_append,List.length_cons,List.length_nil]; omega
   ·simp only [List.length_append,List.length_cons,List.length_nil]; omega
  ·rw [← hHH]
   refine m4.sub (fun g => ?_) (fun y hy => ?_)
   ·rw [hXX]; simp only [cnt_append,cnt_cons]; omega
   ·rw [hXX]; simp only [List.mem_append,List.mem_cons] at hy ⊢; grind)
 have SV : Hid (∀ w' HW' v v' Hb' HB',Mv w HH w' ((HW' ++ (XX v ++ Hb')) ++ HB') → Mv w HH (w'.setCell ⟨n0 + 3,0,none⟩ v') ((HW' ++ (XX v' ++ Hb')) ++ HB')) := Lib.hid (by
  intro w' HW' v v' Hb' HB' m
  rw [hXX] at m ⊢
  have m1 : Mv w HH w' ((HW' ++ [⟨B,67,SpotX.cells ⟨d,k⟩⟩,⟨box,26,#[.slice A D.length c]⟩,⟨wx,71,#[.pointer (some ⟨wb,0,none⟩)]⟩]) ++ ⟨n0 + 3,30,#[v]⟩ :: ([⟨n0 + 2,3,#[.int .i64 (layer : Int)]⟩,⟨n0 + 1,3,#[.int .i64 (count : Int)]⟩,⟨n0,3,#[.int .i64 (style : Int)]⟩] ++ (Hb' ++ HB'))) := by
   simpa only [encY,List.append_assoc,List.cons_append,List.nil_append] using m
  have m2 := Mv.setAt m1 0 v'
  rw [show (#[v] : Array Value).setIfInBounds 0 v' = #[v'] from rfl] at m2
  simpa only [encY,List.append_assoc,List.cons_append,List.nil_append] using m2)
 clear hHH hPS
 obtain ⟨A',cp,SC⟩ := step_cells hB hxd hss M0
 have hnp := F1.np
 have hmx : Try.prog.follows .mixedOrders = true := by kernel_rfl
 obtain ⟨C,hC⟩ : ∃ C : World → Prop,C = fun w' => Hid (Mv w HH w' ((HW ++ (XX vb ++ (Hb ++ HL))) ++ HB1)) := ⟨_,rfl⟩
 have CF : ∀ w',C w' → w'.cell? ⟨B,0,none⟩ = some (.pointer (some ⟨d.lb,k * 5,none⟩)) ∧ w'.cell? ⟨B,1,none⟩ = some (.pointer (some ⟨d.bb,0,none⟩)) ∧ w'.cell? ⟨B,2,none⟩ = some (.int .i64 (k : Int)) ∧ w'.cell? ⟨n0 + 1,0,none⟩ = some (.int .i64 (count : Int)) ∧ w'.cell? ⟨n0 + 2,0,none⟩ = some (.int .i64 (layer : Int)) ∧ w'.cell? ⟨d.lb,k * 5 + 3,none⟩ = some (.int .i64 (sd : Int)) := by
  intro w' h
  rw [hC] at h
  obtain ⟨a0,a1,a2,a3,a4,a5,a6,a7,a8⟩ := BX.out w' HW vb _ HB1 h.out
  have a9 := (SC w' h.out).2.1
  rw [hsd] at a9
  exact ⟨a0,a1,a2,a5,a6,a9⟩
 have CK : ∀ w',C w' → Calls Try.prog 24 #[.agg #[.pointer (some ⟨d.lb,k * 5,none⟩),.pointer (some ⟨d.bb,0,none⟩),.int .i64 (k : Int)],.int .i64 (count : Int),.int .i64 (layer : Int)] w' fun e w3 => e = .returned (.int .i64 (passN s.ps.length count ((layer : Int) + 1))) ∧ C w3 := by
  intro w' h
  rw [hC] at h ⊢
  refine (fresh_any ⟨d,k⟩ count layer w' A' s.ps.length cp (SC w' h.out).1 (by simp; omega) (by omega) ⟨by omega,by omega⟩ ⟨by omega,by omega⟩).mono ?_
  rintro e w3 ⟨rfl,m3⟩
  exact ⟨rfl,Lib.hid (Mv.call (H := []) (H' := []) h.out m3)⟩
 rw [hsd] at et
 obtain ⟨fr,hfr⟩ : ∃ fr,passN s.ps.length (count : Int) ((layer : Int) + 1) = fr := ⟨_,rfl⟩
 rw [hfr] at et CK
 have CD : C w.drew := by rw [hC]; exact Lib.hid (Mv.drew M0)
 replace CF := Lib.hid CF
 replace CK := Lib.hid CK
 have HC := Lib.hid hC
 have SB := Lib.hid (fun (W : World) HWx Y (m : Mv w HH W ((HWx ++ Y) ++ HB1)) (hwx : WrB wb S.bits HWx) => step_head hB hxd hxk hss GB hwx m style layer t (by omega) tl.2 hst hly (by omega))
 have HX := Lib.hid hXX
 have KK := Lib.hid (And.intro hB (And.intro hss (And.intro GB (And.intro hw (And.intro hb (And.intro F1 (And.intro ht (And.intro hsd hsd2))))))))
 clear hC hXX hB hss GB GS hw hb F1 ht hsd hsd2 F2 F3 hg hS hs hsl M0 SC hfr hx
 gi_upto_region 12 with fail
 refine round_quiet_tail 10 C hmx (by kernel_rfl) (fun ⟨a,w,h⟩ => LP.out ⟨a,w,h⟩) CD (by kernel_rfl) ?_
 simp only [List.take_succ_cons,List.take_zero,List.drop_succ_cons,List.drop_zero]
 (first | (with_reducible refine qc_pass ?hw1 ?nx1; (case hw1 => (go_simp; done)); (try simp only [Act.put,List.setIfInBounds_toArray,List.set_cons_zero,List.set_cons_succ])) | (with_reducible refine qc_one ?v1 ?hw1 (fun w' hw' => ?hr1) ?nx1; (case hw1 => (go_simp; done)); (case hr1 => (first | (refine qc_val ?_; (obtain ⟨a0,a1,a2,a3,a4,a5⟩ := CF.out w' hw'); clear hw'; go_simp; done) | (refine qc_val ?_; (obtain ⟨a0,a1,a2,a3,a4,a5⟩ := CF.out w' hw'); clear hw'; go_simp; rfl) | (refine qc_call (f := ?f1) (args := ?args1) ?h11 ?h21; (case h11 => ((obtain ⟨a0,a1,a2,a3,a4,a5⟩ := CF.out w' hw'); go_simp; constructor <;> rfl)); (case h21 => (exact CK.out w' hw'))) | (refine qc_skip ?_; (obtain ⟨a0,a1,a2,a3,a4,a5⟩ := CF.out w' hw'); clear hw'; go_simp; done))); (try simp only [Act.put,List.setIfInBounds_toArray,List.set_cons_zero,List.set_cons_succ])))
 (first | (with_reducible refine qc_pass ?hw2 ?nx2; (case hw2 => (go_simp; done)); (try simp only [Act.put,List.setIfInBounds_toArray,List.set_cons_zero,List.set_cons_succ])) | (with_reducible refine qc_one ?v2 ?hw2 (fun w' hw' => ?hr2) ?nx2; (case hw2 => (go_simp; done)); (case hr2 => (first | (refine qc_val ?_; (obtain ⟨a0,a1,a2,a3,a4,a5⟩ := CF.out w' hw'); clear hw'; go_simp; done) | (refine qc_val ?_; (obtain ⟨a0,a1,a2,a3,a4,a5⟩ := CF.out w' hw'); clear hw'; go_simp; rfl) | (refine qc_call (f := ?f2) (args := ?args2) ?h12 ?h22; (case h12 => ((obtain ⟨a0,a1,a2,a3,a4,a5⟩ := CF.out w' hw'); go_simp; constructor <;> rfl)); (case h22 => (exact CK.out w' hw'))) | (refine qc_skip ?_; (obtain ⟨a0,a1,a2,a3,a4,a5⟩ := CF.out w' hw'); clear hw'; go_simp; done))); (try simp only [Act.put,List.setIfInBounds_toArray,List.set_cons_zero,List.set_cons_succ])))
 (first | (with_reducible refine qc_pass ?hw3 ?nx3; (case hw3 => (go_simp; done)); (try simp only [Act.put,List.setIfInBounds_toArray,List.set_cons_zero,List.set_cons_succ])) | (with_reducible refine qc_one ?v3 ?hw3 (fun w' hw' => ?hr3) ?nx3; (case hw3 => (go_simp; done)); (case hr3 => (first | (refine qc_val ?_; (obtain ⟨a0,a1,a2,a3,a4,a5⟩ := CF.out w' hw'); clear hw'; go_simp; done) | (refine qc_val ?_; (obtain ⟨a0,a1,a2,a3,a4,a5⟩ := CF.out w' hw'); clear hw'; go_simp; rfl) | (refine qc_call (f := ?f3) (args := ?args3) ?h13 ?h23; (case h13 => ((obtain ⟨a0,a1,a2,a3,a4,a5⟩ := CF.out w' hw'); go_simp; constructor <;> rfl)); (case h23 => (exact CK.out w' hw'))) | (refine qc_skip ?_; (obtain ⟨a0,a1,a2,a3,a4,a5⟩ := CF.out w' hw'); clear hw'; go_simp; done))); (try simp only [Act.put,List.setIfInBounds_toArray,List.set_cons_zero,List.set_cons_succ])))
 (first | (with_reducible refine qc_pass ?hw4 ?nx4; (case hw4 => (go_simp; done)); (try simp only [Act.put,List.setIfInBounds_toArray,List.set_cons_zero,List.set_cons_succ])) | (with_reducible refine qc_one ?v4 ?hw4 (fun w' hw' => ?hr4) ?nx4; (case hw4 => (go_simp; done)); (case hr4 => (first | (refine qc_val ?_; (obtain ⟨a0,a1,a2,a3,a4,a5⟩ := CF.out w' hw'); clear hw'; go_simp; done) | (refine qc_val ?_; (obtain ⟨a0,a1,a2,a3,a4,a5⟩ := CF.out w' hw'); clear hw'; go_simp; rfl) | (refine qc_call (f := ?f4) (args := ?args4) ?h14 ?h24; (case h14 => ((obtain ⟨a0,a1,a2,a3,a4,a5⟩ := CF.out w' hw'); go_simp; constructor <;> rfl)); (case h24 => (exact CK.out w' hw'))) | (refine qc_skip ?_; (obtain ⟨a0,a1,a2,a3,a4,a5⟩ := CF.out w' hw'); clear hw'; go_simp; done))); (try simp only [Act.put,List.setIfInBounds_toArray,List.set_cons_zero,List.set_cons_succ])))
 (first | (with_reducible refine qc_pass ?hw5 ?nx5; (case hw5 => (go_simp; done)); (try simp only [Act.put,List.setIfInBounds_toArray,List.set_cons_zero,List.set_cons_succ])) | (with_reducible refine qc_one ?v5 ?hw5 (fun w' hw' => ?hr5) ?nx5; (case hw5 => (go_simp; done)); (case hr5 => (first | (refine qc_val ?_; (obtain ⟨a0,a1,a2,a3,a4,a5⟩ := CF.out w' hw'); clear hw'; go_simp; done) | (refine qc_val ?_; (obtain ⟨a0,a1,a2,a3,a4,a5⟩ := CF.out w' hw'); clear hw'; go_simp; rfl) | (refine qc_call (f := ?f5) (args := ?args5) ?h15 ?h25; (case h15 => ((obtain ⟨a0,a1,a2,a3,a4,a5⟩ := CF.out w' hw'); go_simp; constructor <;> rfl)); (case h25 => (exact CK.out w' hw'))) | (refine qc_skip ?_; (obtain ⟨a0,a1,a2,a3,a4,a5⟩ := CF.out w' hw'); clear hw'; go_simp; done))); (try simp only [Act.put,List.setIfInBounds_toArray,List.set_cons_zero,List.set_cons_succ])))
 (first | (with_reducible refine qc_pass ?hw6 ?nx6; (case hw6 => (go_simp; done)); (try simp only [Act.put,List.setIfInBounds_toArray,List.set_cons_zero,List.set_cons_succ])) | (with_reducible refine qc_one ?v6 ?hw6 (fun w' hw' => ?hr6) ?nx6; (case hw6 => (go_simp; done)); (case hr6 => (first | (refine qc_val ?_; (obtain ⟨a0,a1,a2,a3,a4,a5⟩ := CF.out w' hw'); clear hw'; go_simp; done) | (refine qc_val ?_; (obtain ⟨a0,a1,a2,a3,a4,a5⟩ := CF.out w' hw'); clear hw'; go_simp; rfl) | (refine qc_call (f := ?f6) (args := ?args6) ?h16 ?h26; (case h16 => ((obtain ⟨a0,a1,a2,a3,a4,a5⟩ := CF.out w' hw'); go_simp; constructor <;> rfl)); (case h26 => (exact CK.out w' hw'))) | (refine qc_skip ?_; (obtain ⟨a0,a1,a2,a3,a4,a5⟩ := CF.out w' hw'); clear hw'; go_simp; done))); (try simp only [Act.put,List.setIfInBounds_toArray,List.set_cons_zero,List.set_cons_succ])))
 (first | (with_reducible refine qc_pass ?hw7 ?nx7; (case hw7 => (go_simp; done)); (try simp only [Act.put,List.setIfInBounds_toArray,List.set_cons_zero,List.set_cons_succ])) | (with_reducible refine qc_one ?v7 ?hw7 (fun w' hw' => ?hr7) ?nx7; (case hw7 => (go_simp; done)); (case hr7 => (first | (refine qc_val ?_; (obtain ⟨a0,a1,a2,a3,a4,a5⟩ := CF.out w' hw'); clear hw'; go_simp; done) | (refine qc_val ?_; (obtain ⟨a0,a1,a2,a3,a4,a5⟩ := CF.out w' hw'); clear hw'; go_simp; rfl) | (refine qc_call (f := ?f7) (args := ?args7) ?h17 ?h27; (case h17 => ((obtain ⟨a0,a1,a2,a3,a4,a5⟩ := CF.out w' hw'); go_simp; constructor <;> rfl)); (case h27 => (exact CK.out w' hw'))) | (refine qc_skip ?_; (obtain ⟨a0,a1,a2,a3,a4,a5⟩ := CF.out w' hw'); clear hw'; go_simp; done))); (try simp only [Act.put,List.setIfInBounds_toArray,List.set_cons_zero,List.set_cons_succ])))
 (first | (with_reducible refine qc_pass ?hw8 ?nx8; (case hw8 => (go_simp; done)); (try simp only [Act.put,List.setIfInBounds_toArray,List.set_cons_zero,List.set_cons_succ])) | (with_reducible refine qc_one ?v8 ?hw8 (fun w' hw' => ?hr8) ?nx8; (case hw8 => (go_simp; done)); (case hr8 => (first | (refine qc_val ?_; (obtain ⟨a0,a1,a2,a3,a4,a5⟩ := CF.out w' hw'); clear hw'; go_simp; done) | (refine qc_val ?_; (obtain ⟨a0,a1,a2,a3,a4,a5⟩ := CF.out w' hw'); clear hw'; go_simp; rfl) | (refine qc_call (f := ?f8) (args := ?args8) ?h18 ?h28; (case h18 => ((obtain ⟨a0,a1,a2,a3,a4,a5⟩ := CF.out w' hw'); go_simp; constructor <;> rfl)); (case h28 => (exact CK.out w' hw'))) | (refine qc_skip ?_; (obtain ⟨a0,a1,a2,a3,a4,a5⟩ := CF.out w' hw'); clear hw'; go_simp; done))); (try simp only [Act.put,List.setIfInBounds_toArray,List.set_cons_zero,List.set_cons_succ])))
 (first | (with_reducible refine qc_pass ?hw9 ?nx9; (case hw9 => (go_simp; done)); (try simp only [Act.put,List.setIfInBounds_toArray,List.set_cons_zero,List.set_cons_succ])) | (with_reducible refine qc_one ?v9 ?hw9 (fun w' hw' => ?hr9) ?nx9; (case hw9 => (go_simp; done)); (case hr9 => (first | (refine qc_val ?_; (obtain ⟨a0,a1,a2,a3,a4,a5⟩ := CF.out w' hw'); clear hw'; go_simp; done) | (refine qc_val ?_; (obtain ⟨a0,a1,a2,a3,a4,a5⟩ := CF.out w' hw'); clear hw'; go_simp; rfl) | (refine qc_call (f := ?f9) (args := ?args9) ?h19 ?h29; (case h19 => ((obtain ⟨a0,a1,a2,a3,a4,a5⟩ := CF.out w' hw'); go_simp; constructor <;> rfl)); (case h29 => (exact CK.out w' hw'))) | (refine qc_skip ?_; (obtain ⟨a0,a1,a2,a3,a4,a5⟩ := CF.out w' hw'); clear hw'; go_simp; done))); (try simp only [Act.put,List.setIfInBounds_toArray,List.set_cons_zero,List.set_cons_succ])))
 (first | (with_reducible refine qc_pass ?hw10 ?nx10; (case hw10 => (go_simp; done)); (try simp only [Act.put,List.setIfInBounds_toArray,List.set_cons_zero,List.set_cons_succ])) | (with_reducible refine qc_one ?v10 ?hw10 (fun w' hw' => ?hr10) ?nx10; (case hw10 => (go_simp; done)); (case hr10 => (first | (refine qc_val ?_; (obtain ⟨a0,a1,a2,a3,a4,a5⟩ := CF.out w' hw'); clear hw'; go_simp; done) | (refine qc_val ?_; (obtain ⟨a0,a1,a2,a3,a4,a5⟩ := CF.out w' hw'); clear hw'; go_simp; rfl) | (refine qc_call (f := ?f10) (args := ?args10) ?h110 ?h210; (case h110 => ((obtain ⟨a0,a1,a2,a3,a4,a5⟩ := CF.out w' hw'); go_simp; constructor <;> rfl)); (case h210 => (exact CK.out w' hw'))) | (refine qc_skip ?_; (obtain ⟨a0,a1,a2,a3,a4,a5⟩ := CF.out w' hw'); clear hw'; go_simp; done))); (try simp only [Act.put,List.setIfInBounds_toArray,List.set_cons_zero,List.set_cons_succ])))
 refine wpQuiet_nil ?_
 intro w' hw'
 have em1 : (if fr < (sd : Int) then (sd : Int) else fr) = (t : Int) := by split <;> omega
 have em2 : (if (sd : Int) < fr then fr else (sd : Int)) = (t : Int) := by split <;> omega
 first
  | rw [em1]
  | rw [em2]
  | rw [et]
 clear em1 em2 et
 have m2 : Hid (Mv w HH w' ((HW ++ (XX vb ++ (Hb ++ HL))) ++ HB1)) := by rw [HC.out] at hw'; exact hw'
 clear hw' CD CK CF HC C
 obtain ⟨b0,b1,b2,b3,b4,b5,b6,b7,b8⟩ := BX.out w' HW vb _ HB1 m2.out
 have H1 := Lib.hid (SB.out w' HW _ m2.out KK.out.2.2.2.1)
 rw [KK.out.2.2.2.2.2.2.2.2] at H1
 unfold SpotX.v at H1
 obtain ⟨HM,hHM⟩ : ∃ HM,headM (S.M d.bb) k style layer sd t s = HM := ⟨_,rfl⟩
 rw [hHM] at H1
 have AF : Hid (∀ w3 HW' HB',Mv w HH w3 ((HW' ++ (XX vb ++ (Hb ++ HL))) ++ HB') → BandsR D (updM S.M d.bb HM.1) HB' → w3.cell? ⟨d.lb,k * 5 + 3,none⟩ = some (.int .i64 (sd : Int)) ∧ w3.frozen? ⟨d.lb,k * 5 + 3,none⟩ = false) := Lib.hid (by
  intro w3 HW' HB' m h
  have e1 : (updM S.M d.bb HM.1 d.bb).ss[k]? = some (headS s style sd t) := by rw [updM_same,← hHM]; exact headM_get _ _ _ _ _ _ _ KK.out.2.1
  obtain ⟨A2,cp2,sc⟩ := step_cells h hxd e1 m
  obtain ⟨-,q2,q3⟩ := sc w3 m
  rw [(headS_same s style sd t).2.2,KK.out.2.2.2.2.2.2.2.1] at q2
  exact ⟨q2,q3⟩)
 have HHM := Lib.hid hHM
 clear SB hHM
 go_wp2_with fail
 gi_upto_region 14 with (refine ⟨trivial,?_⟩; gi_at_call 29; refine (CallsIn.inRound l (callsIn_wide.2 H1.out)).mono ?_; rintro e w3 ⟨rfl,HW2,HB2,q1,q2,q3⟩; have K3 := Lib.hid (And.intro q1 (And.intro q2 q3)); clear q1 q2 q3)
 have hB2 := K3.out.2.1
 have e1 : (updM S.M d.bb HM.1 d.bb).ss[k]? = some (headS s style sd t) := by rw [updM_same,← HHM.out]; exact headM_get _ _ _ _ _ _ _ KK.out.2.1
 obtain ⟨hs1,hs2,hs3⟩ := headS_same s style sd t
 have FIN2 : Hid (∀ (a : Act) (w6 : World) (v' : Value) (Hb' : List HB),RowB v' (stepE count style layer S ⟨d,k⟩).body Hb' → Mv w HH w6 ((HW2 ++ (XX v' ++ (Hb' ++ HL))) ++ HB2) → PS .normal a (w6.setCell ⟨d.lb,k * 5 + 3,none⟩ (.int .i64 (t : Int)))) := Lib.hid (by
  intro a w6 v' Hb' hr m
  obtain ⟨HB',q1,q2⟩ := step_said hB2 hxd e1 m t (by rw [hs1]; exact tl.2)
  refine FIN.out a _ HW2 Hb' v' HB' ?_ hr ?_ (q2 _ m)
  ·have h := K3.out.1
   simp only [stepE,KK.out.2.1,KK.out.2.2.2.2.2.2.1,KK.out.2.2.2.2.2.2.2.2,HHM.out]
   exact h
  ·simp only [stepE,KK.out.2.1,KK.out.2.2.2.2.2.2.1,KK.out.2.2.2.2.2.2.2.2,HHM.out]
   rw [updM_updM,updM_same] at q1
   exact q1)
 obtain ⟨b0',b1',b2',b3',b4',b5',b6',b7',b8'⟩ := BX.out w3 HW2 vb _ HB2 K3.out.2.2
 obtain ⟨c3,c4⟩ := AF.out w3 HW2 HB2 K3.out.2.2 hB2
 have htS : (stepE count style layer S ⟨d,k⟩).body = if sd < t then S.body ++ bodyM s.ps s.bs sd t else S.body := by
  simp only [stepE,KK.out.2.1,KK.out.2.2.2.2.2.2.1,KK.out.2.2.2.2.2.2.2.2]
 have TS := Lib.hid htS
 clear htS b0 b1 b2 b3 b4 b5 b6 b7 b8
 by_cases hlt : sd < t
 ·have hlt' : (sd : Int) < (t : Int) := by omega
  obtain ⟨v0,SBD⟩ := step_body hB2 hxd hxk e1 K3.out.2.2 t (by rw [hs3,KK.out.2.2.2.2.2.2.2.2]; exact hlt) (by rw [hs1]; exact tl.2)
  rw [hs1,hs2,hs3,KK.out.2.2.2.2.2.2.2.2] at SBD
  unfold SpotX.v at SBD
  replace SBD := Lib.hid SBD
  clear hB2 e1 hs1 hs2 hs3 H1
  gi_upto_region 15 with fail
  obtain ⟨C,hC⟩ : ∃ C : World → Prop,C = fun w' => Hid (Mv w HH w' ((HW2 ++ (XX vb ++ (Hb ++ HL))) ++ HB2)) := ⟨_,rfl⟩
  have CF : ∀ w',C w' → w'.cell? ⟨B,0,none⟩ = some (.pointer (some ⟨d.lb,k * 5,none⟩)) ∧ w'.cell? ⟨B,1,none⟩ = some (.pointer (some ⟨d.bb,0,none⟩)) ∧ w'.cell? ⟨B,2,none⟩ = some (.int .i64 (k : Int)) ∧ w'.cell? ⟨n0 + 3,0,none⟩ = some vb := by
   intro w' h
   rw [hC] at h
   obtain ⟨a0,a1,a2,a3,a4,a5,a6,a7,a8⟩ := BX.out w' HW2 vb _ HB2 h.out
   exact ⟨a0,a1,a2,a7⟩
  have CK : ∀ w',C w' → Calls Try.prog 30 #[.agg #[.pointer (some ⟨d.lb,k * 5,none⟩),.pointer (some ⟨d.bb,0,none⟩),.int .i64 (k : Int)],.int .i64 (t : Int)] w' fun e w3 => e = .returned v0 ∧ C w3 := by
   intro w' h
   rw [hC] at h ⊢
   refine ((SBD.out w' h.out).2).mono ?_
   rintro e w3 ⟨rfl,m3⟩
   exact ⟨rfl,Lib.hid m3⟩
  have CD : C w3.drew := by rw [hC]; exact Lib.hid (Mv.drew K3.out.2.2)
  replace CF := Lib.hid CF
  replace CK := Lib.hid CK
  have HC := Lib.hid hC
  clear hC b0' b1' b2' b3' b4' b5' b6' b7' b8' c3 c4
  refine round_quiet_tail 4 C hmx (by kernel_rfl) (fun ⟨a,w,h⟩ => LP.out ⟨a,w,h⟩) CD (by kernel_rfl) ?_
  simp only [List.take_succ_cons,List.take_zero,List.drop_succ_cons,List.drop_zero]
  (first | (with_reducible refine qc_pass ?hw11 ?nx11; (case hw11 => (go_simp; done)); (try simp only [Act.put,List.setIfInBounds_toArray,List.set_cons_zero,List.set_cons_succ])) | (with_reducible refine qc_one ?v11 ?hw11 (fun w' hw' => ?hr11) ?nx11; (case hw11 => (go_simp; done)); (case hr11 => (first | (refine qc_val ?_; (obtain ⟨a0,a1,a2,a3⟩ := CF.out w' hw'); clear hw'; go_simp; done) | (refine qc_val ?_; (obtain ⟨a0,a1,a2,a3⟩ := CF.out w' hw'); clear hw'; go_simp; rfl) | (refine qc_call (f := ?f11) (args := ?args11) ?h111 ?h211; (case h111 => ((obtain ⟨a0,a1,a2,a3⟩ := CF.out w' hw'); go_simp; constructor <;> rfl)); (case h211 => (exact CK.out w' hw'))) | (refine qc_skip ?_; (obtain ⟨a0,a1,a2,a3⟩ := CF.out w' hw'); clear hw'; go_simp; done))); (try simp only [Act.put,List.setIfInBounds_toArray,List.set_cons_zero,List.set_cons_succ])))
  (first | (with_reducible refine qc_pass ?hw12 ?nx12; (case hw12 => (go_simp; done)); (try simp only [Act.put,List.setIfInBounds_toArray,List.set_cons_zero,List.set_cons_succ])) | (with_reducible refine qc_one ?v12 ?hw12 (fun w' hw' => ?hr12) ?nx12; (case hw12 => (go_simp; done)); (case hr12 => (first | (refine qc_val ?_; (obtain ⟨a0,a1,a2,a3⟩ := CF.out w' hw'); clear hw'; go_simp; done) | (refine qc_val ?_; (obtain ⟨a0,a1,a2,a3⟩ := CF.out w' hw'); clear hw'; go_simp; rfl) | (refine qc_call (f := ?f12) (args := ?args12) ?h112 ?h212; (case h112 => ((obtain ⟨a0,a1,a2,a3⟩ := CF.out w' hw'); go_simp; constructor <;> rfl)); (case h212 => (exact CK.out w' hw'))) | (refine qc_skip ?_; (obtain ⟨a0,a1,a2,a3⟩ := CF.out w' hw'); clear hw'; go_simp; done))); (try simp only [Act.put,List.setIfInBounds_toArray,List.set_cons_zero,List.set_cons_succ])))
  (first | (with_reducible refine qc_pass ?hw13 ?nx13; (case hw13 => (go_simp; done)); (try simp only [Act.put,List.setIfInBounds_toArray,List.set_cons_zero,List.set_cons_succ])) | (with_reducible refine qc_one ?v13 ?hw13 (fun w' hw' => ?hr13) ?nx13; (case hw13 => (go_simp; done)); (case hr13 => (first | (refine qc_val ?_; (obtain ⟨a0,a1,a2,a3⟩ := CF.out w' hw'); clear hw'; go_simp; done) | (refine qc_val ?_; (obtain ⟨a0,a1,a2,a3⟩ := CF.out w' hw'); clear hw'; go_simp; rfl) | (refine qc_call (f := ?f13) (args := ?args13) ?h113 ?h213; (case h113 => ((obtain ⟨a0,a1,a2,a3⟩ := CF.out w' hw'); go_simp; constructor <;> rfl)); (case h213 => (exact CK.out w' hw'))) | (refine qc_skip ?_; (obtain ⟨a0,a1,a2,a3⟩ := CF.out w' hw'); clear hw'; go_simp; done))); (try simp only [Act.put,List.setIfInBounds_toArray,List.set_cons_zero,List.set_cons_succ])))
  (first | (with_reducible refine qc_pass ?hw14 ?nx14; (case hw14 => (go_simp; done)); (try simp only [Act.put,List.setIfInBounds_toArray,List.set_cons_zero,List.set_cons_succ])) | (with_reducible refine qc_one ?v14 ?hw14 (fun w' hw' => ?hr14) ?nx14; (case hw14 => (go_simp; done)); (case hr14 => (first | (refine qc_val ?_; (obtain ⟨a0,a1,a2,a3⟩ := CF.out w' hw'); clear hw'; go_simp; done) | (refine qc_val ?_; (obtain ⟨a0,a1,a2,a3⟩ := CF.out w' hw'); clear hw'; go_simp; rfl) | (refine qc_call (f := ?f14) (args := ?args14) ?h114 ?h214; (case h114 => ((obtain ⟨a0,a1,a2,a3⟩ := CF.out w' hw'); go_simp; constructor <;> rfl)); (case h214 => (exact CK.out w' hw'))) | (refine qc_skip ?_; (obtain ⟨a0,a1,a2,a3⟩ := CF.out w' hw'); clear hw'; go_simp; done))); (try simp only [Act.put,List.setIfInBounds_toArray,List.set_cons_zero,List.set_cons_succ])))
  refine wpQuiet_nil ?_
  intro w4 hw4
  have m4 : Hid (Mv w HH w4 ((HW2 ++ (XX vb ++ (Hb ++ HL))) ++ HB2)) := by rw [HC.out] at hw4; exact hw4
  clear hw4 CD CK CF HC C
  have hl3 : S.body.length ≤ 60000000 ∧ (bodyM s.ps s.bs sd t).length ≤ 300000 := ⟨by omega,Nat.le_trans (bodyM_length _ _ _ _) (KK.out.2.2.1.ss s (List.mem_of_getElem? KK.out.2.1)).bs⟩
  refine wpList_appB rfl (.tmp 70) (.tmp 73) rfl vb v0 S.body (bodyM s.ps s.bs sd t) Hb rfl rfl KK.out.2.2.2.2.1 m4.out.sat.left.right.right.left (SBD.out w4 m4.out).1 (by omega) ?_
  intro v5 w5 Hb5 hr5 m5
  obtain ⟨a5,c5,rfl⟩ := hr5.slice
  have M5 : Mv w HH w5 ((HW2 ++ (XX vb ++ (Hb5 ++ HL))) ++ HB2) := by
   have m6 : Mv w HH w4 (Hb ++ (HW2 ++ (XX vb ++ (HL ++ HB2)))) := m4.out.sub (fun g => by simp only [cnt_append]; omega) (fun y hy => by simp only [List.mem_append] at hy ⊢; grind)
   exact (Mv.call m6 m5).sub (fun g => by simp only [cnt_append]; omega) (fun y hy => by simp only [List.mem_append] at hy ⊢; grind)
  obtain ⟨nl,hnl⟩ : ∃ nl,(S.body ++ bodyM s.ps s.bs sd t).length = nl := ⟨_,rfl⟩
  rw [hnl] at hr5 ⊢
  obtain ⟨-,-,-,-,-,-,-,b7,b8⟩ := BX.out w5 HW2 vb _ HB2 M5
  have M6 := SV.out w5 HW2 vb (.slice a5 nl c5) _ HB2 M5
  obtain ⟨w6,hw6⟩ : ∃ w6,w6 = w5.setCell ⟨n0 + 3,0,none⟩ (.slice a5 nl c5) := ⟨_,rfl⟩
  have HW6 := Lib.hid hw6
  rw [← hw6] at M6
  have K6 := Lib.hid (And.intro hr5 M6)
  clear hw6 M6 M5 hr5 m5 m4 hnl hl3
  go_wp2_with fail
  rw [← HW6.out]
  obtain ⟨b0,b1,b2,-⟩ := BX.out w6 HW2 _ _ HB2 K6.out.2
  obtain ⟨c3,c4⟩ : w6.cell? ⟨d.lb,k * 5 + 3,none⟩ = some (.int .i64 (sd : Int)) ∧ w6.frozen? ⟨d.lb,k * 5 + 3,none⟩ = false := by
   obtain ⟨A2,cp2,sc⟩ := step_cells K3.out.2.1 hxd (by rw [updM_same,← HHM.out]; exact headM_get _ _ _ _ _ _ _ KK.out.2.1) K6.out.2
   obtain ⟨-,q2,q3⟩ := sc w6 K6.out.2
   rw [(headS_same s style sd t).2.2,KK.out.2.2.2.2.2.2.2.1] at q2
   exact ⟨q2,q3⟩
  clear b7 b8
  gi_wp2
  exact FIN2.out _ _ _ _ (by rw [TS.out,if_pos hlt]; exact K6.out.1) K6.out.2
 ·have hlt' : ¬ (sd : Int) < (t : Int) := by omega
  clear hB2 e1 hs1 hs2 hs3 H1
  gi_wp2
  exact FIN2.out _ _ _ _ (by rw [TS.out,if_neg hlt]; exact KK.out.2.2.2.2.1) K3.out.2.2
end
end Go.Proofs.Ytnpoakabheeoeaa
