/- PacketTwins: the walk. A law's shapes, opened: they read. -/
import Derived.Test.YtnpoakabheeoeaaTw22
import Derived.Test.YtnpoakabheeoeaaChecked
import Derived.Test.YtnpoakabheeoeaaTw19
import Derived.WalkKit
import Derived.ProofKit
import Derived.OpenShut
import Derived.ShutString
import Derived.ChangeOld
import Derived.Below
import Derived.ChangeSlices
import Derived.ChangeArms
import Derived.Deep.Slices
set_option maxRecDepth 100000
namespace Go.Proofs.Ytnpoakabheeoeaa
section
open Go.RowKit
theorem few_any (A : Option Addr) (n c : Nat) (W : World) (hn : n ≤ 9223372036854775807) : Calls Try.prog 8 #[.slice A n c] W fun e w' => e = .returned (.bool (decide (n ≤ 3))) ∧ w' = W := by
 by_cases h : n ≤ 3
 ·have d : decide ((n : Int) ≤ 3) = true := decide_eq_true (by omega)
  have d2 := Lib.hid (decide_eq_true h)
  clear h
  go_enter Try.func8,Try.ntmps8
  go_wp2_with fail
  go_ret
  exact ⟨by rw [d2.out]; rfl,rfl⟩
 ·have d : decide ((n : Int) ≤ 3) = false := decide_eq_false (by omega)
  have d2 := Lib.hid (decide_eq_false h)
  clear h
  go_enter Try.func8,Try.ntmps8
  go_wp2_with fail
  go_ret
  exact ⟨by rw [d2.out]; rfl,rfl⟩
theorem tw_enc (v : Value) (D : List BandA) (M : Nat → BandM) (st k : Nat) (HL HB0 X : List HB) (w0 V : World) (hL : ListH v D HL) (hB : BandsR D M HB0) (m : Mv w0 [] V ((HL ++ HB0) ++ X)) (hk : k < 3) (hst : st ≤ 63) (hD : D.length ≤ 3) (hn : ∀ d ∈ D,d.n ≤ 9) (hg : ∀ d ∈ D,BothB (M d.bb)) :
  Calls Try.prog 11 #[v,.int .i64 (st : Int),.int .i64 3,.int .i64 (k : Int)] V fun e W' => ∃ a1 n1 c1 a2 n2 c2 H1 H2 HB',e = .returned (.tuple #[.slice a1 n1 c1,.slice a2 n2 c2]) ∧ RowB (.slice a1 n1 c1) (wout (wbits (encS 3 st k D M).bits)) H1 ∧ RowB (.slice a2 n2 c2) (encS 3 st k D M).body H2 ∧
   BandsR D (encS 3 st k D M).M HB' ∧ Mv w0 [] W' ((H1 ++ H2) ++ ((HL ++ HB') ++ X)) := by
 obtain ⟨A,c,rfl⟩ := RowH.slice hL
 have E := enc_any A c D M st k 3 HL HB0 V (by omega) hL hB m.sat.left (by decide) (by omega) hst (by have := spots_few D hn; omega) (fun d hd => (hg d hd).g)
 refine Calls.mono (show Calls Try.prog 11 #[.slice A D.length c,.int .i64 (st : Int),.int .i64 3,.int .i64 (k : Int)] V _ from E) ?_
 rintro e W' ⟨v1,v2,H1,H2,HB',rfl,r1,r2,r3,m1⟩
 obtain ⟨a1,c1,rfl⟩ := RowB.slice r1
 obtain ⟨a2,c2,rfl⟩ := RowB.slice r2
 refine ⟨a1,_,c1,a2,_,c2,H1,H2,HB',rfl,r1,r2,r3,?_⟩
 have h := Mv.call m m1
 simpa only [List.append_assoc] using h
section
variable {w0 w : World} {A B C D E F G H I J : List HB}
theorem tw_sh1 (m : Mv w0 [] w (A ++ (B ++ (C ++ D)))) : Mv w0 [] w (D ++ (A ++ (B ++ C))) :=
 m.sub (fun g => by simp only [cnt_append]; omega) (fun c hc => by simp only [List.mem_append] at hc ⊢; grind)
theorem tw_sh2 (m : Mv w0 [] w (E ++ (D ++ (A ++ (B ++ C))))) : Mv w0 [] w (C ++ (A ++ (B ++ D))) :=
 m.sub (fun g => by simp only [cnt_append]; omega) (fun c hc => by simp only [List.mem_append] at hc ⊢; grind)
theorem tw_sh3 (m : Mv w0 [] w (E ++ (C ++ (A ++ (B ++ D))))) : Mv w0 [] w (B ++ (C ++ D)) :=
 m.sub (fun g => by simp only [cnt_append]; omega) (fun c hc => by simp only [List.mem_append] at hc ⊢; grind)
theorem tw_sh4 {GA GB GC : MkG} (m : Mv w0 [] w (GC.heap ++ (GB.heap ++ (GA.heap ++ [])))) : Mv w0 [] w ((GA.H1 ++ GA.B1) ++ ((GB.H1 ++ GB.B1) ++ (GC.H1 ++ GC.B1))) :=
 m.sub (fun g => by simp only [MkG.heap,cnt_append,cnt_nil]; omega) (fun c hc => by
  simp only [MkG.heap,List.mem_append,List.not_mem_nil,or_false,or_assoc] at hc ⊢
  rcases hc with h | h | h | h | h | h <;> simp only [h,true_or,or_true])
end
theorem tw_rows {G : MkG} {l : List ShapeM} {style : Nat} {va vb vc vd : Value} (h : G.ok l style l.length va vb vc vd) (hl : l.length ≤ 3) (_hs : style ≤ 63) (hk : (keys G.B1).Nodup) :
  BandsR (G.La.map (·.1)) (modelL G.La) G.B1 ∧ (G.La.map (·.1)).length ≤ 3 ∧ (∀ d ∈ G.La.map (·.1),d.n ≤ 9) ∧ (∀ d ∈ G.La.map (·.1),BothB (modelL G.La d.bb)) ∧ (G.La.map (·.1.bb)).Nodup ∧ G.La.map (·.2) = fullB l style := by
 have hnd := h.ba.nodup hk
 have hm : G.La.map (·.2) = fullB l style := by rw [h.ma,List.take_of_length_le (by rw [fullB_length]; exact Nat.le_refl _)]
 have hb : ∀ p ∈ G.La,BothB p.2 ∧ p.2.w * p.2.h ≤ 9 := fun p hp => fullB_both l style p.2 (by rw [← hm]; exact List.mem_map.2 ⟨p,hp,rfl⟩)
 refine ⟨h.ba.bandsR fun p hp => modelL_mem hnd hp,by rw [List.length_map,(h.lens (Nat.le_refl _)).1]; exact hl,?_,?_,hnd,hm⟩
 ·intro d hd
  obtain ⟨p,hp,rfl⟩ := List.mem_map.1 hd
  rw [h.ba.n p hp]
  exact (hb p hp).2
 ·intro d hd
  obtain ⟨p,hp,rfl⟩ := List.mem_map.1 hd
  rw [modelL_mem hnd hp]
  exact (hb p hp).1
theorem tw_n {L L' : List (BandA × BandM)} {H H' : List HB} (h : BandsL L H) (h' : BandsL L' H') (e : L.map (·.2) = L'.map (·.2)) : (L.map (·.1)).map (·.n) = (L'.map (·.1)).map (·.n) := by
 have h1 : (L.map (·.1)).map (·.n) = (L.map (·.2)).map fun m => m.w * m.h := by
  rw [List.map_map,List.map_map]
  exact List.map_congr_left fun p hp => h.n p hp
 have h2 : (L'.map (·.1)).map (·.n) = (L'.map (·.2)).map fun m => m.w * m.h := by
  rw [List.map_map,List.map_map]
  exact List.map_congr_left fun p hp => h'.n p hp
 rw [h1,h2,e]
theorem both_lock {D : List BandA} {r : BandA → BandA} {M M' : Nat → BandM} (h : Lock D r M M') (hb : ∀ d ∈ D,BothB (M d.bb)) : ∀ d ∈ D.map r,BothB (M' d.bb) := by
 intro d hd
 obtain ⟨e,he,rfl⟩ := List.mem_map.1 hd
 rw [h e he]
 exact hb e he
set_option maxHeartbeats 4000000 in
theorem twins_any (l m : List ShapeM) (v u : Value) (x : Int) (w : World) (hv : RdS w v l) (hu : RdS w u m) :
  Calls Try.prog 3 #[v,u,.int .i64 x] w fun e w' => e = .returned (.bool true) ∧ Below w.heap.size w w' := by
 have KN := Lib.hid (known_any w)
 obtain ⟨A,c,hve,hv1,hv2,-⟩ := id hv
 obtain ⟨B,c',hue,hu1,hu2,-⟩ := id hu
 have lA : l.length ≤ 9223372036854775807 := by unfold maxLen at hv2; omega
 have lB : m.length ≤ 9223372036854775807 := by unfold maxLen at hu2; omega
 have F1 := Lib.hid fun V => few_any A l.length c V lA
 have F2 := Lib.hid fun V => few_any B m.length c' V lB
 by_cases h1 : l.length ≤ 3
 ·rw [decide_eq_true h1] at F1
  by_cases h2 : m.length ≤ 3
  ·rw [decide_eq_true h2] at F2
   have hst := wIn_lt x (n := 64) (by decide)
   have W1 := Lib.hid fun V => within15W x 64 V (by decide) (by decide)
   simp only [Int.cast_ofNat_Int] at W1
   obtain ⟨st,hst2⟩ : ∃ st,wIn x 64 = st := ⟨_,rfl⟩
   rw [hst2] at W1 hst
   have MA := Lib.hid fun (V : World) (X : List Ytnpoakabheeoeaa.HB) (mV : Mv w [] V X) => make_any l st v V (hv.keep mV.below0) h1 (by omega)
   have MC := Lib.hid fun (V : World) (X : List Ytnpoakabheeoeaa.HB) (mV : Mv w [] V X) => make_any m st u V (hu.keep mV.below0) h2 (by omega)
   obtain ⟨ln,hln⟩ : ∃ ln,l.length = ln := ⟨_,rfl⟩
   obtain ⟨mn,hmn⟩ : ∃ mn,m.length = mn := ⟨_,rfl⟩
   rw [hln] at hve F1 h1
   rw [hmn] at hue F2 h2
   have HLT := Lib.hid (And.intro hln (And.intro hmn (And.intro h1 h2)))
   clear hv hu lA lB hv1 hv2 hu1 hu2 h1 h2 hst2 hln hmn
   subst hve hue
   go_enter Try.func3,Try.ntmps3
   go_upto_region 6 with (first
    | (go_at_call 7; refine KN.out.mono ?_; rintro e w1 ⟨rfl,m1⟩; have K1 := Lib.hid m1; clear m1)
    | (go_at_call 8; (with_reducible refine (F1.out _).mono ?_); rintro e w' ⟨rfl,rfl⟩)
    | (go_at_call 8; (with_reducible refine (F2.out _).mono ?_); rintro e w' ⟨rfl,rfl⟩)
    | (go_at_call 9; (with_reducible refine (W1.out _).mono ?_); rintro e w' ⟨rfl,rfl⟩))
   clear F1 F2 W1 KN
   have MA2 := MA
   go_upto_region 9 with (first
    | (go_at_call 10; (with_reducible refine (MA.out _ _ K1.out).mono ?_); rintro e w2 ⟨va,vb,vc,vd,GA,rfl,q1,q2⟩; have K2 := Lib.hid (And.intro q1 (Mv.call (H := []) K1.out q2)); clear q1 q2 MA)
    | (go_at_call 10; (with_reducible refine (MA2.out _ _ K2.out.2).mono ?_); rintro e w3 ⟨vaB,vbB,vcB,vdB,GB,rfl,q1,q2⟩; have K3 := Lib.hid (And.intro q1 (Mv.call (H := []) K2.out.2 q2)); clear q1 q2 MA2)
    | (go_at_call 10; (with_reducible refine (MC.out _ _ K3.out.2).mono ?_); rintro e w4 ⟨vaC,vbC,vcC,vdC,GC,rfl,q1,q2⟩; have K4 := Lib.hid (And.intro q1 (Mv.call (H := []) K3.out.2 q2)); clear q1 q2 MC))
   have M4 : Mv w [] w4 ((GA.H1 ++ GA.B1) ++ ((GB.H1 ++ GB.B1) ++ (GC.H1 ++ GC.B1))) := tw_sh4 K4.out.2
   obtain ⟨bA,lA,nA,gA,ndA,mA⟩ := tw_rows K2.out.1 (by rw [HLT.out.1]; exact HLT.out.2.2.1) (by omega) M4.sat.left.right.1
   obtain ⟨bB,lB,-,-,ndB,mB⟩ := tw_rows K3.out.1 (by rw [HLT.out.1]; exact HLT.out.2.2.1) (by omega) M4.sat.right.left.right.1
   obtain ⟨bC,lC,nC,gC,-,-⟩ := tw_rows K4.out.1 (by rw [HLT.out.2.1]; exact HLT.out.2.2.2) (by omega) M4.sat.right.right.right.1
   obtain ⟨r,hr,hR⟩ := ren_of (GA.La.map (·.1)) (GB.La.map (·.1)) (tw_n K2.out.1.ba K3.out.1.ba (mA.trans mB.symm)) (by rw [List.map_map]; exact ndA) (by rw [List.map_map]; exact ndB)
   have Lk := lock_of GA.La GB.La r hr (mA.trans mB.symm) ndA ndB
   have LA := K2.out.1.ra
   have LB := K3.out.1.ra
   have LC := K4.out.1.ra
   rw [← hr] at bB lB LB
   have nB : ∀ d ∈ (GA.La.map (·.1)).map r,d.n ≤ 9 := by
    intro d hd
    obtain ⟨e,he,rfl⟩ := List.mem_map.1 hd
    rw [hR.n e he]
    exact nA e he
   clear ndA ndB mA mB hr K4 K3 K2 K1 HLT
   generalize GA.La.map (·.1) = DA at *
   generalize GC.La.map (·.1) = DC at *
   generalize modelL GA.La = N1 at *
   generalize modelL GB.La = N2 at *
   generalize modelL GC.La = N3 at *
   generalize GA.H1 = PA at *
   generalize GB.H1 = PB at *
   generalize GC.H1 = PC at *
   generalize GA.B1 = BA0 at *
   generalize GB.B1 = BB0 at *
   generalize GC.B1 = BC0 at *
   have K0 := Lib.hid (And.intro bA (And.intro bB (And.intro bC (And.intro Lk (And.intro gA (And.intro gC M4))))))
   have KL := Lib.hid (And.intro LA (And.intro LB (And.intro LC (And.intro (And.intro lA (And.intro lB lC)) (And.intro nA (And.intro nB (And.intro nC hR)))))))
   clear bA bB bC Lk gA gC M4 LA LB LC lA lB lC nA nB nC hR
   go_wp2_with fail
   go_loopg [19] 3 (fun mm s19 wx => ∃ (k : Nat) (M1 M2 M3 : Nat → BandM) (BA BB BC : List Ytnpoakabheeoeaa.HB),k ≤ 3 ∧ mm = 3 - k ∧ s19 = .int .i64 (k : Int) ∧ BandsR DA M1 BA ∧ BandsR (DA.map r) M2 BB ∧ BandsR DC M3 BC ∧ Lock DA r M1 M2 ∧ (∀ d ∈ DA,BothB (M1 d.bb)) ∧ (∀ d ∈ DC,BothB (M3 d.bb)) ∧ Mv w [] wx ((PA ++ BA) ++ ((PB ++ BB) ++ (PC ++ BC))))
   case atStart => exact ⟨0,N1,N2,N3,BA0,BB0,BC0,by decide,rfl,rfl,K0.out.1,K0.out.2.1,K0.out.2.2.1,K0.out.2.2.2.1,K0.out.2.2.2.2.1,K0.out.2.2.2.2.2.1,K0.out.2.2.2.2.2.2⟩
   case round =>
    clear K0
    obtain ⟨k,M1,M2,M3,BA,BB,BC,hk,rfl,rfl,bA,bB,bC,Lk,gA,gC,mm⟩ := hrel
    by_cases hlt : k < 3
    ·have d1 : decide ((k : Int) < 3) = true := by simp; omega
     have LE := encS_ren KL.out.2.2.2.2.2.2.2 3 st k Lk
     have gB := both_lock Lk gA
     have EA := Lib.hid (tw_enc va DA M1 st k PA BA ((PB ++ BB) ++ (PC ++ BC)) w wr KL.out.1 bA mm hlt (by omega) KL.out.2.2.2.1.1 KL.out.2.2.2.2.1 gA)
     have EB := Lib.hid fun (V : World) (Y : List Ytnpoakabheeoeaa.HB) (mV : Mv w [] V ((PB ++ BB) ++ Y)) => tw_enc vaB (DA.map r) M2 st k PB BB Y w V KL.out.2.1 bB mV hlt (by omega) KL.out.2.2.2.1.2.1 KL.out.2.2.2.2.2.1 gB
     have EC := Lib.hid fun (V : World) (Y : List Ytnpoakabheeoeaa.HB) (mV : Mv w [] V ((PC ++ BC) ++ Y)) => tw_enc vaC DC M3 st k PC BC Y w V KL.out.2.2.1 bC mV hlt (by omega) KL.out.2.2.2.1.2.2 KL.out.2.2.2.2.2.2.1 gC
     have KE := Lib.hid (And.intro LE.M (And.intro (encS_both 3 st k DA M1 gA) (encS_both 3 st k DC M3 gC)))
     rw [LE.bits,LE.body] at EB
     obtain ⟨l1,hl1⟩ : ∃ l1,wout (wbits (encS 3 st k DA M1).bits) = l1 := ⟨_,rfl⟩
     obtain ⟨l2,hl2⟩ : ∃ l2,(encS 3 st k DA M1).body = l2 := ⟨_,rfl⟩
     rw [hl1,hl2] at EA EB
     generalize (encS 3 st k DA M1).M = P1 at *
     generalize (encS 3 st k (DA.map r) M2).M = P2 at *
     generalize (encS 3 st k DC M3).M = P3 at *
     generalize wout (wbits (encS 3 st k DC M3).bits) = l3 at *
     generalize (encS 3 st k DC M3).body = l4 at *
     clear bA bB bC Lk gA gB gC mm LE hl1 hl2
     go_upto_region 15 with (first
      | (go_at_call 11; (with_reducible refine EA.out.mono ?_); rintro e w5 ⟨a1,n1,c1,a2,n2,c2,H1,H2,BA',rfl,r1,r2,r3,m5⟩; have K5 := Lib.hid (And.intro r1 (And.intro r2 (And.intro r3 m5))); clear r1 r2 r3 m5)
      | (go_at_call 11; (with_reducible refine (EC.out _ _ (tw_sh1 K5.out.2.2.2)).mono ?_); rintro e w6 ⟨a3,n3,c3,a4,n4,c4,H3,H4,BC',rfl,-,-,r3,m6⟩; have K6 := Lib.hid (And.intro r3 m6); clear r3 m6)
      | (go_at_call 11; (with_reducible refine (EB.out _ _ (tw_sh2 K6.out.2)).mono ?_); rintro e w7 ⟨a5,n5,c5,a6,n6,c6,H5,H6,BB',rfl,r1,r2,r3,m7⟩; have K7 := Lib.hid (And.intro r1 (And.intro r2 (And.intro r3 m7))); clear r1 r2 r3 m7))
     have s7 := K7.out.2.2.2.sat
     have v1 := conv_string (K5.out.1.bv s7.right.right.left.left)
     have v2 := conv_string (K5.out.2.1.bv s7.right.right.left.right)
     have v5 := conv_string (K7.out.1.bv s7.left.left)
     have v6 := conv_string (K7.out.2.1.bv s7.left.right)
     have M9 := Lib.hid (tw_sh3 K7.out.2.2.2)
     have K9 := Lib.hid (And.intro K5.out.2.2.1 (And.intro K7.out.2.2.1 K6.out.1))
     clear s7 K5 K6 K7 EA EB EC
     go_wp2_with fail
     go_roundg (3 - (k + 1))
     case measure => omega
     case rel => exact ⟨k + 1,P1,P2,P3,BA',BB',BC',hlt,rfl,by push_cast; rfl,K9.out.1,K9.out.2.1,K9.out.2.2,KE.out.1,KE.out.2.1,KE.out.2.2,M9.out⟩
    ·have d1 : decide ((k : Int) < 3) = false := by simp; omega
     have KX := Lib.hid mm.below0
     clear bA bB bC Lk gA gC mm
     go_wp2_with fail
     go_ret
     exact ⟨rfl,KX.out⟩
  ·rw [decide_eq_false h2] at F2
   clear hv hu lA lB hv1 hv2 hu1 hu2 h1 h2
   subst hve hue
   generalize l.length = ln at *
   generalize m.length = mn at *
   go_enter Try.func3,Try.ntmps3
   go_wp2_with (first
    | (go_at_call 7; refine KN.out.mono ?_; rintro e w1 ⟨rfl,m1⟩; have K1 := Lib.hid m1; clear m1)
    | (go_at_call 8; (with_reducible refine (F1.out _).mono ?_); rintro e w' ⟨rfl,rfl⟩)
    | (go_at_call 8; (with_reducible refine (F2.out _).mono ?_); rintro e w' ⟨rfl,rfl⟩))
   go_ret
   exact ⟨rfl,K1.out.below0⟩
 ·rw [decide_eq_false h1] at F1
  clear hv hu lA lB hv1 hv2 hu1 hu2 h1 F2
  subst hve hue
  generalize l.length = ln at *
  generalize m.length = mn at *
  go_enter Try.func3,Try.ntmps3
  go_wp2_with (first
   | (go_at_call 7; refine KN.out.mono ?_; rintro e w1 ⟨rfl,m1⟩; have K1 := Lib.hid m1; clear m1)
   | (go_at_call 8; (with_reducible refine (F1.out _).mono ?_); rintro e w' ⟨rfl,rfl⟩))
  go_ret
  exact ⟨rfl,K1.out.below0⟩
end
section
open Go.ChangeShapes Go.WideShapes Go.ChangeAt Go.RowKit
theorem at_take {cs : List Value} {i : Nat} {v : Value} (h : (cs.drop i).take 1 = [v]) : cs[i]? = some v := by
 have h2 : ((cs.drop i).take 1)[0]? = some v := by rw [h]; rfl
 rw [List.getElem?_take] at h2
 simpa [List.getElem?_drop] using h2
theorem spot_none {w : World} {a : Addr} {v : Value} (h : w.cell? a = some v) : a.spot = none := by
 unfold World.cell? at h
 split at h
 ·split at h
  ·cases h
  ·rename_i h2
   simpa using h2
 ·cases h
theorem addr_none {a : Addr} (h : a.spot = none) : some a = some ⟨a.block,a.off,none⟩ := by
 obtain ⟨b,o,s⟩ := a
 simp at h
 rw [h]
theorem add_none {a : Addr} (h : a.spot = none) (k : Nat) : a.add k = ⟨a.block,a.off + k,none⟩ := by
 obtain ⟨b,o,s⟩ := a
 simp at h
 subst h
 unfold Addr.add
 split
 ·subst_vars; simp
 ·rfl
theorem open_rdi {H : Type} {enc : TypeId × Value → H} {W : World} {base fuel : Nat} {spare : Nat → Bool} {held : Bool} {v : Value} {x : DataW H × List MemPlace} (h : DataW.trod enc Try.prog W base spare held fuel 41 [v] = some x) : ∃ nl,RdI W v nl := by
 rcases open_ints Try.underlying41 Try.underlying3 (by kernel_rfl) h with ⟨hz,-⟩ | ⟨a,l,c,zs,hz,-,hl,hm,hzl,-,hcell,-⟩
 ·obtain rfl : v = .slice none 0 0 := by simpa using hz
  exact ⟨[],none,0,rfl,Nat.le_refl _,by decide,fun k x hx => by simp at hx⟩
 ·obtain rfl : v = .slice (some a) l c := by simpa using hz
  have hzc : l ≤ zs.length := by rw [hzl]; split <;> omega
  have hl2 : (zs.take l).length = l := by rw [List.length_take]; omega
  refine ⟨zs.take l,some a,c,by rw [hl2],by omega,hm,fun k x hx => ?_⟩
  have hk : k < l := by have := (List.getElem?_eq_some_iff.1 hx).1; omega
  have hx2 : zs.getD k 0 = x := by
   rw [List.getElem?_take] at hx
   simp only [hk,if_true] at hx
   rw [List.getD_eq_getElem?_getD,hx]
   rfl
  have c0 := hcell 0 (by omega)
  rw [show a.add 0 = a from rfl] at c0
  have hsp := spot_none c0
  have ck := hcell k (by omega)
  rw [hx2,add_none hsp] at ck
  exact ⟨a.block,a.off,addr_none hsp,ck⟩
theorem list_of {α : Type} (Q : Nat → α → Prop) : ∀ n,(∀ i,i < n → ∃ s,Q i s) → ∃ l : List α,l.length = n ∧ ∀ i s,l[i]? = some s → Q i s
 | 0,_ => ⟨[],rfl,fun i s h => by simp at h⟩
 | n + 1,h => by
  obtain ⟨l,h1,h2⟩ := list_of Q n fun i hi => h i (by omega)
  obtain ⟨s,hs⟩ := h n (by omega)
  refine ⟨l ++ [s],by simp [h1],fun i x hx => ?_⟩
  by_cases hi : i < n
  ·rw [List.getElem?_append_left (by omega)] at hx
   exact h2 i x hx
  ·have hi2 := (List.getElem?_eq_some_iff.1 hx).1
   rw [List.length_append,h1,List.length_singleton] at hi2
   obtain rfl : i = n := by omega
   rw [List.getElem?_append_right (by omega),h1] at hx
   simp at hx
   subst hx
   exact hs
set_option maxHeartbeats 4000000 in
theorem open_shapes {H : Type} {enc : TypeId × Value → H} {W : World} {base b0 : Nat} {r : Reach} {held : Bool} {v : Value} {d : DataW H} {ps : List MemPlace} (hval : Value.okWide Try.prog W r b0 22 v)
  (h : DataW.Trod enc Try.prog W base (fun _ => true) held 22 v d ps) : ∃ l,RdS W v l := by
 obtain ⟨sa,sl,sc,rfl⟩ := okWide_slice Try.underlying22 hval
 obtain ⟨fuel,hf⟩ := h
 have hC : Try.prog.cellsOf 57 = 5 := by kernel_rfl
 have hI : Try.prog.cellsOf 3 = 1 := by kernel_rfl
 have hS : Try.prog.cellsOf 41 = 1 := by kernel_rfl
 rcases Go.Deep.open_slice Try.underlying22 hf with ⟨hz,-⟩ | ⟨a,len,cap,m,n,D,Pl,hz,hb,hl,hm,hmm,-,hx⟩
 ·simp [Value.cells] at hz
  obtain ⟨rfl,rfl,rfl⟩ := hz
  exact ⟨[],none,0,rfl,Nat.le_refl _,by decide,fun k x hx => by simp at hx⟩
 ·simp [Value.cells] at hz
  obtain ⟨rfl,rfl,rfl⟩ := hz
  have hml : sl ≤ m := by rw [hmm]; simp; omega
  rw [hC] at hx
  obtain ⟨l,h1,h2⟩ := list_of (fun i (s : ShapeM) => ∃ b o vp vn,some a = some (⟨b,o,none⟩ : Addr) ∧ W.cell? ⟨b,o + i * 5,none⟩ = some (.int .i64 s.w) ∧ W.cell? ⟨b,o + i * 5 + 1,none⟩ = some (.int .i64 s.h) ∧ W.cell? ⟨b,o + i * 5 + 2,none⟩ = some (.int .i64 s.spare) ∧
   W.cell? ⟨b,o + i * 5 + 3,none⟩ = some vp ∧ W.cell? ⟨b,o + i * 5 + 4,none⟩ = some vn ∧ RdI W vp s.planes ∧ RdI W vn s.ns) sl (by
    intro i hi
    obtain ⟨cs,hc,ht⟩ := hx i (by omega)
    obtain ⟨hcb,hcl,hcc⟩ := World.cells?_some hc
    obtain ⟨xs,k,rfl,-,-,hxl,hall⟩ := DataW.trod_struct Try.underlying57 ht
    have hxl' : xs.length = 5 := hxl
    have gi : ∀ (j : Nat) (fl : Field),(_ : Array Field)[j]? = some fl → fl.type = 3 → fl.offset = j → j < 5 → ∃ z,cs[j]? = some (.int .i64 z) := fun j fl hfl ht ho hj => by
     have h1 := hall j fl hfl
     rw [ht,ho,hI,List.getElem?_eq_getElem (by omega)] at h1
     obtain ⟨z,hz,-⟩ := DataW.trod_int Try.underlying3 h1
     exact ⟨z,at_take hz⟩
    have gs : ∀ (j : Nat) (fl : Field),(_ : Array Field)[j]? = some fl → fl.type = 41 → fl.offset = j → j < 5 → ∃ v nl,cs[j]? = some v ∧ RdI W v nl := fun j fl hfl ht ho hj => by
     have h1 := hall j fl hfl
     rw [ht,ho,hS,List.getElem?_eq_getElem (by omega)] at h1
     obtain ⟨v,hv⟩ : ∃ v,cs[j]? = some v := ⟨_,List.getElem?_eq_getElem (by omega)⟩
     have e : (cs.drop j).take 1 = [v] := by
      rw [List.drop_eq_getElem_cons (by omega)]
      have := (List.getElem?_eq_some_iff.1 hv).2
      simp [this]
     rw [e] at h1
     obtain ⟨nl,hn⟩ := open_rdi h1
     exact ⟨v,nl,hv,hn⟩
    obtain ⟨z0,e0⟩ := gi 0 _ rfl rfl rfl (by decide)
    obtain ⟨z1,e1⟩ := gi 1 _ rfl rfl rfl (by decide)
    obtain ⟨z2,e2⟩ := gi 2 _ rfl rfl rfl (by decide)
    obtain ⟨v3,n3,e3,q3⟩ := gs 3 _ rfl rfl rfl (by decide)
    obtain ⟨v4,n4,e4,q4⟩ := gs 4 _ rfl rfl rfl (by decide)
    have hsp : a.spot = none := by
     obtain ⟨cs0,hc0,ht0⟩ := hx 0 (by omega)
     obtain ⟨-,hcl0,hcc0⟩ := World.cells?_some hc0
     obtain ⟨u0,hu0⟩ : ∃ u,cs0[0]? = some u := ⟨_,List.getElem?_eq_getElem (by omega)⟩
     have c := hcc0 0 (by decide)
     rw [hu0] at c
     exact spot_none (a := a) c
    have g : ∀ j u,j < 5 → cs[j]? = some u → W.cell? ⟨a.block,a.off + i * 5 + j,none⟩ = some u := fun j u hj hu => by
     have c := hcc j hj
     rw [hu,add_none hsp] at c
     have hsp2 : (⟨a.block,a.off + i * 5,none⟩ : Addr).spot = none := rfl
     rw [add_none hsp2] at c
     exact c
    exact ⟨⟨z0,z1,z2,n3,n4⟩,a.block,a.off,v3,v4,addr_none hsp,g 0 _ (by decide) e0,g 1 _ (by decide) e1,g 2 _ (by decide) e2,g 3 _ (by decide) e3,g 4 _ (by decide) e4,q3,q4⟩)
  exact ⟨l,some a,sc,by rw [h1],by omega,hm,h2⟩
end
end Go.Proofs.Ytnpoakabheeoeaa
