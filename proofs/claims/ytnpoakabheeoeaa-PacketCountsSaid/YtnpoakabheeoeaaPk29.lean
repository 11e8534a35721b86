/- PacketCounts: the walk. -/
import Derived.Test.YtnpoakabheeoeaaPk28
import Derived.Test.YtnpoakabheeoeaaPk25
set_option maxRecDepth 100000
namespace Go.Proofs.Ytnpoakabheeoeaa
section
open Go.RowKit
section
variable {w0 W : World} {xb : Nat} {P : Int} {pv : Value} {ba : Option Addr} {bn bc : Nat} {ps : List (Int × Bool)} {bs : List UInt8} {Hp Hb : List HB}
theorem cnt_add (hb : RowB (.slice ba bn bc) bs Hb) (hpl : -1000 ≤ P ∧ P ≤ 1000) (hn : ps.length ≤ 1000) (hm : bs.length ≤ 10000000) (he : ∀ p ∈ ps,0 ≤ p.1 ∧ p.1 ≤ 100000000) {d : BandA} {m : BandM} {HA H1 HC : List HB} {vp : Value} (r1 : RowP vp ps H1) (hB : BandR d m HA) (k : Int) (hsd : (stOf m k).said = 0)
  (M : Mv w0 [] W (H1 ++ ((HA ++ HC) ++ noneX xb P pv (.slice ba bn bc) Hp Hb))) :
  Calls Try.prog 14 #[.pointer (some ⟨d.bb,0,none⟩),.int .i64 k,.agg #[.int .i64 P,vp,.slice ba bn bc]] W fun e w' => e = .returned (.tuple #[]) ∧ ∃ HA',BandR d (addM m k P ps bs) HA' ∧ Mv w0 [] w' (HA' ++ (HC ++ noneX xb P pv (.slice ba bn bc) Hp Hb)) := by
 have sX : Sat W (noneX xb P pv (.slice ba bn bc) Hp Hb) := M.sat.right.right
 have sB : Sat W Hb := Sat.right (A := [_] ++ Hp) (by simpa [noneX] using sX)
 have M2 : Mv w0 [] W (HA ++ (HC ++ noneX xb P pv (.slice ba bn bc) Hp Hb)) := by
  have := M.drop
  rwa [List.append_assoc] at this
 refine (add_any d m HA W hB M2.sat.left k P vp (.slice ba bn bc) ps bs (r1.pv M.sat.left) (hb.bv sB) hpl hn hm he (by rw [hsd]; omega)).mono ?_
 rintro e w' ⟨rfl,HA',h1,h2⟩
 exact ⟨rfl,HA',h1,Mv.call M2 h2⟩
end
set_option maxHeartbeats 4000000 in
theorem counts_any (x y : Int) (w : World) : Calls Try.prog 6 #[.int .i64 x,.int .i64 y] w fun e w' => e = .returned (.bool true) ∧ Below w.heap.size w w' := by
 obtain ⟨p,hp,W1⟩ := withinN x 30 (by decide) (by decide)
 obtain ⟨o,ho,W2⟩ := withinN y 8 (by decide) (by decide)
 have CK0 := ck_all p o (by omega) (by omega)
 replace W1 := Lib.hid W1
 replace W2 := Lib.hid W2
 have KN := Lib.hid (known_any w)
 have NB : Hid (∀ W,Calls Try.prog 12 #[.int .i64 1,.int .i64 1,.int .i64 37] W fun e W' => ∃ d H,e = .returned (.pointer (some ⟨d.bb,0,none⟩)) ∧ d.n = 1 ∧ BandR d (newBandM 1 1 37) H ∧ Mv W [] W' H) := Lib.hid fun W => band_new 1 1 37 W (by decide) (by decide) (by decide)
 obtain ⟨pp,hpp⟩ : ∃ pp,p + 1 = pp := ⟨_,rfl⟩
 obtain ⟨oo,hoo⟩ : ∃ oo,o + 1 = oo := ⟨_,rfl⟩
 rw [hpp,hoo] at CK0
 have hpc : 1 + (p : Int) = (pp : Int) := by omega
 have hoc : 1 + (o : Int) = (oo : Int) := by omega
 have hb : 1 ≤ pp ∧ pp ≤ 30 ∧ 1 ≤ oo ∧ oo ≤ 8 := by omega
 have hsh : wrap64 (wrap64 (2 ^ pp) - 1) = ((2 ^ pp - 1 : Nat) : Int) := by
  have key : ∀ q < 31,wrap64 (wrap64 (2 ^ q) - 1) = ((2 ^ q - 1 : Nat) : Int) := by decide +kernel
  exact key pp (by omega)
 have hrr2 : 2 ^ pp - 1 < 1073741824 := by
  have : 2 ^ pp ≤ 2 ^ 30 := Nat.pow_le_pow_right (by decide) hb.2.1
  omega
 obtain ⟨CK,PL,BS⟩ := ckEnd_ok CK0
 have ST : pkS oo pp 0 = (addM (newBandM 1 1 37) 0 (encodeM (oneG (2 ^ pp - 1))).planes (encodeM (oneG (2 ^ pp - 1))).passes (encodeM (oneG (2 ^ pp - 1))).bytes,newBandM 1 1 37) := rfl
 obtain ⟨rr,hrr⟩ : ∃ rr,2 ^ pp - 1 = rr := ⟨_,rfl⟩
 rw [hrr] at hsh hrr2 ST BS
 obtain ⟨E,hE⟩ : ∃ E,encodeM (oneG rr) = E := ⟨_,rfl⟩
 have BE := one_bounds rr hrr2
 have EN0 := fun (w0 : World) hv hvg => encode_one rr w0.heap.size 1 (w0.alloc (.cells #[.int .i64 (rr : Int)] 3)) hrr2 hv hvg
 rw [hE] at BE ST BS
 simp only [hE] at EN0
 replace EN0 := Lib.hid EN0
 replace CK := Lib.hid (And.intro CK (And.intro PL BS))
 clear PL BS hE hrr CK0 hrr2
 replace ST := Lib.hid ST
 obtain ⟨hb1,hb2,hb3,hb4⟩ := hb
 go_enter Try.func6,Try.ntmps6
 go_upto_region 5 with (first
  | (go_at_call 7; refine KN.out.mono ?_; rintro e w1 ⟨rfl,m1⟩; have K1 := Lib.hid m1; clear m1)
  | (go_at_call 9; (with_reducible refine (W1.out _).mono ?_); rintro e w' ⟨rfl,rfl⟩)
  | (go_at_call 9; (with_reducible refine (W2.out _).mono ?_); rintro e w' ⟨rfl,rfl⟩))
 clear W1 W2 KN
 have M3 := K1.out.alloc 3 #[.int .i64 (rr : Int)]
 have K3 := Lib.hid M3.drop1
 have EN := Lib.hid (EN0.out w' (by simp) (by simp))
 clear M3 EN0
 go_upto_region 6 with (go_at_call 13; refine EN.out.mono ?_; rintro e w4 ⟨pv,bv,Hp,Hb,rfl,rp,rb,m4⟩; obtain ⟨pa,pc,rfl⟩ := rp.slice; obtain ⟨ba,bc,rfl⟩ := RowB.slice rb; have K4 := Lib.hid (And.intro rp (And.intro rb (Mv.call (H := []) (R := []) K3.out m4))); clear rp rb m4)
 obtain ⟨P,ps,bs⟩ := E
 simp only at BE K4 ST CK ⊢
 obtain ⟨hP,hn,hm,he⟩ := BE
 have rp := K4.out.1
 have rb := K4.out.2.1
 obtain ⟨np,hnp⟩ : ∃ np,ps.length = np := ⟨_,rfl⟩
 obtain ⟨nb,hnb⟩ : ∃ nb,bs.length = nb := ⟨_,rfl⟩
 have M5 := K4.out.2.2.alloc 38 #[.int .i64 (P : Int),.slice pa ps.length pc,.slice ba bs.length bc]
 rw [hnp,hnb] at M5
 rw [hnp] at rp
 rw [hnb] at rb
 rw [hnp,hnb]
 obtain ⟨xb,hxb⟩ : ∃ xb,w4.heap.size = xb := ⟨_,rfl⟩
 rw [hxb] at M5 ⊢
 obtain ⟨w5,hw5⟩ : ∃ w5,w5 = w4.alloc (.cells #[.int .i64 (P : Int),.slice pa np pc,.slice ba nb bc] 38) := ⟨_,rfl⟩
 rw [← hw5] at M5 ⊢
 have M6 : Mv w [] w5 (noneX xb (P : Int) (.slice pa np pc) (.slice ba nb bc) Hp Hb) := M5.sub (fun g => by simp only [noneX,blQ,cnt_append,cnt_cons,cnt_nil]; omega) (fun c hc => by simp only [noneX,blQ,List.mem_append,List.mem_cons] at hc ⊢; grind)
 have OFC := Lib.hid (fun (W : World) (H : List Ytnpoakabheeoeaa.HB) (m : Mv w [] W (H ++ noneX xb (P : Int) (.slice pa np pc) (.slice ba nb bc) Hp Hb)) => none_of rp (by omega) m)
 have ADC := Lib.hid (fun (W : World) (d : BandA) (m : BandM) (HA' H1 HC : List Ytnpoakabheeoeaa.HB) (vp : Value) (k : Int) (r1 : RowP vp ps H1) (hB : BandR d m HA') (h0 : (stOf m k).said = 0) (M : Mv w [] W (H1 ++ ((HA' ++ HC) ++ noneX xb (P : Int) (.slice pa np pc) (.slice ba nb bc) Hp Hb))) => cnt_add (P := (P : Int)) rb (by omega) (by omega) (by omega) he r1 hB k h0 M)
 have KR := Lib.hid (And.intro rp (And.intro rb (And.intro hnp hnb)))
 obtain ⟨NX,hNX⟩ : ∃ NX,noneX xb (P : Int) (.slice pa np pc) (.slice ba nb bc) Hp Hb = NX := ⟨_,rfl⟩
 have XC : Hid (∀ V H,Mv w [] V (H ++ NX) → V.cell? ⟨xb,0,none⟩ = some (.int .i64 P) ∧ V.cell? ⟨xb,1,none⟩ = some (.slice pa np pc) ∧ V.cell? ⟨xb,2,none⟩ = some (.slice ba nb bc)) := Lib.hid (by rw [← hNX]; exact fun V H m => noneX_cells m)
 have hNX0 := Lib.hid hNX
 rw [hNX] at OFC ADC M6
 have K6 := Lib.hid M6
 have NB2 := NB
 have S0 : Hid ((stOf (newBandM 1 1 37) 0).said = 0) := Lib.hid (by kernel_rfl)
 clear M5 M6 hw5 hxb hnp hnb rp rb K4 EN K3 he hNX K1
 go_upto_region 7 with (first
  | (go_at_call 12; refine (NB.out _).mono ?_; rintro e w6 ⟨dA,HA,rfl,hdA,hBA,m6⟩; have KA := Lib.hid (And.intro hdA (And.intro hBA (Mv.call (H := []) K6.out m6))); clear hBA m6 hdA NB)
  | (go_at_call 12; refine (NB2.out _).mono ?_; rintro e w7 ⟨dB,HB,rfl,hdB,hBB,m7⟩; have KB := Lib.hid (And.intro hdB (And.intro hBB (Mv.call (H := []) KA.out.2.2 m7))); clear hBB m7 hdB NB2))
 have M7 : Mv w [] w7 ((HA ++ HB) ++ NX) := (show Mv w [] w7 (HB ++ (HA ++ NX)) from KB.out.2.2).sub (fun g => by simp only [cnt_append]; omega) (fun c hc => by simp only [List.mem_append] at hc ⊢; grind)
 have K7 := Lib.hid M7
 obtain ⟨x0,x1,x2⟩ := XC.out _ _ M7
 clear M7 K6
 go_upto_region 8 with (first
  | (go_at_call 15; refine (OFC.out _ _ K7.out).mono ?_; rintro e w8 ⟨vp',H1,rfl,r1,m8⟩; have K8 := Lib.hid (And.intro r1 m8); clear r1 m8)
  | (go_at_call 14; refine (ADC.out _ _ _ _ _ _ _ _ K8.out.1 KA.out.2.1 S0.out K8.out.2).mono ?_; rintro e w9 ⟨rfl,HA',h9,m9⟩; have K9 := Lib.hid (And.intro h9 m9); clear h9 m9))
 have FB := Lib.hid (And.intro KA.out.1 KB.out.1)
 have K10 : Hid (BandR dA (pkS oo pp 0).1 HA' ∧ BandR dB (pkS oo pp 0).2 HB ∧ Mv w [] w9 ((HA' ++ HB) ++ NX)) := Lib.hid ⟨by rw [ST.out]; exact K9.out.1,by rw [ST.out]; exact KB.out.2.1,by rw [List.append_assoc]; exact K9.out.2⟩
 clear x0 x1 x2 ST S0 OFC ADC K7 K9 KA KB
 go_wp2_with fail
 go_loopg [10] oo (fun mm s10 wx => ∃ (k : Nat) (HA2 HB2 : List Ytnpoakabheeoeaa.HB),k ≤ oo ∧ mm = oo - k ∧ s10 = .int .i64 (k : Int) ∧ BandR dA (pkS oo pp k).1 HA2 ∧ BandR dB (pkS oo pp k).2 HB2 ∧ Mv w [] wx ((HA2 ++ HB2) ++ NX))
 case atStart => exact ⟨0,HA',HB,Nat.zero_le _,rfl,rfl,K10.out.1,K10.out.2.1,K10.out.2.2⟩
 case round =>
  obtain ⟨k,HA2,HB2,hk,rfl,rfl,hA,hB,M⟩ := hrel
  clear K10
  by_cases hlt : k < oo
  ·have d1 : decide ((k : Int) < (oo : Int)) = true := by simp; omega
   have ck := CK.out.1 k hlt
   obtain ⟨A1,hA1⟩ : ∃ a,(pkS oo pp k).1 = a := ⟨_,rfl⟩
   obtain ⟨B1,hB1⟩ : ∃ b,(pkS oo pp k).2 = b := ⟨_,rfl⟩
   have SS : pkS oo pp (k + 1) = ((pkA oo k A1).M 0,(pkD oo k A1 B1).2.2 0) := by rw [← hA1,← hB1]; rfl
   rw [hA1,hB1] at ck
   rw [hA1] at hA
   rw [hB1] at hB
   have M1 : Mv w [] (wr.alloc (.cells #[.pointer (some ⟨dA.bb,0,none⟩)] 34)) ((listB wr.heap.size dA.bb :: HA2) ++ (HB2 ++ NX)) := by
    have h := M.alloc 34 #[.pointer (some ⟨dA.bb,0,none⟩)]
    rw [List.append_assoc] at h
    exact h
   have EN := enc_d dA A1 HA2 wr.heap.size oo k (wr.alloc (.cells #[.pointer (some ⟨dA.bb,0,none⟩)] 34)) FB.out.1 hA M1.sat.left (by omega) (by omega) ck.ga
   have hpk : pkB oo k A1 = wout (wbits (pkA oo k A1).bits) ++ (pkA oo k A1).body := rfl
   obtain ⟨l1,hl1⟩ : ∃ l,wout (wbits (pkA oo k A1).bits) = l := ⟨_,rfl⟩
   obtain ⟨l2,hl2⟩ : ∃ l,(pkA oo k A1).body = l := ⟨_,rfl⟩
   rw [hl1,hl2] at EN hpk
   obtain ⟨n1,hn1⟩ : ∃ n,l1.length = n := ⟨_,rfl⟩
   obtain ⟨n2,hn2⟩ : ∃ n,l2.length = n := ⟨_,rfl⟩
   have hlen : (pkB oo k A1).length = n1 + n2 := by rw [hpk,List.length_append,hn1,hn2]
   have hle : 1 ≤ n1 + n2 ∧ n1 + n2 ≤ 1000000 := by have h1 := ck.l1; have h2 := ck.l2; rw [hlen] at h1 h2; exact ⟨h1,h2⟩
   have EN2 : Hid (Calls Try.prog 11 #[.slice (some ⟨wr.heap.size,0,none⟩) 1 1,.int .i64 0,.int .i64 (oo : Int),.int .i64 (k : Int)] (wr.alloc (.cells #[.pointer (some ⟨dA.bb,0,none⟩)] 34)) fun e W' => ∃ a1 c1 a2 c2 H1 H2 HA',e = .returned (.tuple #[.slice a1 n1 c1,.slice a2 n2 c2]) ∧ RowB (.slice a1 n1 c1) l1 H1 ∧ RowB (.slice a2 n2 c2) l2 H2 ∧
     BandR dA ((pkA oo k A1).M 0) HA' ∧ Mv w [] W' ((H1 ++ (H2 ++ (listB wr.heap.size dA.bb :: HA'))) ++ (HB2 ++ NX))) := Lib.hid (by
    refine EN.mono ?_
    rintro e w3 ⟨v1,v2,H1,H2,HA3,rfl,r1,r2,r3,m3⟩
    obtain ⟨a1,c1,rfl⟩ := RowB.slice r1
    obtain ⟨a2,c2,rfl⟩ := RowB.slice r2
    rw [hn1] at r1 ⊢
    rw [hn2] at r2 ⊢
    exact ⟨a1,c1,a2,c2,H1,H2,HA3,rfl,r1,r2,r3,Mv.call M1 m3⟩)
   have KM := Lib.hid (And.intro hB (And.intro ck (And.intro SS (And.intro hpk (And.intro hn1 hn2)))))
   obtain ⟨hle1,hle2⟩ := hle
   clear EN hA hB ck SS M M1 hl1 hl2 hA1 hB1 hn1 hn2 hpk hlen
   go_upto_region 12 with (go_at_call 11; refine EN2.out.mono ?_; rintro e w3 ⟨a1,c1,a2,c2,H1,H2,HA3,rfl,r1,r2,r3,m3⟩; have K3 := Lib.hid (And.intro r1 (And.intro r2 (And.intro r3 m3))); clear r1 r2 r3 m3)
   have M3 := (K3.out.2.2.2.alloc 34 #[.pointer (some ⟨dB.bb,0,none⟩)]).alloc 5 #[]
   simp only [World.size_alloc] at M3
   obtain ⟨w5,hw5⟩ : ∃ w5,w5 = (w3.alloc (.cells #[.pointer (some ⟨dB.bb,0,none⟩)] 34)).alloc (.cells #[] 5) := ⟨_,rfl⟩
   rw [← hw5] at M3
   obtain ⟨g2,hg2⟩ : ∃ g2,w3.heap.size = g2 := ⟨_,rfl⟩
   rw [hg2] at M3
   obtain ⟨RR,hRR⟩ : ∃ RR,(⟨g2,34,#[.pointer (some ⟨dB.bb,0,none⟩)]⟩ : Ytnpoakabheeoeaa.HB) :: ((H1 ++ (H2 ++ (listB wr.heap.size dA.bb :: HA3))) ++ (HB2 ++ NX)) = RR := ⟨_,rfl⟩
   rw [hRR] at M3
   have R5 : RowB (.slice (some ⟨g2 + 1,0,none⟩) 0 0) [] [⟨g2 + 1,5,#[]⟩] := RowB.lit _ [] 0 rfl (by decide)
   have KW := Lib.hid hw5
   have hz5 : (w3.alloc (.cells #[.pointer (some ⟨dB.bb,0,none⟩)] 34)).heap.size = g2 + 1 := by simp [hg2]
   have BV12 : Hid (∀ V Y,Mv w [] V (Y ++ RR) → BV V (.slice a1 n1 c1) l1 ∧ BV V (.slice a2 n2 c2) l2) := Lib.hid (by
    intro V Y m
    have s := m.drop.sat
    rw [← hRR] at s
    have s2 : Sat V ((H1 ++ (H2 ++ (listB wr.heap.size dA.bb :: HA3))) ++ (HB2 ++ NX)) := Sat.tail1 s
    exact ⟨K3.out.1.bv s2.left.left,K3.out.2.1.bv s2.left.right.left⟩)
   have K5 := Lib.hid (And.intro R5 M3)
   have KRR := Lib.hid hRR
   have DC : Hid (∀ (V : World) (vg vc : Nat) (H8 : List Ytnpoakabheeoeaa.HB),RowB (.slice (some ⟨vg,0,none⟩) (n1 + n2) vc) (l1 ++ l2) H8 → Mv w [] V (H8 ++ RR) → Calls Try.prog 18 #[.slice (some ⟨g2,0,none⟩) 1 1,.int .i64 0,.int .i64 (k : Int),.slice (some ⟨vg,0,none⟩) (n1 + n2) vc,.bool false] V fun e w' => e = .returned (.tuple #[.int .i64 ((n1 : Int) + (n2 : Int)),.int .i64 0]) ∧
     ∃ HB3,BandR dB ((pkD oo k A1 B1).2.2 0) HB3 ∧ Mv w [] w' ((HA3 ++ HB3) ++ NX)) := Lib.hid (by
    intro V vg vc H8 r8 m8
    have m9 : Mv w [] V (((listB g2 dB.bb :: HB2) ++ H8) ++ (HA3 ++ NX)) := m8.sub (fun g => by rw [← KRR.out]; simp only [cnt_append,cnt_cons,listB]; omega) (fun c hc => by rw [← KRR.out]; simp only [List.mem_append,List.mem_cons,listB] at hc ⊢; grind)
    have m10 : Mv w [] V ((H8 ++ (listB g2 dB.bb :: HB2)) ++ (HA3 ++ NX)) := m9.sub (fun g => by simp only [cnt_append,cnt_cons]; omega) (fun c hc => by simp only [List.mem_append,List.mem_cons] at hc ⊢; grind)
    refine (dec_d dB A1 B1 HB2 g2 oo k pp vg (n1 + n2) vc H8 V FB.out.2 KM.out.1 m10.sat.left (by rw [KM.out.2.2.2.1]; exact r8) (by omega) KM.out.2.1).mono ?_
    rintro e w' ⟨rfl,HB3,h1,h2⟩
    exact ⟨by push_cast; rfl,HB3,h1,(Mv.call m9 h2).sub (fun g => by simp only [cnt_append,cnt_cons]; omega) (fun c hc => by simp only [List.mem_append,List.mem_cons] at hc ⊢; grind)⟩)
   clear M3 R5 hw5 hRR EN2
   have hpl : (([] : List UInt8).length + l1.length ≤ 100000000) ∧ (l1.length + l2.length ≤ 100000000) := by
    rw [KM.out.2.2.2.2.1,KM.out.2.2.2.2.2]
    simp only [List.length_nil]
    omega
   have HPL := Lib.hid hpl
   clear hpl
   go_upto_region 13 with (first
    | (at_builtin; (try rw [hg2]); (try rw [hz5]); rw [← KW.out]; refine wpList_appB rfl (.tmp 55) (.tmp 56) rfl _ _ [] l1 _ rfl rfl K5.out.1 K5.out.2.sat.left (BV12.out _ [_] K5.out.2).1 HPL.out.1 ?_; intro v6 w6 H6 hr6 m6; replace hr6 : RowB v6 l1 H6 := hr6; obtain ⟨a6,c6,rfl⟩ := RowB.slice hr6; have K6 := Lib.hid (And.intro hr6 (Mv.call (H := [_]) (R := RR) K5.out.2 m6)); clear hr6 m6)
    | (at_builtin; refine wpList_appB rfl (.tmp 57) (.tmp 58) rfl _ _ l1 l2 H6 rfl rfl K6.out.1 K6.out.2.sat.left (BV12.out _ _ K6.out.2).2 HPL.out.2 ?_; intro v8 w8 H8 hr8 m8; obtain ⟨g8,c8,rfl⟩ : ∃ g8 c8,v8 = .slice (some ⟨g8,0,none⟩) (n1 + n2) c8 := (by obtain ⟨g8,c8,cur8,e8,-⟩ := RowH.form hr8 (by rw [List.length_append,KM.out.2.2.2.2.1,KM.out.2.2.2.2.2]; exact hle1); rw [List.length_append,KM.out.2.2.2.2.1,KM.out.2.2.2.2.2] at e8; exact ⟨g8,c8,e8⟩); have K8 := Lib.hid (And.intro hr8 (Mv.call (H := H6) (R := RR) K6.out.2 m8)); clear hr8 m8)
    | (go_at_call 18; (with_reducible refine (DC.out w8 g8 c8 H8 K8.out.1 K8.out.2).mono ?_); rintro e w10 ⟨rfl,HB3,h10,m10⟩; have K11 := Lib.hid (And.intro h10 m10); clear h10 m10))
   clear K8 K6 K5 DC BV12 KRR HPL KW
   obtain ⟨A2,hA2⟩ : ∃ a,(pkA oo k A1).M 0 = a := ⟨_,rfl⟩
   obtain ⟨B2,hB2⟩ : ∃ b,(pkD oo k A1 B1).2.2 0 = b := ⟨_,rfl⟩
   have r1 := K3.out.2.2.1
   have r2 := K11.out.1
   have r3 := KM.out.2.2.1
   have e2 := KM.out.2.1.e2
   rw [hA2] at r1 r3
   rw [hB2] at r2 r3 e2
   obtain ⟨tt,htt⟩ : ∃ tt : Nat,tt = (3 * pp - 2) * (k + 1) := ⟨_,rfl⟩
   have hmul : (3 * (pp : Int) - 2) * ((k : Int) + 1) = (tt : Int) := by
    rw [htt,Int.natCast_mul,show ((3 * pp - 2 : Nat) : Int) = 3 * (pp : Int) - 2 by omega]
    push_cast
    rfl
   have htt2 : tt ≤ 88 * 8 := by rw [htt]; exact Nat.mul_le_mul (by omega) (by omega)
   rw [hmul] at e2
   obtain ⟨qq,hqq⟩ : ∃ qq,(stOf B2 0).ps.length = qq := ⟨_,rfl⟩
   rw [hqq] at e2
   have hquo : Int.tdiv (tt : Int) (oo : Int) = (qq : Int) := by rw [e2,Int.tdiv_eq_ediv_of_nonneg (by omega)]
   have M10 : Mv w [] w10.drew ((HA3 ++ HB3) ++ NX) := K11.out.2.drew
   have BK : Hid (Calls Try.prog 16 #[.pointer (some ⟨dB.bb,0,none⟩),.int .i64 0] w10.drew fun e w' => ∃ a c v',e = .returned (.agg #[.int .i64 (stOf B2 0).pl,.slice a qq c,v']) ∧ Mv w [] w' ((HA3 ++ HB3) ++ NX)) := Lib.hid (by
    have M11 : Mv w [] w10.drew (HB3 ++ (HA3 ++ NX)) := M10.sub (fun g => by simp only [cnt_append]; omega) (fun c hc => by simp only [List.mem_append] at hc ⊢; grind)
    refine (none_block r2 0 M11).mono ?_
    rintro e w' ⟨vp',vb',H1',H2',rfl,q1,-,m⟩
    obtain ⟨a,c,rfl⟩ := q1.slice
    rw [hqq]
    exact ⟨a,c,vb',rfl,m.drop.sub (fun g => by simp only [cnt_append]; omega) (fun c hc => by simp only [List.mem_append] at hc ⊢; grind)⟩)
   obtain ⟨pl2,hpl2⟩ : ∃ pl2,(stOf B2 0).pl = pl2 := ⟨_,rfl⟩
   rw [hpl2] at BK
   have hfd : ∀ (a : Option Addr) (c : Nat) (v : Value) (W : World),(Instr.field 45 (.agg #[.int .i64 pl2,.slice a qq c,v]) 1).run Try.prog W = .ok (.slice a qq c) W := fun _ _ _ _ => by kernel_rfl
   have hqq2 : qq ≤ 704 := by
    have h1 := Int.ediv_le_self (oo : Int) (show (0 : Int) ≤ (tt : Int) by omega)
    omega
   have KZ := Lib.hid (And.intro r1 (And.intro r2 r3))
   have M10' : Mv w [] w10 ((HA3 ++ HB3) ++ NX) := K11.out.2
   clear r1 r2 r3 e2 hqq hpl2 htt hA2 hB2 K11 K3 M10 KM
   refine wp_piece (cnt_r13 _ dB.bb pp oo k n1 n2 c1 c2 tt qq a1 a2 pl2 ((HA3 ++ HB3) ++ NX) [] w w10 _ _ _ _ _ _ _ _ _ _ _ _ _ _ _ _ _ _ _ _ _ _ _ _ _ _ _ _ _ _ _ _ _ _ _ _ _ _ _ _ _ _ _ _ _ _ _ _ _ _ _ _ _ _ _ _ _ _ _ _ _ _ _ _ _ _ _ _ _ _ _ _ _ _ _ _ _ _ _ _ _ _ _ _ _ _ _ _ _ _ _ _ _ _ _ _ BK hfd M10' hb1 hb2 hb3 hb4 (by omega) hle2 htt2 hqq2 hmul hquo ?_)
   rintro u63 u64 u65 u66 u67 u68 u69 u70 u71 u72 u73 u74 u75 u76 u77 u78 u79 u80 u81 u82 u83 u84 u85 u86 u87 u88 xa xc xv wz ⟨m13,-,-⟩ rfl
   have K13 := Lib.hid m13
   clear m13 BK hfd M10' hquo hmul
   go_wp2_with fail
   go_roundg (oo - (k + 1))
   case measure => omega
   case rel => exact ⟨k + 1,HA3,HB3,by omega,rfl,by push_cast; rfl,by rw [KZ.out.2.2]; exact KZ.out.1,by rw [KZ.out.2.2]; exact KZ.out.2.1,K13.out⟩
  ·have hko : k = oo := by omega
   have d1 : decide ((k : Int) < (oo : Int)) = false := by simp; omega
   subst hko
   obtain ⟨-,hpl,hbs⟩ := CK.out
   obtain ⟨B1,hB1⟩ : ∃ b,(pkS k pp k).2 = b := ⟨_,rfl⟩
   rw [hB1] at hpl hbs hB
   have hnb := KR.out.2.2.2
   have BK : Hid (∀ V,Mv w [] V ((HA2 ++ HB2) ++ NX) → Calls Try.prog 16 #[.pointer (some ⟨dB.bb,0,none⟩),.int .i64 0] V fun e w' => ∃ v a c H2,e = .returned (.agg #[.int .i64 (pp : Int),v,.slice a nb c]) ∧ RowB (.slice a nb c) bs H2 ∧ Mv w [] w' (H2 ++ ((HA2 ++ HB2) ++ NX))) := Lib.hid (by
    intro V m
    have m1 : Mv w [] V (HB2 ++ (HA2 ++ NX)) := m.sub (fun g => by simp only [cnt_append]; omega) (fun c hc => by simp only [List.mem_append] at hc ⊢; grind)
    refine (none_block hB 0 m1).mono ?_
    rintro e w' ⟨vp',vb',H1',H2',rfl,-,q2,m2⟩
    rw [hbs] at q2
    rw [hpl]
    obtain ⟨a,c,rfl⟩ := RowB.slice q2
    rw [hnb] at q2 ⊢
    exact ⟨vp',a,c,H2',rfl,q2,m2.sub (fun g => by simp only [cnt_append]; omega) (fun c hc => by simp only [List.mem_append] at hc ⊢; grind)⟩)
   have CE : Hid (∀ V A',Mv w [] V (A' ++ ((HA2 ++ HB2) ++ NX)) → V.cell? ⟨xb,2,none⟩ = some (.slice ba nb bc)) := Lib.hid (fun V A' m => (XC.out V (A' ++ (HA2 ++ HB2)) (by rw [List.append_assoc]; exact m)).2.2)
   have BX : Hid (∀ V A',Mv w [] V (A' ++ ((HA2 ++ HB2) ++ NX)) → BV V (.slice ba nb bc) bs) := Lib.hid (fun V A' m => by
    have s : Sat V NX := m.sat.right.right
    rw [← hNX0.out] at s
    have s2 : Sat V Hb := Sat.right (A := [_] ++ Hp) (by simpa [noneX] using s)
    exact KR.out.2.1.bv s2)
   clear hB hpl hbs hnb CK hB1
   go_upto_region 15 with fail
   refine wp_piece (cnt_r15 _ dB.bb pp xb nb bc ba bs ((HA2 ++ HB2) ++ NX) [] w wr _ _ _ _ _ _ _ _ _ _ _ _ _ _ _ _ _ _ _ _ _ _ _ _ _ _ _ _ _ _ _ _ _ _ _ _ _ _ _ _ _ _ _ _ _ _ _ _ _ _ _ _ _ _ _ _ _ _ _ _ _ _ _ _ _ _ _ _ _ _ _ _ _ _ _ _ _ _ _ _ _ _ _ _ _ _ _ _ _ _ _ _ _ _ _ _ _ _ _ _ _ BK CE BX M (by omega) ?_)
   rintro u89 u90 u91 u92 u93 u94 u95 u96 u97 u98 u99 u100 u101 u102 u103 u4 v1 x1 y1 v3 x3 y3 H4 wz ⟨m13,-⟩ rfl
   have K13 := Lib.hid m13.below0
   clear m13 BK CE BX
   go_wp2_with fail
   go_ret
   exact ⟨rfl,K13.out⟩
end
end Go.Proofs.Ytnpoakabheeoeaa
