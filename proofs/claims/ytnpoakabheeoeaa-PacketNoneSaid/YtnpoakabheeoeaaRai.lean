/- waveletref8.Encode: a pass is made. -/
import Derived.Test.YtnpoakabheeoeaaMrg
import Derived.Deep.CutBlock
import Derived.Deep.CutRange
namespace Go.Proofs.Ytnpoakabheeoeaa
open Go.RowKit

/-- the first pass of a segment: what it writes to is new -/
theorem cod_new {A : CodA} {G : GeoM} {c : CodM} {cx : List CxM} {raw : Bool} {pe pr : Value} {w0 w : World} {H0 X He Hr : List HB} {eg rg : Nat} (hl : cx.length = 19) (he : MqR eg encNew He) (hr : RawR rg rawNew Hr)
    (M : Mv w0 H0 w (Hr ++ (He ++ (CodF A G c cx (tailP true raw pe pr) ++ X)))) :
    ∃ Hc, CodR A G ⟨c, ⟨cx, encNew, rawNew⟩⟩ raw eg rg Hc ∧ Mv w0 H0 ((w.setCell ⟨A.cb, 49, none⟩ (ptr0 eg)).setCell ⟨A.cb, 50, none⟩ (ptr0 rg)) (Hc ++ X) := by
  have M1 : Mv w0 H0 w (⟨A.cb, 98, (codT A G cx (tailP true raw pe pr)).toArray⟩ :: ([rowN A.gm G.mag, rowN A.gn G.neg, rowL A.gs c.sig, rowL A.ge c.seen, rowL A.ga c.again] ++ ((He ++ Hr) ++ X))) :=
    M.sub (fun g => by simp only [CodF, codH, cnt_append, cnt_cons, cnt_nil]; omega) (fun b hb => by simp only [CodF, codH, List.mem_append, List.mem_cons, List.not_mem_nil, or_false] at hb ⊢; grind)
  have M2 := (M1.set 49 (ptr0 eg)).set 50 (ptr0 rg)
  rw [show (49 : Nat) = 47 + 2 from rfl, show (50 : Nat) = 47 + 3 from rfl, codT_set hl, codT_set hl] at M2
  refine ⟨_, CodR.of (q := ⟨c, ⟨cx, encNew, rawNew⟩⟩) he hr, ?_⟩
  simpa [CodF, codH, tailP, List.append_assoc] using M2
theorem cod_raw {A : CodA} {G : GeoM} {c : CodM} {cx : List CxM} {raw : Bool} {pe pr : Value} {w0 w : World} {H0 X : List HB} (hl : cx.length = 19) (M : Mv w0 H0 w (CodF A G c cx (tailP true raw pe pr) ++ X)) (raw' : Bool) :
    Mv w0 H0 (w.setCell ⟨A.cb, 48, none⟩ (.bool raw')) (CodF A G c cx (tailP true raw' pe pr) ++ X) := by
  have M1 : Mv w0 H0 w (⟨A.cb, 98, (codT A G cx (tailP true raw pe pr)).toArray⟩ :: ([rowN A.gm G.mag, rowN A.gn G.neg, rowL A.gs c.sig, rowL A.ge c.seen, rowL A.ga c.again] ++ X)) := M
  have M2 := M1.set 48 (.bool raw')
  rw [show (48 : Nat) = 47 + 1 from rfl, codT_set hl] at M2
  exact M2
theorem codF_at {A : CodA} {G : GeoM} {c : CodM} {cx : List CxM} {t : List Value} {w0 w : World} {H0 X : List HB} (hl : cx.length = 19) (M : Mv w0 H0 w (CodF A G c cx t ++ X)) (i : Nat) : w.cell? ⟨A.cb, 47 + i, none⟩ = t[i]? ∧ w.frozen? ⟨A.cb, 47 + i, none⟩ = false := by
  have b := M.blk 0 (g := A.cb) (t := 98) (cs := (codT A G cx t).toArray) rfl
  exact ⟨(b.cell _).trans (codT_get hl t i), b.frozen _⟩
theorem cod_old {A : CodA} {G : GeoM} {c : CodM} {cx : List CxM} {t : List Value} {w0 w : World} {H0 X He Hr : List HB} (hl : cx.length = 19) (M : Mv w0 H0 w (Hr ++ (He ++ (CodF A G c cx t ++ X)))) (i : Nat) : w.cell? ⟨A.cb, 47 + i, none⟩ = t[i]? ∧ w.frozen? ⟨A.cb, 47 + i, none⟩ = false :=
  codF_at hl (Mv.drop (Mv.drop M)) i
theorem bk_pv {w0 w : World} {H0 A R : List HB} {bb pl : Nat} {pv bv : Value} (M : Mv w0 H0 w (A ++ (bB bb pl pv bv :: R))) (v : Value) : Mv w0 H0 (w.setCell ⟨bb, 1, none⟩ v) (A ++ (bB bb pl v bv :: R)) :=
  Mv.setAt (A := A) (g := bb) (t := 38) (cs := #[.int .i64 (pl : Int), pv, bv]) M 1 v
theorem bk_bv {w0 w : World} {H0 A R : List HB} {bb pl : Nat} {pv bv : Value} (M : Mv w0 H0 w (A ++ (bB bb pl pv bv :: R))) (v : Value) : Mv w0 H0 (w.setCell ⟨bb, 2, none⟩ v) (A ++ (bB bb pl pv v :: R)) :=
  Mv.setAt (A := A) (g := bb) (t := 38) (cs := #[.int .i64 (pl : Int), pv, bv]) M 2 v
theorem bk_at {w0 w : World} {H0 A R : List HB} {bb pl : Nat} {pv bv : Value} (M : Mv w0 H0 w (A ++ (bB bb pl pv bv :: R))) : w.cell? ⟨bb, 1, none⟩ = some pv ∧ w.cell? ⟨bb, 2, none⟩ = some bv ∧ w.frozen? ⟨bb, 1, none⟩ = false ∧ w.frozen? ⟨bb, 2, none⟩ = false :=
  ⟨M.drop.cell 0 rfl 1, M.drop.cell 0 rfl 2, M.drop.frozen 0 rfl 1, M.drop.frozen 0 rfl 2⟩
theorem outM_le (raw : Bool) (s : WrM) : outM raw s ≤ s.size + 4 := by
  unfold outM rawOut WrM.size
  split
  · split <;> omega
  · omega
theorem stPs_top {G : GeoM} {planes n : Nat} {t : EncS} {k : Nat} (hg : 1 ≤ G.h) (h : t.Ok G k) {B : Nat} (hb : t.bytes.length ≤ B) (ho : outM (stRaw G t k) (stQ G planes t k).s ≤ B) : ∀ p ∈ stPs G planes n t k, 0 ≤ p.1 ∧ p.1 ≤ (B : Int) := by
  intro p hp
  refine ⟨stPs_pos h p hp, ?_⟩
  rw [← List.take_append_drop t.first (stPs G planes n t k)] at hp
  rcases List.mem_append.1 hp with h1 | h1
  · rw [stPs_take h] at h1
    have := h.top p h1
    omega
  · have := (stPs_up (planes := planes) (n := n) hg h).2 p h1
    omega
set_option maxRecDepth 100000 in
set_option maxHeartbeats 8000000 in
theorem enc_p5 (K : Act → World → Prop) (A : CodA) (bb : Nat) (G : GeoM) (pl n k : Nat) (t : EncS) (R H H0 : List HB) (w0 w : World) (s0 s1 s2 s4 s5 s6 s7 s8 s9 s10 s11 s14 s18 s19 s20 s21 s22 s23 s24 s25 s26 s27 s28 s29 s30 s31 s32 s33 s34 s35 s36 s37 s38 s39 s40 s41 s42 s43 s44 s45 s46 s47 s48 s49 s50 s51 s52 s53 s54 s55 s56 s57 s58 s59 s60 s61 s62 s63 s64 s65 s66 s67 s68 s69 s70 s71 s72 s73 s74 s75 s76 s77 s78 s79 s80 s81 s82 s83 s84 s85 s86 s87 s88 s89 s90 s91 s92 s93 s94 s95 s96 s97 s98 s99 s100 s101 s102 s103 s104 s105 s106 s107 s108 s109 s110 s111 s112 s113 s114 s115 s116 s117 s118 s119 s120 s121 s122 s123 s124 s125 s126 s127 s128 s129 s130 s131 s132 s133 s134 s135 s136 s137 s138 s139 s140 s141 s142 s143 s144 s145 s146 s147 s148 s149 s150 s151 s152 s153 s154 s155 s156 s157 s158 s159 s160 s161 s162 s163 s164 s165 s166 s167 s168 s169 s170 s171 s172 s173 s174 s175 s176 s177 s178 s179 s180 s181 s182 s183 s184 s185 s186 s187 s188 s189 s190 s191 s192 s193 s194 s195 s196 s197 s198 s199 s200 s201 s202 s203 s204 s205 s206 s207 s208 s209 s210 s211 s212 s213 s214 s215 s216 s217 s218 s219 s220 s221 s222 s223 s224 s225 s226 s227 s228 s229 s230 s231 s232 s233 s234 s235 s236 s237 s238 s239 s240 s241 : Value)
    (hg : G.Ok) (hpl : pl ≤ 30) (hk : k < n) (hn : n = countM pl) (hok : t.Ok G k) (hfew : t.Few (16 * (12 * (G.w * G.h) + 4) + 4) k) (hr : BkR A bb G pl t k H) (M : Mv w0 H0 w (H ++ R))
    (hK : ∀ (t18 t19 t20 t21 t22 t23 t118 t119 t120 t121 t122 t123 t124 t125 t126 t127 t128 t129 t130 t131 t132 t133 t134 t135 t136 t137 t138 t139 t140 t141 t142 t143 t144 t145 t146 t147 t148 t149 t150 t151 t152 t153 t154 t155 t156 t157 t158 t159 t160 t161 t162 t163 t164 t165 t166 t167 t168 t169 t170 t171 t172 t173 t174 t175 t176 t177 t178 t179 t180 t181 t182 t183 t184 t185 t186 t187 t188 t189 t190 t191 t192 t193 t194 t195 t196 t197 t198 t199 t200 t201 t202 t203 t204 t205 t206 t207 t208 t209 t210 t211 t212 t213 t214 t215 t216 t217 t218 t219 t220 t221 t222 t223 t224 t225 t226 t227 t228 t229 t230 t231 t232 t233 t234 t235 t236 t237 t238 t239 t240 : Value) (wx : World) (H' : List HB), BkR A bb G pl (encStep G pl n t k) (k + 1) H' → Mv w0 H0 wx (H' ++ R) →
      K ⟨List.toArray (s0 :: s1 :: s2 :: (.int .i64 (G.style : Int)) :: s4 :: s5 :: s6 :: s7 :: s8 :: s9 :: s10 :: s11 :: (ptr0 A.cb) :: (ptr0 bb) :: s14 :: (.int .i64 (n : Int)) :: (.int .i64 ((encStep G pl n t k).first : Int)) :: (.int .i64 (k : Int)) :: t18 :: t19 :: t20 :: t21 :: t22 :: t23 :: s24 :: s25 :: s26 :: s27 :: s28 :: s29 :: s30 :: s31 :: s32 :: s33 :: s34 :: s35 :: s36 :: s37 :: s38 :: s39 :: s40 :: s41 :: s42 :: s43 :: s44 :: s45 :: s46 :: s47 :: s48 :: s49 :: s50 :: s51 :: s52 :: s53 :: s54 :: s55 :: s56 :: s57 :: s58 :: s59 :: s60 :: s61 :: s62 :: s63 :: s64 :: s65 :: s66 :: s67 :: s68 :: s69 :: s70 :: s71 :: s72 :: s73 :: s74 :: s75 :: s76 :: s77 :: s78 :: s79 :: s80 :: s81 :: s82 :: s83 :: s84 :: s85 :: s86 :: s87 :: s88 :: s89 :: s90 :: s91 :: s92 :: s93 :: s94 :: s95 :: s96 :: s97 :: s98 :: s99 :: s100 :: s101 :: s102 :: s103 :: s104 :: s105 :: s106 :: s107 :: s108 :: s109 :: s110 :: s111 :: s112 :: s113 :: s114 :: s115 :: s116 :: s117 :: t118 :: t119 :: t120 :: t121 :: t122 :: t123 :: t124 :: t125 :: t126 :: t127 :: t128 :: t129 :: t130 :: t131 :: t132 :: t133 :: t134 :: t135 :: t136 :: t137 :: t138 :: t139 :: t140 :: t141 :: t142 :: t143 :: t144 :: t145 :: t146 :: t147 :: t148 :: t149 :: t150 :: t151 :: t152 :: t153 :: t154 :: t155 :: t156 :: t157 :: t158 :: t159 :: t160 :: t161 :: t162 :: t163 :: t164 :: t165 :: t166 :: t167 :: t168 :: t169 :: t170 :: t171 :: t172 :: t173 :: t174 :: t175 :: t176 :: t177 :: t178 :: t179 :: t180 :: t181 :: t182 :: t183 :: t184 :: t185 :: t186 :: t187 :: t188 :: t189 :: t190 :: t191 :: t192 :: t193 :: t194 :: t195 :: t196 :: t197 :: t198 :: t199 :: t200 :: t201 :: t202 :: t203 :: t204 :: t205 :: t206 :: t207 :: t208 :: t209 :: t210 :: t211 :: t212 :: t213 :: t214 :: t215 :: t216 :: t217 :: t218 :: t219 :: t220 :: t221 :: t222 :: t223 :: t224 :: t225 :: t226 :: t227 :: t228 :: t229 :: t230 :: t231 :: t232 :: t233 :: t234 :: t235 :: t236 :: t237 :: t238 :: t239 :: t240 :: s241 :: []), []⟩ wx) :
    (blockOf 5 Try.f13).wp Try.prog (Exit.then K noQ) ⟨List.toArray (s0 :: s1 :: s2 :: (.int .i64 (G.style : Int)) :: s4 :: s5 :: s6 :: s7 :: s8 :: s9 :: s10 :: s11 :: (ptr0 A.cb) :: (ptr0 bb) :: s14 :: (.int .i64 (n : Int)) :: (.int .i64 (t.first : Int)) :: (.int .i64 (k : Int)) :: s18 :: s19 :: s20 :: s21 :: s22 :: s23 :: s24 :: s25 :: s26 :: s27 :: s28 :: s29 :: s30 :: s31 :: s32 :: s33 :: s34 :: s35 :: s36 :: s37 :: s38 :: s39 :: s40 :: s41 :: s42 :: s43 :: s44 :: s45 :: s46 :: s47 :: s48 :: s49 :: s50 :: s51 :: s52 :: s53 :: s54 :: s55 :: s56 :: s57 :: s58 :: s59 :: s60 :: s61 :: s62 :: s63 :: s64 :: s65 :: s66 :: s67 :: s68 :: s69 :: s70 :: s71 :: s72 :: s73 :: s74 :: s75 :: s76 :: s77 :: s78 :: s79 :: s80 :: s81 :: s82 :: s83 :: s84 :: s85 :: s86 :: s87 :: s88 :: s89 :: s90 :: s91 :: s92 :: s93 :: s94 :: s95 :: s96 :: s97 :: s98 :: s99 :: s100 :: s101 :: s102 :: s103 :: s104 :: s105 :: s106 :: s107 :: s108 :: s109 :: s110 :: s111 :: s112 :: s113 :: s114 :: s115 :: s116 :: s117 :: s118 :: s119 :: s120 :: s121 :: s122 :: s123 :: s124 :: s125 :: s126 :: s127 :: s128 :: s129 :: s130 :: s131 :: s132 :: s133 :: s134 :: s135 :: s136 :: s137 :: s138 :: s139 :: s140 :: s141 :: s142 :: s143 :: s144 :: s145 :: s146 :: s147 :: s148 :: s149 :: s150 :: s151 :: s152 :: s153 :: s154 :: s155 :: s156 :: s157 :: s158 :: s159 :: s160 :: s161 :: s162 :: s163 :: s164 :: s165 :: s166 :: s167 :: s168 :: s169 :: s170 :: s171 :: s172 :: s173 :: s174 :: s175 :: s176 :: s177 :: s178 :: s179 :: s180 :: s181 :: s182 :: s183 :: s184 :: s185 :: s186 :: s187 :: s188 :: s189 :: s190 :: s191 :: s192 :: s193 :: s194 :: s195 :: s196 :: s197 :: s198 :: s199 :: s200 :: s201 :: s202 :: s203 :: s204 :: s205 :: s206 :: s207 :: s208 :: s209 :: s210 :: s211 :: s212 :: s213 :: s214 :: s215 :: s216 :: s217 :: s218 :: s219 :: s220 :: s221 :: s222 :: s223 :: s224 :: s225 :: s226 :: s227 :: s228 :: s229 :: s230 :: s231 :: s232 :: s233 :: s234 :: s235 :: s236 :: s237 :: s238 :: s239 :: s240 :: s241 :: []), []⟩ w := by
  conv in (blockOf _ _) => whnf
  unfold noQ
  have HK := Lib.hid hK
  clear hK
  unfold ptr0
  obtain ⟨Hc, pv, Hp, bv, Hb, hc, hp, hb, rfl⟩ := hr
  obtain ⟨B, hB⟩ : ∃ B, 16 * (12 * (G.w * G.h) + 4) + 4 = B := ⟨_, rfl⟩
  have hn4 : G.w * G.h ≤ 4096 := Nat.mul_le_mul hg.w2 hg.h2
  have hBl : B ≤ 786500 := by omega
  have hn88 : n ≤ 88 := by rw [hn]; unfold countM; omega
  have hkB : (k + 1) * B ≤ 88 * 786500 := Nat.mul_le_mul (by omega) hBl
  rw [hB] at hfew
  have ZZ := stQ_size (planes := pl) hg.h1 hok B (by omega) hfew
  have z1 : t.bytes.length + (stQ G pl t k).s.size ≤ 69999999 := by omega
  have z2 : t.bytes.length + (stQ0 t k).s.size ≤ 69999999 := by have : k * B ≤ (k + 1) * B := Nat.mul_le_mul (by omega) (Nat.le_refl _); omega
  have SQ0 := Lib.hid (stQ0_ok hok)
  have SQ := Lib.hid (stQ_ok (planes := pl) hg.h1 hok)
  have HG := Lib.hid hg
  have hst := hg.style
  have HO := Lib.hid hok
  have hcx : t.q.s.cx.length = 19 := hok.s.len
  obtain ⟨q0, hq0⟩ : ∃ q0, stQ0 t k = q0 := ⟨_, rfl⟩
  obtain ⟨raw, hraw⟩ : ∃ raw, stRaw G t k = raw := ⟨_, rfl⟩
  have hQ : stQ G pl t k = passM G raw pl k q0 := by unfold stQ; rw [hraw, hq0]
  have HN := Lib.hid hn
  obtain ⟨X, hX⟩ : ∃ X, bB bb pl pv bv :: (Hp ++ (Hb ++ R)) = X := ⟨_, rfl⟩
  have M0 : Mv w0 H0 w (Hc ++ X) := by rw [← hX]; simpa [List.append_assoc] using M
  rw [hq0] at SQ0 z2
  have HX := Lib.hid hX
  have KM := Lib.hid M0
  have KP := Lib.hid (And.intro hp hb)
  have HQ := Lib.hid hQ
  have Z := Lib.hid (And.intro z1 z2)
  clear hX M M0 hp hb ZZ hkB hfew hB hBl hn hg hok hQ z1 z2
  go_upto_if 120 with fail
  go_cut [120] from 121 to 240 (fun _ wx => ∃ eg rg Hc1, CodR A G q0 raw eg rg Hc1 ∧ Mv w0 H0 wx (Hc1 ++ X))
  case first =>
    rcases hc with ⟨hkf, r0, pe, pr, rfl⟩ | ⟨hkf, eg, rg, hcr⟩
    · have d : ((k : Int) == (t.first : Int)) = true := beq_iff_eq.2 (by omega)
      have e1 : q0 = ⟨t.q.c, ⟨t.q.s.cx, encNew, rawNew⟩⟩ := by rw [← hq0]; unfold stQ0; rw [if_pos hkf]
      have e2 : isRawM G.style k = raw := by rw [← hraw]; unfold stRaw; rw [if_pos hkf]
      have RA : Hid (∀ W, Calls Try.prog 37 #[.int .i64 (G.style : Int), .int .i64 (k : Int)] W fun e w' => e = .returned (.bool raw) ∧ w' = W) := Lib.hid (fun W => by rw [← e2]; exact israw_any G.style k W hst (by omega))
      have E1 := Lib.hid e1
      have c48 : w.cell? ⟨A.cb, 48, none⟩ = some (.bool r0) := (codF_at hcx KM.out 1).1
      have f48 : w.frozen? ⟨A.cb, 48, none⟩ = false := (codF_at hcx KM.out 1).2
      have M1 := cod_raw hcx KM.out raw
      obtain ⟨w1, hw1⟩ : ∃ w1, w1 = w.setCell ⟨A.cb, 48, none⟩ (.bool raw) := ⟨_, rfl⟩
      rw [← hw1] at M1
      have HW := Lib.hid hw1
      have K1 := Lib.hid M1
      clear hkf e1 e2 hq0 hraw hw1 M1
      go_upto_region 24 with (go_at_call 37; refine (RA.out _).mono ?_; rintro e w7 ⟨rfl, rfl⟩)
      rw [← HW.out]
      clear HW c48 f48
      go_wp2_with (first
        | (go_at_call 38; refine (new_enc _).mono ?_; rintro e w2 ⟨eg, He, rfl, he, me⟩; have K2 := Lib.hid (And.intro he (Mv.call (H := []) K1.out me)); clear he me)
        | (go_at_call 39; refine (new_raw _).mono ?_; rintro e w3 ⟨rg, Hr, rfl, hr, mr⟩; have K3 := Lib.hid (And.intro hr (Mv.call (H := []) K2.out.2 mr)); (have c49 : w3.cell? ⟨A.cb, 49, none⟩ = some pe := by (first | exact (cod_old hcx K3.out.2 2).1)); (have f49 : w3.frozen? ⟨A.cb, 49, none⟩ = false := by (first | exact (cod_old hcx K3.out.2 2).2)); (have c50 : w3.cell? ⟨A.cb, 50, none⟩ = some pr := by (first | exact (cod_old hcx K3.out.2 3).1)); (have f50 : w3.frozen? ⟨A.cb, 50, none⟩ = false := by (first | exact (cod_old hcx K3.out.2 3).2)); clear hr mr))
      go_meet
      obtain ⟨Hc1, q1, q2⟩ := cod_new hcx K2.out.1 K3.out.1 K3.out.2
      rw [← E1.out] at q1
      exact ⟨eg, rg, Hc1, q1, q2⟩
    · have d : ((k : Int) == (t.first : Int)) = false := beq_eq_false_iff_ne.2 (by omega)
      have e1 : q0 = t.q := by rw [← hq0]; unfold stQ0; rw [if_neg hkf]
      have e2 : raw = t.raw := by rw [← hraw]; unfold stRaw; rw [if_neg hkf]
      rw [← e1, ← e2] at hcr
      have HR := Lib.hid hcr
      clear e1 e2 hcr hkf hq0 hraw
      go_wp2_with fail
      go_meet
      exact ⟨eg, rg, _, HR.out, KM.out⟩
  case rest =>
    obtain ⟨eg, rg, Hc1, hr1, m1⟩ := hcut
    clear hc KM hq0 hcx
    obtain ⟨q, hq⟩ : ∃ q, stQ G pl t k = q := ⟨_, rfl⟩
    rw [hq] at SQ HQ Z
    have MX : ∀ (Hy : List HB) (wy : World), Mv w0 H0 wy (Hy ++ X) → Blk wy bb 38 #[.int .i64 (pl : Int), pv, bv] := by
      intro Hy wy m
      have m2 := m.drop
      rw [← HX.out] at m2
      exact m2.blk 0 rfl
    have HMX := Lib.hid MX
    have c0 : wc.cell? ⟨bb, 0, none⟩ = some (.int .i64 (pl : Int)) := (MX _ _ m1).cell 0
    have CP := Lib.hid (cod_pass A G q0 raw eg rg pl k Hc1 wc HG.out SQ0.out.1 hr1 m1.sat.left SQ0.out.2 (by have := Z.out.2; omega) (by omega) (by rw [← HN.out]; exact hk))
    have K1 := Lib.hid m1
    clear MX m1 hr1
    go_upto_region 26 with (go_at_call 40; refine CP.out.mono ?_; rintro e w2 ⟨rfl, H2, h2, m2⟩; rw [← HQ.out] at h2; have K2 := Lib.hid (And.intro h2 (Mv.call K1.out m2)); clear h2 m2)
    clear c0 CP K1
    obtain ⟨He, Hr, k1, k2, rfl⟩ := K2.out.1.eq
    have m2 := K2.out.2
    rw [List.append_assoc] at m2
    have hcx : q.s.cx.length = 19 := SQ.out.2.len
    have c48 : w2.cell? ⟨A.cb, 48, none⟩ = some (.bool raw) := (codF_at hcx m2 1).1
    have c49 : w2.cell? ⟨A.cb, 49, none⟩ = some (.pointer (some ⟨eg, 0, none⟩)) := (codF_at hcx m2 2).1
    have c50 : w2.cell? ⟨A.cb, 50, none⟩ = some (.pointer (some ⟨rg, 0, none⟩)) := (codF_at hcx m2 3).1
    have szq : q.s.e.b.length ≤ 70000000 ∧ q.s.r.b.length ≤ 70000000 := by have := Z.out.1; unfold WrM.size at this; omega
    have hbn : q.s.e.b ≠ [] := SQ.out.2.e.1.2.2.2.2.2
    have SE : Sat w2 (He ++ (Hr ++ X)) := by have := m2.drop.sat; simpa [List.append_assoc] using this
    have EO := Lib.hid (enc_out eg q.s.e w2 He k1 SE.left hbn (by omega))
    have RO := Lib.hid (raw_out rg q.s.r w2 Hr k2 SE.right.left (by omega))
    have KE := Lib.hid (And.intro k1 k2)
    have KM := Lib.hid m2
    obtain ⟨lb, hlb⟩ : ∃ lb, q.s.e.b.length - 1 = lb := ⟨_, rfl⟩
    have hlb2 : lb ≤ 70000000 := by omega
    have OM : outM raw q.s = if raw then rawOut q.s.r else lb + 5 := by
      unfold outM
      have := List.length_pos_iff.2 hbn
      split
      · rfl
      · omega
    rw [hlb] at EO
    have HOM := Lib.hid OM
    clear k1 k2 m2 SE OM hlb
    go_upto_if 149 with (go_at_call 41; refine EO.out.mono ?_; rintro e w2 ⟨rfl, rfl⟩)
    go_cut [18, 149] from 150 to 240 (fun s18 _ wx => s18 = .int .i64 ((outM raw q.s : Nat) : Int) ∧ ∃ nn, wx = w2.drewN nn)
    case first =>
      have HOM2 := HOM.out
      cases raw
      · simp only [Bool.false_eq_true, if_false] at HOM2
        have HO2 := Lib.hid HOM2
        clear HOM2
        go_wp2_with fail
        go_meet
        exact ⟨by rw [HO2.out]; push_cast; rfl, 0, rfl⟩
      · simp only [if_true] at HOM2
        have HO2 := Lib.hid HOM2
        clear HOM2
        go_wp2_with (go_at_call 42; refine RO.out.mono ?_; rintro e w8 ⟨rfl, nn, rfl⟩)
        go_meet
        exact ⟨by rw [HO2.out], _, rfl⟩
    case rest =>
      obtain ⟨rfl, nn, rfl⟩ := hcut
      have m3 := KM.out.drewN nn
      clear RO EO K2 KM HOM c48 c49 c50 hlb2
      generalize w2.drewN nn = w3 at *
      clear w2
      have K3 := Lib.hid m3
      clear m3
      obtain ⟨om, hom⟩ : ∃ om, outM raw q.s = om := ⟨_, rfl⟩
      rw [hom]
      go_upto_region 29 with fail
      refine wp_piece (enc_p29 _ G n k _ _ _ _ _ _ _ _ _ _ _ _ _ _ _ _ _ _ _ _ _ _ _ _ _ _ _ _ _ _ _ _ _ _ _ _ _ _ _ _ _ _ _ _ _ _ _ _ _ _ _ _ _ _ _ _ _ _ _ _ _ _ _ _ _ _ _ _ _ _ _ _ _ _ _ _ _ _ _ _ _ _ _ _ _ _ _ _ _ _ _ _ _ _ _ _ _ _ _ _ _ _ _ _ _ _ _ _ _ _ _ _ _ _ _ _ _ _ _ _ _ _ _ _ _ _ _ _ _ _ _ _ _ _ _ _ _ _ _ _ _ _ _ _ _ _ _ _ _ _ _ _ _ _ _ _ _ _ _ _ _ _ _ _ _ _ _ _ _ _ _ _ _ _ _ _ _ _ _ _ _ _ _ _ _ _ _ _ _ _ _ _ _ _ _ _ _ _ _ _ _ _ _ _ _ _ _ _ _ _ _ _ _ _ _ _ _ _ _ _ _ _ _ _ _ _ _ _ _ _ _ _ _ _ _ _ _ _ _ _ hst hk (by omega) ?_)
      rintro _ _ _ _ _ _ _ _ _
      obtain ⟨en, hen⟩ : ∃ en, stEnd G n k = en := ⟨_, rfl⟩
      rw [hen]
      have PS : Hid (stPs G pl n t k = t.passes ++ [((om : Int), en)]) := Lib.hid (by unfold stPs; rw [hraw, hq, hom, hen])
      obtain ⟨pva, pvc, rfl⟩ := KP.out.1.slice
      have hpl2 : t.passes.length = k := HO.out.len
      rw [hpl2] at KP HX
      obtain ⟨Y, hY⟩ : ∃ Y, CodF A G q.c q.s.cx (tailP true raw (ptr0 eg) (ptr0 rg)) ++ (He ++ Hr) = Y := ⟨_, rfl⟩
      have HY := Lib.hid hY
      have m4 : Mv w0 H0 w3 (Y ++ (bB bb pl (.slice pva k pvc) bv :: (Hp ++ (Hb ++ R)))) := by
        have := K3.out
        rw [← HX.out, ← List.append_assoc, hY] at this
        exact this
      have c1 : w3.cell? ⟨bb, 1, none⟩ = some (.slice pva k pvc) := (bk_at m4).1
      have f1 : w3.frozen? ⟨bb, 1, none⟩ = false := (bk_at m4).2.2.1
      have QA := Lib.hid (qv_one w3 ((om : Int), en) w3.heap.size rfl)
      have KA : Hid (Mv w0 H0 (w3.alloc (.cells #[.int .i64 (om : Int), .bool en] 104)) (Hp ++ (bB bb pl (.slice pva k pvc) bv :: (Hb ++ (Y ++ R))))) := Lib.hid (((m4.alloc 104 #[.int .i64 (om : Int), .bool en]).drop1).sub (fun g => by simp only [cnt_append, cnt_cons]; omega) (fun b hb => by simp only [List.mem_append, List.mem_cons] at hb ⊢; grind))
      obtain ⟨ps, hps⟩ : ∃ ps, t.passes ++ [((om : Int), en)] = ps := ⟨_, rfl⟩
      have hpsl : ps.length = k + 1 := by rw [← hps, List.length_append, hpl2]; rfl
      rw [hps] at PS
      have HPS := Lib.hid hps
      have HPL := Lib.hid hpl2
      have hbd : t.passes.length + [((om : Int), en)].length ≤ 100000000 := by rw [hpl2]; simp only [List.length_cons, List.length_nil]; omega
      clear m4 hps hpl2 HMX
      go_upto_region 31 with (at_builtin; go_must (refine wpList_appQ rfl (.tmp 165) (.tmp 169) rfl _ _ t.passes [((om : Int), en)] Hp rfl rfl KP.out.1 KA.out.sat.left QA.out hbd ?_; intro v4 w4 H4 hr4 m4; rw [HPS.out] at hr4; obtain ⟨a4, c4, rfl⟩ := hr4.slice; have K4 := Lib.hid (And.intro hr4 (Mv.call KA.out m4)); (have x1 : w4.cell? ⟨bb, 1, none⟩ = some (.slice pva k pvc) := by (first | exact (bk_at K4.out.2).1)); (have y1 : w4.frozen? ⟨bb, 1, none⟩ = false := by (first | exact (bk_at K4.out.2).2.2.1)); clear hr4 m4))
      have KR : Hid (RowQ (.slice a4 (k + 1) c4) ps H4 ∧ Mv w0 H0 (w4.setCell ⟨bb, 1, none⟩ (.slice a4 (k + 1) c4)) (H4 ++ (bB bb pl (.slice a4 (k + 1) c4) bv :: (Hb ++ (Y ++ R))))) := Lib.hid ⟨by have := K4.out.1; rw [hpsl] at this; exact this, bk_pv K4.out.2 _⟩
      clear K4 c1 f1 x1 y1 QA KA hbd K3
      generalize w4.setCell ⟨bb, 1, none⟩ (.slice a4 (k + 1) c4) = w5 at *
      cases en
      · have ES : encStep G pl n t k = ⟨q, raw, ps, t.bytes, t.first⟩ := by
          unfold encStep
          rw [hen, if_neg (by simp), hq, hraw, PS.out]
        rw [ES] at HK
        have hfk : t.first ≤ k := HO.out.first
        have FIN : Hid (BkR A bb G pl ⟨q, raw, ps, t.bytes, t.first⟩ (k + 1) (Y ++ (bB bb pl (.slice a4 (k + 1) c4) bv :: (H4 ++ Hb))) ∧ Mv w0 H0 w5 ((Y ++ (bB bb pl (.slice a4 (k + 1) c4) bv :: (H4 ++ Hb))) ++ R)) := Lib.hid ⟨⟨Y, _, H4, bv, Hb, .inr ⟨by simp only; omega, eg, rg, by rw [← HY.out]; exact CodR.of KE.out.1 KE.out.2⟩, KR.out.1, KP.out.2, rfl⟩,
          KR.out.2.sub (fun g => by simp only [cnt_append, cnt_cons]; omega) (fun b hb => by simp only [List.mem_append, List.mem_cons] at hb ⊢; grind)⟩
        clear ES hY
        go_wp2_with fail
        exact HK.out _ _ _ _ _ _ _ _ _ _ _ _ _ _ _ _ _ _ _ _ _ _ _ _ _ _ _ _ _ _ _ _ _ _ _ _ _ _ _ _ _ _ _ _ _ _ _ _ _ _ _ _ _ _ _ _ _ _ _ _ _ _ _ _ _ _ _ _ _ _ _ _ _ _ _ _ _ _ _ _ _ _ _ _ _ _ _ _ _ _ _ _ _ _ _ _ _ _ _ _ _ _ _ _ _ _ _ _ _ _ _ _ _ _ _ _ _ _ _ _ _ _ _ _ _ _ _ _ _ _ _ FIN.out.1 FIN.out.2
      · obtain ⟨x, hx⟩ : ∃ x, segM raw q.s = x := ⟨_, rfl⟩
        have ES : encStep G pl n t k = ⟨⟨q.c, ⟨q.s.cx, flushE q.s.e, q.s.r⟩⟩, raw, ps.take t.first ++ closeM t.bytes.length x (ps.drop t.first), t.bytes ++ x, k + 1⟩ := by
          unfold encStep
          rw [hen, if_pos rfl, hq, hraw, PS.out, hx]
        rw [ES] at HK
        have HXX := Lib.hid hx
        have HES := Lib.hid ES
        have hxl : x.length ≤ 70000003 := by
          have h1 := segM_len (raw := raw) SQ.out.2
          have h2 := Z.out.1
          rw [hx] at h1
          omega
        have hat : t.bytes.length ≤ 70000000 := by have := Z.out.1; omega
        have hsum : t.bytes.length + x.length ≤ 100000000 := by
          have h1 := segM_len (raw := raw) SQ.out.2
          have h2 := Z.out.1
          rw [hx] at h1
          omega
        obtain ⟨-, pg, rfl⟩ := KR.out.1.form (Nat.succ_pos k)
        have PT : Hid (∀ p ∈ ps, 0 ≤ p.1 ∧ p.1 ≤ 90000000) := Lib.hid (by
          have h1 := stPs_top (planes := pl) (n := n) (B := 90000000) HG.out.h1 HO.out (by omega) (by rw [hq]; have := outM_le (stRaw G t k) q.s; have := Z.out.1; omega)
          rw [PS.out] at h1
          exact h1)
        have hfk : t.first ≤ k := HO.out.first
        have m6 : Mv w0 H0 w5 (He ++ (Hr ++ (CodF A G q.c q.s.cx (tailP true raw (ptr0 eg) (ptr0 rg)) ++ (H4 ++ (bB bb pl (.slice (some ⟨pg, 0, none⟩) (k + 1) c4) bv :: (Hb ++ R)))))) := KR.out.2.sub (fun g => by rw [← HY.out]; simp only [cnt_append, cnt_cons]; omega) (fun b hb => by rw [← HY.out]; simp only [List.mem_append, List.mem_cons] at hb ⊢; grind)
        have c48 : w5.cell? ⟨A.cb, 48, none⟩ = some (.bool raw) := (codF_at hcx m6.drop.drop 1).1
        have c49 : w5.cell? ⟨A.cb, 49, none⟩ = some (.pointer (some ⟨eg, 0, none⟩)) := (codF_at hcx m6.drop.drop 2).1
        have EF := Lib.hid (enc_flush eg q.s.e w5 He KE.out.1 m6.sat.left SQ.out.2.e (by omega))
        have K6 := Lib.hid m6
        clear ES hY hx m6
        go_upto_if 182 with (go_at_call 44; refine EF.out.mono ?_; rintro e w6 ⟨v6, Hn6, He6, rfl, b6, q6, m6⟩; have K7 := Lib.hid (And.intro b6 (Mv.call K6.out m6)); (have y48 : w6.cell? ⟨A.cb, 48, none⟩ = some (.bool raw) := by (first | exact (codF_at hcx K7.out.2.drop.drop 1).1)); (have y50 : w6.cell? ⟨A.cb, 50, none⟩ = some (.pointer (some ⟨rg, 0, none⟩)) := by (first | exact (codF_at hcx K7.out.2.drop.drop 3).1)); clear b6 q6 m6)
        clear c48 c49 EF K6
        have M7 : Hid (Mv w0 H0 w6 (Hr ++ (CodF A G q.c q.s.cx (tailP true raw (ptr0 eg) (ptr0 rg)) ++ (Hn6 ++ (H4 ++ (bB bb pl (.slice (some ⟨pg, 0, none⟩) (k + 1) c4) bv :: (Hb ++ R))))))) := Lib.hid (K7.out.2.sub (fun g => by simp only [cnt_append, cnt_cons]; omega) (fun b hb => by simp only [List.mem_append, List.mem_cons] at hb ⊢; grind))
        have B6 := Lib.hid K7.out.1
        clear K7
        go_cut [20, 182] from 183 to 240 (fun s20 _ wx => ∃ Hx, RowB s20 x Hx ∧ Mv w0 H0 wx (Hx ++ (CodF A G q.c q.s.cx (tailP true raw (ptr0 eg) (ptr0 rg)) ++ (H4 ++ (bB bb pl (.slice (some ⟨pg, 0, none⟩) (k + 1) c4) bv :: (Hb ++ R))))))
        case first =>
          cases raw
          · have ex : Hid (flushB q.s.e = x) := Lib.hid HXX.out
            clear y50
            go_wp2_with fail
            go_meet
            exact ⟨Hn6, by rw [← ex.out]; exact B6.out, M7.out.sub (fun g => by simp only [cnt_append, cnt_cons]; omega) (fun b hb => by simp only [List.mem_append, List.mem_cons] at hb ⊢; grind)⟩
          · have ex : Hid (rawFlush q.s.r = x) := Lib.hid HXX.out
            have RF := Lib.hid (raw_flush rg q.s.r w6 Hr KE.out.2 M7.out.sat.left (by omega) SQ.out.2.r.cur)
            go_wp2_with (go_at_call 45; refine RF.out.mono ?_; rintro e w8 ⟨v8, Hn8, rfl, b8, m8⟩; have K8 := Lib.hid (And.intro b8 (Mv.call M7.out m8)); clear b8 m8)
            go_meet
            exact ⟨Hn8, by rw [← ex.out]; exact K8.out.1, K8.out.2.sub (fun g => by simp only [cnt_append, cnt_cons]; omega) (fun b hb => by simp only [List.mem_append, List.mem_cons] at hb ⊢; grind)⟩
        case rest =>
          obtain ⟨Hx, hx, m8⟩ := hcut
          obtain ⟨xa, xc, rfl⟩ := hx.slice
          obtain ⟨ba, bc, rfl⟩ := KP.out.2.slice
          obtain ⟨lx, hlx⟩ : ∃ lx, x.length = lx := ⟨_, rfl⟩
          obtain ⟨at_, hat_⟩ : ∃ at_, t.bytes.length = at_ := ⟨_, rfl⟩
          clear y48 y50 M7 B6
          have KB : Hid (RowB (.slice ba at_ bc) t.bytes Hb) := Lib.hid (by rw [← hat_]; exact KP.out.2)
          rw [hat_] at m8
          rw [hlx] at hx ⊢
          have m9 : Mv w0 H0 wc (Hb ++ (bB bb pl (.slice (some ⟨pg, 0, none⟩) (k + 1) c4) (.slice ba at_ bc) :: (H4 ++ (Hx ++ (CodF A G q.c q.s.cx (tailP true raw (ptr0 eg) (ptr0 rg)) ++ R))))) := m8.sub (fun g => by simp only [cnt_append, cnt_cons]; omega) (fun b hb => by simp only [List.mem_append, List.mem_cons] at hb ⊢; grind)
          have c2 : wc.cell? ⟨bb, 2, none⟩ = some (.slice ba at_ bc) := (bk_at m9).2.1
          have f2 : wc.frozen? ⟨bb, 2, none⟩ = false := (bk_at m9).2.2.2
          have BX := Lib.hid (hx.bv m8.sat.left)
          have K9 := Lib.hid (And.intro hx m9)
          obtain ⟨by8, hby⟩ : ∃ l, t.bytes ++ x = l := ⟨_, rfl⟩
          rw [hby] at HK
          have HBL := Lib.hid (show by8.length = at_ + x.length by rw [← hby, List.length_append, hat_])
          have hb8 : by8.length ≤ 100000000 := by rw [← hby, List.length_append]; exact hsum
          have HBY := Lib.hid hby
          have HSUM := Lib.hid hsum
          rw [hat_] at hat HK
          have hat2 : at_ ≤ 80000000 := by omega
          have hxl2 : x.length ≤ 80000000 := by omega
          have HXL := Lib.hid hxl2
          clear hx m8 m9 hby hlx hat_ hxl hxl2 hsum
          go_upto_region 37 with (at_builtin; go_must (refine wpList_appB rfl (.tmp 192) (.tmp 193) rfl _ _ t.bytes x Hb rfl rfl KB.out K9.out.2.sat.left BX.out HSUM.out ?_; intro v8 w8 H8 hr8 m8; rw [HBY.out] at hr8; obtain ⟨a8, c8, rfl⟩ := hr8.slice; have K8 := Lib.hid (And.intro hr8 (Mv.call K9.out.2 m8)); (have x2 : w8.cell? ⟨bb, 2, none⟩ = some (.slice ba at_ bc) := by (first | exact (bk_at K8.out.2).2.1)); (have y2 : w8.frozen? ⟨bb, 2, none⟩ = false := by (first | exact (bk_at K8.out.2).2.2.2)); clear hr8 m8))
          have M10 : Hid (Mv w0 H0 (w8.setCell ⟨bb, 2, none⟩ (.slice a8 by8.length c8)) (bB bb pl (.slice (some ⟨pg, 0, none⟩) (k + 1) c4) (.slice a8 by8.length c8) :: (H4 ++ (Hx ++ (H8 ++ (CodF A G q.c q.s.cx (tailP true raw (ptr0 eg) (ptr0 rg)) ++ R)))))) := Lib.hid ((bk_bv K8.out.2 _).sub (fun g => by simp only [cnt_append, cnt_cons]; omega) (fun b hb => by simp only [List.mem_append, List.mem_cons] at hb ⊢; grind))
          have B8 := Lib.hid K8.out.1
          clear x2 y2 c2 f2 BX K8
          generalize w8.setCell ⟨bb, 2, none⟩ (.slice a8 by8.length c8) = w9 at *
          go_upto_block 6 with fail
          refine wp_piece (enc_p6 _ bb pl pg (k + 1) c4 k t.first at_ x ps (.slice a8 by8.length c8) (.slice xa lx xc) H4 Hx (H8 ++ (CodF A G q.c q.s.cx (tailP true raw (ptr0 eg) (ptr0 rg)) ++ R)) H0 w0 w9 _ _ _ _ _ _ _ _ _ _ _ _ _ _ _ _ _ _ _ _ _ _ _ _ _ _ _ _ _ _ _ _ _ _ _ _ _ _ _ _ _ _ _ _ _ _ _ _ _ _ _ _ _ _ _ _ _ _ _ _ _ _ _ _ _ _ _ _ _ _ _ _ _ _ _ _ _ _ _ _ _ _ _ _ _ _ _ _ _ _ _ _ _ _ _ _ _ _ _ _ _ _ _ _ _ _ _ _ _ _ _ _ _ _ _ _ _ _ _ _ _ _ _ _ _ _ _ _ _ _ _ _ _ _ _ _ _ _ _ _ _ _ _ _ _ _ _ _ _ _ _ _ _ _ _ _ _ _ _ _ _ _ _ _ _ _ _ _ _ _ _ _ _ _ _ _ _ _ _ _ _ _ _ _ _ _ _ _ _ _ _ _ _ _ _ _ _ _ _ _ _ _ _ _ _ _ _ _ _ _ _ _ _ _ _ _ _ _ _ _ _ _ _ _ _ _ _ _ _ _ _ _ _ _ _ _ _ hpsl hfk (by omega) HXL.out hat2 PT.out KR.out.1 K9.out.1 M10.out ?_)
          rintro t22 t23 _ _ _ _ _ _ _ _ _ _ _ _ _ _ _ _ _ _ _ _ _ _ _ _ _ _ _ _ _ _ _ _ _ _ cur Hc6 w10 hclo hrow m10
          obtain ⟨p6, hp6⟩ : ∃ p6, cur[k]? = some p6 := ⟨_, List.getElem?_eq_getElem (by have := hclo.len; omega)⟩
          obtain ⟨Hc9, r1, r2⟩ := seg_set m10 hrow hp6 (by8.length : Int)
          have EC : Hid (cur.set k ((by8.length : Int), p6.2) = ps.take t.first ++ closeM at_ x (ps.drop t.first)) := Lib.hid (by
            rw [HBL.out]
            exact hclo.all hpsl hfk hp6)
          have c1 : w10.cell? ⟨bb, 1, none⟩ = some (.slice (some ⟨pg, 0, none⟩) (k + 1) c4) := (bk_at (A := []) m10).1
          have c2 : w10.cell? ⟨bb, 2, none⟩ = some (.slice a8 by8.length c8) := (bk_at (A := []) m10).2.1
          obtain ⟨c3, f3⟩ := hrow.at_ m10.drop1.sat.left hp6
          have hkk : (k : Int) < ((k + 1 : Nat) : Int) := by omega
          have FIN : Hid (BkR A bb G pl ⟨⟨q.c, ⟨q.s.cx, flushE q.s.e, q.s.r⟩⟩, raw, ps.take t.first ++ closeM at_ x (ps.drop t.first), by8, k + 1⟩ (k + 1) (CodF A G q.c q.s.cx (tailP true raw (ptr0 eg) (ptr0 rg)) ++ (bB bb pl (.slice (some ⟨pg, 0, none⟩) (k + 1) c4) (.slice a8 by8.length c8) :: (Hc9 ++ H8))) ∧ Mv w0 H0 (w10.setCell ⟨pg, k * 2, none⟩ (.int .i64 (by8.length : Int))) ((CodF A G q.c q.s.cx (tailP true raw (ptr0 eg) (ptr0 rg)) ++ (bB bb pl (.slice (some ⟨pg, 0, none⟩) (k + 1) c4) (.slice a8 by8.length c8) :: (Hc9 ++ H8))) ++ R)) := Lib.hid ⟨⟨_, _, Hc9, _, H8, .inl ⟨rfl, raw, ptr0 eg, ptr0 rg, rfl⟩, by rw [← EC.out]; exact r1, B8.out, rfl⟩,
            r2.sub (fun g => by simp only [cnt_append, cnt_cons]; omega) (fun b hb => by simp only [List.mem_append, List.mem_cons] at hb ⊢; grind)⟩
          clear hclo hrow m10 hp6 r1 r2
          unfold ptr0
          go_wp2_with fail
          exact HK.out _ _ _ _ _ _ _ _ _ _ _ _ _ _ _ _ _ _ _ _ _ _ _ _ _ _ _ _ _ _ _ _ _ _ _ _ _ _ _ _ _ _ _ _ _ _ _ _ _ _ _ _ _ _ _ _ _ _ _ _ _ _ _ _ _ _ _ _ _ _ _ _ _ _ _ _ _ _ _ _ _ _ _ _ _ _ _ _ _ _ _ _ _ _ _ _ _ _ _ _ _ _ _ _ _ _ _ _ _ _ _ _ _ _ _ _ _ _ _ _ _ _ _ _ _ _ _ _ _ _ _ FIN.out.1 FIN.out.2
end Go.Proofs.Ytnpoakabheeoeaa
