/- waveletref8.Encode: a segment's ends are laid. waveletref8.Encode: a block on its way, in memory; does a pass end its segment? -/
import Derived.Test.YtnpoakabheeoeaaRae
import Derived.Test.YtnpoakabheeoeaaRaa
namespace Go.Proofs.Ytnpoakabheeoeaa
open Go.RowKit

theorem adjM_zero {x : List UInt8} {e : Nat} (h : min e x.length = 0) : adjM x e = 0 := by
  unfold adjM
  rw [if_neg (by omega), h]
theorem adjM_yes {x : List UInt8} {e n : Nat} (h : min e x.length = n) (h0 : 0 < n) (h1 : x[n - 1]? = some 255) : adjM x e = n - 1 := by
  unfold adjM
  rw [h, if_pos ⟨h0, h1⟩]
theorem adjM_no {x : List UInt8} {e n : Nat} (h : min e x.length = n) (h1 : ¬ x[n - 1]? = some 255) : adjM x e = n := by
  unfold adjM
  rw [h, if_neg (fun hh => h1 hh.2)]
theorem RowB.at_ {w : World} {g n c : Nat} {l : List UInt8} {H : List HB} (h : RowB (.slice (some ⟨g, 0, none⟩) n c) l H) (hs : Sat w H) {i : Nat} {b : UInt8} (hi : l[i]? = some b) : w.cell? ⟨g, i, none⟩ = some (.int .u8 (b.toNat : Int)) := by
  have hn := h.len
  subst hn
  have h1 := (List.getElem?_eq_some_iff.1 hi).1
  rw [(RowH.cell h hs rfl i (by omega)).1]
  simp [cellsB, hi]
theorem seg_set {w0 w : World} {H0 Hc R : List HB} {b0 : HB} {g n c j : Nat} {cur : List (Int × Bool)} {p : Int × Bool} (hm : Mv w0 H0 w (b0 :: (Hc ++ R))) (hr : RowQ (.slice (some ⟨g, 0, none⟩) n c) cur Hc) (hcj : cur[j]? = some p) (e : Int) :
    ∃ Hc', RowQ (.slice (some ⟨g, 0, none⟩) n c) (cur.set j (e, p.2)) Hc' ∧ Mv w0 H0 (w.setCell ⟨g, j * 2, none⟩ (.int .i64 e)) (b0 :: (Hc' ++ R)) := by
  have h1 : Mv w0 H0 w (Hc ++ ([b0] ++ R)) := Mv.mv1 (A := [b0]) hm
  obtain ⟨Hc', k1, k2⟩ := hr.set_ h1.sat.left hcj e
  exact ⟨Hc', k1, Mv.mv1 (B := [b0]) (Mv.call h1 k2)⟩
set_option maxRecDepth 100000 in
set_option maxHeartbeats 8000000 in
theorem enc_p6 (K : Act → World → Prop) (bb pl pg pn pc k first : Nat) (at_ : Nat) (x : List UInt8) (ps : List (Int × Bool)) (bv xv : Value) (Hp Hx R H0 : List HB) (w0 w : World) (s0 s1 s2 s3 s4 s5 s6 s7 s8 s9 s10 s11 s12 s14 s15 s16 s18 s19 s23 s24 s25 s26 s27 s28 s29 s30 s31 s32 s33 s34 s35 s36 s37 s38 s39 s40 s41 s42 s43 s44 s45 s46 s47 s48 s49 s50 s51 s52 s53 s54 s55 s56 s57 s58 s59 s60 s61 s62 s63 s64 s65 s66 s67 s68 s69 s70 s71 s72 s73 s74 s75 s76 s77 s78 s79 s80 s81 s82 s83 s84 s85 s86 s87 s88 s89 s90 s91 s92 s93 s94 s95 s96 s97 s98 s99 s100 s101 s102 s103 s104 s105 s106 s107 s108 s109 s110 s111 s112 s113 s114 s115 s116 s117 s118 s119 s120 s121 s122 s123 s124 s125 s126 s127 s128 s129 s130 s131 s132 s133 s134 s135 s136 s137 s138 s139 s140 s141 s142 s143 s144 s145 s146 s147 s148 s149 s150 s151 s152 s153 s154 s155 s156 s157 s158 s159 s160 s161 s162 s163 s164 s165 s166 s167 s168 s169 s170 s171 s172 s173 s174 s175 s176 s177 s178 s179 s180 s181 s182 s183 s184 s185 s186 s187 s188 s189 s190 s191 s192 s193 s194 s195 s196 s197 s198 s199 s200 s201 s202 s203 s204 s205 s206 s207 s208 s209 s210 s211 s212 s213 s214 s215 s216 s217 s218 s219 s220 s221 s222 s223 s224 s225 s226 s227 s228 s229 s230 s231 s232 s233 s234 s235 s236 s237 s238 s239 s240 s241 : Value)
    (hl : ps.length = k + 1) (hf : first ≤ k) (hkl : k ≤ 1000) (hxl : x.length ≤ 80000000) (hat : at_ ≤ 80000000) (hpos : ∀ p ∈ ps, 0 ≤ p.1 ∧ p.1 ≤ 90000000)
    (hp : RowQ (.slice (some ⟨pg, 0, none⟩) pn pc) ps Hp) (hx : RowB xv x Hx) (M : Mv w0 H0 w (bB bb pl (.slice (some ⟨pg, 0, none⟩) pn pc) bv :: (Hp ++ (Hx ++ R))))
    (hk : ∀ (t22 t23 t197 t198 t199 t200 t201 t202 t203 t204 t205 t206 t207 t208 t209 t210 t211 t212 t213 t214 t215 t216 t217 t218 t219 t220 t221 t222 t223 t224 t225 t226 t227 t228 t229 t230 : Value) (cur : List (Int × Bool)) (Hc : List HB) (wx : World), Clo at_ x ps first (k + 1) cur → RowQ (.slice (some ⟨pg, 0, none⟩) pn pc) cur Hc → Mv w0 H0 wx (bB bb pl (.slice (some ⟨pg, 0, none⟩) pn pc) bv :: (Hc ++ (Hx ++ R))) →
      K ⟨List.toArray (s0 :: s1 :: s2 :: s3 :: s4 :: s5 :: s6 :: s7 :: s8 :: s9 :: s10 :: s11 :: s12 :: (ptr0 bb) :: s14 :: s15 :: s16 :: (.int .i64 (k : Int)) :: s18 :: s19 :: xv :: (.int .i64 (at_ : Int)) :: t22 :: t23 :: s24 :: s25 :: s26 :: s27 :: s28 :: s29 :: s30 :: s31 :: s32 :: s33 :: s34 :: s35 :: s36 :: s37 :: s38 :: s39 :: s40 :: s41 :: s42 :: s43 :: s44 :: s45 :: s46 :: s47 :: s48 :: s49 :: s50 :: s51 :: s52 :: s53 :: s54 :: s55 :: s56 :: s57 :: s58 :: s59 :: s60 :: s61 :: s62 :: s63 :: s64 :: s65 :: s66 :: s67 :: s68 :: s69 :: s70 :: s71 :: s72 :: s73 :: s74 :: s75 :: s76 :: s77 :: s78 :: s79 :: s80 :: s81 :: s82 :: s83 :: s84 :: s85 :: s86 :: s87 :: s88 :: s89 :: s90 :: s91 :: s92 :: s93 :: s94 :: s95 :: s96 :: s97 :: s98 :: s99 :: s100 :: s101 :: s102 :: s103 :: s104 :: s105 :: s106 :: s107 :: s108 :: s109 :: s110 :: s111 :: s112 :: s113 :: s114 :: s115 :: s116 :: s117 :: s118 :: s119 :: s120 :: s121 :: s122 :: s123 :: s124 :: s125 :: s126 :: s127 :: s128 :: s129 :: s130 :: s131 :: s132 :: s133 :: s134 :: s135 :: s136 :: s137 :: s138 :: s139 :: s140 :: s141 :: s142 :: s143 :: s144 :: s145 :: s146 :: s147 :: s148 :: s149 :: s150 :: s151 :: s152 :: s153 :: s154 :: s155 :: s156 :: s157 :: s158 :: s159 :: s160 :: s161 :: s162 :: s163 :: s164 :: s165 :: s166 :: s167 :: s168 :: s169 :: s170 :: s171 :: s172 :: s173 :: s174 :: s175 :: s176 :: s177 :: s178 :: s179 :: s180 :: s181 :: s182 :: s183 :: s184 :: s185 :: s186 :: s187 :: s188 :: s189 :: s190 :: s191 :: s192 :: s193 :: s194 :: s195 :: s196 :: t197 :: t198 :: t199 :: t200 :: t201 :: t202 :: t203 :: t204 :: t205 :: t206 :: t207 :: t208 :: t209 :: t210 :: t211 :: t212 :: t213 :: t214 :: t215 :: t216 :: t217 :: t218 :: t219 :: t220 :: t221 :: t222 :: t223 :: t224 :: t225 :: t226 :: t227 :: t228 :: t229 :: t230 :: s231 :: s232 :: s233 :: s234 :: s235 :: s236 :: s237 :: s238 :: s239 :: s240 :: s241 :: []), []⟩ wx) :
    (blockOf 6 Try.f13).wp Try.prog (Exit.then K noQ) ⟨List.toArray (s0 :: s1 :: s2 :: s3 :: s4 :: s5 :: s6 :: s7 :: s8 :: s9 :: s10 :: s11 :: s12 :: (ptr0 bb) :: s14 :: s15 :: s16 :: (.int .i64 (k : Int)) :: s18 :: s19 :: xv :: (.int .i64 (at_ : Int)) :: (.int .i64 (first : Int)) :: s23 :: s24 :: s25 :: s26 :: s27 :: s28 :: s29 :: s30 :: s31 :: s32 :: s33 :: s34 :: s35 :: s36 :: s37 :: s38 :: s39 :: s40 :: s41 :: s42 :: s43 :: s44 :: s45 :: s46 :: s47 :: s48 :: s49 :: s50 :: s51 :: s52 :: s53 :: s54 :: s55 :: s56 :: s57 :: s58 :: s59 :: s60 :: s61 :: s62 :: s63 :: s64 :: s65 :: s66 :: s67 :: s68 :: s69 :: s70 :: s71 :: s72 :: s73 :: s74 :: s75 :: s76 :: s77 :: s78 :: s79 :: s80 :: s81 :: s82 :: s83 :: s84 :: s85 :: s86 :: s87 :: s88 :: s89 :: s90 :: s91 :: s92 :: s93 :: s94 :: s95 :: s96 :: s97 :: s98 :: s99 :: s100 :: s101 :: s102 :: s103 :: s104 :: s105 :: s106 :: s107 :: s108 :: s109 :: s110 :: s111 :: s112 :: s113 :: s114 :: s115 :: s116 :: s117 :: s118 :: s119 :: s120 :: s121 :: s122 :: s123 :: s124 :: s125 :: s126 :: s127 :: s128 :: s129 :: s130 :: s131 :: s132 :: s133 :: s134 :: s135 :: s136 :: s137 :: s138 :: s139 :: s140 :: s141 :: s142 :: s143 :: s144 :: s145 :: s146 :: s147 :: s148 :: s149 :: s150 :: s151 :: s152 :: s153 :: s154 :: s155 :: s156 :: s157 :: s158 :: s159 :: s160 :: s161 :: s162 :: s163 :: s164 :: s165 :: s166 :: s167 :: s168 :: s169 :: s170 :: s171 :: s172 :: s173 :: s174 :: s175 :: s176 :: s177 :: s178 :: s179 :: s180 :: s181 :: s182 :: s183 :: s184 :: s185 :: s186 :: s187 :: s188 :: s189 :: s190 :: s191 :: s192 :: s193 :: s194 :: s195 :: s196 :: s197 :: s198 :: s199 :: s200 :: s201 :: s202 :: s203 :: s204 :: s205 :: s206 :: s207 :: s208 :: s209 :: s210 :: s211 :: s212 :: s213 :: s214 :: s215 :: s216 :: s217 :: s218 :: s219 :: s220 :: s221 :: s222 :: s223 :: s224 :: s225 :: s226 :: s227 :: s228 :: s229 :: s230 :: s231 :: s232 :: s233 :: s234 :: s235 :: s236 :: s237 :: s238 :: s239 :: s240 :: s241 :: []), []⟩ w := by
  conv in (blockOf _ _) => whnf
  unfold noQ
  have HK := Lib.hid hk
  clear hk
  unfold ptr0
  obtain ⟨xa, xc, rfl⟩ := hx.slice
  obtain ⟨L, hL⟩ : ∃ L, x.length = L := ⟨_, rfl⟩
  rw [hL] at hx hxl HK ⊢
  have hpn : pn = k + 1 := by
    obtain ⟨a, c, e⟩ := hp.slice
    cases e
    exact hl
  have KL := Lib.hid (And.intro hL (And.intro hl (And.intro hpos hpn)))
  have KX := Lib.hid hx
  have K0 := Lib.hid (And.intro hp M)
  have hpk : (k : Int) < (pn : Int) := by omega
  clear hL hl hpos hx hp M hpn
  go_wp2_with fail
  go_loopg [22] (k + 1 - first) (fun mm s22 wx => ∃ (j : Nat) (cur : List (Int × Bool)) (Hc : List HB), first ≤ j ∧ j ≤ k + 1 ∧ mm = k + 1 - j ∧ s22 = .int .i64 (j : Int) ∧ Clo at_ x ps first j cur ∧ RowQ (.slice (some ⟨pg, 0, none⟩) pn pc) cur Hc ∧ Mv w0 H0 wx (bB bb pl (.slice (some ⟨pg, 0, none⟩) pn pc) bv :: (Hc ++ (Hx ++ R))))
  case atStart => exact ⟨first, ps, Hp, Nat.le_refl _, by omega, rfl, rfl, Clo.start _ _ _ _, K0.out.1, K0.out.2⟩
  case round =>
    obtain ⟨j, cur, Hc, j1, j2, rfl, rfl, hc, hr, hm⟩ := hrel
    by_cases hlt : j ≤ k
    · have d1 : decide ((j : Int) ≤ (k : Int)) = true := by simp; omega
      obtain ⟨p, hp⟩ : ∃ p, ps[j]? = some p := ⟨_, List.getElem?_eq_getElem (by have := KL.out.2.1; omega)⟩
      have hcj := hc.get hp
      obtain ⟨e, he⟩ : ∃ e : Nat, p.1 = (e : Int) := ⟨p.1.toNat, by have := KL.out.2.2.1 p (List.mem_of_getElem? hp); omega⟩
      have hel : e ≤ 90000000 := by have := KL.out.2.2.1 p (List.mem_of_getElem? hp); omega
      have S1 := hm.drop1.sat.left
      obtain ⟨c0, f0⟩ := hr.at_ S1 hcj
      rw [he] at c0
      have cp : wr.cell? ⟨bb, 1, none⟩ = some (.slice (some ⟨pg, 0, none⟩) pn pc) := hm.cell 0 rfl 1
      have hjp : (j : Int) < (pn : Int) := by omega
      obtain ⟨n, hn⟩ : ∃ n, min e L = n := ⟨_, rfl⟩
      have hnl : n ≤ 90000000 := by omega
      have EM : Hid ((if L < e then (L : Int) else (e : Int)) = (n : Int)) := Lib.hid (by split <;> omega)
      have KM := Lib.hid (And.intro hm (And.intro hr (And.intro hc (And.intro hp (And.intro hcj (And.intro he hn))))))
      clear hm hr hc hp hcj he hn S1
      go_upto_region 41 with fail
      rw [EM.out]
      have KEY : Hid (∀ nn : Nat, adjM x e = nn → ∃ Hc', Clo at_ x ps first (j + 1) (cur.set j (((at_ + nn : Nat) : Int), p.2)) ∧ RowQ (.slice (some ⟨pg, 0, none⟩) pn pc) (cur.set j (((at_ + nn : Nat) : Int), p.2)) Hc' ∧ Mv w0 H0 (wr.setCell ⟨pg, j * 2, none⟩ (.int .i64 ((at_ + nn : Nat) : Int))) (bB bb pl (.slice (some ⟨pg, 0, none⟩) pn pc) bv :: (Hc' ++ (Hx ++ R)))) := Lib.hid (by
        intro nn hnn
        obtain ⟨m1, m2, m3, m4, m5, m6, m7⟩ := KM.out
        obtain ⟨Hc', r1, r2⟩ := seg_set m1 m2 m5 ((at_ + nn : Nat) : Int)
        refine ⟨Hc', ?_, r1, r2⟩
        have := m3.step j1 m4
        rw [m6, Int.toNat_natCast, hnn] at this
        exact this)
      by_cases h0 : n = 0
      · obtain ⟨Hc', q1, q2, q3⟩ := KEY.out 0 (adjM_zero (by rw [KL.out.1, KM.out.2.2.2.2.2.2, h0]))
        have Q := Lib.hid (And.intro q1 (And.intro q2 q3))
        subst h0
        clear q1 q2 q3 KEY EM
        go_wp2_with fail
        go_roundg (k + 1 - (j + 1))
        case measure => omega
        case rel => exact ⟨j + 1, _, Hc', by omega, by omega, rfl, by push_cast; rfl, Q.out.1, Q.out.2.1, Q.out.2.2⟩
      · have hn0 : 0 < n := by omega
        have hLn : n ≤ L := by have := KM.out.2.2.2.2.2.2; omega
        obtain ⟨xg, hxa⟩ : ∃ g, xa = some ⟨g, 0, none⟩ := by
          obtain ⟨g, cp, cur4, hv, -⟩ := RowH.form KX.out (by have := KL.out.1; omega)
          injection hv with ha
          exact ⟨g, ha⟩
        subst hxa
        obtain ⟨b, hb⟩ : ∃ b, x[n - 1]? = some b := ⟨_, List.getElem?_eq_getElem (by have := KL.out.1; omega)⟩
        have S2 : Sat wr (Hx ++ R) := Sat.right (A := Hc) KM.out.1.drop1.sat
        have cb := RowB.at_ KX.out S2.left hb
        have e1 : (n : Int) - 1 = ((n - 1 : Nat) : Int) := by omega
        have e2 : ((n - 1 : Nat) : Int) < (L : Int) := by omega
        have e3 : decide ((0 : Int) < (n : Int)) = true := by simp; omega
        have HB := Lib.hid hb
        clear hb S2
        by_cases h255 : b = 255
        · obtain ⟨Hc', q1, q2, q3⟩ := KEY.out (n - 1) (adjM_yes (by rw [KL.out.1]; exact KM.out.2.2.2.2.2.2) hn0 (by rw [HB.out, h255]))
          have Q := Lib.hid (And.intro q1 (And.intro q2 q3))
          have d0 : ((b.toNat : Int) == 255) = true := by rw [h255]; rfl
          clear q1 q2 q3 KEY EM h255
          go_wp2_with fail
          go_roundg (k + 1 - (j + 1))
          case measure => omega
          case rel => exact ⟨j + 1, _, Hc', by omega, by omega, rfl, by push_cast; rfl, Q.out.1, Q.out.2.1, by simpa using Q.out.2.2⟩
        · obtain ⟨Hc', q1, q2, q3⟩ := KEY.out n (adjM_no (by rw [KL.out.1]; exact KM.out.2.2.2.2.2.2) (by rw [HB.out]; intro hh; exact h255 (Option.some.inj hh)))
          have Q := Lib.hid (And.intro q1 (And.intro q2 q3))
          have d0 : ((b.toNat : Int) == 255) = false := by
            have : b.toNat ≠ 255 := fun e => h255 (UInt8.toNat_inj.1 (by rw [e]; rfl))
            exact beq_eq_false_iff_ne.2 (by omega)
          clear q1 q2 q3 KEY EM h255
          go_wp2_with fail
          go_roundg (k + 1 - (j + 1))
          case measure => omega
          case rel => exact ⟨j + 1, _, Hc', by omega, by omega, rfl, by push_cast; rfl, Q.out.1, Q.out.2.1, by simpa using Q.out.2.2⟩
    · have d1 : decide ((j : Int) ≤ (k : Int)) = false := by simp; omega
      obtain rfl : j = k + 1 := by omega
      have Q := Lib.hid (And.intro hc (And.intro hr hm))
      clear hc hr hm
      go_wp2_with fail
      exact HK.out _ _ _ _ _ _ _ _ _ _ _ _ _ _ _ _ _ _ _ _ _ _ _ _ _ _ _ _ _ _ _ _ _ _ _ _ _ _ _ Q.out.1 Q.out.2.1 Q.out.2.2
end Go.Proofs.Ytnpoakabheeoeaa
namespace Go.Proofs.Ytnpoakabheeoeaa
open Go.RowKit

def CodF (A : CodA) (G : GeoM) (c : CodM) (cx : List CxM) (t : List Value) : List HB :=
  [codH A G cx t, rowN A.gm G.mag, rowN A.gn G.neg, rowL A.gs c.sig, rowL A.ge c.seen, rowL A.ga c.again]
theorem CodR.eq {A : CodA} {G : GeoM} {q : CS} {raw : Bool} {eg rg : Nat} {H : List HB} (h : CodR A G q raw eg rg H) : ∃ He Hr, MqR eg q.s.e He ∧ RawR rg q.s.r Hr ∧ H = CodF A G q.c q.s.cx (tailP true raw (ptr0 eg) (ptr0 rg)) ++ (He ++ Hr) := by
  obtain ⟨He, Hr, h1, h2, rfl⟩ := h
  exact ⟨He, Hr, h1, h2, rfl⟩
theorem CodR.of {A : CodA} {G : GeoM} {q : CS} {raw : Bool} {eg rg : Nat} {He Hr : List HB} (h1 : MqR eg q.s.e He) (h2 : RawR rg q.s.r Hr) : CodR A G q raw eg rg (CodF A G q.c q.s.cx (tailP true raw (ptr0 eg) (ptr0 rg)) ++ (He ++ Hr)) := ⟨He, Hr, h1, h2, rfl⟩
/-- a coder between two passes: where a segment begins, what it writes to is of no account -/
def CodS (A : CodA) (G : GeoM) (t : EncS) (k : Nat) (H : List HB) : Prop :=
  (k = t.first ∧ ∃ raw pe pr, H = CodF A G t.q.c t.q.s.cx (tailP true raw pe pr)) ∨ (k ≠ t.first ∧ ∃ eg rg, CodR A G t.q t.raw eg rg H)
def BkR (A : CodA) (bb : Nat) (G : GeoM) (pl : Nat) (t : EncS) (k : Nat) (H : List HB) : Prop :=
  ∃ Hc pv Hp bv Hb, CodS A G t k Hc ∧ RowQ pv t.passes Hp ∧ RowB bv t.bytes Hb ∧ H = Hc ++ (bB bb pl pv bv :: (Hp ++ Hb))
set_option maxRecDepth 100000 in
set_option maxHeartbeats 4000000 in
theorem enc_p29 (K : Act → World → Prop) (G : GeoM) (n k : Nat) (w : World) (s0 s1 s2 s4 s5 s6 s7 s8 s9 s10 s11 s12 s13 s14 s16 s18 s19 s20 s21 s22 s23 s24 s25 s26 s27 s28 s29 s30 s31 s32 s33 s34 s35 s36 s37 s38 s39 s40 s41 s42 s43 s44 s45 s46 s47 s48 s49 s50 s51 s52 s53 s54 s55 s56 s57 s58 s59 s60 s61 s62 s63 s64 s65 s66 s67 s68 s69 s70 s71 s72 s73 s74 s75 s76 s77 s78 s79 s80 s81 s82 s83 s84 s85 s86 s87 s88 s89 s90 s91 s92 s93 s94 s95 s96 s97 s98 s99 s100 s101 s102 s103 s104 s105 s106 s107 s108 s109 s110 s111 s112 s113 s114 s115 s116 s117 s118 s119 s120 s121 s122 s123 s124 s125 s126 s127 s128 s129 s130 s131 s132 s133 s134 s135 s136 s137 s138 s139 s140 s141 s142 s143 s144 s145 s146 s147 s148 s149 s150 s151 s152 s153 s154 s155 s156 s157 s158 s159 s160 s161 s162 s163 s164 s165 s166 s167 s168 s169 s170 s171 s172 s173 s174 s175 s176 s177 s178 s179 s180 s181 s182 s183 s184 s185 s186 s187 s188 s189 s190 s191 s192 s193 s194 s195 s196 s197 s198 s199 s200 s201 s202 s203 s204 s205 s206 s207 s208 s209 s210 s211 s212 s213 s214 s215 s216 s217 s218 s219 s220 s221 s222 s223 s224 s225 s226 s227 s228 s229 s230 s231 s232 s233 s234 s235 s236 s237 s238 s239 s240 s241 : Value) (hs : G.style ≤ 63) (hk : k < n) (hn : n ≤ 1000)
    (hK : ∀ (t155 t156 t157 t158 t159 t160 t161 t162 t163 : Value), K ⟨List.toArray (s0 :: s1 :: s2 :: (.int .i64 (G.style : Int)) :: s4 :: s5 :: s6 :: s7 :: s8 :: s9 :: s10 :: s11 :: s12 :: s13 :: s14 :: (.int .i64 (n : Int)) :: s16 :: (.int .i64 (k : Int)) :: s18 :: (.bool (stEnd G n k)) :: s20 :: s21 :: s22 :: s23 :: s24 :: s25 :: s26 :: s27 :: s28 :: s29 :: s30 :: s31 :: s32 :: s33 :: s34 :: s35 :: s36 :: s37 :: s38 :: s39 :: s40 :: s41 :: s42 :: s43 :: s44 :: s45 :: s46 :: s47 :: s48 :: s49 :: s50 :: s51 :: s52 :: s53 :: s54 :: s55 :: s56 :: s57 :: s58 :: s59 :: s60 :: s61 :: s62 :: s63 :: s64 :: s65 :: s66 :: s67 :: s68 :: s69 :: s70 :: s71 :: s72 :: s73 :: s74 :: s75 :: s76 :: s77 :: s78 :: s79 :: s80 :: s81 :: s82 :: s83 :: s84 :: s85 :: s86 :: s87 :: s88 :: s89 :: s90 :: s91 :: s92 :: s93 :: s94 :: s95 :: s96 :: s97 :: s98 :: s99 :: s100 :: s101 :: s102 :: s103 :: s104 :: s105 :: s106 :: s107 :: s108 :: s109 :: s110 :: s111 :: s112 :: s113 :: s114 :: s115 :: s116 :: s117 :: s118 :: s119 :: s120 :: s121 :: s122 :: s123 :: s124 :: s125 :: s126 :: s127 :: s128 :: s129 :: s130 :: s131 :: s132 :: s133 :: s134 :: s135 :: s136 :: s137 :: s138 :: s139 :: s140 :: s141 :: s142 :: s143 :: s144 :: s145 :: s146 :: s147 :: s148 :: s149 :: s150 :: s151 :: s152 :: s153 :: s154 :: t155 :: t156 :: t157 :: t158 :: t159 :: t160 :: t161 :: t162 :: t163 :: s164 :: s165 :: s166 :: s167 :: s168 :: s169 :: s170 :: s171 :: s172 :: s173 :: s174 :: s175 :: s176 :: s177 :: s178 :: s179 :: s180 :: s181 :: s182 :: s183 :: s184 :: s185 :: s186 :: s187 :: s188 :: s189 :: s190 :: s191 :: s192 :: s193 :: s194 :: s195 :: s196 :: s197 :: s198 :: s199 :: s200 :: s201 :: s202 :: s203 :: s204 :: s205 :: s206 :: s207 :: s208 :: s209 :: s210 :: s211 :: s212 :: s213 :: s214 :: s215 :: s216 :: s217 :: s218 :: s219 :: s220 :: s221 :: s222 :: s223 :: s224 :: s225 :: s226 :: s227 :: s228 :: s229 :: s230 :: s231 :: s232 :: s233 :: s234 :: s235 :: s236 :: s237 :: s238 :: s239 :: s240 :: s241 :: []), []⟩ w) :
    (regionOf 29 Try.f13).wp Try.prog (Exit.then K noQ) ⟨List.toArray (s0 :: s1 :: s2 :: (.int .i64 (G.style : Int)) :: s4 :: s5 :: s6 :: s7 :: s8 :: s9 :: s10 :: s11 :: s12 :: s13 :: s14 :: (.int .i64 (n : Int)) :: s16 :: (.int .i64 (k : Int)) :: s18 :: s19 :: s20 :: s21 :: s22 :: s23 :: s24 :: s25 :: s26 :: s27 :: s28 :: s29 :: s30 :: s31 :: s32 :: s33 :: s34 :: s35 :: s36 :: s37 :: s38 :: s39 :: s40 :: s41 :: s42 :: s43 :: s44 :: s45 :: s46 :: s47 :: s48 :: s49 :: s50 :: s51 :: s52 :: s53 :: s54 :: s55 :: s56 :: s57 :: s58 :: s59 :: s60 :: s61 :: s62 :: s63 :: s64 :: s65 :: s66 :: s67 :: s68 :: s69 :: s70 :: s71 :: s72 :: s73 :: s74 :: s75 :: s76 :: s77 :: s78 :: s79 :: s80 :: s81 :: s82 :: s83 :: s84 :: s85 :: s86 :: s87 :: s88 :: s89 :: s90 :: s91 :: s92 :: s93 :: s94 :: s95 :: s96 :: s97 :: s98 :: s99 :: s100 :: s101 :: s102 :: s103 :: s104 :: s105 :: s106 :: s107 :: s108 :: s109 :: s110 :: s111 :: s112 :: s113 :: s114 :: s115 :: s116 :: s117 :: s118 :: s119 :: s120 :: s121 :: s122 :: s123 :: s124 :: s125 :: s126 :: s127 :: s128 :: s129 :: s130 :: s131 :: s132 :: s133 :: s134 :: s135 :: s136 :: s137 :: s138 :: s139 :: s140 :: s141 :: s142 :: s143 :: s144 :: s145 :: s146 :: s147 :: s148 :: s149 :: s150 :: s151 :: s152 :: s153 :: s154 :: s155 :: s156 :: s157 :: s158 :: s159 :: s160 :: s161 :: s162 :: s163 :: s164 :: s165 :: s166 :: s167 :: s168 :: s169 :: s170 :: s171 :: s172 :: s173 :: s174 :: s175 :: s176 :: s177 :: s178 :: s179 :: s180 :: s181 :: s182 :: s183 :: s184 :: s185 :: s186 :: s187 :: s188 :: s189 :: s190 :: s191 :: s192 :: s193 :: s194 :: s195 :: s196 :: s197 :: s198 :: s199 :: s200 :: s201 :: s202 :: s203 :: s204 :: s205 :: s206 :: s207 :: s208 :: s209 :: s210 :: s211 :: s212 :: s213 :: s214 :: s215 :: s216 :: s217 :: s218 :: s219 :: s220 :: s221 :: s222 :: s223 :: s224 :: s225 :: s226 :: s227 :: s228 :: s229 :: s230 :: s231 :: s232 :: s233 :: s234 :: s235 :: s236 :: s237 :: s238 :: s239 :: s240 :: s241 :: []), []⟩ w := by
  conv in (regionOf _ _) => whnf
  unfold noQ
  have HK := Lib.hid hK
  clear hK
  have EA := Lib.hid (fun W => ends_any G.style k W hs (by omega))
  have e1 : (n : Int) - 1 = ((n - 1 : Nat) : Int) := by omega
  obtain ⟨S, hS⟩ : ∃ S, G.style = S := ⟨_, rfl⟩
  rw [hS] at EA HK hs ⊢
  by_cases he : endsM S k = true
  · have r : stEnd G n k = true := by unfold stEnd; rw [hS, he]; rfl
    rw [r] at HK
    go_wp2_with (go_at_call 43; refine (EA.out _).mono ?_; rintro e w7 ⟨rfl, rfl⟩; rw [he])
    exact HK.out _ _ _ _ _ _ _ _ _
  · have he' : endsM S k = false := by simpa using he
    by_cases hkn : k + 1 = n
    · have r : stEnd G n k = true := by unfold stEnd; rw [hS, he', decide_eq_true hkn]; rfl
      rw [r] at HK
      have d : ((k : Int) == ((n - 1 : Nat) : Int)) = true := beq_iff_eq.2 (by omega)
      clear hkn
      go_wp2_with (go_at_call 43; refine (EA.out _).mono ?_; rintro e w7 ⟨rfl, rfl⟩; rw [he'])
      exact HK.out _ _ _ _ _ _ _ _ _
    · have r : stEnd G n k = false := by unfold stEnd; rw [hS, he', decide_eq_false hkn]; rfl
      rw [r] at HK
      have d : ((k : Int) == ((n - 1 : Nat) : Int)) = false := beq_eq_false_iff_ne.2 (by omega)
      clear hkn
      go_wp2_with (go_at_call 43; refine (EA.out _).mono ?_; rintro e w7 ⟨rfl, rfl⟩; rw [he'])
      exact HK.out _ _ _ _ _ _ _ _ _
end Go.Proofs.Ytnpoakabheeoeaa
