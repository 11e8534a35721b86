/- The laws' Form, Make: the loop that doubles the tiles' sides. -/
import Derived.Test.YtlhlhlabnjfhcaaFmL
namespace Go.Proofs.Ytlhlhlabnjfhcaa
open Go.RowKit

/-- doubled until there are at most six tiles -/
def DblIs (X Y t u a b : Int) : Prop := ∃ k : Nat, a = t * 2 ^ k ∧ b = u * 2 ^ k ∧ ceilI X a * ceilI Y b ≤ 6 ∧ ∀ j < k, 6 < ceilI X (t * 2 ^ j) * ceilI Y (u * 2 ^ j)
theorem DblIs.one {X Y t u a b a' b' : Int} (h : DblIs X Y t u a b) (h' : DblIs X Y t u a' b') : a = a' ∧ b = b' := by
  obtain ⟨k, rfl, rfl, h1, h2⟩ := h
  obtain ⟨k', rfl, rfl, h1', h2'⟩ := h'
  have : k = k' := by
    rcases Nat.lt_trichotomy k k' with hk | hk | hk
    · have := h2' k hk; omega
    · exact hk
    · have := h2 k' hk; omega
  subst this
  exact ⟨rfl, rfl⟩

set_option maxRecDepth 100000 in
set_option maxHeartbeats 4000000 in
theorem make_dbl (K : Act → World → Prop) (ib pb : Nat) (X Y ox oy : Int) (p5 : ParD) (w : World) (s0 s1 s2 s3 s4 s5 s8 s9 s10 s11 s12 s13 s14 s15 s16 s17 s18 s19 s20 s21 s22 s23 s24 s25 s26 s27 s28 s29 s30 s31 s32 s33 s34 s35 s36 s37 s38 s39 s40 s41 s42 s43 s44 s45 s46 s47 s48 s49 s50 s51 s52 s53 s54 s55 s56 s57 s58 s59 s60 s61 s62 s63 s64 s65 s66 s67 s68 s69 s70 s71 s72 s73 s74 s75 s76 s77 s78 s79 s80 s81 s82 s83 s84 s85 s86 s87 s88 s89 s90 s91 s92 s93 s94 s95 s96 s97 s98 s99 s100 s101 s102 s103 s104 s105 s106 s107 s108 s109 s110 s111 s112 s113 s114 s115 s116 s117 s118 s119 s120 s121 s122 s123 s124 s125 s126 s127 s128 s129 s130 s131 s132 s133 s134 s135 s136 s137 s138 s139 s140 s141 s142 s143 s144 s145 s146 s147 s148 s149 s150 s151 s152 s153 s154 s155 s156 s157 s158 s159 s160 s161 s162 s163 s164 s165 s166 s167 s168 s169 s170 s171 s172 s173 s174 s175 s176 s177 s178 s179 s180 s181 s182 s183 s184 s185 s186 s187 s188 s189 s190 s191 s192 s193 s194 s195 s196 s197 s198 s199 s200 s201 s202 s203 s204 s205 s206 s207 s208 s209 s210 s211 s212 s213 s214 s215 s216 s217 s218 s219 s220 s221 s222 s223 s224 s225 : Value)
    (hi : Blk w ib 29 (imgA ⟨X, Y, ox, oy, []⟩ (.slice none 0 0))) (hp : Blk w pb 31 (parA p5))
    (x0 : ox < X) (x1 : X ≤ 46) (y0 : oy < Y) (y1 : Y ≤ 46) (o0 : 0 ≤ ox) (o1 : 0 ≤ oy) (t1 : ox < p5.tx) (t2 : p5.tx ≤ 46) (t3 : oy < p5.ty) (t4 : p5.ty ≤ 46)
    (hk : ∀ (t95 t96 t97 t98 t99 t100 t101 t102 t103 t104 t105 t106 : Value) (a b : Int) (wx : World), Blk wx pb 31 (parA { p5 with tx := a, ty := b }) → ox < a → a ≤ 2944 → oy < b → b ≤ 2944 → ceilI X a * ceilI Y b ≤ 6 → DblIs X Y p5.tx p5.ty a b → w.grownBy wx (some pb) →
      K ⟨List.toArray (s0 :: s1 :: s2 :: s3 :: s4 :: s5 :: (.pointer (some ⟨ib, 0, none⟩)) :: (.pointer (some ⟨pb, 0, none⟩)) :: s8 :: s9 :: s10 :: s11 :: s12 :: s13 :: s14 :: s15 :: s16 :: s17 :: s18 :: s19 :: s20 :: s21 :: s22 :: s23 :: s24 :: s25 :: s26 :: s27 :: s28 :: s29 :: s30 :: s31 :: s32 :: s33 :: s34 :: s35 :: s36 :: s37 :: s38 :: s39 :: s40 :: s41 :: s42 :: s43 :: s44 :: s45 :: s46 :: s47 :: s48 :: s49 :: s50 :: s51 :: s52 :: s53 :: s54 :: s55 :: s56 :: s57 :: s58 :: s59 :: s60 :: s61 :: s62 :: s63 :: s64 :: s65 :: s66 :: s67 :: s68 :: s69 :: s70 :: s71 :: s72 :: s73 :: s74 :: s75 :: s76 :: s77 :: s78 :: s79 :: s80 :: s81 :: s82 :: s83 :: s84 :: s85 :: s86 :: s87 :: s88 :: s89 :: s90 :: s91 :: s92 :: s93 :: s94 :: t95 :: t96 :: t97 :: t98 :: t99 :: t100 :: t101 :: t102 :: t103 :: t104 :: t105 :: t106 :: s107 :: s108 :: s109 :: s110 :: s111 :: s112 :: s113 :: s114 :: s115 :: s116 :: s117 :: s118 :: s119 :: s120 :: s121 :: s122 :: s123 :: s124 :: s125 :: s126 :: s127 :: s128 :: s129 :: s130 :: s131 :: s132 :: s133 :: s134 :: s135 :: s136 :: s137 :: s138 :: s139 :: s140 :: s141 :: s142 :: s143 :: s144 :: s145 :: s146 :: s147 :: s148 :: s149 :: s150 :: s151 :: s152 :: s153 :: s154 :: s155 :: s156 :: s157 :: s158 :: s159 :: s160 :: s161 :: s162 :: s163 :: s164 :: s165 :: s166 :: s167 :: s168 :: s169 :: s170 :: s171 :: s172 :: s173 :: s174 :: s175 :: s176 :: s177 :: s178 :: s179 :: s180 :: s181 :: s182 :: s183 :: s184 :: s185 :: s186 :: s187 :: s188 :: s189 :: s190 :: s191 :: s192 :: s193 :: s194 :: s195 :: s196 :: s197 :: s198 :: s199 :: s200 :: s201 :: s202 :: s203 :: s204 :: s205 :: s206 :: s207 :: s208 :: s209 :: s210 :: s211 :: s212 :: s213 :: s214 :: s215 :: s216 :: s217 :: s218 :: s219 :: s220 :: s221 :: s222 :: s223 :: s224 :: s225 :: []), []⟩ wx) :
    (blockOf 0 Try.f20).wp Try.prog (Exit.then K noQ) ⟨List.toArray (s0 :: s1 :: s2 :: s3 :: s4 :: s5 :: (.pointer (some ⟨ib, 0, none⟩)) :: (.pointer (some ⟨pb, 0, none⟩)) :: s8 :: s9 :: s10 :: s11 :: s12 :: s13 :: s14 :: s15 :: s16 :: s17 :: s18 :: s19 :: s20 :: s21 :: s22 :: s23 :: s24 :: s25 :: s26 :: s27 :: s28 :: s29 :: s30 :: s31 :: s32 :: s33 :: s34 :: s35 :: s36 :: s37 :: s38 :: s39 :: s40 :: s41 :: s42 :: s43 :: s44 :: s45 :: s46 :: s47 :: s48 :: s49 :: s50 :: s51 :: s52 :: s53 :: s54 :: s55 :: s56 :: s57 :: s58 :: s59 :: s60 :: s61 :: s62 :: s63 :: s64 :: s65 :: s66 :: s67 :: s68 :: s69 :: s70 :: s71 :: s72 :: s73 :: s74 :: s75 :: s76 :: s77 :: s78 :: s79 :: s80 :: s81 :: s82 :: s83 :: s84 :: s85 :: s86 :: s87 :: s88 :: s89 :: s90 :: s91 :: s92 :: s93 :: s94 :: s95 :: s96 :: s97 :: s98 :: s99 :: s100 :: s101 :: s102 :: s103 :: s104 :: s105 :: s106 :: s107 :: s108 :: s109 :: s110 :: s111 :: s112 :: s113 :: s114 :: s115 :: s116 :: s117 :: s118 :: s119 :: s120 :: s121 :: s122 :: s123 :: s124 :: s125 :: s126 :: s127 :: s128 :: s129 :: s130 :: s131 :: s132 :: s133 :: s134 :: s135 :: s136 :: s137 :: s138 :: s139 :: s140 :: s141 :: s142 :: s143 :: s144 :: s145 :: s146 :: s147 :: s148 :: s149 :: s150 :: s151 :: s152 :: s153 :: s154 :: s155 :: s156 :: s157 :: s158 :: s159 :: s160 :: s161 :: s162 :: s163 :: s164 :: s165 :: s166 :: s167 :: s168 :: s169 :: s170 :: s171 :: s172 :: s173 :: s174 :: s175 :: s176 :: s177 :: s178 :: s179 :: s180 :: s181 :: s182 :: s183 :: s184 :: s185 :: s186 :: s187 :: s188 :: s189 :: s190 :: s191 :: s192 :: s193 :: s194 :: s195 :: s196 :: s197 :: s198 :: s199 :: s200 :: s201 :: s202 :: s203 :: s204 :: s205 :: s206 :: s207 :: s208 :: s209 :: s210 :: s211 :: s212 :: s213 :: s214 :: s215 :: s216 :: s217 :: s218 :: s219 :: s220 :: s221 :: s222 :: s223 :: s224 :: s225 :: []), []⟩ w := by
  conv in (blockOf _ _) => whnf
  unfold noQ
  have HK := Lib.hid hk
  clear hk
  have TL := Lib.hid (fun (p : ParD) W h1 h2 h3 h4 => ltiles_any ⟨X, Y, ox, oy, []⟩ (.slice none 0 0) ⟨_, _, _, rfl⟩ p W (by simp only; omega) (by simp only; omega) (by simp only; omega) (by simp only; omega) h1 h2 h3 h4)
  have hne : ib ≠ pb := hi.ne_ hp (by decide)
  have HI := Lib.hid (And.intro hi hp)
  have hil := hi.lt
  have hpl := hp.lt
  clear hi hp
  go_wp2_with fail
  go_loopg [] 7 (fun g wx => ∃ (k : Nat) (a b : Int), k ≤ 6 ∧ g = 7 - k ∧ 2 ^ k ≤ a ∧ a ≤ 46 * 2 ^ k ∧ ox < a ∧ 2 ^ k ≤ b ∧ b ≤ 46 * 2 ^ k ∧ oy < b ∧ (a = p5.tx * 2 ^ k ∧ b = p5.ty * 2 ^ k ∧ ∀ j < k, 6 < ceilI X (p5.tx * 2 ^ j) * ceilI Y (p5.ty * 2 ^ j)) ∧ Blk wx pb 31 (parA { p5 with tx := a, ty := b }) ∧ w.grownBy wx (some pb))
  case atStart => exact ⟨0, p5.tx, p5.ty, by omega, rfl, by simp; omega, by simp; omega, by omega, by simp; omega, by simp; omega, by omega, ⟨by simp, by simp, fun j hj => absurd hj (Nat.not_lt_zero j)⟩, HI.out.2, World.grownBy.refl _ _⟩
  case round =>
    obtain ⟨wa, rfl⟩ : ∃ wa : World, wa = wr := ⟨_, rfl⟩
    obtain ⟨k, a, b, hk, rfl, k1, k2, k3, k4, k5, k6, hdb, hpa, hga⟩ := hrel
    have HDB := Lib.hid hdb
    clear hdb
    obtain ⟨e1, e2⟩ := pow2_bd k hk
    have hia := HI.out.1.grown hga (by simpa using hne)
    have hza := hga.size
    obtain ⟨x0', x1'⟩ := ceilI_bd X a (by omega) (by omega)
    obtain ⟨y0', y1'⟩ := ceilI_bd Y b (by omega) (by omega)
    have t0 := Int.mul_nonneg x0' y0'
    have t1 : ceilI X a * ceilI Y b ≤ 46 * 46 := Int.mul_le_mul (by omega) (by omega) y0' (by omega)
    have t6 : k = 6 → ceilI X a * ceilI Y b = 1 := by
      rintro rfl
      have e64 : (2 : Int) ^ 6 = 64 := by decide
      rw [ceilI_one _ _ (by omega) (by omega), ceilI_one _ _ (by omega) (by omega)]
      rfl
    have TA := fun W => TL.out { p5 with tx := a, ty := b } W (by simp only; omega) (by simp only; omega) (by simp only; omega) (by simp only; omega)
    simp only at TA
    generalize hq : ceilI X a * ceilI Y b = tl at *
    have HQ := Lib.hid hq
    clear hq x0' x1' y0' y1'
    have TA' := Lib.hid TA
    clear TA
    obtain ⟨m0, m1, m2, m3, m4⟩ : wa.cell? ⟨ib, 0, none⟩ = some (.int .i64 X) ∧ wa.cell? ⟨ib, 1, none⟩ = some (.int .i64 Y) ∧ wa.cell? ⟨ib, 2, none⟩ = some (.int .i64 ox) ∧ wa.cell? ⟨ib, 3, none⟩ = some (.int .i64 oy) ∧ wa.cell? ⟨ib, 4, none⟩ = some (.slice none 0 0) := ⟨hia.cell 0, hia.cell 1, hia.cell 2, hia.cell 3, hia.cell 4⟩
    obtain ⟨n0, n1, n2, n3, n4, n5, n6, n7, n8, n9, n10, n11⟩ : wa.cell? ⟨pb, 0, none⟩ = some (.int .i64 a) ∧ wa.cell? ⟨pb, 1, none⟩ = some (.int .i64 b) ∧ wa.cell? ⟨pb, 2, none⟩ = some (.int .i64 p5.lv) ∧ wa.cell? ⟨pb, 3, none⟩ = some (.int .i64 p5.cbw) ∧ wa.cell? ⟨pb, 4, none⟩ = some (.int .i64 p5.cbh) ∧ wa.cell? ⟨pb, 5, none⟩ = some (.int .i64 p5.prec) ∧
        wa.cell? ⟨pb, 6, none⟩ = some (.int .i64 p5.style) ∧ wa.cell? ⟨pb, 7, none⟩ = some (.int .i64 p5.order) ∧ wa.cell? ⟨pb, 8, none⟩ = some (.int .i64 p5.layers) ∧ wa.cell? ⟨pb, 9, none⟩ = some (.bool p5.rct) ∧ wa.cell? ⟨pb, 10, none⟩ = some (.bool p5.sop) ∧ wa.cell? ⟨pb, 11, none⟩ = some (.bool p5.eph) :=
      ⟨hpa.cell 0, hpa.cell 1, hpa.cell 2, hpa.cell 3, hpa.cell 4, hpa.cell 5, hpa.cell 6, hpa.cell 7, hpa.cell 8, hpa.cell 9, hpa.cell 10, hpa.cell 11⟩
    have hpal := hpa.lt
    have HH := Lib.hid (And.intro hpa hga)
    clear hpa hga hia
    by_cases hbig : 6 < tl
    · have d1 : decide ((6 : Int) < tl) = true := by simp; omega
      go_wp2_with (go_at_call 40; refine (TA'.out _).mono ?_; rintro e wb ⟨rfl, hbb⟩; have hpb := HH.out.1.below hbb hpal; have n0' : wb.cell? ⟨pb, 0, none⟩ = some (.int .i64 a) := hpb.cell 0; have n1' : wb.cell? ⟨pb, 1, none⟩ = some (.int .i64 b) := hpb.cell 1; have g0 := hpb.frozen 0; have g1 := hpb.frozen 1; have HPB := Lib.hid (And.intro hpb hbb); clear hpb hbb)
      have k7 : k < 6 := by
        refine Nat.lt_of_le_of_ne hk (fun h => ?_)
        have := t6 h
        omega
      have e3 : (2 : Int) ^ (k + 1) = 2 * 2 ^ k := by rw [Int.pow_succ, Int.mul_comm]
      go_roundg (7 - (k + 1))
      case measure => omega
      case rel =>
        refine ⟨k + 1, 2 * a, 2 * b, by omega, rfl, by rw [e3]; omega, by rw [e3]; omega, by omega, by rw [e3]; omega, by rw [e3]; omega, by omega, ?_, (HPB.out.1.set_ 0 (.int .i64 (2 * a))).set_ 1 (.int .i64 (2 * b)), ?_⟩
        · obtain ⟨d1', d2', d3'⟩ := HDB.out
          refine ⟨by rw [e3, d1', Int.mul_left_comm], by rw [e3, d2', Int.mul_left_comm], fun j hj => ?_⟩
          rcases Nat.lt_or_ge j k with hjk | hjk
          · exact d3' j hjk
          · obtain rfl : j = k := by omega
            rw [← d1', ← d2', HQ.out]
            exact hbig
        exact only_setCell (only_setCell (grown_trans HH.out.2 (only_of_below HPB.out.2 _)) (p := ⟨pb, 0, none⟩) (.inl rfl) _) (p := ⟨pb, 1, none⟩) (.inl rfl) _
    · have d1 : decide ((6 : Int) < tl) = false := by simp; omega
      go_wp2_with (go_at_call 40; refine (TA'.out _).mono ?_; rintro e wb ⟨rfl, hbb⟩; have HPB := Lib.hid hbb; clear hbb)
      exact HK.out _ _ _ _ _ _ _ _ _ _ _ _ _ _ _ (HH.out.1.below HPB.out hpal) k3 (by omega) k6 (by omega) (by rw [HQ.out]; omega) ⟨k, HDB.out.1, HDB.out.2.1, by rw [HQ.out]; omega, HDB.out.2.2⟩ (grown_trans HH.out.2 (only_of_below HPB.out _))
end Go.Proofs.Ytlhlhlabnjfhcaa
