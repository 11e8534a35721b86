/- waveletref8.Encode: a value is laid into the coder. -/
import Derived.Test.YtnpoakabheeoeaaRae
namespace Go.Proofs.Ytnpoakabheeoeaa
open Go.RowKit

set_option maxRecDepth 100000 in
set_option maxHeartbeats 8000000 in
theorem enc_p1 (K : Act → World → Prop) (A : CodA) (bb vg vc N i pl ma ng : Nat) (G : GeoM) (m : Int) (R : List HB) (w0 w : World) (s0 s1 s2 s3 s5 s6 s7 s8 s9 s10 s11 s15 s16 s17 s18 s19 s20 s21 s22 s23 s24 s25 s26 s27 s28 s29 s30 s31 s32 s33 s34 s35 s36 s37 s38 s39 s40 s41 s42 s43 s44 s45 s46 s47 s48 s49 s50 s51 s52 s53 s54 s55 s56 s57 s58 s59 s60 s61 s62 s63 s64 s65 s66 s67 s68 s69 s70 s71 s72 s73 s74 s75 s76 s77 s78 s79 s80 s81 s82 s83 s84 s85 s86 s87 s88 s89 s90 s91 s92 s93 s94 s95 s96 s97 s98 s99 s100 s101 s102 s103 s104 s105 s106 s107 s108 s109 s110 s111 s112 s113 s114 s115 s116 s117 s118 s119 s120 s121 s122 s123 s124 s125 s126 s127 s128 s129 s130 s131 s132 s133 s134 s135 s136 s137 s138 s139 s140 s141 s142 s143 s144 s145 s146 s147 s148 s149 s150 s151 s152 s153 s154 s155 s156 s157 s158 s159 s160 s161 s162 s163 s164 s165 s166 s167 s168 s169 s170 s171 s172 s173 s174 s175 s176 s177 s178 s179 s180 s181 s182 s183 s184 s185 s186 s187 s188 s189 s190 s191 s192 s193 s194 s195 s196 s197 s198 s199 s200 s201 s202 s203 s204 s205 s206 s207 s208 s209 s210 s211 s212 s213 s214 s215 s216 s217 s218 s219 s220 s221 s222 s223 s224 s225 s226 s227 s228 s229 s230 s231 s232 s233 s234 s235 s236 s237 s238 s239 s240 s241 : Value)
    (hN : G.w * G.h = N) (_hNl : N ≤ 4096) (hi : i < N) (h1 : G.mag[i]? = some ma) (h2 : G.neg[i]? = some ng) (hma : ma = m.natAbs) (hng : ng = oneN (decide (m < 0))) (hml : ma ≤ 1073741823)
    (hl1 : G.mag.length = N) (hl2 : G.neg.length = N) (hv : w0.cell? ⟨vg, i, none⟩ = some (.int .i64 m)) (hvg : vg < w0.heap.size) (hpl : pl ≤ 30) (M : Mv w0 [] w (IniH A bb G i pl R))
    (hk : ∀ (t53 t54 t55 t56 t57 t58 t59 t60 t61 t62 t63 t64 t66 t67 t68 t69 t70 t71 t72 t73 t74 t75 t76 t77 t78 t79 t80 t81 t82 t83 t84 t85 t86 t87 t88 t89 t90 t91 t92 t93 t94 t95 t96 t97 t98 t99 t100 t101 t102 t103 t104 t105 t106 t107 t108 t109 : Value) (wx : World), Mv w0 [] wx (IniH A bb G (i + 1) (stepP pl ma) R) →
      K ⟨List.toArray (s0 :: s1 :: s2 :: s3 :: (.slice (some ⟨vg, 0, none⟩) N vc) :: s5 :: s6 :: s7 :: s8 :: s9 :: s10 :: s11 :: (ptr0 A.cb) :: (ptr0 bb) :: (.int .i64 (i : Int)) :: s15 :: s16 :: s17 :: s18 :: s19 :: s20 :: s21 :: s22 :: s23 :: s24 :: s25 :: s26 :: s27 :: s28 :: s29 :: s30 :: s31 :: s32 :: s33 :: s34 :: s35 :: s36 :: s37 :: s38 :: s39 :: s40 :: s41 :: s42 :: s43 :: s44 :: s45 :: s46 :: s47 :: s48 :: s49 :: s50 :: s51 :: s52 :: t53 :: t54 :: t55 :: t56 :: t57 :: t58 :: t59 :: t60 :: t61 :: t62 :: t63 :: t64 :: s65 :: t66 :: t67 :: t68 :: t69 :: t70 :: t71 :: t72 :: t73 :: t74 :: t75 :: t76 :: t77 :: t78 :: t79 :: t80 :: t81 :: t82 :: t83 :: t84 :: t85 :: t86 :: t87 :: t88 :: t89 :: t90 :: t91 :: t92 :: t93 :: t94 :: t95 :: t96 :: t97 :: t98 :: t99 :: t100 :: t101 :: t102 :: t103 :: t104 :: t105 :: t106 :: t107 :: t108 :: t109 :: s110 :: s111 :: s112 :: s113 :: s114 :: s115 :: s116 :: s117 :: s118 :: s119 :: s120 :: s121 :: s122 :: s123 :: s124 :: s125 :: s126 :: s127 :: s128 :: s129 :: s130 :: s131 :: s132 :: s133 :: s134 :: s135 :: s136 :: s137 :: s138 :: s139 :: s140 :: s141 :: s142 :: s143 :: s144 :: s145 :: s146 :: s147 :: s148 :: s149 :: s150 :: s151 :: s152 :: s153 :: s154 :: s155 :: s156 :: s157 :: s158 :: s159 :: s160 :: s161 :: s162 :: s163 :: s164 :: s165 :: s166 :: s167 :: s168 :: s169 :: s170 :: s171 :: s172 :: s173 :: s174 :: s175 :: s176 :: s177 :: s178 :: s179 :: s180 :: s181 :: s182 :: s183 :: s184 :: s185 :: s186 :: s187 :: s188 :: s189 :: s190 :: s191 :: s192 :: s193 :: s194 :: s195 :: s196 :: s197 :: s198 :: s199 :: s200 :: s201 :: s202 :: s203 :: s204 :: s205 :: s206 :: s207 :: s208 :: s209 :: s210 :: s211 :: s212 :: s213 :: s214 :: s215 :: s216 :: s217 :: s218 :: s219 :: s220 :: s221 :: s222 :: s223 :: s224 :: s225 :: s226 :: s227 :: s228 :: s229 :: s230 :: s231 :: s232 :: s233 :: s234 :: s235 :: s236 :: s237 :: s238 :: s239 :: s240 :: s241 :: []), []⟩ wx) :
    (blockOf 1 Try.f13).wp Try.prog (Exit.then K noQ) ⟨List.toArray (s0 :: s1 :: s2 :: s3 :: (.slice (some ⟨vg, 0, none⟩) N vc) :: s5 :: s6 :: s7 :: s8 :: s9 :: s10 :: s11 :: (ptr0 A.cb) :: (ptr0 bb) :: (.int .i64 (i : Int)) :: s15 :: s16 :: s17 :: s18 :: s19 :: s20 :: s21 :: s22 :: s23 :: s24 :: s25 :: s26 :: s27 :: s28 :: s29 :: s30 :: s31 :: s32 :: s33 :: s34 :: s35 :: s36 :: s37 :: s38 :: s39 :: s40 :: s41 :: s42 :: s43 :: s44 :: s45 :: s46 :: s47 :: s48 :: s49 :: s50 :: s51 :: s52 :: s53 :: s54 :: s55 :: s56 :: s57 :: s58 :: s59 :: s60 :: s61 :: s62 :: s63 :: s64 :: s65 :: s66 :: s67 :: s68 :: s69 :: s70 :: s71 :: s72 :: s73 :: s74 :: s75 :: s76 :: s77 :: s78 :: s79 :: s80 :: s81 :: s82 :: s83 :: s84 :: s85 :: s86 :: s87 :: s88 :: s89 :: s90 :: s91 :: s92 :: s93 :: s94 :: s95 :: s96 :: s97 :: s98 :: s99 :: s100 :: s101 :: s102 :: s103 :: s104 :: s105 :: s106 :: s107 :: s108 :: s109 :: s110 :: s111 :: s112 :: s113 :: s114 :: s115 :: s116 :: s117 :: s118 :: s119 :: s120 :: s121 :: s122 :: s123 :: s124 :: s125 :: s126 :: s127 :: s128 :: s129 :: s130 :: s131 :: s132 :: s133 :: s134 :: s135 :: s136 :: s137 :: s138 :: s139 :: s140 :: s141 :: s142 :: s143 :: s144 :: s145 :: s146 :: s147 :: s148 :: s149 :: s150 :: s151 :: s152 :: s153 :: s154 :: s155 :: s156 :: s157 :: s158 :: s159 :: s160 :: s161 :: s162 :: s163 :: s164 :: s165 :: s166 :: s167 :: s168 :: s169 :: s170 :: s171 :: s172 :: s173 :: s174 :: s175 :: s176 :: s177 :: s178 :: s179 :: s180 :: s181 :: s182 :: s183 :: s184 :: s185 :: s186 :: s187 :: s188 :: s189 :: s190 :: s191 :: s192 :: s193 :: s194 :: s195 :: s196 :: s197 :: s198 :: s199 :: s200 :: s201 :: s202 :: s203 :: s204 :: s205 :: s206 :: s207 :: s208 :: s209 :: s210 :: s211 :: s212 :: s213 :: s214 :: s215 :: s216 :: s217 :: s218 :: s219 :: s220 :: s221 :: s222 :: s223 :: s224 :: s225 :: s226 :: s227 :: s228 :: s229 :: s230 :: s231 :: s232 :: s233 :: s234 :: s235 :: s236 :: s237 :: s238 :: s239 :: s240 :: s241 :: []), []⟩ w := by
  conv in (blockOf _ _) => whnf
  unfold noQ
  have HK := Lib.hid hk
  clear hk
  unfold ptr0
  have c0 := M.old hv hvg
  have hin : (i : Int) < (N : Int) := by omega
  have d1 : decide ((1073741823 : Int) < m) = false := by simp; omega
  have d2 : decide (m < -1073741823) = false := by simp; omega
  have HM := Lib.hid (And.intro h1 (And.intro h2 (And.intro hma hng)))
  have M1 := M.drew
  have V1 := codT_front (M1.blk 0 rfl)
  rw [hN] at V1
  unfold slV at V1
  obtain ⟨c4, c5⟩ := V1
  have KM := Lib.hid M
  clear M h1 h2 hma hng M1
  go_upto_region 13 with fail
  have c0 := KM.out.drew.old hv hvg
  have fm := (KM.out.drew.frozen 1 (t := 3) (cs := (rowN A.gm (midN G.mag i)).cs) rfl i)
  have lm := (midN_len G.mag i (by omega)).trans hl1
  have ln := (midN_len G.neg i (by omega)).trans hl2
  have cm : w.drew.cell? ⟨A.gm, i, none⟩ = some (.int .i64 (((midN G.mag i).getD i 0 : Nat) : Int)) := rowN_get (KM.out.drew.blk 1 rfl) lm i hi
  go_still_tail 15, (by kernel_rfl)
  change wpList _ _ _ _ _ w.drew
  have EM : (if m < IntKind.i64.wrap (-m) then IntKind.i64.wrap (-m) else m) = (ma : Int) := by
    have hq := HM.out.2.2.1
    rw [IntWalk.i64_in _ (by omega)]
    split <;> omega
  rw [EM]
  have M5 := (ini_mag KM.out HM.out.1).drew
  obtain ⟨w3, hw3⟩ : ∃ w3, w3 = (w.setCell ⟨A.gm, i, none⟩ (.int .i64 (ma : Int))).drew := ⟨_, rfl⟩
  rw [← hw3] at M5
  have HW := Lib.hid hw3
  have K5 := Lib.hid M5
  clear hw3 M5 EM c4 c5
  go_upto_region 14 with fail
  rw [← HW.out]
  clear HW c0 fm d1 d2 cm lm
  have hmx : Try.prog.follows .mixedOrders = true := by kernel_rfl
  obtain ⟨C, hC⟩ : ∃ C : World → Prop, C = fun w' => w' = w3.drew := ⟨_, rfl⟩
  have CF : Hid (∀ w', C w' → w'.cell? ⟨A.cb, 5, none⟩ = some (.slice (some ⟨A.gn, 0, none⟩) N N) ∧ w'.cell? ⟨vg, i, none⟩ = some (.int .i64 m) ∧ w'.frozen? ⟨A.gn, i, none⟩ = false ∧ w'.cell? ⟨A.gn, i, none⟩ = some (.int .i64 (((midN G.neg i).getD i 0 : Nat) : Int))) := Lib.hid (by
    intro w' h
    rw [hC] at h
    rw [h]
    have V1 := (codT_front (K5.out.drew.blk 0 rfl)).2
    rw [hN] at V1
    exact ⟨V1, K5.out.drew.old hv hvg, K5.out.drew.frozen 2 (t := 3) (cs := (rowN A.gn (midN G.neg i)).cs) rfl i, rowN_get (K5.out.drew.blk 2 rfl) ln i hi⟩)
  have CK : Hid (∀ w', C w' → Calls Try.prog 35 #[.bool (decide (m < 0))] w' fun e w4 => e = .returned (.int .i64 (ng : Int)) ∧ C w4) := Lib.hid (by
    intro w' h
    refine (one_any (decide (m < 0)) w').mono ?_
    rintro e w4 ⟨rfl, rfl⟩
    exact ⟨by rw [HM.out.2.2.2], h⟩)
  have CD : C w3.drew := by rw [hC]
  have HC := Lib.hid hC
  clear hC
  refine plain_quiet_tail 11 C hmx CD (by kernel_rfl) ?_
  simp only [List.take_succ_cons, List.take_zero, List.drop_succ_cons, List.drop_zero]
  (first | (refine qc_pass ?hw1 ?nx1; (case hw1 => (go_simp; done)); (try simp only [Act.put, List.setIfInBounds_toArray, List.set_cons_zero, List.set_cons_succ])) | (refine qc_one ?v1 ?hw1 (fun w' hw' => ?hr1) ?nx1; (case hw1 => (go_simp; done)); (case hr1 => (first | (refine qc_val ?_; (obtain ⟨a0, a1, a2, a3⟩ := CF.out w' hw'); clear hw'; go_simp; done) | (refine qc_val ?_; (obtain ⟨a0, a1, a2, a3⟩ := CF.out w' hw'); clear hw'; go_simp; rfl) | (refine qc_call (f := ?f1) (args := ?args1) ?h11 ?h21; (case h11 => ((obtain ⟨a0, a1, a2, a3⟩ := CF.out w' hw'); go_simp; constructor <;> rfl)); (case h21 => (exact CK.out w' hw'))) | (refine qc_skip ?_; (obtain ⟨a0, a1, a2, a3⟩ := CF.out w' hw'); clear hw'; go_simp; done))); (try simp only [Act.put, List.setIfInBounds_toArray, List.set_cons_zero, List.set_cons_succ])))
  (first | (refine qc_pass ?hw2 ?nx2; (case hw2 => (go_simp; done)); (try simp only [Act.put, List.setIfInBounds_toArray, List.set_cons_zero, List.set_cons_succ])) | (refine qc_one ?v2 ?hw2 (fun w' hw' => ?hr2) ?nx2; (case hw2 => (go_simp; done)); (case hr2 => (first | (refine qc_val ?_; (obtain ⟨a0, a1, a2, a3⟩ := CF.out w' hw'); clear hw'; go_simp; done) | (refine qc_val ?_; (obtain ⟨a0, a1, a2, a3⟩ := CF.out w' hw'); clear hw'; go_simp; rfl) | (refine qc_call (f := ?f2) (args := ?args2) ?h12 ?h22; (case h12 => ((obtain ⟨a0, a1, a2, a3⟩ := CF.out w' hw'); go_simp; constructor <;> rfl)); (case h22 => (exact CK.out w' hw'))) | (refine qc_skip ?_; (obtain ⟨a0, a1, a2, a3⟩ := CF.out w' hw'); clear hw'; go_simp; done))); (try simp only [Act.put, List.setIfInBounds_toArray, List.set_cons_zero, List.set_cons_succ])))
  (first | (refine qc_pass ?hw3 ?nx3; (case hw3 => (go_simp; done)); (try simp only [Act.put, List.setIfInBounds_toArray, List.set_cons_zero, List.set_cons_succ])) | (refine qc_one ?v3 ?hw3 (fun w' hw' => ?hr3) ?nx3; (case hw3 => (go_simp; done)); (case hr3 => (first | (refine qc_val ?_; (obtain ⟨a0, a1, a2, a3⟩ := CF.out w' hw'); clear hw'; go_simp; done) | (refine qc_val ?_; (obtain ⟨a0, a1, a2, a3⟩ := CF.out w' hw'); clear hw'; go_simp; rfl) | (refine qc_call (f := ?f3) (args := ?args3) ?h13 ?h23; (case h13 => ((obtain ⟨a0, a1, a2, a3⟩ := CF.out w' hw'); go_simp; constructor <;> rfl)); (case h23 => (exact CK.out w' hw'))) | (refine qc_skip ?_; (obtain ⟨a0, a1, a2, a3⟩ := CF.out w' hw'); clear hw'; go_simp; done))); (try simp only [Act.put, List.setIfInBounds_toArray, List.set_cons_zero, List.set_cons_succ])))
  (first | (refine qc_pass ?hw4 ?nx4; (case hw4 => (go_simp; done)); (try simp only [Act.put, List.setIfInBounds_toArray, List.set_cons_zero, List.set_cons_succ])) | (refine qc_one ?v4 ?hw4 (fun w' hw' => ?hr4) ?nx4; (case hw4 => (go_simp; done)); (case hr4 => (first | (refine qc_val ?_; (obtain ⟨a0, a1, a2, a3⟩ := CF.out w' hw'); clear hw'; go_simp; done) | (refine qc_val ?_; (obtain ⟨a0, a1, a2, a3⟩ := CF.out w' hw'); clear hw'; go_simp; rfl) | (refine qc_call (f := ?f4) (args := ?args4) ?h14 ?h24; (case h14 => ((obtain ⟨a0, a1, a2, a3⟩ := CF.out w' hw'); go_simp; constructor <;> rfl)); (case h24 => (exact CK.out w' hw'))) | (refine qc_skip ?_; (obtain ⟨a0, a1, a2, a3⟩ := CF.out w' hw'); clear hw'; go_simp; done))); (try simp only [Act.put, List.setIfInBounds_toArray, List.set_cons_zero, List.set_cons_succ])))
  (first | (refine qc_pass ?hw5 ?nx5; (case hw5 => (go_simp; done)); (try simp only [Act.put, List.setIfInBounds_toArray, List.set_cons_zero, List.set_cons_succ])) | (refine qc_one ?v5 ?hw5 (fun w' hw' => ?hr5) ?nx5; (case hw5 => (go_simp; done)); (case hr5 => (first | (refine qc_val ?_; (obtain ⟨a0, a1, a2, a3⟩ := CF.out w' hw'); clear hw'; go_simp; done) | (refine qc_val ?_; (obtain ⟨a0, a1, a2, a3⟩ := CF.out w' hw'); clear hw'; go_simp; rfl) | (refine qc_call (f := ?f5) (args := ?args5) ?h15 ?h25; (case h15 => ((obtain ⟨a0, a1, a2, a3⟩ := CF.out w' hw'); go_simp; constructor <;> rfl)); (case h25 => (exact CK.out w' hw'))) | (refine qc_skip ?_; (obtain ⟨a0, a1, a2, a3⟩ := CF.out w' hw'); clear hw'; go_simp; done))); (try simp only [Act.put, List.setIfInBounds_toArray, List.set_cons_zero, List.set_cons_succ])))
  (first | (refine qc_pass ?hw6 ?nx6; (case hw6 => (go_simp; done)); (try simp only [Act.put, List.setIfInBounds_toArray, List.set_cons_zero, List.set_cons_succ])) | (refine qc_one ?v6 ?hw6 (fun w' hw' => ?hr6) ?nx6; (case hw6 => (go_simp; done)); (case hr6 => (first | (refine qc_val ?_; (obtain ⟨a0, a1, a2, a3⟩ := CF.out w' hw'); clear hw'; go_simp; done) | (refine qc_val ?_; (obtain ⟨a0, a1, a2, a3⟩ := CF.out w' hw'); clear hw'; go_simp; rfl) | (refine qc_call (f := ?f6) (args := ?args6) ?h16 ?h26; (case h16 => ((obtain ⟨a0, a1, a2, a3⟩ := CF.out w' hw'); go_simp; constructor <;> rfl)); (case h26 => (exact CK.out w' hw'))) | (refine qc_skip ?_; (obtain ⟨a0, a1, a2, a3⟩ := CF.out w' hw'); clear hw'; go_simp; done))); (try simp only [Act.put, List.setIfInBounds_toArray, List.set_cons_zero, List.set_cons_succ])))
  (first | (refine qc_pass ?hw7 ?nx7; (case hw7 => (go_simp; done)); (try simp only [Act.put, List.setIfInBounds_toArray, List.set_cons_zero, List.set_cons_succ])) | (refine qc_one ?v7 ?hw7 (fun w' hw' => ?hr7) ?nx7; (case hw7 => (go_simp; done)); (case hr7 => (first | (refine qc_val ?_; (obtain ⟨a0, a1, a2, a3⟩ := CF.out w' hw'); clear hw'; go_simp; done) | (refine qc_val ?_; (obtain ⟨a0, a1, a2, a3⟩ := CF.out w' hw'); clear hw'; go_simp; rfl) | (refine qc_call (f := ?f7) (args := ?args7) ?h17 ?h27; (case h17 => ((obtain ⟨a0, a1, a2, a3⟩ := CF.out w' hw'); go_simp; constructor <;> rfl)); (case h27 => (exact CK.out w' hw'))) | (refine qc_skip ?_; (obtain ⟨a0, a1, a2, a3⟩ := CF.out w' hw'); clear hw'; go_simp; done))); (try simp only [Act.put, List.setIfInBounds_toArray, List.set_cons_zero, List.set_cons_succ])))
  (first | (refine qc_pass ?hw8 ?nx8; (case hw8 => (go_simp; done)); (try simp only [Act.put, List.setIfInBounds_toArray, List.set_cons_zero, List.set_cons_succ])) | (refine qc_one ?v8 ?hw8 (fun w' hw' => ?hr8) ?nx8; (case hw8 => (go_simp; done)); (case hr8 => (first | (refine qc_val ?_; (obtain ⟨a0, a1, a2, a3⟩ := CF.out w' hw'); clear hw'; go_simp; done) | (refine qc_val ?_; (obtain ⟨a0, a1, a2, a3⟩ := CF.out w' hw'); clear hw'; go_simp; rfl) | (refine qc_call (f := ?f8) (args := ?args8) ?h18 ?h28; (case h18 => ((obtain ⟨a0, a1, a2, a3⟩ := CF.out w' hw'); go_simp; constructor <;> rfl)); (case h28 => (exact CK.out w' hw'))) | (refine qc_skip ?_; (obtain ⟨a0, a1, a2, a3⟩ := CF.out w' hw'); clear hw'; go_simp; done))); (try simp only [Act.put, List.setIfInBounds_toArray, List.set_cons_zero, List.set_cons_succ])))
  (first | (refine qc_pass ?hw9 ?nx9; (case hw9 => (go_simp; done)); (try simp only [Act.put, List.setIfInBounds_toArray, List.set_cons_zero, List.set_cons_succ])) | (refine qc_one ?v9 ?hw9 (fun w' hw' => ?hr9) ?nx9; (case hw9 => (go_simp; done)); (case hr9 => (first | (refine qc_val ?_; (obtain ⟨a0, a1, a2, a3⟩ := CF.out w' hw'); clear hw'; go_simp; done) | (refine qc_val ?_; (obtain ⟨a0, a1, a2, a3⟩ := CF.out w' hw'); clear hw'; go_simp; rfl) | (refine qc_call (f := ?f9) (args := ?args9) ?h19 ?h29; (case h19 => ((obtain ⟨a0, a1, a2, a3⟩ := CF.out w' hw'); go_simp; constructor <;> rfl)); (case h29 => (exact CK.out w' hw'))) | (refine qc_skip ?_; (obtain ⟨a0, a1, a2, a3⟩ := CF.out w' hw'); clear hw'; go_simp; done))); (try simp only [Act.put, List.setIfInBounds_toArray, List.set_cons_zero, List.set_cons_succ])))
  (first | (refine qc_pass ?hw10 ?nx10; (case hw10 => (go_simp; done)); (try simp only [Act.put, List.setIfInBounds_toArray, List.set_cons_zero, List.set_cons_succ])) | (refine qc_one ?v10 ?hw10 (fun w' hw' => ?hr10) ?nx10; (case hw10 => (go_simp; done)); (case hr10 => (first | (refine qc_val ?_; (obtain ⟨a0, a1, a2, a3⟩ := CF.out w' hw'); clear hw'; go_simp; done) | (refine qc_val ?_; (obtain ⟨a0, a1, a2, a3⟩ := CF.out w' hw'); clear hw'; go_simp; rfl) | (refine qc_call (f := ?f10) (args := ?args10) ?h110 ?h210; (case h110 => ((obtain ⟨a0, a1, a2, a3⟩ := CF.out w' hw'); go_simp; constructor <;> rfl)); (case h210 => (exact CK.out w' hw'))) | (refine qc_skip ?_; (obtain ⟨a0, a1, a2, a3⟩ := CF.out w' hw'); clear hw'; go_simp; done))); (try simp only [Act.put, List.setIfInBounds_toArray, List.set_cons_zero, List.set_cons_succ])))
  (first | (refine qc_pass ?hw11 ?nx11; (case hw11 => (go_simp; done)); (try simp only [Act.put, List.setIfInBounds_toArray, List.set_cons_zero, List.set_cons_succ])) | (refine qc_one ?v11 ?hw11 (fun w' hw' => ?hr11) ?nx11; (case hw11 => (go_simp; done)); (case hr11 => (first | (refine qc_val ?_; (obtain ⟨a0, a1, a2, a3⟩ := CF.out w' hw'); clear hw'; go_simp; done) | (refine qc_val ?_; (obtain ⟨a0, a1, a2, a3⟩ := CF.out w' hw'); clear hw'; go_simp; rfl) | (refine qc_call (f := ?f11) (args := ?args11) ?h111 ?h211; (case h111 => ((obtain ⟨a0, a1, a2, a3⟩ := CF.out w' hw'); go_simp; constructor <;> rfl)); (case h211 => (exact CK.out w' hw'))) | (refine qc_skip ?_; (obtain ⟨a0, a1, a2, a3⟩ := CF.out w' hw'); clear hw'; go_simp; done))); (try simp only [Act.put, List.setIfInBounds_toArray, List.set_cons_zero, List.set_cons_succ])))
  refine wpQuiet_nil ?_
  intro w' hw'
  obtain rfl : w' = w3.drew := by rw [HC.out] at hw'; exact hw'
  obtain ⟨-, -, a2, a3⟩ := CF.out _ hw'
  have M6 := (ini_neg K5.out HM.out.2.1).drew
  clear hw' CD CK CF HC C ln
  obtain ⟨w5, hw5⟩ : ∃ w5, w5 = (w3.setCell ⟨A.gn, i, none⟩ (.int .i64 (ng : Int))).drew := ⟨_, rfl⟩
  rw [← hw5] at M6
  have HW := Lib.hid hw5
  have K6 := Lib.hid M6
  clear hw5 M6
  go_wp2_with fail
  rw [← HW.out]
  clear HW a2 a3
  go_loopg [] (31 - pl) (fun mm wx => ∃ q : Nat, pl ≤ q ∧ q ≤ stepP pl ma ∧ mm = 31 - q ∧ Mv w0 [] wx (codH A G cxFresh (tailP true false (.pointer none) (.pointer none)) :: rowN A.gm (midN G.mag (i + 1)) :: rowN A.gn (midN G.neg (i + 1)) :: bB bb q nil0 nil0 :: R))
  case atStart => exact ⟨pl, Nat.le_refl _, stepP_ge _ _, rfl, K6.out⟩
  case round =>
    obtain ⟨q, q1, q2, rfl, mq⟩ := hrel
    have q3 : stepP pl ma ≤ 30 := stepP_le (by have : (2 : Nat) ^ 30 = 1073741824 := rfl; omega) hpl
    have q4 : q ≤ 40 := by omega
    have V := (codT_front (mq.drew.blk 0 rfl)).1
    rw [hN] at V
    unfold slV at V
    have cg : wr.drew.cell? ⟨A.gm, i, none⟩ = some (.int .i64 (ma : Int)) := by
      have := rowN_get (mq.drew.blk 1 rfl) ((midN_len G.mag (i + 1) (by omega)).trans hl1) i hi
      rw [getD_of (midN_get _ _ HM.out.1)] at this
      exact this
    have cb : wr.drew.cell? ⟨bb, 0, none⟩ = some (.int .i64 (q : Int)) := mq.drew.cell 3 rfl 0
    have fb : wr.drew.frozen? ⟨bb, 0, none⟩ = false := mq.drew.frozen 3 rfl 0
    have KQ := Lib.hid mq.drew
    clear mq
    by_cases h : 0 < ma / 2 ^ q
    · have dq := shr_pos h
      have q5 := stepP_more h (p := pl)
      have KS := Lib.hid (ini_pl KQ.out (q + 1))
      clear h
      go_upto_region 15 with fail
      go_region
      all_goals
        go_wp2_with fail
        go_roundg (31 - (q + 1))
        case measure => omega
        case rel => exact ⟨q + 1, by omega, q5, rfl, KS.out⟩
    · have dq := shr_not h
      have q5 := Lib.hid (stepP_done h q1 q2)
      clear h
      go_upto_region 15 with fail
      go_region
      all_goals
        go_wp2_with fail
        exact HK.out _ _ _ _ _ _ _ _ _ _ _ _ _ _ _ _ _ _ _ _ _ _ _ _ _ _ _ _ _ _ _ _ _ _ _ _ _ _ _ _ _ _ _ _ _ _ _ _ _ _ _ _ _ _ _ _ _ (by rw [← q5.out]; exact KQ.out)
end Go.Proofs.Ytnpoakabheeoeaa
