/- marks.Parse: at the first SOT, QCD's bytes are asked. -/
import Derived.Test.YtlhlhlabnjfhcaaPr
namespace Go.Proofs.Ytlhlhlabnjfhcaa
open Go.RowKit Go.Maps

set_option maxRecDepth 100000 in
set_option maxHeartbeats 4000000 in
theorem end_bands {w0 W : World} {B1 pb rb mb n : Nat} {h : HeadM} {cv mv : Value} {l b1 b2 : List UInt8} {f : Int → Option (List UInt8)} (s : St w0 B1 pb rb mb h cv mv l n f W) (h1 : f 65362 = some b1) (h2 : f 65372 = some b2) (hl : h.comps.length ≤ 1000000000) (hF : frameE ⟨h.x, h.y, h.ox, h.oy, h.comps⟩ h.p = 0) (hl4 : h.comps.length ≤ 4) (hcs : ∀ c ∈ h.comps, 1 ≤ c.depth ∧ c.depth ≤ 16) (l0 : 0 ≤ h.p.lv) (l5 : h.p.lv ≤ 5) (hb9 : b2.length ≤ 1000000000) :
    Calls Try.prog 48 #[.pointer (some ⟨pb, 0, none⟩)] W fun e W' => ∃ r : Int, e = .returned (.int .i64 r) ∧ (r = 0 ↔ b2 = qcdM ⟨h.x, h.y, h.ox, h.oy, h.comps⟩ h.p) ∧ (r = 0 ∨ r = 10) ∧ Below W.heap.size W W' := by
  obtain ⟨ca, cc, rfl⟩ := s.c.slice
  have c19 : W.cell? ⟨pb, 19, none⟩ = some (.map (some mb)) := s.p.cell 19
  have c1 : W.cell? ⟨pb, 1, none⟩ = some (.int .i64 h.x) := s.p.cell 1
  have c2 : W.cell? ⟨pb, 2, none⟩ = some (.int .i64 h.y) := s.p.cell 2
  have c3 : W.cell? ⟨pb, 3, none⟩ = some (.int .i64 h.ox) := s.p.cell 3
  have c4 : W.cell? ⟨pb, 4, none⟩ = some (.int .i64 h.oy) := s.p.cell 4
  have c5 : W.cell? ⟨pb, 5, none⟩ = some (.slice ca h.comps.length cc) := s.p.cell 5
  have c6 : W.cell? ⟨pb, 6, none⟩ = some (.int .i64 h.p.tx) := s.p.cell 6
  have c7 : W.cell? ⟨pb, 7, none⟩ = some (.int .i64 h.p.ty) := s.p.cell 7
  have c8 : W.cell? ⟨pb, 8, none⟩ = some (.int .i64 h.p.lv) := s.p.cell 8
  have c9 : W.cell? ⟨pb, 9, none⟩ = some (.int .i64 h.p.cbw) := s.p.cell 9
  have c10 : W.cell? ⟨pb, 10, none⟩ = some (.int .i64 h.p.cbh) := s.p.cell 10
  have c11 : W.cell? ⟨pb, 11, none⟩ = some (.int .i64 h.p.prec) := s.p.cell 11
  have c12 : W.cell? ⟨pb, 12, none⟩ = some (.int .i64 h.p.style) := s.p.cell 12
  have c13 : W.cell? ⟨pb, 13, none⟩ = some (.int .i64 h.p.order) := s.p.cell 13
  have c14 : W.cell? ⟨pb, 14, none⟩ = some (.int .i64 h.p.layers) := s.p.cell 14
  have c15 : W.cell? ⟨pb, 15, none⟩ = some (.bool h.p.rct) := s.p.cell 15
  have c16 : W.cell? ⟨pb, 16, none⟩ = some (.bool h.p.sop) := s.p.cell 16
  have c17 : W.cell? ⟨pb, 17, none⟩ = some (.bool h.p.eph) := s.p.cell 17
  have sf := s.p.lt
  have SS := Lib.hid s.s
  have hb1 : (f 65362).isSome = true := by rw [h1]; rfl
  have hb2 : (f 65372).isSome = true := by rw [h2]; rfl
  have FR := Lib.hid fun (w : World) (hc : CompsRd w (.slice ca h.comps.length cc) h.comps) => frame_any ⟨h.x, h.y, h.ox, h.oy, h.comps⟩ (.slice ca h.comps.length cc) h.p w hc hl
  unfold imgV parV at FR
  rw [hF] at FR
  have PL := Lib.hid fun (w : World) (hc : CompsRd w (.slice ca h.comps.length cc) h.comps) (hm : ∃ a n c, mv = .slice a n c) => planes_any ⟨h.x, h.y, h.ox, h.oy, h.comps⟩ (.slice ca h.comps.length cc) h.p mv w hc hm hl4 hcs l0 l5
  obtain ⟨ma, mc, rfl⟩ := owns_slice s.m
  have c18 : W.cell? ⟨pb, 18, none⟩ = some (.slice ma h.com.length mc) := s.p.cell 18
  generalize qcdM ⟨h.x, h.y, h.ox, h.oy, h.comps⟩ h.p = Q at *
  have CR := Lib.hid (CompsRd.of_owns s.c)
  clear s h1 hF
  go_enter Try.func48, Try.ntmps48
  go_upto_region 5 with (first | (at_lookup; refine wpList_seen_lookup rfl (.tmp 12) (.const (.int .i64 65362)) rfl mb n f rfl SS.out 65362 rfl (by decide) ?_; rw [hb1]; intro v1 hv1) | (at_lookup; refine wpList_seen_lookup rfl (.tmp 20) (.const (.int .i64 65372)) rfl mb n f rfl SS.out 65372 rfl (by decide) ?_; rw [hb2]; intro v2 hv2; rw [h2] at hv2))
  go_region_held3 (fun w' => w'.cell? ⟨pb, 1, none⟩ = some (.int .i64 h.x) ∧ w'.cell? ⟨pb, 2, none⟩ = some (.int .i64 h.y) ∧ w'.cell? ⟨pb, 3, none⟩ = some (.int .i64 h.ox) ∧ w'.cell? ⟨pb, 4, none⟩ = some (.int .i64 h.oy) ∧ w'.cell? ⟨pb, 5, none⟩ = some (.slice ca h.comps.length cc) ∧ w'.cell? ⟨pb, 6, none⟩ = some (.int .i64 h.p.tx) ∧ w'.cell? ⟨pb, 7, none⟩ = some (.int .i64 h.p.ty) ∧ w'.cell? ⟨pb, 8, none⟩ = some (.int .i64 h.p.lv) ∧ w'.cell? ⟨pb, 9, none⟩ = some (.int .i64 h.p.cbw) ∧ w'.cell? ⟨pb, 10, none⟩ = some (.int .i64 h.p.cbh) ∧ w'.cell? ⟨pb, 11, none⟩ = some (.int .i64 h.p.prec) ∧ w'.cell? ⟨pb, 12, none⟩ = some (.int .i64 h.p.style) ∧ w'.cell? ⟨pb, 13, none⟩ = some (.int .i64 h.p.order) ∧ w'.cell? ⟨pb, 14, none⟩ = some (.int .i64 h.p.layers) ∧ w'.cell? ⟨pb, 15, none⟩ = some (.bool h.p.rct) ∧ w'.cell? ⟨pb, 16, none⟩ = some (.bool h.p.sop) ∧ w'.cell? ⟨pb, 17, none⟩ = some (.bool h.p.eph))
    (first | (refine (fun HB : Below W.heap.size W _ => ⟨bcellC HB c1 sf, bcellC HB c2 sf, bcellC HB c3 sf, bcellC HB c4 sf, bcellC HB c5 sf, bcellC HB c6 sf, bcellC HB c7 sf, bcellC HB c8 sf, bcellC HB c9 sf, bcellC HB c10 sf, bcellC HB c11 sf, bcellC HB c12 sf, bcellC HB c13 sf, bcellC HB c14 sf, bcellC HB c15 sf, bcellC HB c16 sf, bcellC HB c17 sf⟩) ?_; repeat (first | exact HB1 | exact Below.refl _ _ | refine Below.drew ?_)))
    (first | (go_at_call 32; refine (FR.out _ (CR.out.keep (Below.refl _ _).drew)).mono ?_; rintro e w1 ⟨rfl, HB1'⟩; have HB1 : Below W.heap.size W w1 := (by first | exact ((Below.refl _ _).drew).trans HB1' | exact HB1')))
  all_goals
    obtain ⟨a2, q2, rfl⟩ := owns_slice hv2
    have HV2 : Hid (BV W (.slice a2 b2.length q2) b2) := OB.bv hv2
    have e1 := bcellC HB1 c1 sf
    have e2 := bcellC HB1 c2 sf
    have e3 := bcellC HB1 c3 sf
    have e4 := bcellC HB1 c4 sf
    have e5 := bcellC HB1 c5 sf
    have e6 := bcellC HB1 c6 sf
    have e7 := bcellC HB1 c7 sf
    have e8 := bcellC HB1 c8 sf
    have e9 := bcellC HB1 c9 sf
    have e10 := bcellC HB1 c10 sf
    have e11 := bcellC HB1 c11 sf
    have e12 := bcellC HB1 c12 sf
    have e13 := bcellC HB1 c13 sf
    have e14 := bcellC HB1 c14 sf
    have e15 := bcellC HB1 c15 sf
    have e16 := bcellC HB1 c16 sf
    have e17 := bcellC HB1 c17 sf
    have e18 := bcellC HB1 c18 sf
    have PL1 := Lib.hid (PL.out w1 (CR.out.keep HB1) ⟨_, _, _, rfl⟩)
    unfold headA at PL1
    have HB1h := Lib.hid HB1
    have HV3 := Lib.hid (HV2.out.keep HB1)
    clear HB1 HB1' FR CR hv1 hv2
    go_wp2_with (first | (go_at_call 37; refine PL1.out.mono ?_; rintro e w2 ⟨v3, rfl, ho3, hb3⟩; obtain ⟨a3, q3, rfl⟩ := owns_slice ho3; have HE := Lib.hid (bytes_same _ _ b2 Q w2 (HV3.out.keep hb3) (BV.of_owns ho3) hb9); have HBB := Lib.hid (HB1h.out.trans (hb3.mono HB1h.out.size)); clear ho3 hb3) | (go_at_call 31; refine HE.out.mono ?_; rintro e w3 ⟨r, k, rfl, hr, rfl⟩; have HR := Lib.hid hr; clear hr; cases r))
    all_goals
      go_wp2_with fail
      go_ret
    · exact ⟨10, rfl, by have := HR.out; simp at this; simp; exact this, .inr rfl, HBB.out.trans (below_drewN (Below.refl _ _) k)⟩
    · exact ⟨0, rfl, by have := HR.out; simp at this; simp; exact this, .inl rfl, HBB.out.trans (below_drewN (Below.refl _ _) k)⟩
end Go.Proofs.Ytlhlhlabnjfhcaa
