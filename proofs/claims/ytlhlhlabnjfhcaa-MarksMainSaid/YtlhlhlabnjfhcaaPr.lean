/- marks.Parse: the parser's state, and what a head's segments come to. marks.Parse: one segment. marks.Parse: COD, QCD, COM. marks.Parse: COM. marks.Parse: at the first SOT, where COD or QCD lacks. -/
import Derived.Test.YtlhlhlabnjfhcaaMkG
import Derived.Test.YtlhlhlabnjfhcaaMnD
import Derived.Test.YtlhlhlabnjfhcaaCv
import Derived.Test.YtlhlhlabnjfhcaaPsA
import Derived.Test.YtlhlhlabnjfhcaaFmM
import Derived.Maps.OwnOps
import Derived.Deep.RegionHeld3
namespace Go.Proofs.Ytlhlhlabnjfhcaa
open Go.RowKit Go.Maps

theorem Rdr.grown {w w' : World} {rb g : Nat} {l : List UInt8} {e : Int} (h : Rdr w rb l e) (hg : w.grownBy w' (some g)) (hlt : rb < g) : Rdr w' rb l e := by
  obtain ⟨A, c, h0, h1, h2, h3⟩ := h
  refine ⟨A, c, h0.grown hg (by intro e; injection e with e; omega), h1, h2, h3.keep fun p hp => ?_⟩
  exact World.cell?_of_block (hg.block p.block (Nat.lt_trans hp h0.lt) (by intro e; injection e with e; omega))

/-- the parser's state: the head so far, the bytes that are left, the segments that were seen -/
structure St (w0 : World) (B1 pb rb mb : Nat) (h : HeadM) (cv mv : Value) (l : List UInt8) (n : Nat) (f : Int → Option (List UInt8)) (W : World) : Prop where
  p : Blk W pb 66 (prsA rb mb h cv mv)
  r : Rdr W rb l 0
  s : Seen W mb n f
  c : CompsOwn W B1 cv h.comps
  m : OB W mv h.com
  b : Below w0.heap.size w0 W
  r0 : w0.heap.size ≤ rb
  rp : rb < pb
  rm : rb < mb
  pB : pb < B1
  mB : mb < B1
  BW : B1 ≤ W.heap.size

theorem St.below {w0 W W' : World} {B1 pb rb mb n : Nat} {h : HeadM} {cv mv : Value} {l : List UInt8} {f : Int → Option (List UInt8)} (s : St w0 B1 pb rb mb h cv mv l n f W) (hb : Below W.heap.size W W') : St w0 B1 pb rb mb h cv mv l n f W' :=
  ⟨s.p.below hb s.p.lt, s.r.keep hb, s.s.below hb, s.c.keep hb, s.m.below hb, s.b.trans (hb.mono s.b.size), s.r0, s.rp, s.rm, s.pB, s.mB, Nat.le_trans s.BW hb.size⟩
/-- the reader has gone on -/
theorem St.read {w0 W W' : World} {B1 pb rb mb n : Nat} {h : HeadM} {cv mv : Value} {l l' : List UInt8} {f : Int → Option (List UInt8)} (s : St w0 B1 pb rb mb h cv mv l n f W) (hg : W.grownBy W' (some rb)) (hr : Rdr W' rb l' 0) : St w0 B1 pb rb mb h cv mv l' n f W' :=
  ⟨s.p.grown hg (by intro e; injection e with e; have := s.rp; omega), hr, s.s.keep hg (by intro e; injection e with e; have := s.rm; omega) (by rintro g ⟨⟩; exact s.r.noB), s.c.grown hg (by have := s.rp; have := s.pB; omega), s.m.grown hg (by rintro g ⟨⟩; exact s.r.noB),
    s.b.trans (below_grown hg s.b.size (by rintro k ⟨⟩; exact s.r0)), s.r0, s.rp, s.rm, s.pB, s.mB, Nat.le_trans s.BW hg.size⟩
/-- the parser's own cells were written -/
theorem St.wrote {w0 W W' : World} {B1 pb rb mb n : Nat} {h h' : HeadM} {cv mv : Value} {l : List UInt8} {f : Int → Option (List UInt8)} (s : St w0 B1 pb rb mb h cv mv l n f W) (hg : W.grownBy W' (some pb)) (hp : Blk W' pb 66 (prsA rb mb h' cv mv)) (hc : h'.comps = h.comps) (hm : h'.com = h.com) : St w0 B1 pb rb mb h' cv mv l n f W' :=
  ⟨hp, s.r.grown hg s.rp, s.s.keep hg (fun e => s.s.ne_blk s.p (by injection e with e; exact e.symm)) (by rintro g ⟨⟩; exact s.p.noB (by decide)), by rw [hc]; exact s.c.grown hg s.pB, by rw [hm]; exact s.m.grown hg (by rintro g ⟨⟩; exact s.p.noB (by decide)),
    s.b.trans (below_grown hg s.b.size (by rintro k ⟨⟩; have := s.r0; have := s.rp; omega)), s.r0, s.rp, s.rm, s.pB, s.mB, Nat.le_trans s.BW hg.size⟩
/-- a segment was laid into the map -/
theorem St.saw {w0 W W' : World} {B1 pb rb mb n n' : Nat} {h : HeadM} {cv mv : Value} {l : List UInt8} {f f' : Int → Option (List UInt8)} (s : St w0 B1 pb rb mb h cv mv l n f W) (hg : W.grownBy W' (some mb)) (hs : Seen W' mb n' f') : St w0 B1 pb rb mb h cv mv l n' f' W' :=
  ⟨s.p.grown hg (fun e => s.s.ne_blk s.p (by injection e with e)), s.r.grown hg s.rm, hs, s.c.grown hg s.mB, s.m.grown hg (by rintro g ⟨⟩; exact s.s.noB),
    s.b.trans (below_grown hg s.b.size (by rintro k ⟨⟩; have := s.r0; have := s.rm; omega)), s.r0, s.rp, s.rm, s.pB, s.mB, Nat.le_trans s.BW hg.size⟩
end Go.Proofs.Ytlhlhlabnjfhcaa
namespace Go.Proofs.Ytlhlhlabnjfhcaa
open Go.RowKit Go.Maps

set_option maxRecDepth 100000 in
/-- a marker that is bad by itself, or one that has no length -/
theorem one_mark (pb : Nat) (m : Int) (W : World) (h : otherE m ≠ 0 ∨ otherL m = false) :
    Calls Try.prog 49 #[.pointer (some ⟨pb, 0, none⟩), .int .i64 m] W fun e W' => e = .returned (.int .i64 (otherE m)) ∧ W = W' := by
  have O := Lib.hid (other_any m W)
  have h' : (otherE m != 0) = true ∨ ((otherE m != 0) = false ∧ otherL m = false) := by
    by_cases he : otherE m = 0
    · rcases h with h | h
      · exact absurd he h
      · exact .inr ⟨by simp [he], h⟩
    · exact .inl (by simp [he])
  clear h
  generalize otherE m = er at *
  generalize otherL m = lg at *
  go_enter Try.func49, Try.ntmps49
  rcases h' with h | ⟨h, rfl⟩
  all_goals
    go_wp2_with (go_at_call 64; refine O.out.mono ?_; rintro e w' ⟨rfl, rfl⟩)
    go_ret
    exact ⟨rfl, rfl⟩

set_option maxRecDepth 100000 in
set_option maxHeartbeats 1000000 in
/-- COD or QCD once more -/
theorem one_twice {w0 W : World} {B1 pb rb mb n : Nat} {h : HeadM} {cv mv : Value} {l : List UInt8} {f : Int → Option (List UInt8)} (s : St w0 B1 pb rb mb h cv mv l n f W) (m : Int) (hm : m = 65362 ∨ m = 65372) (hf : f m ≠ none) :
    Calls Try.prog 49 #[.pointer (some ⟨pb, 0, none⟩), .int .i64 m] W fun e W' => e = .returned (.int .i64 10) ∧ W = W' := by
  have O := Lib.hid (other_any m W)
  have he : otherE m = 0 := by rcases hm with rfl | rfl <;> decide
  have hl : otherL m = true := by rcases hm with rfl | rfl <;> decide
  rw [he, hl] at O
  have c19 : W.cell? ⟨pb, 19, none⟩ = some (.map (some mb)) := s.p.cell 19
  have SS := Lib.hid s.s
  have hs : (f m).isSome = true := Option.isSome_iff_ne_none.2 hf
  clear s hf he hl
  rcases hm with rfl | rfl
  all_goals
    go_enter Try.func49, Try.ntmps49
    go_wp2_with (first | (go_at_call 64; refine O.out.mono ?_; rintro e w' ⟨rfl, rfl⟩) | (at_lookup; go_must (refine wpList_seen_lookup rfl (.tmp 27) (.tmp 28) rfl mb n f rfl SS.out _ rfl (by decide) ?_; rw [hs]; intro v hv)))
    go_ret
    exact ⟨rfl, rfl⟩

set_option maxRecDepth 100000 in
set_option maxHeartbeats 1000000 in
/-- a segment whose length or bytes lack -/
theorem one_nobody {w0 W : World} {B1 pb rb mb n : Nat} {h : HeadM} {cv mv : Value} {l : List UInt8} {f : Int → Option (List UInt8)} (s : St w0 B1 pb rb mb h cv mv l n f W) (m : Int) (he : otherE m = 0) (hl : otherL m = true) (hwf : (Lit.int .i64 m).wf = true) (hd : ¬((m = 65362 ∨ m = 65372) ∧ f m ≠ none)) (hb : bodyF l = none) (hlen : l.length ≤ 1000000000) :
    Calls Try.prog 49 #[.pointer (some ⟨pb, 0, none⟩), .int .i64 m] W fun e W' => e = .returned (.int .i64 10) ∧ W.grownBy W' (some rb) := by
  have O := Lib.hid (other_any m W)
  rw [he, hl] at O
  have c19 : W.cell? ⟨pb, 19, none⟩ = some (.map (some mb)) := s.p.cell 19
  have SS := Lib.hid s.s
  have BD := Lib.hid (body_bad pb rb _ l W s.p rfl s.r hlen hb)
  have hs : ∃ b, (f m).isSome = b ∧ (b = false ∨ (b = true ∧ (m == 65362) = false ∧ (m == 65372) = false)) := by
    cases hf : f m with
    | none => exact ⟨false, rfl, .inl rfl⟩
    | some x =>
      refine ⟨true, rfl, .inr ⟨rfl, ?_, ?_⟩⟩
      · simp only [beq_eq_false_iff_ne, ne_eq]; exact fun e => hd ⟨.inl e, by simp [hf]⟩
      · simp only [beq_eq_false_iff_ne, ne_eq]; exact fun e => hd ⟨.inr e, by simp [hf]⟩
  obtain ⟨b, hb1, hb2⟩ := hs
  have HWF := Lib.hid hwf
  clear s he hl hd hb hwf
  go_enter Try.func49, Try.ntmps49
  rcases hb2 with rfl | ⟨rfl, h1, h2⟩
  all_goals
    go_wp2_with (first | (go_at_call 64; refine O.out.mono ?_; rintro e w' ⟨rfl, rfl⟩) | (at_lookup; go_must (refine wpList_seen_lookup rfl (.tmp 27) (.tmp 28) rfl mb n f rfl SS.out _ rfl HWF.out ?_; rw [hb1]; intro v hv)) | (go_at_call 46; refine BD.out.mono ?_; rintro e w1 ⟨v1, rfl, hg⟩))
    go_ret
    exact ⟨rfl, hg⟩

set_option maxRecDepth 100000 in
set_option maxHeartbeats 1000000 in
/-- a segment that is none of those read -/
theorem one_other {w0 W : World} {B1 pb rb mb n : Nat} {h : HeadM} {cv mv : Value} {l b l' : List UInt8} {f : Int → Option (List UInt8)} (s : St w0 B1 pb rb mb h cv mv l n f W) (m : Int) (he : otherE m = 0) (hl : otherL m = true) (hwf : (Lit.int .i64 m).wf = true) (h1 : (m == 65362) = false) (h2 : (m == 65372) = false) (h3 : (m == 65380) = false) (hb : bodyF l = some (b, l')) (hlen : l.length ≤ 1000000000) (hn : n < maxLen) :
    Calls Try.prog 49 #[.pointer (some ⟨pb, 0, none⟩), .int .i64 m] W fun e W' => e = .returned (.int .i64 0) ∧ St w0 B1 pb rb mb h cv mv l' (n + 1) (setF f m b) W' := by
  have O := Lib.hid (other_any m W)
  rw [he, hl] at O
  have c19 : W.cell? ⟨pb, 19, none⟩ = some (.map (some mb)) := s.p.cell 19
  have SS := Lib.hid s.s
  have BD := Lib.hid (body_ok pb rb _ l b l' W s.p rfl s.r hlen hb)
  obtain ⟨wb, hwb⟩ : ∃ x, (f m).isSome = x := ⟨_, rfl⟩
  have HWF := Lib.hid hwf
  have S := Lib.hid s
  clear s he hl hb hwf
  go_enter Try.func49, Try.ntmps49
  cases wb
  all_goals
    go_upto_region 10 with (first | (go_at_call 64; refine O.out.mono ?_; rintro e w' ⟨rfl, rfl⟩) | (at_lookup; go_must (refine wpList_seen_lookup rfl (.tmp 27) (.tmp 28) rfl mb n f rfl SS.out _ rfl HWF.out ?_; rw [hwb]; intro v hv)) | (go_at_call 46; refine BD.out.mono ?_; rintro e w1 ⟨v1, rfl, ho1, hr1, hg1⟩))
    have s1 := S.out.read hg1 hr1
    have d19 : w1.cell? ⟨pb, 19, none⟩ = some (.map (some mb)) := s1.p.cell 19
    have S1 := Lib.hid s1
    obtain ⟨a1, q1, rfl⟩ := owns_slice ho1
    have HO1 := Lib.hid ho1
    clear hr1 hg1 s1 ho1
    go_wp2_with (at_mapUpdate; go_must (refine wpList_seen_store rfl (.tmp 51) (.tmp 52) (.tmp 53) rfl mb n f rfl S1.out.s hn _ rfl HWF.out _ b rfl HO1.out ?_; intro w2 hs2 hg2 hk2))
    go_ret
    exact ⟨rfl, S1.out.saw hg2 hs2⟩
end Go.Proofs.Ytlhlhlabnjfhcaa
namespace Go.Proofs.Ytlhlhlabnjfhcaa
open Go.RowKit Go.Maps

set_option maxRecDepth 100000 in
set_option maxHeartbeats 1000000 in
theorem one_codway {w0 W : World} {B1 pb rb mb n : Nat} {h : HeadM} {cv mv : Value} {l b l' : List UInt8} {f : Int → Option (List UInt8)} (s : St w0 B1 pb rb mb h cv mv l n f W) (hf : f 65362 = none) (h9 : b[9]? = some 0) (hb : bodyF l = some (b, l')) (hlen : l.length ≤ 1000000000) (hn : n < maxLen) :
    Calls Try.prog 49 #[.pointer (some ⟨pb, 0, none⟩), .int .i64 65362] W fun e W' => e = .returned (.int .i64 13) ∧ Below w0.heap.size w0 W' := by
  have O := Lib.hid (other_any 65362 W)
  rw [show otherE 65362 = 0 by decide, show otherL 65362 = true by decide] at O
  have c19 : W.cell? ⟨pb, 19, none⟩ = some (.map (some mb)) := s.p.cell 19
  have SS := Lib.hid s.s
  have BD := Lib.hid (body_ok pb rb _ l b l' W s.p rfl s.r hlen hb)
  obtain ⟨wb, hwb⟩ : ∃ x, (f 65362).isSome = x := ⟨_, rfl⟩
  have hwf0 : wb = false := by rw [← hwb, hf]; rfl
  subst hwf0
  have S := Lib.hid s
  clear s hb
  go_enter Try.func49, Try.ntmps49
  go_upto_region 10 with (first | (go_at_call 64; refine O.out.mono ?_; rintro e w' ⟨rfl, rfl⟩) | (at_lookup; go_must (refine wpList_seen_lookup rfl (.tmp 27) (.tmp 28) rfl mb n f rfl SS.out _ rfl (by decide) ?_; rw [hwb]; intro v hv)) | (go_at_call 46; refine BD.out.mono ?_; rintro e w1 ⟨v1, rfl, ho1, hr1, hg1⟩))
  have s1 := S.out.read hg1 hr1
  have d19 : w1.cell? ⟨pb, 19, none⟩ = some (.map (some mb)) := s1.p.cell 19
  have S1 := Lib.hid s1
  obtain ⟨a1, q1, rfl⟩ := owns_slice ho1
  have HO1 := Lib.hid ho1
  clear hr1 hg1 s1 ho1
  go_wp2_with (first | (at_mapUpdate; go_must (refine wpList_seen_store rfl (.tmp 51) (.tmp 52) (.tmp 53) rfl mb n f rfl S1.out.s hn _ rfl (by decide) _ b rfl HO1.out ?_; intro w2 hs2 hg2 hk2)) | (go_at_call 65; refine (code_way pb _ b w2 (hk2 _ _ HO1.out).bv h9).mono ?_; rintro e w3 ⟨rfl, rfl⟩))
  go_ret
  exact ⟨rfl, (S1.out.saw hg2 hs2).b⟩

set_option maxRecDepth 100000 in
set_option maxHeartbeats 1000000 in
theorem one_cod {w0 W : World} {B1 pb rb mb n : Nat} {h : HeadM} {cv mv : Value} {l b l' : List UInt8} {f : Int → Option (List UInt8)} (s : St w0 B1 pb rb mb h cv mv l n f W) (hf : f 65362 = none) (d : CodD) (hd : d.ok) (hbd : b = codB d 1) (hb : bodyF l = some (b, l')) (hlen : l.length ≤ 1000000000) (hn : n < maxLen) :
    Calls Try.prog 49 #[.pointer (some ⟨pb, 0, none⟩), .int .i64 65362] W fun e W' => e = .returned (.int .i64 0) ∧ St w0 B1 pb rb mb { h with p := codP d h.p } cv mv l' (n + 1) (setF f 65362 b) W' := by
  have O := Lib.hid (other_any 65362 W)
  rw [show otherE 65362 = 0 by decide, show otherL 65362 = true by decide] at O
  have c19 : W.cell? ⟨pb, 19, none⟩ = some (.map (some mb)) := s.p.cell 19
  have SS := Lib.hid s.s
  have BD := Lib.hid (body_ok pb rb _ l b l' W s.p rfl s.r hlen hb)
  obtain ⟨wb, hwb⟩ : ∃ x, (f 65362).isSome = x := ⟨_, rfl⟩
  have hwf0 : wb = false := by rw [← hwb, hf]; rfl
  subst hwf0
  have S := Lib.hid s
  clear s hb
  go_enter Try.func49, Try.ntmps49
  go_upto_region 10 with (first | (go_at_call 64; refine O.out.mono ?_; rintro e w' ⟨rfl, rfl⟩) | (at_lookup; go_must (refine wpList_seen_lookup rfl (.tmp 27) (.tmp 28) rfl mb n f rfl SS.out _ rfl (by decide) ?_; rw [hwb]; intro v hv)) | (go_at_call 46; refine BD.out.mono ?_; rintro e w1 ⟨v1, rfl, ho1, hr1, hg1⟩))
  have s1 := S.out.read hg1 hr1
  have d19 : w1.cell? ⟨pb, 19, none⟩ = some (.map (some mb)) := s1.p.cell 19
  have S1 := Lib.hid s1
  obtain ⟨a1, q1, rfl⟩ := owns_slice ho1
  have HO1 := Lib.hid ho1
  clear hr1 hg1 s1 ho1
  go_wp2_with (first | (at_mapUpdate; go_must (refine wpList_seen_store rfl (.tmp 51) (.tmp 52) (.tmp 53) rfl mb n f rfl S1.out.s hn _ rfl (by decide) _ b rfl HO1.out ?_; intro w2 hs2 hg2 hk2)) | (go_at_call 65; refine (code_ok pb rb mb h cv mv _ d w2 (S1.out.saw hg2 hs2).p (by rw [← hbd]; exact (hk2 _ _ HO1.out).bv) hd).mono ?_; rintro e w3 ⟨rfl, hp3, hg3⟩))
  go_ret
  exact ⟨rfl, (S1.out.saw hg2 hs2).wrote hg3 hp3 rfl rfl⟩

set_option maxRecDepth 100000 in
set_option maxHeartbeats 1000000 in
theorem one_comshort {w0 W : World} {B1 pb rb mb n : Nat} {h : HeadM} {cv mv : Value} {l b l' : List UInt8} {f : Int → Option (List UInt8)} (s : St w0 B1 pb rb mb h cv mv l n f W) (h2 : b.length < 2) (hb : bodyF l = some (b, l')) (hlen : l.length ≤ 1000000000) (hn : n < maxLen) :
    Calls Try.prog 49 #[.pointer (some ⟨pb, 0, none⟩), .int .i64 65380] W fun e W' => e = .returned (.int .i64 10) ∧ Below w0.heap.size w0 W' := by
  have O := Lib.hid (other_any 65380 W)
  rw [show otherE 65380 = 0 by decide, show otherL 65380 = true by decide] at O
  have c19 : W.cell? ⟨pb, 19, none⟩ = some (.map (some mb)) := s.p.cell 19
  have SS := Lib.hid s.s
  have BD := Lib.hid (body_ok pb rb _ l b l' W s.p rfl s.r hlen hb)
  obtain ⟨wb, hwb⟩ : ∃ x, (f 65380).isSome = x := ⟨_, rfl⟩
  have S := Lib.hid s
  clear s hb
  go_enter Try.func49, Try.ntmps49
  have d2 : decide ((b.length : Int) < 2) = true := by simp; omega
  cases wb
  all_goals
    go_upto_region 10 with (first | (go_at_call 64; refine O.out.mono ?_; rintro e w' ⟨rfl, rfl⟩) | (at_lookup; go_must (refine wpList_seen_lookup rfl (.tmp 27) (.tmp 28) rfl mb n f rfl SS.out _ rfl (by decide) ?_; rw [hwb]; intro v hv)) | (go_at_call 46; refine BD.out.mono ?_; rintro e w1 ⟨v1, rfl, ho1, hr1, hg1⟩))
    have s1 := S.out.read hg1 hr1
    have d19 : w1.cell? ⟨pb, 19, none⟩ = some (.map (some mb)) := s1.p.cell 19
    have S1 := Lib.hid s1
    obtain ⟨a1, q1, rfl⟩ := owns_slice ho1
    have HO1 := Lib.hid ho1
    clear hr1 hg1 s1 ho1
    go_wp2_with (at_mapUpdate; go_must (refine wpList_seen_store rfl (.tmp 51) (.tmp 52) (.tmp 53) rfl mb n f rfl S1.out.s hn _ rfl (by decide) _ b rfl HO1.out ?_; intro w2 hs2 hg2 hk2))
    go_ret
    exact ⟨rfl, (S1.out.saw hg2 hs2).b⟩

set_option maxRecDepth 100000 in
set_option maxHeartbeats 1000000 in
theorem one_qcdway {w0 W : World} {B1 pb rb mb n : Nat} {h : HeadM} {cv mv : Value} {l b l' : List UInt8} {f : Int → Option (List UInt8)} (s : St w0 B1 pb rb mb h cv mv l n f W) (hf : f 65372 = none) (c : UInt8) (h0 : b[0]? = some c) (hq : (bits .and .u8 (c.toNat : Int) 31 != 0) = true) (hb : bodyF l = some (b, l')) (hlen : l.length ≤ 1000000000) (hn : n < maxLen) :
    Calls Try.prog 49 #[.pointer (some ⟨pb, 0, none⟩), .int .i64 65372] W fun e W' => e = .returned (.int .i64 13) ∧ Below w0.heap.size w0 W' := by
  have O := Lib.hid (other_any 65372 W)
  rw [show otherE 65372 = 0 by decide, show otherL 65372 = true by decide] at O
  have c19 : W.cell? ⟨pb, 19, none⟩ = some (.map (some mb)) := s.p.cell 19
  have SS := Lib.hid s.s
  have BD := Lib.hid (body_ok pb rb _ l b l' W s.p rfl s.r hlen hb)
  obtain ⟨wb, hwb⟩ : ∃ x, (f 65372).isSome = x := ⟨_, rfl⟩
  have hwf0 : wb = false := by rw [← hwb, hf]; rfl
  subst hwf0
  have S := Lib.hid s
  clear s hb
  go_enter Try.func49, Try.ntmps49
  have hpos : (0 : Int) < (b.length : Int) := by have := (List.getElem?_eq_some_iff.1 h0).1; omega
  go_upto_region 10 with (first | (go_at_call 64; refine O.out.mono ?_; rintro e w' ⟨rfl, rfl⟩) | (at_lookup; go_must (refine wpList_seen_lookup rfl (.tmp 27) (.tmp 28) rfl mb n f rfl SS.out _ rfl (by decide) ?_; rw [hwb]; intro v hv)) | (go_at_call 46; refine BD.out.mono ?_; rintro e w1 ⟨v1, rfl, ho1, hr1, hg1⟩))
  have s1 := S.out.read hg1 hr1
  have d19 : w1.cell? ⟨pb, 19, none⟩ = some (.map (some mb)) := s1.p.cell 19
  have S1 := Lib.hid s1
  obtain ⟨a1, q1, rfl⟩ := owns_slice ho1
  have HO1 := Lib.hid ho1
  clear hr1 hg1 s1 ho1
  go_upto_region 15 with (at_mapUpdate; go_must (refine wpList_seen_store rfl (.tmp 51) (.tmp 52) (.tmp 53) rfl mb n f rfl S1.out.s hn _ rfl (by decide) _ b rfl HO1.out ?_; intro w2 hs2 hg2 hk2))
  obtain ⟨_, _, he, -, -, r2⟩ := (hk2 _ _ HO1.out).bv
  cases he
  obtain ⟨ad, rfl, -, b0⟩ := r2.cell h0
  replace b0 : w2.cell? ad = some (.int .u8 (c.toNat : Int)) := b0
  have S2 := Lib.hid (S1.out.saw hg2 hs2)
  clear r2 hs2 hg2 hk2 SS S1 HO1
  go_wp2_with fail
  go_ret
  exact ⟨rfl, (S2.out).b⟩

set_option maxRecDepth 100000 in
set_option maxHeartbeats 1000000 in
theorem one_qcd {w0 W : World} {B1 pb rb mb n : Nat} {h : HeadM} {cv mv : Value} {l b l' : List UInt8} {f : Int → Option (List UInt8)} (s : St w0 B1 pb rb mb h cv mv l n f W) (hf : f 65372 = none) (c : UInt8) (h0 : b[0]? = some c) (hq : (bits .and .u8 (c.toNat : Int) 31 != 0) = false) (hb : bodyF l = some (b, l')) (hlen : l.length ≤ 1000000000) (hn : n < maxLen) :
    Calls Try.prog 49 #[.pointer (some ⟨pb, 0, none⟩), .int .i64 65372] W fun e W' => e = .returned (.int .i64 0) ∧ St w0 B1 pb rb mb h cv mv l' (n + 1) (setF f 65372 b) W' := by
  have O := Lib.hid (other_any 65372 W)
  rw [show otherE 65372 = 0 by decide, show otherL 65372 = true by decide] at O
  have c19 : W.cell? ⟨pb, 19, none⟩ = some (.map (some mb)) := s.p.cell 19
  have SS := Lib.hid s.s
  have BD := Lib.hid (body_ok pb rb _ l b l' W s.p rfl s.r hlen hb)
  obtain ⟨wb, hwb⟩ : ∃ x, (f 65372).isSome = x := ⟨_, rfl⟩
  have hwf0 : wb = false := by rw [← hwb, hf]; rfl
  subst hwf0
  have S := Lib.hid s
  clear s hb
  go_enter Try.func49, Try.ntmps49
  have hpos : (0 : Int) < (b.length : Int) := by have := (List.getElem?_eq_some_iff.1 h0).1; omega
  go_upto_region 10 with (first | (go_at_call 64; refine O.out.mono ?_; rintro e w' ⟨rfl, rfl⟩) | (at_lookup; go_must (refine wpList_seen_lookup rfl (.tmp 27) (.tmp 28) rfl mb n f rfl SS.out _ rfl (by decide) ?_; rw [hwb]; intro v hv)) | (go_at_call 46; refine BD.out.mono ?_; rintro e w1 ⟨v1, rfl, ho1, hr1, hg1⟩))
  have s1 := S.out.read hg1 hr1
  have d19 : w1.cell? ⟨pb, 19, none⟩ = some (.map (some mb)) := s1.p.cell 19
  have S1 := Lib.hid s1
  obtain ⟨a1, q1, rfl⟩ := owns_slice ho1
  have HO1 := Lib.hid ho1
  clear hr1 hg1 s1 ho1
  go_upto_region 15 with (at_mapUpdate; go_must (refine wpList_seen_store rfl (.tmp 51) (.tmp 52) (.tmp 53) rfl mb n f rfl S1.out.s hn _ rfl (by decide) _ b rfl HO1.out ?_; intro w2 hs2 hg2 hk2))
  obtain ⟨_, _, he, -, -, r2⟩ := (hk2 _ _ HO1.out).bv
  cases he
  obtain ⟨ad, rfl, -, b0⟩ := r2.cell h0
  replace b0 : w2.cell? ad = some (.int .u8 (c.toNat : Int)) := b0
  have S2 := Lib.hid (S1.out.saw hg2 hs2)
  clear r2 hs2 hg2 hk2 SS S1 HO1
  go_wp2_with fail
  go_ret
  exact ⟨rfl, S2.out⟩

end Go.Proofs.Ytlhlhlabnjfhcaa
namespace Go.Proofs.Ytlhlhlabnjfhcaa
open Go.RowKit Go.Maps

theorem St.commented {w0 W : World} {B1 pb rb mb n : Nat} {h : HeadM} {cv mv u : Value} {l b : List UInt8} {f : Int → Option (List UInt8)} (s : St w0 B1 pb rb mb h cv mv l n f W) (ho : OB W u b) : St w0 B1 pb rb mb { h with com := b } cv u l n f (W.setCell ⟨pb, 18, none⟩ u) := by
  have hg : W.grownBy (W.setCell ⟨pb, 18, none⟩ u) (some pb) := only_setCell (World.grownBy.refl _ _) (p := ⟨pb, 18, none⟩) (.inl rfl) u
  exact ⟨s.p.set_ 18 u, s.r.grown hg s.rp, s.s.keep hg (fun e => s.s.ne_blk s.p (by injection e with e; exact e.symm)) (by rintro g ⟨⟩; exact s.p.noB (by decide)), s.c.grown hg s.pB, ho.grown hg (by rintro g ⟨⟩; exact s.p.noB (by decide)),
    s.b.trans (below_grown hg s.b.size (by rintro k ⟨⟩; have := s.r0; have := s.rp; omega)), s.r0, s.rp, s.rm, s.pB, s.mB, Nat.le_trans s.BW hg.size⟩

set_option maxRecDepth 100000 in
set_option maxHeartbeats 1000000 in
theorem one_com {w0 W : World} {B1 pb rb mb n : Nat} {h : HeadM} {cv mv : Value} {l b l' : List UInt8} {f : Int → Option (List UInt8)} (s : St w0 B1 pb rb mb h cv mv l n f W) (h2 : 2 ≤ b.length) (hbl : b.length ≤ 1000000000) (hb : bodyF l = some (b, l')) (hlen : l.length ≤ 1000000000) (hn : n < maxLen) :
    Calls Try.prog 49 #[.pointer (some ⟨pb, 0, none⟩), .int .i64 65380] W fun e W' => e = .returned (.int .i64 0) ∧ ∃ mv', St w0 B1 pb rb mb { h with com := b.drop 2 } cv mv' l' (n + 1) (setF f 65380 b) W' := by
  have O := Lib.hid (other_any 65380 W)
  rw [show otherE 65380 = 0 by decide, show otherL 65380 = true by decide] at O
  have c19 : W.cell? ⟨pb, 19, none⟩ = some (.map (some mb)) := s.p.cell 19
  have SS := Lib.hid s.s
  have BD := Lib.hid (body_ok pb rb _ l b l' W s.p rfl s.r hlen hb)
  obtain ⟨wb, hwb⟩ : ∃ x, (f 65380).isSome = x := ⟨_, rfl⟩
  have S := Lib.hid s
  clear s hb
  go_enter Try.func49, Try.ntmps49
  have d2 : decide ((b.length : Int) < 2) = false := by simp; omega
  have z2 : (2 : Int) ≤ (b.length : Int) := by omega
  cases wb
  all_goals
    go_upto_region 10 with (first | (go_at_call 64; refine O.out.mono ?_; rintro e w' ⟨rfl, rfl⟩) | (at_lookup; go_must (refine wpList_seen_lookup rfl (.tmp 27) (.tmp 28) rfl mb n f rfl SS.out _ rfl (by decide) ?_; rw [hwb]; intro v hv)) | (go_at_call 46; refine BD.out.mono ?_; rintro e w1 ⟨v1, rfl, ho1, hr1, hg1⟩))
    have s1 := S.out.read hg1 hr1
    have d19 : w1.cell? ⟨pb, 19, none⟩ = some (.map (some mb)) := s1.p.cell 19
    have S1 := Lib.hid s1
    obtain ⟨a1, q1, rfl⟩ := owns_slice ho1
    have HO1 := Lib.hid ho1
    clear hr1 hg1 s1 ho1
    go_upto_region 20 with (at_mapUpdate; go_must (refine wpList_seen_store rfl (.tmp 51) (.tmp 52) (.tmp 53) rfl mb n f rfl S1.out.s hn _ rfl (by decide) _ b rfl HO1.out ?_; intro w2 hs2 hg2 hk2))
    obtain ⟨_, _, he, k1, k2, r2⟩ := (hk2 _ _ HO1.out).bv
    cases he
    have S2 := Lib.hid (S1.out.saw hg2 hs2)
    have hlen2 : b.length ≤ 140737488355328 := by omega
    have ed : (cellsB b).drop (2 * 1) = cellsB (b.drop 2) := by simp [cellsB]
    have RC := r2.cut (k := 2) h2 k1
    rw [ed] at RC
    have RC1 : q1 = 2 → Reads w2 w2.heap.size 1 a1 (b.length - 2) (cellsB (b.drop 2)) := fun e => by rw [if_pos e] at RC; exact RC
    have RC2 : ¬ q1 = 2 → Reads w2 w2.heap.size 1 (a1.map fun x => ⟨x.block, x.off + 2, none⟩) (b.length - 2) (cellsB (b.drop 2)) := fun e => by rw [if_neg e] at RC; exact RC
    have R1 := Lib.hid RC1
    have R2 := Lib.hid RC2
    clear RC RC1 RC2 r2 hs2 hg2 hk2 SS S1 HO1
    go_wp2_with fail
    case inl =>
      refine (cloneB _ _ _ (cellsB (b.drop 2)) w2 (R1.out (by assumption)) (cellsB_one _) (by omega)).mono ?_
      rintro e w3 ⟨v3, rfl, ho3, hb3⟩
      have s3 := S2.out.below hb3
      have c18 : w3.cell? ⟨pb, 18, none⟩ = some mv := s3.p.cell 18
      have f18 := s3.p.frozen 18
      obtain ⟨a3, q3, rfl⟩ := owns_slice ho3
      have S3 := Lib.hid s3
      have HO3 := Lib.hid ho3
      clear s3 ho3 hb3
      go_wp2_with fail
      go_ret
      exact ⟨rfl, _, S3.out.commented (OB.of (by rw [List.length_drop]; exact HO3.out))⟩
    case inr =>
      refine (cloneB _ _ _ (cellsB (b.drop 2)) w2 (R2.out (by assumption)) (cellsB_one _) (by omega)).mono ?_
      rintro e w3 ⟨v3, rfl, ho3, hb3⟩
      have s3 := S2.out.below hb3
      have c18 : w3.cell? ⟨pb, 18, none⟩ = some mv := s3.p.cell 18
      have f18 := s3.p.frozen 18
      obtain ⟨a3, q3, rfl⟩ := owns_slice ho3
      have S3 := Lib.hid s3
      have HO3 := Lib.hid ho3
      clear s3 ho3 hb3
      go_wp2_with fail
      go_ret
      exact ⟨rfl, _, S3.out.commented (OB.of (by rw [List.length_drop]; exact HO3.out))⟩
end Go.Proofs.Ytlhlhlabnjfhcaa
namespace Go.Proofs.Ytlhlhlabnjfhcaa
open Go.RowKit Go.Maps

set_option maxRecDepth 100000 in
set_option maxHeartbeats 1000000 in
theorem end_none {w0 W : World} {B1 pb rb mb n : Nat} {h : HeadM} {cv mv : Value} {l : List UInt8} {f : Int → Option (List UInt8)} (s : St w0 B1 pb rb mb h cv mv l n f W) (hf : f 65362 = none ∨ f 65372 = none) :
    Calls Try.prog 48 #[.pointer (some ⟨pb, 0, none⟩)] W fun e W' => e = .returned (.int .i64 10) ∧ W = W' := by
  have c19 : W.cell? ⟨pb, 19, none⟩ = some (.map (some mb)) := s.p.cell 19
  have SS := Lib.hid s.s
  obtain ⟨b1, hb1⟩ : ∃ x, (f 65362).isSome = x := ⟨_, rfl⟩
  obtain ⟨b2, hb2⟩ : ∃ x, (f 65372).isSome = x := ⟨_, rfl⟩
  have hb : (b1 && b2) = false := by
    rcases hf with h0 | h0
    · rw [h0] at hb1; rw [← hb1]; rfl
    · rw [h0] at hb2; rw [← hb2]; simp
  clear s hf
  go_enter Try.func48, Try.ntmps48
  cases b1 <;> cases b2
  case true.true => cases hb
  all_goals
    go_wp2_with (first | (at_lookup; refine wpList_seen_lookup rfl (.tmp 12) (.const (.int .i64 65362)) rfl mb n f rfl SS.out 65362 rfl (by decide) ?_; rw [hb1]; intro v1 hv1) | (at_lookup; refine wpList_seen_lookup rfl (.tmp 20) (.const (.int .i64 65372)) rfl mb n f rfl SS.out 65372 rfl (by decide) ?_; rw [hb2]; intro v2 hv2))
    go_ret
    exact ⟨rfl, rfl⟩

set_option maxRecDepth 100000 in
set_option maxHeartbeats 4000000 in
theorem end_frame {w0 W : World} {B1 pb rb mb n : Nat} {h : HeadM} {cv mv : Value} {l b1 b2 : List UInt8} {f : Int → Option (List UInt8)} (s : St w0 B1 pb rb mb h cv mv l n f W) (h1 : f 65362 = some b1) (h2 : f 65372 = some b2) (hl : h.comps.length ≤ 1000000000) (hF : frameE ⟨h.x, h.y, h.ox, h.oy, h.comps⟩ h.p ≠ 0) :
    Calls Try.prog 48 #[.pointer (some ⟨pb, 0, none⟩)] W fun e W' => e = .returned (.int .i64 (frameE ⟨h.x, h.y, h.ox, h.oy, h.comps⟩ h.p)) ∧ Below W.heap.size W W' := by
  obtain ⟨ca, cc, rfl⟩ := s.c.slice
  have c19 : W.cell? ⟨pb, 19, none⟩ = some (.map (some mb)) := s.p.cell 19
  have c1 : W.cell? ⟨pb, 1, none⟩ = some (.int .i64 h.x) := s.p.cell 1
  have c2 : W.cell? ⟨pb, 2, none⟩ = some (.int .i64 h.y) := s.p.cell 2
  have c3 : W.cell? ⟨pb, 3, none⟩ = some (.int .i64 h.ox) := s.p.cell 3
  have c4 : W.cell? ⟨pb, 4, none⟩ = some (.int .i64 h.oy) := s.p.cell 4
  have c5 : W.cell? ⟨pb, 5, none⟩ = some (.slice ca h.comps.length cc) := s.p.cell 5
  have c6 : W.cell? ⟨pb, 6, none⟩ = some (.int .i64 h.p.tx) := s.p.cell 6
  have c7 : W.cell? ⟨pb, 7, none⟩ = some (.int .i64 h.p.ty) := s.p.cell 7
  have c8 : W.cell? ⟨pb, 8, none⟩ = some (.int .i64 h.p.lv) := s.p.cell 8
  have c9 : W.cell? ⟨pb, 9, none⟩ = some (.int .i64 h.p.cbw) := s.p.cell 9
  have c10 : W.cell? ⟨pb, 10, none⟩ = some (.int .i64 h.p.cbh) := s.p.cell 10
  have c11 : W.cell? ⟨pb, 11, none⟩ = some (.int .i64 h.p.prec) := s.p.cell 11
  have c12 : W.cell? ⟨pb, 12, none⟩ = some (.int .i64 h.p.style) := s.p.cell 12
  have c13 : W.cell? ⟨pb, 13, none⟩ = some (.int .i64 h.p.order) := s.p.cell 13
  have c14 : W.cell? ⟨pb, 14, none⟩ = some (.int .i64 h.p.layers) := s.p.cell 14
  have c15 : W.cell? ⟨pb, 15, none⟩ = some (.bool h.p.rct) := s.p.cell 15
  have c16 : W.cell? ⟨pb, 16, none⟩ = some (.bool h.p.sop) := s.p.cell 16
  have c17 : W.cell? ⟨pb, 17, none⟩ = some (.bool h.p.eph) := s.p.cell 17
  have sf := s.p.lt
  have SS := Lib.hid s.s
  have hb1 : (f 65362).isSome = true := by rw [h1]; rfl
  have hb2 : (f 65372).isSome = true := by rw [h2]; rfl
  have FR := Lib.hid fun (w : World) (hc : CompsRd w (.slice ca h.comps.length cc) h.comps) => frame_any ⟨h.x, h.y, h.ox, h.oy, h.comps⟩ (.slice ca h.comps.length cc) h.p w hc hl
  unfold imgV parV at FR
  have hne : (frameE ⟨h.x, h.y, h.ox, h.oy, h.comps⟩ h.p != 0) = true := by simp [hF]
  generalize frameE ⟨h.x, h.y, h.ox, h.oy, h.comps⟩ h.p = fe at *
  have CR := Lib.hid (CompsRd.of_owns s.c)
  clear s h1 h2 hF
  go_enter Try.func48, Try.ntmps48
  go_upto_region 5 with (first | (at_lookup; refine wpList_seen_lookup rfl (.tmp 12) (.const (.int .i64 65362)) rfl mb n f rfl SS.out 65362 rfl (by decide) ?_; rw [hb1]; intro v1 hv1) | (at_lookup; refine wpList_seen_lookup rfl (.tmp 20) (.const (.int .i64 65372)) rfl mb n f rfl SS.out 65372 rfl (by decide) ?_; rw [hb2]; intro v2 hv2))
  go_region_held3 (fun w' => w'.cell? ⟨pb, 1, none⟩ = some (.int .i64 h.x) ∧ w'.cell? ⟨pb, 2, none⟩ = some (.int .i64 h.y) ∧ w'.cell? ⟨pb, 3, none⟩ = some (.int .i64 h.ox) ∧ w'.cell? ⟨pb, 4, none⟩ = some (.int .i64 h.oy) ∧ w'.cell? ⟨pb, 5, none⟩ = some (.slice ca h.comps.length cc) ∧ w'.cell? ⟨pb, 6, none⟩ = some (.int .i64 h.p.tx) ∧ w'.cell? ⟨pb, 7, none⟩ = some (.int .i64 h.p.ty) ∧ w'.cell? ⟨pb, 8, none⟩ = some (.int .i64 h.p.lv) ∧ w'.cell? ⟨pb, 9, none⟩ = some (.int .i64 h.p.cbw) ∧ w'.cell? ⟨pb, 10, none⟩ = some (.int .i64 h.p.cbh) ∧ w'.cell? ⟨pb, 11, none⟩ = some (.int .i64 h.p.prec) ∧ w'.cell? ⟨pb, 12, none⟩ = some (.int .i64 h.p.style) ∧ w'.cell? ⟨pb, 13, none⟩ = some (.int .i64 h.p.order) ∧ w'.cell? ⟨pb, 14, none⟩ = some (.int .i64 h.p.layers) ∧ w'.cell? ⟨pb, 15, none⟩ = some (.bool h.p.rct) ∧ w'.cell? ⟨pb, 16, none⟩ = some (.bool h.p.sop) ∧ w'.cell? ⟨pb, 17, none⟩ = some (.bool h.p.eph))
    (first | (refine (fun HB : Below W.heap.size W _ => ⟨bcellC HB c1 sf, bcellC HB c2 sf, bcellC HB c3 sf, bcellC HB c4 sf, bcellC HB c5 sf, bcellC HB c6 sf, bcellC HB c7 sf, bcellC HB c8 sf, bcellC HB c9 sf, bcellC HB c10 sf, bcellC HB c11 sf, bcellC HB c12 sf, bcellC HB c13 sf, bcellC HB c14 sf, bcellC HB c15 sf, bcellC HB c16 sf, bcellC HB c17 sf⟩) ?_; repeat (first | exact HB1 | exact Below.refl _ _ | refine Below.drew ?_)))
    (first | (go_at_call 32; refine (FR.out _ (CR.out.keep (Below.refl _ _).drew)).mono ?_; rintro e w1 ⟨rfl, HB1'⟩; have HB1 : Below W.heap.size W w1 := (by first | exact ((Below.refl _ _).drew).trans HB1' | exact HB1')))
  all_goals
    go_wp2_with fail
    go_ret
    exact ⟨rfl, by first | exact HB1 | exact HB1.drew⟩
end Go.Proofs.Ytlhlhlabnjfhcaa
